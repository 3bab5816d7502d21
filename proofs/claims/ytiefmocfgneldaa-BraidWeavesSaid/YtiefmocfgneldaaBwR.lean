/- churnref12.Weave, walked: printed by pf/bwgen.py. -/
import Derived.Test.YtiefmocfgneldaaBvW
import Derived.Deep.QuietTactic
import Derived.BigQuiet
import Derived.Deep.CutBlock
set_option linter.unusedVariables false
set_option linter.unusedSimpArgs false
namespace Go.Proofs.Ytiefmocfgneldaa.Q
open Go.RowKit Go.Proofs.YtiefmocfgneldaaW.PrintWords Go.Proofs.YtiefmocfgneldaaW.PrintLast Go.Proofs.YtiefmocfgneldaaW.PrintMore Go.Proofs.Ytiefmocfgneldaa.Pl
theorem infoPair : (Try.prog.info? 39).map (fun i => (i.zero, i.size, i.bytes)) = some (some (.agg #[.int .i64 0, .int .i64 0]), 2, 16) := by kernel_rfl
theorem underPairs : Try.prog.underlying 33 = some (.slice 39) := by kernel_rfl
theorem pair_cells (W : World) (x y : Value) (T : Nat) (j : Nat) (u : Value) (h : [x, y][j]? = some u) : (W.alloc (.cells #[x, y] T)).cell? ⟨W.heap.size, j, none⟩ = some u := by
  rw [blk_cell (blk_new W (.cells #[x, y] T)) j]
  simpa using h
theorem pair_one (x y : Int) : ∀ u ∈ [Value.int .i64 x, .int .i64 y], u.oneCell' = true := by simp [Value.oneCell']
theorem rd_mem {l : List Int} {i : Int} (h : i.toNat < l.length) : rd l i ∈ l := by
  unfold rd
  rw [List.getD_eq_getElem?_getD, List.getElem?_eq_getElem h]
  exact List.getElem_mem h
set_option maxHeartbeats 4000000 in
set_option maxRecDepth 100000 in
theorem refw_calls (A0 : Option Addr) (c0 : Nat) (chunk : List Int) (A1 : Option Addr) (c1 : Nat) (lens : List Int) (w : World) (hr0 : Kd.C (Kd.int .i64) w A0 chunk.length chunk) (hc0 : chunk.length ≤ c0) (hr1 : Kd.C (Kd.int .i64) w A1 lens.length lens) (hc1 : lens.length ≤ c1)
    (h0 : chunk.length ≤ 17592186044000) (h1 : lens.length ≤ 17592186043904) (hw : ∀ x ∈ lens, x ≤ 9223372036854775807) (hs : ∀ x ∈ lens, 0 ≤ x) (hb : sumZ lens ≤ 1048576) :
    Calls Try.prog 13 #[.slice A0 chunk.length c0, .slice A1 lens.length c1] w fun e w' => ∃ v, e = .returned (.tuple #[v, .int .i64 (wvA chunk lens).2]) ∧ w'.ownsRow w.heap.size 39 2 v (wvA chunk lens).1.length (pcells (wvA chunk lens).1) ∧ Below w.heap.size w w' := by
  have H0 := Aside0.mk hr0
  have H1 := Aside0.mk hr1
  have G0 := Aside0.mk hc0
  have G1 := Aside0.mk hc1
  have L0 := Aside0.mk h0
  have L1 := Aside0.mk h1
  have HW := Aside0.mk hw
  have HS0 := Aside0.mk hs
  have HSB := Aside0.mk hb
  clear hr0 hr1 hc0 hc1 h0 h1 hw hs hb
  go_enter Try.func13, Try.ntmps13
  go_wp2_with (fail)
  go_loopg [6, 7] lens.length (fun gq_ v6 v7 wq => ∃ (i : Nat) (v : Value), v = v6 ∧ v7 = .int .i64 i ∧ Aside0 (i ≤ lens.length) ∧ Aside0 (lens.length - i ≤ gq_) ∧ Aside0 (Kd.R (Kd.int .i64) 3 wq w.heap.size (fun _ => True) v (List.replicate i 0)) ∧ Aside0 (Below w.heap.size w wq))
  case atStart => exact ⟨0, _, rfl, rfl, ⟨Nat.zero_le _⟩, ⟨by omega⟩, ⟨Kd.R_nil _ _ _ _ _⟩, ⟨Below.refl _ _⟩⟩
  case round =>
    obtain ⟨i, v, rfl, rfl, HI, HG, HR, HB⟩ := hrel
    by_cases hi : i < lens.length
    · have d1 : decide ((i : Int) < (lens.length : Int)) = true := decide_eq_true (by omega)
      have d2 : (0 : Int) ≤ (i : Int) := Int.natCast_nonneg i
      have d3 : (i : Int) < (lens.length : Int) := by omega
      have HIL := Aside0.mk hi
      clear hi
      go_wp2_with ((with_reducible refine gate_builtin (b := .append) (xs := #[.tmp 18, .tmp 19]) rfl ?_); at_builtin; go_loud (refine Kd.R_app_int (k := .i64) w.heap.size rfl (.tmp 18) (.tmp 19) 22 3 8 rfl Try.underlying22 info3 (by omega) v (List.replicate i 0) [0] (some ⟨wr.heap.size, 0, none⟩) 1 1 (fun _ => True) rfl rfl trivial (Kd.R_alloc HR.out _) (C_lit .i64 wr [0] 3 (by simp)) ?hbs ?hl ?_; (case hbs => exact Nat.le_trans HB.out.size (World.grownBy_alloc wr _ none).size); (case hl => have h1 := HIL.out; have h2 := L1.out; simp only [List.length_replicate]; omega); intro v20 w20 hr_ hg_ hat_; have HR2 := Aside0.mk hr_; have HB2 := Aside0.mk ((HB.out.alloc HB.out.size _).grown hg_ (HB.out.alloc HB.out.size _).size (Kd.R_base HR.out)); clear hr_ hg_ hat_))
      go_roundg (lens.length - (i + 1))
      case measure => have := HG.out; have := HIL.out; omega
      case rel => exact ⟨i + 1, _, rfl, by have := HIL.out; have := L1.out; first | rfl | (rw [w64 (by omega) (by omega)]; rfl), ⟨by have := HIL.out; omega⟩, ⟨by omega⟩, ⟨by have h := HR2.out; rwa [← List.replicate_succ'] at h⟩, HB2⟩
    · have d1 : decide ((i : Int) < (lens.length : Int)) = false := decide_eq_false (by omega)
      obtain rfl : i = lens.length := by have := HI.out; omega
      clear hi
      obtain ⟨W1, hW1⟩ : ∃ W, W = wr := ⟨_, rfl⟩
      subst hW1
      obtain ⟨Z, hZ⟩ : ∃ Z : List Int, Z = List.replicate lens.length 0 := ⟨_, rfl⟩
      rw [← hZ] at HR
      have HZ := Aside0.mk hZ
      have RN := Aside0.mk (RK.of HR.out)
      obtain ⟨An, cn_, rfl⟩ := (RK.of HR.out).lit
      have hlz : Z.length = lens.length := by rw [hZ]; simp
      rw [hlz] at RN
      rw [hlz]
      have HLZ := Aside0.mk hlz
      have HBS := Aside0.mk HB.out.size
      clear hZ hlz HR HI HG
      go_wp2_with (fail)
      have HO := Aside0.mk (World.ownsRow_nil W1 W1.heap.size 39 2)
      have HB2 := Aside0.mk (Below.refl W1.heap.size W1)
      go_loopg [8, 9] chunk.length (fun gq_ v8 v9 wq => ∃ (i : Nat) (v : Value), v = v8 ∧ v9 = .int .i64 i ∧ Aside0 (i ≤ chunk.length) ∧ Aside0 (chunk.length - i ≤ gq_) ∧ Aside0 (okAll lens Z (chunk.take i)) ∧ Aside0 (RK .i64 3 wq w.heap.size W1.heap.size (.slice An lens.length cn_) (cntN Z (chunk.take i))) ∧ Aside0 (wq.ownsRow W1.heap.size 39 2 v i (pcells (prs Z (chunk.take i)))) ∧ Aside0 (Below w.heap.size w wq) ∧ Aside0 (W1.heap.size ≤ wq.heap.size))
      case atStart => exact ⟨0, _, rfl, rfl, ⟨Nat.zero_le _⟩, ⟨by omega⟩, ⟨trivial⟩, RN, HO, HB, ⟨Nat.le_refl _⟩⟩
      case round =>
        clear RN HO HB HB2
        obtain ⟨i, v, rfl, rfl, HI, HG, HK, RN, HO, HB, HS⟩ := hrel
        by_cases hi : i < chunk.length
        · have d1 : decide ((i : Int) < (chunk.length : Int)) = true := decide_eq_true (by omega)
          have d2 : (0 : Int) ≤ (i : Int) := Int.natCast_nonneg i
          have d3 : (i : Int) < (chunk.length : Int) := by omega
          have HIL := Aside0.mk hi
          clear hi
          have hC := Kd.C_below H0.out HB.out
          obtain ⟨ad, rfl, hc2⟩ := Kd.at_int hC (i : Int) d2 (by simpa using d3)
          simp only [Int.toNat_natCast] at hc2
          obtain ⟨x, hx⟩ : ∃ x, rd chunk (i : Int) = x := ⟨_, rfl⟩
          rw [hx] at hc2
          have HX := Aside0.mk hx
          clear hC hx
          go_upto_region 11 with (fail)
          clear hc2
          by_cases x0 : x < 0
          · have c1 : decide (x < 0) = true := decide_eq_true x0
            have HNO := Aside0.mk (wvA_no HIL.out (by rw [HX.out, ← HZ.out]; intro h; have h1 := h.1; have h2 := h.2.1; have h3 := h.2.2; omega))
            clear x0 d1 d2 d3
            go_quiet (fail)
            go_wp2_with (fail)
            go_ret2
            refine ⟨.slice none 0 0, by rw [HNO.out]; rfl, by rw [HNO.out]; exact World.ownsRow_nil _ _ _ _, ?_⟩
            exact pw_below_drewN HB.out _
          obtain ⟨m, rfl⟩ : ∃ m : Nat, x = (m : Int) := ⟨x.toNat, by omega⟩
          have c1 : decide ((m : Int) < 0) = false := decide_eq_false (by omega)
          clear x0
          by_cases x1 : m < lens.length
          rotate_left
          · have c2 : decide (lens.length ≤ m) = true := decide_eq_true (by omega)
            have HNO := Aside0.mk (wvA_no HIL.out (by rw [HX.out, ← HZ.out]; intro h; have h1 := h.1; have h2 := h.2.1; have h3 := h.2.2; omega))
            clear x1 d1 d2 d3
            go_quiet (fail)
            go_wp2_with (fail)
            go_ret2
            refine ⟨.slice none 0 0, by rw [HNO.out]; rfl, by rw [HNO.out]; exact World.ownsRow_nil _ _ _ _, ?_⟩
            exact pw_below_drewN HB.out _
          have c2 : decide (lens.length ≤ m) = false := decide_eq_false (by omega)
          have m0 : (0 : Int) ≤ (m : Int) := Int.natCast_nonneg m
          have m1 : (m : Int) < (lens.length : Int) := by omega
          have HM := Aside0.mk x1
          have rn := RN.out
          obtain ⟨gn, rfl⟩ := rn.head (by omega)
          have hcl : (cntN Z (chunk.take i)).length = lens.length := by rw [cntN_len]; exact HLZ.out
          obtain ⟨p0, z0⟩ := Kd.R_celln (0 : Int) rn (m : Int) m0 (by omega)
          simp only [Int.toNat_natCast] at p0 z0
          change wr.cell? _ = some (.int .i64 (rd (cntN Z (chunk.take i)) (m : Int))) at p0
          obtain ⟨y, hy⟩ : ∃ y, rd (cntN Z (chunk.take i)) (m : Int) = y := ⟨_, rfl⟩
          rw [hy] at p0
          have HY := Aside0.mk hy
          have hC1 := Kd.C_below H1.out HB.out
          obtain ⟨ad1, rfl, p1⟩ := Kd.at_int hC1 (m : Int) m0 (by simpa using m1)
          simp only [Int.toNat_natCast] at p1
          obtain ⟨u, hu⟩ : ∃ u, rd lens (m : Int) = u := ⟨_, rfl⟩
          rw [hu] at p1
          have HU := Aside0.mk hu
          clear rn hcl hy hu hC1 x1
          by_cases x2 : y < u
          rotate_left
          · have c3 : decide (u ≤ y) = true := decide_eq_true (by omega)
            have c4 : decide (y ≥ u) = true := c3
            have HNO := Aside0.mk (wvA_no HIL.out (by rw [HX.out, ← HZ.out]; intro h; have h1 := h.1; have h2 := h.2.1; have h3 := h.2.2; rw [HY.out, HU.out] at h3; omega))
            clear x2 d1 d2 d3
            go_quiet (fail)
            go_wp2_with (fail)
            go_ret2
            refine ⟨.slice none 0 0, by rw [HNO.out]; rfl, by rw [HNO.out]; exact World.ownsRow_nil _ _ _ _, ?_⟩
            exact pw_below_drewN HB.out _
          have c3 : decide (u ≤ y) = false := decide_eq_false (by omega)
          have c4 : decide (y ≥ u) = false := c3
          have HYU := Aside0.mk x2
          clear x2 d1 d2 d3
          go_quiet (fail)
          obtain ⟨W2, hW2⟩ : ∃ W, W = wr.drewN nq := ⟨_, rfl⟩
          have RN2 : Aside0 (RK .i64 3 W2 w.heap.size W1.heap.size (.slice (some ⟨gn, 0, none⟩) lens.length cn_) (cntN Z (chunk.take i))) := by subst hW2; exact RN
          have HO2 : Aside0 (W2.ownsRow W1.heap.size 39 2 v i (pcells (prs Z (chunk.take i)))) := by subst hW2; exact HO
          have HB2 : Aside0 (Below w.heap.size w W2) := by subst hW2; exact ⟨pw_below_drewN HB.out _⟩
          have HS2 : Aside0 (W1.heap.size ≤ W2.heap.size) := by subst hW2; exact HS
          change wr.cell? _ = _ at p0
          replace p0 : W2.cell? ⟨gn, m, none⟩ = some (.int .i64 y) := by subst hW2; exact p0
          replace z0 : W2.frozen? ⟨gn, m, none⟩ = false := by subst hW2; exact z0
          rw [← hW2]
          clear hW2 p1 RN HO HB HS
          have hy0 : 0 ≤ y := by have h1 := cntN_ge (chunk.take i) Z m (by rw [HLZ.out]; exact okAll_rng _ _ HK.out); have h2 : rd Z (m : Int) = 0 := (by rw [HZ.out]; simp [rd, List.getD_eq_getElem?_getD, List.getElem?_replicate]; split <;> rfl); have h3 := HY.out; omega
          have hyu : y < 9223372036854775807 := by have h1 := HW.out u (by rw [← HU.out]; exact rd_mem (by have := HM.out; simpa using this)); have := HYU.out; omega
          have HY0 := Aside0.mk hy0
          have HYW := Aside0.mk (w64 (x := y + 1) (by omega) (by omega))
          clear hy0 hyu
          go_wp2_with ((with_reducible refine gate_builtin (b := .append) (xs := #[.tmp 50, .tmp 57]) rfl ?_); at_builtin; go_loud (refine many_app W1.heap.size rfl (.tmp 50) (.tmp 57) 33 39 (.agg #[.int .i64 0, .int .i64 0]) 2 16 rfl underPairs infoPair rfl (by omega) (by omega) v i 1 (pcells (prs Z (chunk.take i))) [.int .i64 (m : Int), .int .i64 y] W2.heap.size 1 rfl rfl (many_next HO2.out (below_alloc (Below.refl _ _) _)) (by omega) rfl (pair_cells W2 _ _ _) (pair_one _ _) ?hbs ?hl ?_; (case hbs => exact Nat.le_trans HS2.out (World.grownBy_alloc W2 _ none).size); (case hl => have h1 := HIL.out; have h2 := ok_len (lens := lens) (js := chunk.take i) HS0.out (by rw [← HZ.out]; exact HK.out); have h3 := HSB.out; simp only [List.length_take] at h2; omega); intro v58 w58 ho_ hg_ hat_; (have hbA := Below.refl W2.heap.size W2 |>.alloc (Nat.le_refl _) (.cells #[.int .i64 (m : Int), .int .i64 y] 39)); have HO3 := Aside0.mk ho_; have RN3 := Aside0.mk ((RN2.out.below hbA).off hg_ (fun g e => by have := (HO2.out.lt g e).1; omega)); have HB3 := Aside0.mk ((below_step HB2.out hbA).grown hg_ (below_step HB2.out hbA).size (fun g e => by have h1 := (HO2.out.lt g e).1; have h2 := HBS.out; omega)); have HS3 := Aside0.mk (Nat.le_trans HS2.out (Nat.le_trans hbA.size hg_.size)); clear ho_ hg_ hat_ hbA p0 z0; obtain ⟨p0, z0⟩ := Kd.R_celln (0 : Int) RN3.out (m : Int) m0 (by exact_mod_cast HM.out); simp only [Int.toNat_natCast] at p0 z0; change w58.cell? _ = some (.int .i64 (rd (cntN Z (chunk.take i)) (m : Int))) at p0; rw [HY.out] at p0; clear RN2 HO2 HB2 HS2))
          rw [HYW.out]
          obtain ⟨r4, g4, l4, u4_, -, -⟩ := RN3.out.put (by rw [cntN_len]; exact HLZ.out) m HM.out (y + 1)
          have RN4 : Aside0 (RK .i64 3 (w58.setCell ⟨gn, m, none⟩ (.int .i64 (y + 1))) w.heap.size W1.heap.size (.slice (some ⟨gn, 0, none⟩) lens.length cn_) (cntN Z (chunk.take (i + 1)))) := ⟨by rw [take_rd _ _ HIL.out, cntN_snoc, HX.out, HY.out, Int.toNat_natCast]; exact r4⟩
          have HO4 : Aside0 ((w58.setCell ⟨gn, m, none⟩ (.int .i64 (y + 1))).ownsRow W1.heap.size 39 2 v58 (i + 1) (pcells (prs Z (chunk.take (i + 1))))) := ⟨by rw [take_rd _ _ HIL.out, prs_snoc, HX.out, HY.out, pcells_app]; exact many_step HO3.out (fun b hv => g4.block b (HO3.out.lt b hv).2 (fun e => by injection e with e; have := (HO3.out.lt b hv).1; omega))⟩
          have HB4 := Aside0.mk (HB3.out.grown g4 HB3.out.size (fun k hk => by injection hk with hk; omega))
          have HS4 := Aside0.mk (Nat.le_trans HS3.out g4.size)
          have HK4 : Aside0 (okAll lens Z (chunk.take (i + 1))) := ⟨by rw [take_rd _ _ HIL.out]; exact (okAll_snoc _ _ _).2 ⟨HK.out, by rw [HX.out]; exact ⟨m0, by exact_mod_cast HM.out, by rw [HY.out, HU.out]; exact HYU.out⟩⟩⟩
          clear r4 g4 l4 u4_ p0 z0 RN3 HO3 HB3 HS3
          go_roundg (chunk.length - (i + 1))
          case measure => have := HG.out; have := HIL.out; omega
          case rel => exact ⟨i + 1, _, rfl, by have := HIL.out; have := L0.out; first | rfl | (rw [w64 (by omega) (by omega)]; rfl), ⟨by have := HIL.out; omega⟩, ⟨by omega⟩, HK4, RN4, HO4, HB4, HS4⟩
        · have d1 : decide ((i : Int) < (chunk.length : Int)) = false := decide_eq_false (by omega)
          obtain rfl : i = chunk.length := by have := HI.out; omega
          rw [List.take_length] at HK RN HO
          clear hi HI HG
          obtain ⟨N, hN⟩ : ∃ N, cntN Z chunk = N := ⟨_, rfl⟩
          have hNl : N.length = lens.length := by rw [← hN, cntN_len]; exact HLZ.out
          rw [hN] at RN
          have HN := Aside0.mk hN
          have HNL := Aside0.mk hNl
          clear hN hNl
          go_wp2_with (fail)
          go_loopg [11] lens.length (fun gq_ v11 wq => ∃ (j : Nat), v11 = .int .i64 j ∧ Aside0 (j ≤ lens.length) ∧ Aside0 (lens.length - j ≤ gq_) ∧ Aside0 (N.take j = lens.take j) ∧ Aside0 (RK .i64 3 wq w.heap.size W1.heap.size (.slice An lens.length cn_) N) ∧ Aside0 (wq.ownsRow W1.heap.size 39 2 v chunk.length (pcells (prs Z chunk))) ∧ Aside0 (Below w.heap.size w wq))
          case atStart => exact ⟨0, rfl, ⟨Nat.zero_le _⟩, ⟨by omega⟩, ⟨rfl⟩, RN, HO, HB⟩
          case round =>
            clear RN HO HB
            obtain ⟨j, rfl, HI, HG, HE, RN, HO, HB⟩ := hrel
            by_cases hi : j < lens.length
            · have d1 : decide ((j : Int) < (lens.length : Int)) = true := decide_eq_true (by omega)
              have d2 : (0 : Int) ≤ (j : Int) := Int.natCast_nonneg j
              have d3 : (j : Int) < (lens.length : Int) := by omega
              have HIL := Aside0.mk hi
              clear hi
              have rn := RN.out
              obtain ⟨gn, rfl⟩ := rn.head (by have := HIL.out; omega)
              obtain ⟨p0, z0⟩ := Kd.R_celln (0 : Int) rn (j : Int) d2 d3
              simp only [Int.toNat_natCast] at p0 z0
              change wr.cell? _ = some (.int .i64 (rd N (j : Int))) at p0
              have hC1 := Kd.C_below H1.out HB.out
              obtain ⟨ad1, rfl, p1⟩ := Kd.at_int hC1 (j : Int) d2 d3
              simp only [Int.toNat_natCast] at p1
              obtain ⟨y, hy⟩ : ∃ y, rd N (j : Int) = y := ⟨_, rfl⟩
              obtain ⟨u, hu⟩ : ∃ u, rd lens (j : Int) = u := ⟨_, rfl⟩
              rw [hy] at p0
              rw [hu] at p1
              have HY := Aside0.mk hy
              have HU := Aside0.mk hu
              clear rn hC1 hy hu z0
              go_upto_region 18 with (fail)
              by_cases x2 : y = u
              rotate_left
              · have c3 : (y != u) = true := by simp [x2]
                have HNO := Aside0.mk (wvA_ne (chunk := chunk) (lens := lens) (by intro h; have h1 := HY.out; rw [← HN.out, HZ.out, h, HU.out] at h1; exact x2 h1.symm))
                clear x2
                go_quiet (fail)
                go_wp2_with (fail)
                go_ret2
                refine ⟨.slice none 0 0, by rw [HNO.out]; rfl, by rw [HNO.out]; exact World.ownsRow_nil _ _ _ _, ?_⟩
                exact pw_below_drewN HB.out _
              have c3 : (y != u) = false := by simp [x2]
              have HYU := Aside0.mk x2
              clear d1 x2
              go_quiet (fail)
              clear p0 p1
              go_wp2_with (fail)
              go_roundg (lens.length - (j + 1))
              case measure => have := HG.out; have := HIL.out; omega
              case rel => exact ⟨j + 1, by have := HIL.out; have := L1.out; first | rfl | (rw [w64 (by omega) (by omega)]; rfl), ⟨by have := HIL.out; omega⟩, ⟨by omega⟩, ⟨by rw [take_rd N j (by rw [HNL.out]; exact HIL.out), take_rd lens j HIL.out, HE.out, HY.out, HU.out, HYU.out]⟩, RN, HO, ⟨pw_below_drewN HB.out _⟩⟩
            · have d1 : decide ((j : Int) < (lens.length : Int)) = false := decide_eq_false (by omega)
              obtain rfl : j = lens.length := by have := HI.out; omega
              have HEQ : Aside0 (N = lens) := ⟨by have h := HE.out; rw [List.take_length, List.take_of_length_le (by rw [HNL.out]; exact Nat.le_refl _)] at h; exact h⟩
              clear hi HI HG HE
              go_wp2_with (fail)
              go_ret2
              have hy := wvA_yes (chunk := chunk) (lens := lens) (by rw [← HZ.out]; exact HK.out) (by rw [← HZ.out, HN.out]; exact HEQ.out)
              rw [← HZ.out] at hy
              refine ⟨_, by rw [hy]; rfl, ?_, HB.out⟩
              rw [hy]
              simp only [prs_len]
              refine ⟨HO.out.1, ?_⟩
              rcases HO.out.2 with e | ⟨g, cap, cur, e, hb, hr⟩
              · exact .inl e
              · exact .inr ⟨g, cap, cur, e, Nat.le_trans HBS.out hb, hr⟩
end Go.Proofs.Ytiefmocfgneldaa.Q
