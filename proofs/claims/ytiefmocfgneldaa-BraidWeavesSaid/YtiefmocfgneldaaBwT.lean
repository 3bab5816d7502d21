/- braid.Weave of Thing, walked: printed by pf/bwgen3.py. -/
import Derived.Test.YtiefmocfgneldaaBwC
import Derived.Test.YtiefmocfgneldaaBvW
import Derived.Deep.QuietTactic
import Derived.BigQuiet
import Derived.StillTailTactics
import Derived.Deep.CutBlock
set_option linter.unusedVariables false
set_option linter.unusedSimpArgs false
namespace Go.Proofs.Ytiefmocfgneldaa.Q
open Go.RowKit Go.Proofs.YtiefmocfgneldaaW.PrintWords Go.Proofs.YtiefmocfgneldaaW.PrintLast Go.Proofs.YtiefmocfgneldaaW.PrintMore Go.Proofs.Ytiefmocfgneldaa.Pl
set_option maxHeartbeats 4000000 in
set_option maxRecDepth 100000 in
theorem weave_thing_calls (A0 : Option Addr) (c0 : Nat) (chunk : List Int) (A1 : Option Addr) (c1 : Nat) (lens : List Int) (w : World) (hr0 : Kd.C (Kd.int .i64) w A0 chunk.length chunk) (hc0 : chunk.length ≤ c0) (hr1 : WR 2 w A1 lens (fun j k => [.int .i64 (j : Int), .int .i64 (k : Int)])) (hc1 : lens.length ≤ c1)
    (h0 : chunk.length ≤ 17592186044000) (h1 : lens.length ≤ 1048576) (hs : ∀ x ∈ lens, 0 ≤ x) (hb : sumZ lens ≤ 1048576) :
    Calls Try.prog 14 #[.slice A0 chunk.length c0, .slice A1 lens.length c1] w fun e w' => ∃ v, e = .returned (.tuple #[v, .int .i64 (wvA chunk lens).2]) ∧ w'.ownsRow w.heap.size 40 2 v (wvA chunk lens).1.length (ecells (fun j k => [.int .i64 (j : Int), .int .i64 (k : Int)]) (wvA chunk lens).1) ∧ Below w.heap.size w w' := by
  have H0 := Aside0.mk hr0
  have H1 := Aside0.mk hr1
  have G0 := Aside0.mk hc0
  have G1 := Aside0.mk hc1
  have L0 := Aside0.mk h0
  have L1 := Aside0.mk h1
  have HS0 := Aside0.mk hs
  have HSB := Aside0.mk hb
  clear hr0 hr1 hc0 hc1 h0 h1 hs hb
  go_enter Try.func14, Try.ntmps14
  go_wp2_with ((with_reducible refine gate_dst (N := 16) rfl ?_); refine Kd.R_make (Kd.int .i64) w.heap.size 3 rfl (N := 16) rfl 22 _ _ rfl (lens.length : Int) rfl rfl Try.underlying22 (.int .i64 0) 8 info3 rfl (by decide) (by omega) 0 (ok := fun _ => True) (okp := fun _ => True) rfl (fun _ hk => hk) trivial (by omega) (by have := L1.out; omega) (Below.refl _ _) (Nat.le_refl _) ?_; intro v1 w1 ho hb hg_ hnew_; rw [Int.toNat_natCast] at ho; have HR := Aside0.mk (RK.of ho); have HB := Aside0.mk hb; clear ho hb hg_ hnew_)
  obtain ⟨Z, hZ⟩ : ∃ Z : List Int, Z = List.replicate lens.length 0 := ⟨_, rfl⟩
  rw [← hZ] at HR
  have HZ := Aside0.mk hZ
  obtain ⟨An, cn_, rfl⟩ := HR.out.lit
  have hlz : Z.length = lens.length := by rw [hZ]; simp
  rw [hlz]
  rw [hlz] at HR
  have HLZ := Aside0.mk hlz
  have HBS := Aside0.mk HB.out.size
  clear hZ hlz
  go_wp2_with (fail)
  go_loopg [19] chunk.length (fun gq_ v19 wq => ∃ (i : Nat), v19 = .int .i64 i ∧ Aside0 (i ≤ chunk.length) ∧ Aside0 (chunk.length - i ≤ gq_) ∧ Aside0 (Rng lens.length (chunk.take i)) ∧ Aside0 (RK .i64 3 wq w.heap.size w1.heap.size (.slice An lens.length cn_) (cntN Z (chunk.take i))) ∧ Aside0 (Below w.heap.size w wq) ∧ Aside0 (w1.heap.size ≤ wq.heap.size))
  case atStart => exact ⟨0, rfl, ⟨Nat.zero_le _⟩, ⟨by omega⟩, ⟨fun x hx => by simp at hx⟩, HR, HB, ⟨Nat.le_refl _⟩⟩
  case round =>
    clear HR HB
    obtain ⟨i, rfl, HI, HG, HK, RN, HB, HSW⟩ := hrel
    by_cases hi : i < chunk.length
    · have d1 : decide ((i : Int) < (chunk.length : Int)) = true := decide_eq_true (by omega)
      have d4 : decide (i < chunk.length) = true := decide_eq_true hi
      have d2 : (0 : Int) ≤ (i : Int) := Int.natCast_nonneg i
      have d3 : (i : Int) < (chunk.length : Int) := by omega
      have HIL := Aside0.mk hi
      clear hi
      have hC := Kd.C_below H0.out HB.out
      obtain ⟨ad, rfl, hc2⟩ := Kd.at_int hC (i : Int) d2 (by simpa using d3)
      simp only [Int.toNat_natCast] at hc2
      obtain ⟨x, hx⟩ : ∃ x, rd chunk (i : Int) = x := ⟨_, rfl⟩
      rw [hx] at hc2
      have HX := Aside0.mk hx
      clear hC hx
      go_upto_region 5 with (fail)
      clear hc2
      by_cases x0 : x < 0
      · have c1 : decide (x < 0) = true := decide_eq_true x0
        have HNO := Aside0.mk (wvA_rng (chunk := chunk) (lens := lens) HIL.out (by rw [HX.out]; intro h; have h1 := h.1; have h2 := h.2; omega))
        clear x0 d1 d2 d3 d4
        go_wp2_with (fail)
        go_ret2
        refine ⟨.slice none 0 0, by rw [HNO.out]; rfl, by rw [HNO.out]; exact World.ownsRow_nil _ _ _ _, ?_⟩
        exact HB.out
      obtain ⟨m, rfl⟩ : ∃ m : Nat, x = (m : Int) := ⟨x.toNat, by omega⟩
      have c1 : decide ((m : Int) < 0) = false := decide_eq_false (by omega)
      clear x0
      by_cases x1 : m < lens.length
      rotate_left
      · have c2 : decide (lens.length ≤ m) = true := decide_eq_true (by omega)
        have c3 : decide ((m : Int) ≥ (lens.length : Int)) = true := decide_eq_true (by omega)
        have HNO := Aside0.mk (wvA_rng (chunk := chunk) (lens := lens) HIL.out (by rw [HX.out]; intro h; have h1 := h.1; have h2 := h.2; omega))
        clear x1 d1 d2 d3 d4
        go_wp2_with (fail)
        go_ret2
        refine ⟨.slice none 0 0, by rw [HNO.out]; rfl, by rw [HNO.out]; exact World.ownsRow_nil _ _ _ _, ?_⟩
        exact HB.out
      have c2 : decide (lens.length ≤ m) = false := decide_eq_false (by omega)
      have c3 : decide ((m : Int) ≥ (lens.length : Int)) = false := decide_eq_false (by omega)
      have m0 : (0 : Int) ≤ (m : Int) := Int.natCast_nonneg m
      have m1 : (m : Int) < (lens.length : Int) := by omega
      have HM := Aside0.mk x1
      have rn := RN.out
      obtain ⟨gn, rfl⟩ := rn.head (by omega)
      obtain ⟨p0, z0⟩ := Kd.R_celln (0 : Int) rn (m : Int) m0 m1
      simp only [Int.toNat_natCast] at p0 z0
      change wr.cell? _ = some (.int .i64 (rd (cntN Z (chunk.take i)) (m : Int))) at p0
      obtain ⟨y, hy⟩ : ∃ y, rd (cntN Z (chunk.take i)) (m : Int) = y := ⟨_, rfl⟩
      rw [hy] at p0
      have HY := Aside0.mk hy
      have hy0 : 0 ≤ y := by have h1 := cntN_ge (chunk.take i) Z m (by rw [HLZ.out]; exact HK.out); rw [HZ.out, rd_zeros, ← HZ.out, hy] at h1; exact h1
      have hy1 : y ≤ 17592186044000 := by have h1 := cntN_le (chunk.take i) Z m (by rw [HLZ.out]; exact HK.out); rw [hy, HZ.out, rd_zeros] at h1; have h2 := L0.out; have h3 := HIL.out; simp only [List.length_take] at h1; omega
      have HYW := Aside0.mk (w64 (x := y + 1) (by omega) (by omega))
      clear rn hy hy0 hy1 d1 d2 d3 d4
      go_wp2_with (fail)
      rw [HYW.out]
      obtain ⟨r4, g4, l4, u4_, -, -⟩ := RN.out.put (by rw [cntN_len]; exact HLZ.out) m HM.out (y + 1)
      have RN4 : Aside0 (RK .i64 3 (wr.setCell ⟨gn, m, none⟩ (.int .i64 (y + 1))) w.heap.size w1.heap.size (.slice (some ⟨gn, 0, none⟩) lens.length cn_) (cntN Z (chunk.take (i + 1)))) := ⟨by rw [take_rd _ _ HIL.out, cntN_snoc, HX.out, HY.out, Int.toNat_natCast]; exact r4⟩
      have HB4 := Aside0.mk (HB.out.grown g4 HB.out.size (fun k hk => by injection hk with hk; omega))
      have HS4 := Aside0.mk (Nat.le_trans HSW.out g4.size)
      have HK4 := Aside0.mk (rng_snoc HIL.out HK.out (by rw [HX.out]; exact m0) (by rw [HX.out]; exact m1))
      clear r4 g4 l4 u4_ p0 z0 RN HB HSW
      go_roundg (chunk.length - (i + 1))
      case measure => have := HG.out; have := HIL.out; omega
      case rel => exact ⟨i + 1, by have := HIL.out; have := L0.out; first | rfl | (rw [w64 (by omega) (by omega)]; rfl), ⟨by have := HIL.out; omega⟩, ⟨by omega⟩, HK4, RN4, HB4, HS4⟩
    · have d1 : decide ((i : Int) < (chunk.length : Int)) = false := decide_eq_false (by omega)
      have d4 : decide (i < chunk.length) = false := decide_eq_false hi
      obtain rfl : i = chunk.length := by have := HI.out; omega
      rw [List.take_length] at HK RN
      clear hi HI HG
      obtain ⟨N, hN⟩ : ∃ N, cntN Z chunk = N := ⟨_, rfl⟩
      have hNl : N.length = lens.length := by rw [← hN, cntN_len]; exact HLZ.out
      rw [hN] at RN
      have HN := Aside0.mk hN
      have HNL := Aside0.mk hNl
      clear hN hNl
      go_wp2_with (fail)
      go_loopg [40] lens.length (fun gq_ v40 wq => ∃ (j : Nat), v40 = .int .i64 j ∧ Aside0 (j ≤ lens.length) ∧ Aside0 (lens.length - j ≤ gq_) ∧ Aside0 (N.take j = lens.take j) ∧ Aside0 (RK .i64 3 wq w.heap.size w1.heap.size (.slice An lens.length cn_) (List.replicate j 0 ++ N.drop j)) ∧ Aside0 (Below w.heap.size w wq) ∧ Aside0 (w1.heap.size ≤ wq.heap.size))
      case atStart => exact ⟨0, rfl, ⟨Nat.zero_le _⟩, ⟨by omega⟩, ⟨rfl⟩, RN, HB, HSW⟩
      case round =>
        clear RN HB HSW
        obtain ⟨j, rfl, HI, HG, HE, RN, HB, HSW⟩ := hrel
        by_cases hi : j < lens.length
        · have d1 : decide ((j : Int) < (lens.length : Int)) = true := decide_eq_true (by omega)
          have d4 : decide (j < lens.length) = true := decide_eq_true hi
          have d2 : (0 : Int) ≤ (j : Int) := Int.natCast_nonneg j
          have d3 : (j : Int) < (lens.length : Int) := by omega
          have HIL := Aside0.mk hi
          clear hi
          have rn := RN.out
          obtain ⟨gn, rfl⟩ := rn.head (by have := HIL.out; omega)
          obtain ⟨p0, z0⟩ := Kd.R_celln (0 : Int) rn (j : Int) d2 d3
          simp only [Int.toNat_natCast] at p0 z0
          change wr.cell? _ = some (.int .i64 (rd _ (j : Int))) at p0
          rw [zeros_rd (by rw [HNL.out]; exact HIL.out)] at p0
          obtain ⟨go_, ge, n, ce, rfl, hgo, hn, q0, -, -, -⟩ := H1.out.at_ j HIL.out
          have q1 := (HB.out.cell (p := ⟨go_, j, none⟩) hgo).trans q0
          obtain ⟨y, hy⟩ : ∃ y, rd N (j : Int) = y := ⟨_, rfl⟩
          rw [hy] at p0
          have HY := Aside0.mk hy
          have HU := Aside0.mk hn
          clear rn hy hn q0 hgo
          by_cases x2 : y = (n : Int)
          rotate_left
          · have c3 : (y != (n : Int)) = true := by simp [x2]
            have HNO := Aside0.mk (wvA_ne (chunk := chunk) (lens := lens) (by intro h; have h1 := HY.out; rw [← HN.out, HZ.out, h, HU.out] at h1; exact x2 h1.symm))
            clear x2
            go_wp2_with (fail)
            go_ret2
            refine ⟨.slice none 0 0, by rw [HNO.out]; rfl, by rw [HNO.out]; exact World.ownsRow_nil _ _ _ _, ?_⟩
            exact HB.out
          subst x2
          have c3 : ((n : Int) != (n : Int)) = false := by simp
          clear d1 d4
          go_wp2_with (fail)
          obtain ⟨r4, g4, l4, u4_, -, -⟩ := RN.out.put (by simp [HNL.out]; have := HIL.out; omega) j HIL.out 0
          rw [zeros_set (by rw [HNL.out]; exact HIL.out)] at r4
          have RN4 := Aside0.mk r4
          have HB4 := Aside0.mk (HB.out.grown g4 HB.out.size (fun k hk => by injection hk with hk; omega))
          have HS4 := Aside0.mk (Nat.le_trans HSW.out g4.size)
          clear r4 g4 l4 u4_ p0 z0 q1 RN HB HSW
          go_roundg (lens.length - (j + 1))
          case measure => have := HG.out; have := HIL.out; omega
          case rel => exact ⟨j + 1, by have := HIL.out; have := L1.out; first | rfl | (rw [w64 (by omega) (by omega)]; rfl), ⟨by have := HIL.out; omega⟩, ⟨by omega⟩, ⟨by rw [take_rd N j (by rw [HNL.out]; exact HIL.out), take_rd lens j HIL.out, HE.out, HY.out, HU.out]⟩, RN4, HB4, HS4⟩
        · have d1 : decide ((j : Int) < (lens.length : Int)) = false := decide_eq_false (by omega)
          have d4 : decide (j < lens.length) = false := decide_eq_false hi
          obtain rfl : j = lens.length := by have := HI.out; omega
          have HEQ : Aside0 (N = lens) := ⟨by have h := HE.out; rw [List.take_length, List.take_of_length_le (by rw [HNL.out]; exact Nat.le_refl _)] at h; exact h⟩
          rw [List.drop_of_length_le (by rw [HNL.out]; exact Nat.le_refl _), List.append_nil, ← HZ.out] at RN
          clear hi HI HG HE
          have HC := Aside0.mk (show cntN (List.replicate lens.length 0) chunk = lens by rw [← HZ.out, HN.out]; exact HEQ.out)
          have HCL := Aside0.mk (show chunk.length ≤ 1048576 by have h1 := wv_len HS0.out HK.out HC.out; have h2 := HSB.out; omega)
          go_wp2_with ((with_reducible refine gate_dst (N := 58) rfl ?_); refine wpList_make_own (P := Try.prog) wr rfl _ _ 36 rfl wr.heap.size 40 (Classical.choose (mk_info infoThing)) (.agg #[.int .i64 0, .int .i64 0]) 2 underThings (Classical.choose_spec (mk_info infoThing)).1 (Classical.choose_spec (mk_info infoThing)).2.1 (Classical.choose_spec (mk_info infoThing)).2.2.1 .i64 .i64 (chunk.length : Int) chunk.length rfl rfl rfl (by rw [(Classical.choose_spec (mk_info infoThing)).2.2.2]; have := HCL.out; omega) (by have := HCL.out; simp only [maxLen]; omega) (Nat.le_refl _) ?_; intro wm ho_ hg_; have HO := Aside0.mk ho_; have HBm := Aside0.mk (HB.out.grown hg_ HB.out.size (fun k e => by cases e)); have RNm := Aside0.mk (RN.out.off hg_ (fun k e => by cases e)); have HSm := Aside0.mk hg_.size; clear ho_ hg_)
          obtain ⟨B0, hB0⟩ : ∃ B0, B0 = wr.heap.size := ⟨_, rfl⟩
          have HB0 := Aside0.mk (show w1.heap.size ≤ B0 by have := HSW.out; omega)
          have HB1 := Aside0.mk (show w.heap.size ≤ B0 by have := HBS.out; have := HB0.out; omega)
          rw [← hB0] at HO HSm ⊢
          clear hB0 RN HB HSW
          go_wp2_with (fail)
          go_loopg [11, 61] chunk.length (fun gq_ v11 v61 wq => ∃ (i : Nat) (v : Value), v = v11 ∧ v61 = .int .i64 i ∧ Aside0 (i ≤ chunk.length) ∧ Aside0 (chunk.length - i ≤ gq_) ∧ Aside0 (RK .i64 3 wq w.heap.size w1.heap.size (.slice An lens.length cn_) (cntN Z (chunk.take i))) ∧ Aside0 (wq.ownsRow B0 40 2 v i (ecells (fun j k => [.int .i64 (j : Int), .int .i64 (k : Int)]) (prs Z (chunk.take i)))) ∧ Aside0 (Below w.heap.size w wq) ∧ Aside0 (B0 ≤ wq.heap.size))
          case atStart => exact ⟨0, _, rfl, rfl, ⟨Nat.zero_le _⟩, ⟨by omega⟩, RNm, HO, HBm, HSm⟩
          case round =>
            clear RNm HO HBm HSm
            obtain ⟨i, v, rfl, rfl, HI, HG, RN, HO, HB, HS⟩ := hrel
            by_cases hi : i < chunk.length
            · have d1 : decide ((i : Int) < (chunk.length : Int)) = true := decide_eq_true (by omega)
              have d4 : decide (i < chunk.length) = true := decide_eq_true hi
              have d2 : (0 : Int) ≤ (i : Int) := Int.natCast_nonneg i
              have d3 : (i : Int) < (chunk.length : Int) := by omega
              have HIL := Aside0.mk hi
              clear hi
              have hC := Kd.C_below H0.out HB.out
              obtain ⟨ad, rfl, hc2⟩ := Kd.at_int hC (i : Int) d2 (by simpa using d3)
              simp only [Int.toNat_natCast] at hc2
              obtain ⟨m, k, hm, hml, hk, hkl⟩ := step_in HK.out HC.out HIL.out
              rw [hm] at hc2
              go_upto_region 20 with (fail)
              clear hc2 hC d1 d2 d3 d4
              have rn := RN.out
              obtain ⟨gn, rfl⟩ := rn.head (by omega)
              have m0 : (0 : Int) ≤ (m : Int) := Int.natCast_nonneg m
              have m1 : (m : Int) < (lens.length : Int) := by omega
              obtain ⟨p0, z0⟩ := Kd.R_celln (0 : Int) rn (m : Int) m0 m1
              simp only [Int.toNat_natCast] at p0 z0
              change wr.cell? _ = some (.int .i64 (rd (cntN Z (chunk.take i)) (m : Int))) at p0
              rw [HZ.out, hk] at p0
              obtain ⟨go_, ge, n, ce, rfl, hgo, hn, q0, hnc, hge, hq⟩ := H1.out.at_ m hml
              have p1 := (HB.out.cell (p := ⟨go_, m, none⟩) hgo).trans q0
              have hkn : k < n := by rw [hn] at hkl; omega
              have p2 := (HB.out.cell (p := ⟨ge, k * 2 + 0, none⟩) hge).trans (hq k hkn 0 _ rfl)
              have p3 := (HB.out.cell (p := ⟨ge, k * 2 + 1, none⟩) hge).trans (hq k hkn 1 _ rfl)
              simp only [Nat.add_zero] at p2
              have HGB := Aside0.mk (show go_ < B0 ∧ ge < B0 ∧ gn < B0 from by have h1 := (RN.out.put (by rw [cntN_len]; exact HLZ.out) m hml 0).2.2.2.1; have h2 := HB0.out; have h3 := HB1.out; omega)
              have HM := Aside0.mk hml
              have HKN := Aside0.mk hkn
              have HX := Aside0.mk hm
              have HKK := Aside0.mk hk
              have hk63 : k < n := hkn
              clear rn hk hkl q0 hnc hn hq hgo hge hm hml hkn
              go_region_held3 (fun W => W.cell? ⟨go_, m, none⟩ = some (.slice (some ⟨ge, 0, none⟩) n ce) ∧ W.cell? ⟨gn, m, none⟩ = some (.int .i64 (k : Int)) ∧ W.cell? ⟨ge, k * 2, none⟩ = some (.int .i64 (m : Int)) ∧ W.cell? ⟨ge, k * 2 + 1, none⟩ = some (.int .i64 (k : Int))) (first | exact ⟨p1, p0, p2, p3⟩ | go_keep)
                (first | ((refine step_many_mid B0 HB.out ?hB HB1.out HS.out rfl (.tmp 65) (.tmp 76) 36 40 (.agg #[.int .i64 0, .int .i64 0]) 2 16 rfl underThings infoThing rfl (by omega) (by omega) _ i 1 (ecells (fun j k => [.int .i64 (j : Int), .int .i64 (k : Int)]) (prs Z (chunk.take i))) [.int .i64 (m : Int), .int .i64 (k : Int)] _ 1 rfl rfl HO.out (by omega) rfl ?hy ?h1 ?hl ?_); (case hB => first | exact below_drew (below_alloc (Below.refl _ _) _) | exact below_alloc (Below.refl _ _) _); (case hy => intro j u hu; first | exact lit_cells _ _ _ j u hu | exact lit_cells_drew _ _ _ j u hu); (case h1 => exact thing_one _ _); (case hl => have h1 := HIL.out; have h2 := HCL.out; omega); intro v77 w77 ho_ hb_ hk_ hs_; replace p1 := (World.cell?_of_block (hk_ _ HGB.out.1)).trans p1; replace p0 := (World.cell?_of_block (hk_ _ HGB.out.2.2)).trans p0; replace p2 := (World.cell?_of_block (hk_ _ HGB.out.2.1)).trans p2; replace p3 := (World.cell?_of_block (hk_ _ HGB.out.2.1)).trans p3; have HO3 := Aside0.mk ho_; have HB3 := Aside0.mk hb_; have RN3 : Aside0 (RK .i64 3 w77 w.heap.size w1.heap.size (.slice (some ⟨gn, 0, none⟩) lens.length cn_) (cntN Z (chunk.take i))) := ⟨Kd.R_step RN.out (fun b hb _ => hk_ b (by have := HB0.out; have := hb.2; omega))⟩; have HS3 := Aside0.mk (Nat.le_trans HS.out hs_); clear ho_ hb_ hk_ hs_))
              clear p1 p0 p2 p3 z0 RN HO HB HS
              obtain ⟨p0, z0⟩ := Kd.R_celln (0 : Int) RN3.out (m : Int) m0 m1
              simp only [Int.toNat_natCast] at p0 z0
              change w77.cell? _ = some (.int .i64 (rd (cntN Z (chunk.take i)) (m : Int))) at p0
              rw [HZ.out, HKK.out] at p0
              have HYW := Aside0.mk (w64 (x := (k : Int) + 1) (by omega) (by have h1 := cntN_le (chunk.take i) (List.replicate lens.length 0) m (by rw [List.length_replicate]; exact rng_take HK.out); rw [HKK.out, rd_zeros] at h1; have h2 := HCL.out; have h3 := HIL.out; simp only [List.length_take] at h1; omega))
              go_wp2_with (fail)
              rw [HYW.out]
              obtain ⟨r4, g4, l4, u4_, -, -⟩ := RN3.out.put (by rw [cntN_len]; exact HLZ.out) m HM.out ((k : Int) + 1)
              have RN4 : Aside0 (RK .i64 3 (w77.setCell ⟨gn, m, none⟩ (.int .i64 ((k : Int) + 1))) w.heap.size w1.heap.size (.slice (some ⟨gn, 0, none⟩) lens.length cn_) (cntN Z (chunk.take (i + 1)))) := ⟨by rw [take_rd _ _ HIL.out, cntN_snoc, HX.out, HZ.out, HKK.out, ← HZ.out, Int.toNat_natCast]; exact r4⟩
              have HO4 : Aside0 ((w77.setCell ⟨gn, m, none⟩ (.int .i64 ((k : Int) + 1))).ownsRow B0 40 2 v77 (i + 1) (ecells (fun j k => [.int .i64 (j : Int), .int .i64 (k : Int)]) (prs Z (chunk.take (i + 1))))) := ⟨by rw [take_rd _ _ HIL.out, prs_snoc, HX.out, HZ.out, HKK.out, ← HZ.out, ecells_app]; exact many_step HO3.out (fun b hv => g4.block b (HO3.out.lt b hv).2 (fun e => by injection e with e; have := (HO3.out.lt b hv).1; have := HB0.out; omega))⟩
              have HB4 := Aside0.mk (HB3.out.grown g4 HB3.out.size (fun k hk => by injection hk with hk; omega))
              have HS4 := Aside0.mk (Nat.le_trans HS3.out g4.size)
              clear r4 g4 l4 u4_ p0 z0 RN3 HO3 HB3 HS3
              go_roundg (chunk.length - (i + 1))
              case measure => have := HG.out; have := HIL.out; omega
              case rel => exact ⟨i + 1, _, rfl, by have := HIL.out; have := L0.out; first | rfl | (rw [w64 (by omega) (by omega)]; rfl), ⟨by have := HIL.out; omega⟩, ⟨by omega⟩, RN4, HO4, HB4, HS4⟩
            · have d1 : decide ((i : Int) < (chunk.length : Int)) = false := decide_eq_false (by omega)
              have d4 : decide (i < chunk.length) = false := decide_eq_false hi
              obtain rfl : i = chunk.length := by have := HI.out; omega
              rw [List.take_length] at HO RN
              clear hi HI HG
              go_wp2_with (fail)
              go_ret2
              have hy := wvA_eq HK.out HC.out
              rw [← HZ.out] at hy
              refine ⟨_, by rw [hy]; rfl, ?_, HB.out⟩
              rw [hy]
              simp only [prs_len]
              refine ⟨HO.out.1, ?_⟩
              rcases HO.out.2 with e | ⟨g, cap, cur, e, hb, hr⟩
              · exact .inl e
              · exact .inr ⟨g, cap, cur, e, Nat.le_trans HB1.out hb, hr⟩
end Go.Proofs.Ytiefmocfgneldaa.Q
