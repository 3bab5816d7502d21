/- BraidWeaves, walked: printed by pf/bwgen4.py. -/
import Derived.Test.YtiefmocfgneldaaBwL1
import Derived.Deep.QuietTactic
import Derived.BigQuiet
import Derived.StillTailTactics
import Derived.Deep.CutBlock
set_option linter.unusedVariables false
set_option linter.unusedSimpArgs false
namespace Go.Proofs.Ytiefmocfgneldaa.Q
open Go.RowKit Go.Proofs.YtiefmocfgneldaaW.PrintWords Go.Proofs.YtiefmocfgneldaaW.PrintLast Go.Proofs.YtiefmocfgneldaaW.PrintMore Go.Proofs.Ytiefmocfgneldaa.Pl
set_option maxHeartbeats 4000000 in
set_option maxRecDepth 100000 in
theorem weaves_calls (A0 : Option Addr) (c0 : Nat) (chunk : List Int) (A1 : Option Addr) (c1 : Nat) (lens : List Int) (w : World) (hr0 : Kd.C (Kd.int .i64) w A0 chunk.length chunk) (hc0 : chunk.length ≤ c0) (hr1 : Kd.C (Kd.int .i64) w A1 lens.length lens) (hc1 : lens.length ≤ c1)
    (h0 : chunk.length ≤ 17592186044000) (h1 : lens.length ≤ 17592186043904) :
    Calls Try.prog 3 #[.slice A0 chunk.length c0, .slice A1 lens.length c1] w fun e w' => e = .returned (.bool true) ∧ Below w.heap.size w w' := by
  have H0 := Aside0.mk hr0
  have H1 := Aside0.mk hr1
  have G0 := Aside0.mk hc0
  have G1 := Aside0.mk hc1
  have L0 := Aside0.mk h0
  have L1 := Aside0.mk h1
  clear hr0 hr1 hc0 hc1 h0 h1
  go_enter Try.func3, Try.ntmps3
  go_wp2_with (fail)
  obtain ⟨W0, hW0, hb0, hcl⟩ := str_calls w
  rw [hW0]
  clear hW0
  with_reducible refine hcl.mono ?_
  clear hcl
  rintro e w1 ⟨g, c, rfl, p0, p1, p2, hb⟩
  have HB := Aside0.mk (below_step hb0 hb)
  clear hb0 hb
  go_wp2_with (fail)
  clear p0 p1 p2
  obtain ⟨kg, b, hkg, hgg⟩ := great_run lens (by have := L1.out; omega)
  with_reducible refine (churnlaw12_great.calls kg A1 c1 lens b _ (Kd.C_below H1.out HB.out) G1.out hkg).mono ?_
  rintro e w2 ⟨rfl, ⟨q, rfl⟩⟩
  obtain ⟨w2, hw2⟩ : ∃ w2, w1.drewN q = w2 := ⟨_, rfl⟩
  rw [hw2]
  have HB2 : Aside0 (Below w.heap.size w w2) := ⟨by rw [← hw2]; exact pw_below_drewN HB.out q⟩
  clear hkg hw2 HB
  cases b
  rotate_left
  · clear hgg
    go_wp2_with (fail)
    go_ret
    exact ⟨rfl, HB2.out⟩
  have HG := Aside0.mk (hgg rfl)
  clear hgg
  go_wp2_with (fail)
  with_reducible refine (bw_lent_calls A0 c0 chunk w2 ⟨Kd.C_below H0.out HB2.out, G0.out⟩ L0.out).mono ?_
  rintro e w3 ⟨Ai, ci, rfl, hr, hb⟩
  have RI := Aside0.mk hr
  have HB3 := Aside0.mk (below_step HB2.out hb)
  have S3 := Aside0.mk hb.size
  clear hr hb
  go_wp2_with (fail)
  with_reducible refine (chunks_calls A1 c1 lens w3 (Kd.C_below H1.out HB3.out) G1.out HG.out.1 HG.out.2.1).mono ?_
  rintro e w4 ⟨v4, L, cs, rfl, hk, hs, hL, hb⟩
  obtain ⟨A4, c4, rfl, -, -, -⟩ := many_cells hk.out
  have KK := Aside0.mk hk
  have HS := Aside0.mk hs
  have HL := Aside0.mk hL
  have RI4 := Aside0.mk (RI.out.below hb)
  have HB4 := Aside0.mk (below_step HB3.out hb)
  have S4 := Aside0.mk hb.size
  clear hk hs hL hb RI
  go_wp2_with (fail)
  obtain ⟨ps, er, hP⟩ : ∃ ps er, wvA chunk lens = (ps, er) := ⟨_, _, rfl⟩
  have HP := Aside0.mk hP
  clear hP
  with_reducible refine (ref_at HP.out A0 c0 A1 c1 (Kd.C_below H0.out HB4.out) G0.out (Kd.C_below H1.out HB4.out) G1.out L0.out HG.out).mono ?_
  rintro e w5 ⟨A5, c5, rfl, ho, hb⟩
  have HO5 := Aside0.mk ho
  have B5 := Aside0.mk (show ∀ g, (Value.slice A5 ps.length c5).ownBlock = some g → w4.heap.size ≤ g ∧ g < w5.heap.size from fun g e => ho.lt g e)
  have RI5 := Aside0.mk (RI4.out.below hb)
  have KK5 := Aside0.mk (KK.out.keep (fun b _ hb2 => hb.block b hb2))
  have HB5 := Aside0.mk (below_step HB4.out hb)
  have S5 := Aside0.mk hb.size
  clear ho hb RI4 KK
  go_wp2_with (fail)
  with_reducible refine (weave_at HP.out Ai ci (bw_lent_reads RI5.out rfl).1 KK5.out HS.out HL.out L0.out HG.out).mono ?_
  rintro e w6 ⟨A6, c6, rfl, ho, hb⟩
  have HO6 := Aside0.mk ho
  have B6 := Aside0.mk (show ∀ g, (Value.slice A6 ps.length c6).ownBlock = some g → w5.heap.size ≤ g ∧ g < w6.heap.size from fun g e => ho.lt g e)
  have HO56 := Aside0.mk (many_next HO5.out hb)
  have RI6 := Aside0.mk (RI5.out.below hb)
  have KK6 := Aside0.mk (KK5.out.keep (fun b _ hb2 => hb.block b (by have := S5.out; omega)))
  have HB6 := Aside0.mk (below_step HB5.out hb)
  have S6 := Aside0.mk hb.size
  clear ho hb RI5 KK5 HO5
  go_wp2_with (fail)
  with_reducible refine (weave_at HP.out Ai ci (bw_lent_reads RI6.out rfl).1 KK6.out HS.out HL.out L0.out HG.out).mono ?_
  rintro e w7 ⟨A7, c7, rfl, ho, hb⟩
  have HO7 := Aside0.mk ho
  have B7 := Aside0.mk (show ∀ g, (Value.slice A7 ps.length c7).ownBlock = some g → w6.heap.size ≤ g ∧ g < w7.heap.size from fun g e => ho.lt g e)
  have HO57 := Aside0.mk (many_next HO56.out hb)
  have HO67 := Aside0.mk (many_next HO6.out hb)
  have RI7 := Aside0.mk (RI6.out.below hb)
  have KK7 := Aside0.mk (KK6.out.keep (fun b _ hb2 => hb.block b (by have := S5.out; have := S6.out; omega)))
  have HB7 := Aside0.mk (below_step HB6.out hb)
  have S7 := Aside0.mk hb.size
  clear ho hb RI6 KK6 HO56 HO6
  have d1 : (er != er) = false := by simp
  have d2 : ((ps.length : Int) != (ps.length : Int)) = false := by simp
  go_wp2_with (fail)
  have SW := Aside0.mk (show w.heap.size ≤ w3.heap.size ∧ w.heap.size ≤ w4.heap.size ∧ w.heap.size ≤ w5.heap.size ∧ w.heap.size ≤ w6.heap.size from ⟨HB3.out.size, HB4.out.size, HB5.out.size, HB6.out.size⟩)
  with_reducible refine (bw_whole_calls _ Ai ci A0 c0 chunk w7 RI7.out ⟨Kd.C_below H0.out HB7.out, G0.out⟩ (bw_whole chunk L0.out)).mono ?_
  rintro e w8 ⟨rfl, hb⟩
  have HO8 := Aside0.mk (many_next HO7.out hb)
  have HO58 := Aside0.mk (many_next HO57.out hb)
  have HO68 := Aside0.mk (many_next HO67.out hb)
  have KK8 := Aside0.mk (KK7.out.keep (fun b _ hb2 => hb.block b (by have := S5.out; have := S6.out; have := S7.out; omega)))
  have HB8 := Aside0.mk (below_step HB7.out hb)
  have S8 := Aside0.mk hb.size
  clear hb HO7 HO57 HO67 RI7 KK7 HB7 HB6 HB5 HB4 HB3 HB2 d1
  have HNL := Aside0.mk (show ps.length ≤ 1048576 from wvA_len HP.out HG.out.2.2 (fun x hx => (HG.out.1 x hx).1))
  go_wp2_with (fail)
  go_loopg [113] ps.length (fun gq_ v113 wq => ∃ (i : Nat), v113 = .int .i64 i ∧ Aside0 (i ≤ ps.length) ∧ Aside0 (ps.length - i ≤ gq_) ∧ Aside0 (wq.ownsRow w5.heap.size 40 2 (.slice A6 ps.length c6) ps.length (pcells (List.replicate i ((-5 : Int), (-5 : Int)) ++ ps.drop i))) ∧ Aside0 (∀ k, k < w5.heap.size ∨ w6.heap.size ≤ k → wq.heap[k]? = w8.heap[k]?) ∧ Aside0 (Below w.heap.size w wq) ∧ Aside0 (w8.heap.size ≤ wq.heap.size))
  case atStart => exact ⟨0, rfl, ⟨Nat.zero_le _⟩, ⟨by omega⟩, ⟨by simpa using HO68.out⟩, ⟨fun k _ => rfl⟩, HB8, ⟨Nat.le_refl _⟩⟩
  case round =>
    obtain ⟨i, rfl, HI, HGQ, HA, HK, HB, HS8⟩ := hrel
    by_cases hi : i < ps.length
    · have d3 : decide ((i : Int) < (ps.length : Int)) = true := decide_eq_true (by omega)
      have d4 : decide (i < ps.length) = true := decide_eq_true hi
      have e2 : (0 : Int) ≤ (i : Int) := Int.natCast_nonneg i
      have e3 : (i : Int) < (ps.length : Int) := by omega
      have HIL := Aside0.mk hi
      clear hi
      obtain ⟨⟨x, y⟩, hxy⟩ : ∃ x, ps[i]? = some x := ⟨ps[i]'HIL.out, List.getElem?_eq_getElem HIL.out⟩
      obtain ⟨ga, ea, a0, a1, f0, f1⟩ := pair_cells2 HA.out (i := i) (x := x) (y := y) (by rw [List.getElem?_append_right (by simp)]; simpa using hxy)
      obtain ⟨gw, ew, w0_, w1_, -, -⟩ := pair_cells2 (many_step HO58.out (fun b hb => HK.out b (.inl (by have := (B5.out b hb); have := S5.out; omega)))) (i := i) (x := x) (y := y) hxy
      obtain ⟨gb, eb, b0_, b1_, -, -⟩ := pair_cells2 (many_step HO8.out (fun b hb => HK.out b (.inr (by have := (B7.out b hb); omega)))) (i := i) (x := x) (y := y) hxy
      subst ea ew eb
      have HXY := Aside0.mk hxy
      clear hxy
      go_upto_region 16 with (fail)
      have heq := eq_thing
      have hgd := guardThing
      go_quiet (fail)
      clear w0_ w1_ b0_ b1_ d3 d4
      obtain ⟨W2, hW2⟩ : ∃ W, W = wr.drewN nq := ⟨_, rfl⟩
      replace a0 : W2.cell? ⟨ga, i * 2, none⟩ = some (.int .i64 x) := by subst hW2; exact a0
      replace a1 : W2.cell? ⟨ga, i * 2 + 1, none⟩ = some (.int .i64 y) := by subst hW2; exact a1
      replace f0 : W2.frozen? ⟨ga, i * 2, none⟩ = false := by subst hW2; exact f0
      replace f1 : W2.frozen? ⟨ga, i * 2 + 1, none⟩ = false := by subst hW2; exact f1
      have HA2 : Aside0 (W2.ownsRow w5.heap.size 40 2 (.slice (some ⟨ga, 0, none⟩) ps.length c6) ps.length (pcells (List.replicate i ((-5 : Int), (-5 : Int)) ++ ps.drop i))) := by subst hW2; exact HA
      have HK2 : Aside0 (∀ k, k < w5.heap.size ∨ w6.heap.size ≤ k → W2.heap[k]? = w8.heap[k]?) := by subst hW2; exact HK
      have HB2 : Aside0 (Below w.heap.size w W2) := by subst hW2; exact ⟨pw_below_drewN HB.out _⟩
      have HS2 : Aside0 (w8.heap.size ≤ W2.heap.size) := by subst hW2; exact HS8
      rw [← hW2]
      clear hW2 HA HK HB HS8
      go_wp2_with (fail)
      have HA3 := Aside0.mk (row_put2 HA2.out (over_len HI.out) HIL.out (-5) (-5))
      rw [over_set HIL.out] at HA3
      have gab := B6.out ga rfl
      have HK3 : Aside0 (∀ k, k < w5.heap.size ∨ w6.heap.size ≤ k → ((W2.setCell ⟨ga, i * 2, none⟩ (.int .i64 (-5))).setCell ⟨ga, i * 2 + 1, none⟩ (.int .i64 (-5))).heap[k]? = w8.heap[k]?) := ⟨fun k hk => (set2_other (by omega)).trans (HK2.out k hk)⟩
      have HB3 := Aside0.mk (set2_below (i := i * 2) (j := i * 2 + 1) (u := .int .i64 (-5)) (v := .int .i64 (-5)) HB2.out (show w.heap.size ≤ ga by have := SW.out; omega))
      have HS3 := Aside0.mk (Nat.le_trans HS2.out (show W2.heap.size ≤ ((W2.setCell ⟨ga, i * 2, none⟩ (.int .i64 (-5))).setCell ⟨ga, i * 2 + 1, none⟩ (.int .i64 (-5))).heap.size by simp))
      clear gab a0 a1 f0 f1 HA2 HK2 HB2 HS2
      go_roundg (ps.length - (i + 1))
      case measure => have := HGQ.out; have := HIL.out; omega
      case rel => exact ⟨i + 1, by have := HIL.out; have := HNL.out; first | rfl | (rw [w64 (by omega) (by omega)]; rfl), ⟨by have := HIL.out; omega⟩, ⟨by omega⟩, HA3, HK3, HB3, HS3⟩
    · have d3 : decide ((i : Int) < (ps.length : Int)) = false := decide_eq_false (by omega)
      have d4 : decide (i < ps.length) = false := decide_eq_false hi
      obtain rfl : i = ps.length := by have := HI.out; omega
      rw [List.drop_of_length_le (Nat.le_refl _), List.append_nil] at HA
      clear hi HI HGQ
      go_wp2_with ((with_reducible refine gate_builtin (b := .append) (xs := #[.tmp 141, .tmp 144]) rfl ?_); at_builtin; go_loud (refine many_app w5.heap.size rfl (.tmp 141) (.tmp 144) 36 40 (.agg #[.int .i64 0, .int .i64 0]) 2 16 rfl underThings infoThing rfl (by omega) (by omega) (.slice A6 ps.length c6) ps.length 2 (pcells (List.replicate ps.length ((-5 : Int), (-5 : Int)))) [.int .i64 (-6), .int .i64 (-6), .int .i64 (-6), .int .i64 (-6)] wr.heap.size 2 rfl rfl (many_next HA.out (below_alloc (Below.refl _ _) _)) (by omega) rfl (fun j u hu => lit_cells _ _ _ j u hu) six_one ?hbs ?hl ?_; (case hbs => have h1 := S6.out; have h2 := S7.out; have h3 := S8.out; have h4 := HS8.out; simp; omega); (case hl => have h1 := HNL.out; omega); intro v9 w9 ho_ hg_ hat_; (have hbA := Below.refl wr.heap.size wr |>.alloc (Nat.le_refl _) (.cells #[.int .i64 (-6), .int .i64 (-6), .int .i64 (-6), .int .i64 (-6)] 40)); (have hlt := HA.out.lt); obtain ⟨A9, c9, rfl, -, -, -⟩ := many_cells ho_; have HB9 := Aside0.mk ((below_step HB.out hbA).grown hg_ (below_step HB.out hbA).size (fun b e => by have h1 := (B6.out b e).1; have h2 := SW.out; omega)); have HK9 : Aside0 (∀ k, k < w5.heap.size ∨ (w6.heap.size ≤ k ∧ k < w8.heap.size) → w9.heap[k]? = w8.heap[k]?) := ⟨fun k hk => (hg_.block k (by have h1 := hbA.size; have h2 := HS8.out; have h3 := S6.out; have h4 := S7.out; have h5 := S8.out; omega) (fun e => by have h1 := B6.out k e.symm; omega)).trans ((hbA.block k (by have h2 := HS8.out; have h3 := S6.out; have h4 := S7.out; have h5 := S8.out; omega)).trans (HK.out k (by omega)))⟩; have HS9 := Aside0.mk (Nat.le_trans HS8.out (Nat.le_trans hbA.size hg_.size)); clear ho_ hg_ hat_ hbA hlt))
      have HW9 := Aside0.mk (many_step HO58.out (fun b hb => HK9.out b (.inl (by have := (B5.out b hb).2; omega))))
      have HV9 := Aside0.mk (many_step HO8.out (fun b hb => HK9.out b (.inr (by have := (B7.out b hb); have := S8.out; omega))))
      have KK9 := Aside0.mk (KK8.out.keep (W1 := w9) (fun b h1 h2 => HK9.out b (.inl (by have := S5.out; omega))))
      clear HK HA HO8 HO58 HO68 KK8 HK9 HB HS8
      have HB8 := HB9
      clear HB9
      go_wp2_with (fail)
      go_loopg [148] ps.length (fun gq_ v148 wq => ∃ (i : Nat), v148 = .int .i64 i ∧ Aside0 (i ≤ ps.length) ∧ Aside0 (ps.length - i ≤ gq_) ∧ Aside0 (wq.heap = w9.heap) ∧ Aside0 (Below w.heap.size w wq))
      case atStart => exact ⟨0, rfl, ⟨Nat.zero_le _⟩, ⟨by omega⟩, ⟨rfl⟩, HB8⟩
      case round =>
        obtain ⟨i, rfl, HI, HGQ, HE, HB⟩ := hrel
        by_cases hi : i < ps.length
        · have d3 : decide ((i : Int) < (ps.length : Int)) = true := decide_eq_true (by omega)
          have d4 : decide (i < ps.length) = true := decide_eq_true hi
          have e2 : (0 : Int) ≤ (i : Int) := Int.natCast_nonneg i
          have e3 : (i : Int) < (ps.length : Int) := by omega
          have HIL := Aside0.mk hi
          clear hi
          obtain ⟨⟨x, y⟩, hxy⟩ : ∃ x, ps[i]? = some x := ⟨ps[i]'HIL.out, List.getElem?_eq_getElem HIL.out⟩
          obtain ⟨gw, ew, w0_, w1_, -, -⟩ := pair_cells2 (many_step (W1 := wr) HW9.out (fun b hb => by rw [HE.out])) (i := i) (x := x) (y := y) hxy
          obtain ⟨gb, eb, b0_, b1_, -, -⟩ := pair_cells2 (many_step (W1 := wr) HV9.out (fun b hb => by rw [HE.out])) (i := i) (x := x) (y := y) hxy
          subst ew eb
          clear hxy
          go_upto_region 24 with (fail)
          have heq := eq_thing
          have hgd := guardThing
          go_quiet (fail)
          clear w0_ w1_ b0_ b1_ d3 d4
          have HE2 : Aside0 ((wr.drewN nq).heap = w9.heap) := HE
          have HB2 : Aside0 (Below w.heap.size w (wr.drewN nq)) := ⟨pw_below_drewN HB.out _⟩
          go_wp2_with (fail)
          go_roundg (ps.length - (i + 1))
          case measure => have := HGQ.out; have := HIL.out; omega
          case rel => exact ⟨i + 1, by have := HIL.out; have := HNL.out; first | rfl | (rw [w64 (by omega) (by omega)]; rfl), ⟨by have := HIL.out; omega⟩, ⟨by omega⟩, HE2, HB2⟩
        · have d3 : decide ((i : Int) < (ps.length : Int)) = false := decide_eq_false (by omega)
          have d4 : decide (i < ps.length) = false := decide_eq_false hi
          obtain rfl : i = ps.length := by have := HI.out; omega
          clear hi HI HGQ HB8
          have HW9n := Aside0.mk (many_step (W1 := wr) HW9.out (fun b hb => by rw [HE.out]))
          have HV9n := Aside0.mk (many_step (W1 := wr) HV9.out (fun b hb => by rw [HE.out]))
          have KK9n := Aside0.mk (CK.keep (W1 := wr) KK9.out (fun b h1 h2 => by rw [HE.out]))
          clear HW9 HV9 KK9
          obtain ⟨wA, hwA⟩ : ∃ x, x = wr := ⟨_, rfl⟩
          subst hwA
          have HA9 := Aside0.mk (show w8.heap.size ≤ wA.heap.size by rw [HE.out]; exact HS9.out)
          have HLL := Aside0.mk (show L.length = lens.length by rw [← HL.out, List.length_map])
          clear HE d3 d4
          go_wp2_with (fail)
          go_loopg [163] lens.length (fun gq_ v163 wq => ∃ (j : Nat) (cj : List (List (Int × Int))), v163 = .int .i64 j ∧ Aside0 (j ≤ lens.length) ∧ Aside0 (lens.length - j ≤ gq_) ∧ Aside0 (CK wq w3.heap.size w4.heap.size (.slice A4 L.length c4) L cj) ∧ Aside0 (∀ i, j ≤ i → cj[i]? = cs[i]?) ∧ Aside0 (∀ k, k < w3.heap.size ∨ w4.heap.size ≤ k → k < wA.heap.size → wq.heap[k]? = wA.heap[k]?) ∧ Aside0 (Below w.heap.size w wq) ∧ Aside0 (wA.heap.size ≤ wq.heap.size))
          case atStart => exact ⟨0, cs, rfl, ⟨Nat.zero_le _⟩, ⟨by omega⟩, KK9n, ⟨fun _ _ => rfl⟩, ⟨fun _ _ _ => rfl⟩, HB, ⟨Nat.le_refl _⟩⟩
          case round =>
        clear HB HB8
        obtain ⟨j, cj, rfl, HJ, HGQ, HC, HR, HKE, HB, HSZ⟩ := hrel
        by_cases hj : j < lens.length
        · have d3 : decide ((j : Int) < (lens.length : Int)) = true := decide_eq_true (by omega)
          have d4 : decide (j < lens.length) = true := decide_eq_true hj
          have e2 : (0 : Int) ≤ (j : Int) := Int.natCast_nonneg j
          have e3 : (j : Int) < (lens.length : Int) := by omega
          have HJL := Aside0.mk hj
          clear hj
          obtain ⟨x, hx, hxn⟩ := len_at HL.out HJL.out
          have hC := Kd.C_below H1.out HB.out
          obtain ⟨ad, rfl, hc2⟩ := Kd.at_int hC (j : Int) e2 (by simpa using e3)
          simp only [Int.toNat_natCast] at hc2
          rw [hxn] at hc2
          obtain ⟨g4, rfl, q0⟩ := HC.out.cell hx
          have HX := Aside0.mk hx
          have HXN := Aside0.mk hxn
          have HXR := Aside0.mk (HC.out.room hx)
          have HXM := Aside0.mk (show x.n ≤ 65536 by have h1 := (HG.out.1 _ (bw_rd_mem HJL.out)).2; rw [hxn] at h1; omega)
          have hck : x.n + 1 ≤ x.c := HXR.out.1
          have hcut := cut_room x.g x.n x.c hck HXM.out
          have HCUT := Aside0.mk hcut
          have jL : (j : Int) < (L.length : Int) := by have := HLL.out; omega
          clear hC hx hxn
          go_wp2_with (fail)
          have HP0 := Aside0.mk ((HR.out j (Nat.le_refl _)).trans (HS.out.at_ j x HX.out))
          have HR2 : Aside0 (∀ i, j < i → cj[i]? = cs[i]?) := ⟨fun i hi => HR.out i (Nat.le_of_lt hi)⟩
          clear d3 d4 e2 e3 hc2 q0
          go_loopg [176] (x.n + 1) (fun gq_ v176 wq => ∃ (k : Nat) (ck : List (List (Int × Int))) (p : List (Int × Int)), v176 = .int .i64 k ∧ Aside0 (k ≤ x.n + 1) ∧ Aside0 (x.n + 1 - k ≤ gq_) ∧ Aside0 (CK wq w3.heap.size w4.heap.size (.slice (some ⟨g4, 0, none⟩) L.length c4) L ck) ∧ Aside0 (∀ i, j < i → ck[i]? = cs[i]?) ∧ Aside0 (ck[j]? = some p) ∧ Aside0 (∀ i, k ≤ i → p[i]? = (chk j x.n ++ [((-1 : Int), (-1 : Int))])[i]?) ∧ Aside0 (∀ k, k < w3.heap.size ∨ w4.heap.size ≤ k → k < wA.heap.size → wq.heap[k]? = wA.heap[k]?) ∧ Aside0 (Below w.heap.size w wq) ∧ Aside0 (wA.heap.size ≤ wq.heap.size))
          case atStart => exact ⟨0, cj, _, rfl, ⟨Nat.zero_le _⟩, ⟨by omega⟩, HC, HR2, HP0, ⟨fun _ _ => rfl⟩, HKE, HB, HSZ⟩
          case round =>
            clear HC HR HR2 HP0 HKE HB HSZ
            obtain ⟨k, ck, p, rfl, HK, HGK, HC, HR, HP1, HPK, HKE, HB, HSZ⟩ := hrel
            by_cases hk : k < x.n + 1
            · have d3 : decide ((k : Int) < ((x.n + 1 : Nat) : Int)) = true := decide_eq_true (by omega)
              have d4 : decide (k < x.n + 1) = true := decide_eq_true hk
              have d5 : decide ((k : Int) < (x.n : Int) + 1) = true := decide_eq_true (by omega)
              have e2 : (0 : Int) ≤ (k : Int) := Int.natCast_nonneg k
              have e3 : (k : Int) < (x.n : Int) + 1 := by omega
              have HKL := Aside0.mk hk
              obtain ⟨g4', e4, q0⟩ := HC.out.cell HX.out
              injection e4 with e4
              injection e4 with e4
              subst e4
              have heq := eq_thing
              have hgd := guardThing
              rcases chk_at (j := j) HKL.out with ⟨hkn, hpk⟩ | ⟨hkn, hpk⟩
              · obtain ⟨t0, t1, z0, z1⟩ := HC.out.thing HX.out HP1.out ((HPK.out k (Nat.le_refl _)).trans hpk)
                have b1 : decide ((k : Int) < (x.n : Int)) = true := decide_eq_true (by omega)
                have b2 : decide (k < x.n) = true := decide_eq_true hkn
                have b3 : ((k : Int) == (x.n : Int)) = false := by simp; omega
                have b4 : decide ((k : Int) = (x.n : Int)) = false := decide_eq_false (by omega)
                have b5 : decide (k = x.n) = false := decide_eq_false (by omega)
                clear hpk
                clear hk
                go_upto_region 35 with (fail)
                obtain ⟨W2, hW2⟩ : ∃ W2, wr.alloc (.cells #[.int .i64 (j : Int), .int .i64 (k : Int)] 40) = W2 := ⟨_, rfl⟩
                have hbA : Below wr.heap.size wr W2 := by rw [← hW2]; exact below_alloc (Below.refl _ _) _
                rw [hW2]
                clear hW2 q0 t0 t1 z0 z1
                have HC2 := Aside0.mk (HC.out.keep (W1 := W2) (fun b h1 h2 => hbA.block b (by have h3 := S5.out; have h4 := S6.out; have h5 := S7.out; have h6 := S8.out; have h7 := HA9.out; have h8 := HSZ.out; omega)))
                have HB2 := Aside0.mk (below_step HB.out hbA)
                have HKE2 : Aside0 (∀ k, k < w3.heap.size ∨ w4.heap.size ≤ k → k < wA.heap.size → W2.heap[k]? = wA.heap[k]?) := ⟨fun k h1 h2 => (hbA.block k (by have h8 := HSZ.out; omega)).trans (HKE.out k h1 h2)⟩
                have HSZ2 := Aside0.mk (Nat.le_trans HSZ.out hbA.size)
                obtain ⟨g4', e4, q0⟩ := HC2.out.cell HX.out
                injection e4 with e4
                injection e4 with e4
                subst e4
                have hpk := (HPK.out k (Nat.le_refl _)).trans (show _ = some (((j : Int) : Int), ((k : Int) : Int)) from by first | exact (chk_lt (j := j) hkn) | exact chk_eq)
                obtain ⟨t0, t1, z0, z1⟩ := HC2.out.thing HX.out HP1.out hpk
                have HPL := Aside0.mk (show p.length = x.n + 1 from (HC2.out.own j x p HX.out HP1.out).1)
                clear hpk hbA HC HB HKE HSZ b1 b2 b3 b4 b5
                go_wp2_with (fail)
                have HC3 := Aside0.mk (CK.put HC2.out HX.out HP1.out (k := k) (by have := HPL.out; have := HKL.out; omega) (-9, (k : Int)))
                have HKE3 : Aside0 (∀ q, q < w3.heap.size ∨ w4.heap.size ≤ q → q < wA.heap.size → ((W2.setCell ⟨x.g, k * 2, none⟩ (.int .i64 (-9))).setCell ⟨x.g, k * 2 + 1, none⟩ (.int .i64 (k : Int))).heap[q]? = wA.heap[q]?) := ⟨fun k h1 h2 => (set2_other (by have h3 := HXR.out; omega)).trans (HKE2.out k h1 h2)⟩
                have HB3 := Aside0.mk (set2_below (i := k * 2) (j := k * 2 + 1) (u := .int .i64 (-9)) (v := .int .i64 (k : Int)) HB2.out (show w.heap.size ≤ x.g by have h1 := SW.out; have h2 := HXR.out; omega))
                have HSZ3 := Aside0.mk (Nat.le_trans HSZ2.out (show W2.heap.size ≤ ((W2.setCell ⟨x.g, k * 2, none⟩ (.int .i64 (-9))).setCell ⟨x.g, k * 2 + 1, none⟩ (.int .i64 (k : Int))).heap.size by simp))
                have hjl := (List.getElem?_eq_some_iff.1 HP1.out).1
                have HR3 : Aside0 (∀ i, j < i → (ck.set j (p.set k (-9, (k : Int))))[i]? = cs[i]?) := ⟨fun i hi => by rw [List.getElem?_set_ne (by omega)]; exact HR.out i hi⟩
                have HP3 : Aside0 ((ck.set j (p.set k (-9, (k : Int))))[j]? = some (p.set k (-9, (k : Int)))) := ⟨List.getElem?_set_self hjl⟩
                have HPK3 : Aside0 (∀ i, k + 1 ≤ i → (p.set k (-9, (k : Int)))[i]? = (chk j x.n ++ [((-1 : Int), (-1 : Int))])[i]?) := ⟨fun i hi => by rw [List.getElem?_set_ne (by omega)]; exact HPK.out i (by omega)⟩
                clear hjl HC2 HB2 HKE2 HSZ2 q0 t0 t1 z0 z1
                go_roundg (x.n + 1 - (k + 1))
                case measure => have := HGK.out; have := HKL.out; omega
                case rel => exact ⟨k + 1, _, _, by have := HXM.out; have := HKL.out; first | rfl | (rw [w64 (by omega) (by omega)]; rfl), ⟨HKL.out⟩, ⟨by omega⟩, HC3, HR3, HP3, HPK3, HKE3, HB3, HSZ3⟩
              · obtain ⟨t0, t1, z0, z1⟩ := HC.out.thing HX.out HP1.out ((HPK.out k (Nat.le_refl _)).trans hpk)
                subst hkn
                have b1 : decide ((x.n : Int) < (x.n : Int)) = false := decide_eq_false (by omega)
                have b2 : decide (x.n < x.n) = false := decide_eq_false (by omega)
                have b3 : ((x.n : Int) == (x.n : Int)) = true := by simp
                clear hpk
                skip
                go_upto_region 35 with (fail)
                obtain ⟨W2, hW2⟩ : ∃ W2, wr.alloc (.cells #[.int .i64 (-1), .int .i64 (-1)] 40) = W2 := ⟨_, rfl⟩
                have hbA : Below wr.heap.size wr W2 := by rw [← hW2]; exact below_alloc (Below.refl _ _) _
                rw [hW2]
                clear hW2 q0 t0 t1 z0 z1
                have HC2 := Aside0.mk (HC.out.keep (W1 := W2) (fun b h1 h2 => hbA.block b (by have h3 := S5.out; have h4 := S6.out; have h5 := S7.out; have h6 := S8.out; have h7 := HA9.out; have h8 := HSZ.out; omega)))
                have HB2 := Aside0.mk (below_step HB.out hbA)
                have HKE2 : Aside0 (∀ k, k < w3.heap.size ∨ w4.heap.size ≤ k → k < wA.heap.size → W2.heap[k]? = wA.heap[k]?) := ⟨fun k h1 h2 => (hbA.block k (by have h8 := HSZ.out; omega)).trans (HKE.out k h1 h2)⟩
                have HSZ2 := Aside0.mk (Nat.le_trans HSZ.out hbA.size)
                obtain ⟨g4', e4, q0⟩ := HC2.out.cell HX.out
                injection e4 with e4
                injection e4 with e4
                subst e4
                have hpk := (HPK.out x.n (Nat.le_refl _)).trans (show _ = some (((-1) : Int), ((-1) : Int)) from by first | exact (chk_lt (j := j) hkn) | exact chk_eq)
                obtain ⟨t0, t1, z0, z1⟩ := HC2.out.thing HX.out HP1.out hpk
                have HPL := Aside0.mk (show p.length = x.n + 1 from (HC2.out.own j x p HX.out HP1.out).1)
                clear hpk hbA HC HB HKE HSZ b1 b2 b3
                go_wp2_with (fail)
                have HC3 := Aside0.mk (CK.put HC2.out HX.out HP1.out (k := x.n) (by have := HPL.out; have := HKL.out; omega) (-9, (x.n : Int)))
                have HKE3 : Aside0 (∀ q, q < w3.heap.size ∨ w4.heap.size ≤ q → q < wA.heap.size → ((W2.setCell ⟨x.g, x.n * 2, none⟩ (.int .i64 (-9))).setCell ⟨x.g, x.n * 2 + 1, none⟩ (.int .i64 (x.n : Int))).heap[q]? = wA.heap[q]?) := ⟨fun k h1 h2 => (set2_other (by have h3 := HXR.out; omega)).trans (HKE2.out k h1 h2)⟩
                have HB3 := Aside0.mk (set2_below (i := x.n * 2) (j := x.n * 2 + 1) (u := .int .i64 (-9)) (v := .int .i64 (x.n : Int)) HB2.out (show w.heap.size ≤ x.g by have h1 := SW.out; have h2 := HXR.out; omega))
                have HSZ3 := Aside0.mk (Nat.le_trans HSZ2.out (show W2.heap.size ≤ ((W2.setCell ⟨x.g, x.n * 2, none⟩ (.int .i64 (-9))).setCell ⟨x.g, x.n * 2 + 1, none⟩ (.int .i64 (x.n : Int))).heap.size by simp))
                have hjl := (List.getElem?_eq_some_iff.1 HP1.out).1
                have HR3 : Aside0 (∀ i, j < i → (ck.set j (p.set x.n (-9, (x.n : Int))))[i]? = cs[i]?) := ⟨fun i hi => by rw [List.getElem?_set_ne (by omega)]; exact HR.out i hi⟩
                have HP3 : Aside0 ((ck.set j (p.set x.n (-9, (x.n : Int))))[j]? = some (p.set x.n (-9, (x.n : Int)))) := ⟨List.getElem?_set_self hjl⟩
                have HPK3 : Aside0 (∀ i, x.n + 1 ≤ i → (p.set x.n (-9, (x.n : Int)))[i]? = (chk j x.n ++ [((-1 : Int), (-1 : Int))])[i]?) := ⟨fun i hi => by rw [List.getElem?_set_ne (by omega)]; exact HPK.out i (by omega)⟩
                clear hjl HC2 HB2 HKE2 HSZ2 q0 t0 t1 z0 z1
                go_roundg (x.n + 1 - (x.n + 1))
                case measure => have := HGK.out; have := HKL.out; omega
                case rel => exact ⟨x.n + 1, _, _, by have := HXM.out; have := HKL.out; first | rfl | (rw [w64 (by omega) (by omega)]; rfl), ⟨HKL.out⟩, ⟨by omega⟩, HC3, HR3, HP3, HPK3, HKE3, HB3, HSZ3⟩
            · have d3 : decide ((k : Int) < ((x.n + 1 : Nat) : Int)) = false := decide_eq_false (by omega)
              have d4 : decide (k < x.n + 1) = false := decide_eq_false hk
              have d5 : decide ((k : Int) < (x.n : Int) + 1) = false := decide_eq_false (by omega)
              obtain rfl : k = x.n + 1 := by have := HK.out; omega
              clear hk HK HGK
              go_wp2_with (fail)
              go_roundg (lens.length - (j + 1))
              case measure => have := HGQ.out; have := HJL.out; omega
              case rel => exact ⟨j + 1, ck, by have := HJL.out; have := L1.out; first | rfl | (rw [w64 (by omega) (by omega)]; rfl), ⟨by have := HJL.out; omega⟩, ⟨by omega⟩, HC, ⟨fun i hi => HR.out i (by omega)⟩, HKE, HB, HSZ⟩
        · have d3 : decide ((j : Int) < (lens.length : Int)) = false := decide_eq_false (by omega)
          have d4 : decide (j < lens.length) = false := decide_eq_false hj
          obtain rfl : j = lens.length := by have := HJ.out; omega
          clear hj HJ HGQ
          obtain ⟨wB, hwB⟩ : ∃ x, x = wr := ⟨_, rfl⟩
          subst hwB
          have HWB := Aside0.mk (many_step (W1 := wB) HW9n.out (fun b hb => HKE.out b (.inr (B5.out b hb).1) (by have h1 := (B5.out b hb).2; have h2 := S6.out; have h3 := S7.out; have h4 := S8.out; have h5 := HA9.out; omega)))
          have HVB := Aside0.mk (many_step (W1 := wB) HV9n.out (fun b hb => HKE.out b (.inr (by have h1 := (B7.out b hb).1; have h2 := S5.out; have h3 := S6.out; omega)) (by have h1 := (B7.out b hb).2; have h4 := S8.out; have h5 := HA9.out; omega)))
          clear HC HR HKE HSZ HW9n HV9n d3 d4
          go_wp2_with (fail)
          have HBB := HB
          clear HB
          go_loopg [216] ps.length (fun gq_ v216 wq => ∃ (i : Nat), v216 = .int .i64 i ∧ Aside0 (i ≤ ps.length) ∧ Aside0 (ps.length - i ≤ gq_) ∧ Aside0 (wq.heap = wB.heap) ∧ Aside0 (Below w.heap.size w wq))
          case atStart => exact ⟨0, rfl, ⟨Nat.zero_le _⟩, ⟨by omega⟩, ⟨rfl⟩, HBB⟩
          case round =>
            obtain ⟨i, rfl, HI, HGQ, HE, HB⟩ := hrel
            by_cases hi : i < ps.length
            · have d3 : decide ((i : Int) < (ps.length : Int)) = true := decide_eq_true (by omega)
              have d4 : decide (i < ps.length) = true := decide_eq_true hi
              have e2 : (0 : Int) ≤ (i : Int) := Int.natCast_nonneg i
              have e3 : (i : Int) < (ps.length : Int) := by omega
              have HIL := Aside0.mk hi
              clear hi
              obtain ⟨⟨x, y⟩, hxy⟩ : ∃ x, ps[i]? = some x := ⟨ps[i]'HIL.out, List.getElem?_eq_getElem HIL.out⟩
              obtain ⟨gw, ew, w0_, w1_, -, -⟩ := pair_cells2 (many_step (W1 := wr) HWB.out (fun b hb => by rw [HE.out])) (i := i) (x := x) (y := y) hxy
              obtain ⟨gb, eb, b0_, b1_, -, -⟩ := pair_cells2 (many_step (W1 := wr) HVB.out (fun b hb => by rw [HE.out])) (i := i) (x := x) (y := y) hxy
              subst ew eb
              clear hxy
              go_upto_region 41 with (fail)
              have heq := eq_thing
              have hgd := guardThing
              go_quiet (fail)
              clear w0_ w1_ b0_ b1_ d3 d4
              have HE2 : Aside0 ((wr.drewN nq).heap = wB.heap) := HE
              have HB2 : Aside0 (Below w.heap.size w (wr.drewN nq)) := ⟨pw_below_drewN HB.out _⟩
              go_wp2_with (fail)
              go_roundg (ps.length - (i + 1))
              case measure => have := HGQ.out; have := HIL.out; omega
              case rel => exact ⟨i + 1, by have := HIL.out; have := HNL.out; first | rfl | (rw [w64 (by omega) (by omega)]; rfl), ⟨by have := HIL.out; omega⟩, ⟨by omega⟩, HE2, HB2⟩
            · have d3 : decide ((i : Int) < (ps.length : Int)) = false := decide_eq_false (by omega)
              have d4 : decide (i < ps.length) = false := decide_eq_false hi
              obtain rfl : i = ps.length := by have := HI.out; omega
              clear hi HI HGQ HBB
              have HWBn := Aside0.mk (many_step (W1 := wr) HWB.out (fun b hb => by rw [HE.out]))
              have HVBn := Aside0.mk (many_step (W1 := wr) HVB.out (fun b hb => by rw [HE.out]))
              skip
              clear HWBn HVBn HWB HVB
              have f1 : decide (((ps.length + 2 : Nat) : Int) ≥ 2) = true := decide_eq_true (by omega)
              have f2 : decide (2 ≤ ps.length + 2) = true := decide_eq_true (by omega)
              have f3 : decide ((2 : Int) ≤ (ps.length : Int) + 2) = true := decide_eq_true (by omega)
              clear d3 d4
              go_wp2_with (fail)
              go_ret
              exact ⟨by simp, HB.out⟩
end Go.Proofs.Ytiefmocfgneldaa.Q
