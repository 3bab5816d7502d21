/- Functions of the program as plain Lean functions, each with a proof that its call comes to just these answers, or the row that joins them to the given statement; no condition beside the statement's own. Written for this claim by pf.py, this session's program over the kit's print. -/
import Derived.Test.YtangepklgeikkaaQx0
import Derived.Test.YtangepklgeikkaaQx1
import Derived.Test.YtangepklgeikkaaQx3
import Derived.Test.YtangepklgeikkaaQx9
import Derived.Test.YtangepklgeikkaaQx11
namespace Go.Proofs.Ytangepklgeikkaa.Q
open Go.RowKit Go.Proofs.YtangepklgeikkaaW.PrintWords Go.Proofs.YtangepklgeikkaaW.PrintLast Go.Proofs.YtangepklgeikkaaW.PrintMore
attribute [local go_sem] max2_int min2_int max_two min_two max_three min_three max_four min_four   -- for this text's walks alone
set_option linter.unusedVariables false
set_option linter.unusedSimpArgs false

/-! ### churnlaw09_TapeParts: function 6 -/
mutual
def churnlaw09_TapeParts.j0 : Nat → List Int → Int → Int → Bool → List Int → List Int → List (List Int) → Option (Bool)
  | 0, _, _, _, _, _, _, _ => none
  | k + 1, x0, x1, x6, x25, x393000, x393001, x393002 => if x25 = true then (if x6 = 2 then ((churnlaw09_lists.f x393000 x393001 x393002).bind fun t393 => (some ((t393.length : Int) == 2))) else (some false)) else (if (x0.length : Int) < 18 then (if x6 = 3 then (if (x393000.length : Int) = 0 then (some ((x393002.length : Int) == 0)) else (some false)) else (some false)) else ((churnlaw09_lists.f x393000 x393001 x393002).bind fun t396 => (churnlaw09_TapeParts.l0 k x0 x1 x6 ([] : List Int) t396 (t396.length : Int) 0 x393000 x393001 x393002)))
def churnlaw09_TapeParts.l0 : Nat → List Int → Int → Int → List Int → List (List Int) → Int → Int → List Int → List Int → List (List Int) → Option (Bool)
  | 0, _, _, _, _, _, _, _, _, _, _ => none
  | k + 1, x0, x1, x6, x7, x52, x53, x54, x393000, x393001, x393002 => if x54 < x53 then (if 0 ≤ x54 then (if x54 < (x52.length : Int) then (if x7.length + (rd_L2 x52 x54).length < 140737488355328 then (churnlaw09_TapeParts.l0 k x0 x1 x6 (x7 ++ (rd_L2 x52 x54)) x52 x53 (wrap64 (x54 + 1)) x393000 x393001 x393002) else (none)) else (none)) else (none)) else (if x6 = 0 then (if (x393002.length : Int) = x1 then (if (x7.length : Int) > (x0.length : Int) then (churnlaw09_TapeParts.j2 k x0 true x393000 x393001 x393002) else (if 0 ≤ (x7.length : Int) then (if (x7.length : Int) ≤ (x0.length : Int) then ((churnlaw09_same.f x7 (x0.take ((x7.length : Int) : Int).toNat)).bind fun t407 => (if t407 = true then (churnlaw09_TapeParts.j2 k x0 (decide ((wrap64 ((x0.length : Int) - (x7.length : Int))) ≥ x1)) x393000 x393001 x393002) else (churnlaw09_TapeParts.j2 k x0 true x393000 x393001 x393002))) else (none)) else (none))) else (churnlaw09_TapeParts.j2 k x0 true x393000 x393001 x393002)) else (churnlaw09_TapeParts.j2 k x0 true x393000 x393001 x393002))
def churnlaw09_TapeParts.j2 : Nat → List Int → Bool → List Int → List Int → List (List Int) → Option (Bool)
  | 0, _, _, _, _, _ => none
  | k + 1, x0, x95, x393000, x393001, x393002 => if x95 = true then (some false) else (churnlaw09_TapeParts.l1 k x0 x393002 (x393002.length : Int) 0 x393000 x393001 x393002)
def churnlaw09_TapeParts.l1 : Nat → List Int → List (List Int) → Int → Int → List Int → List Int → List (List Int) → Option (Bool)
  | 0, _, _, _, _, _, _, _ => none
  | k + 1, x0, x97, x98, x99, x393000, x393001, x393002 => if x99 < x98 then (if 0 ≤ x99 then (if x99 < (x97.length : Int) then (if 0 < (x393002.length : Int) then (if ((rd_L2 x97 x99).length : Int) = ((rd_L2 x393002 0).length : Int) then (churnlaw09_TapeParts.l1 k x0 x97 x98 (wrap64 (x99 + 1)) x393000 x393001 x393002) else (some false)) else (none)) else (none)) else (none)) else (if (x393000.length : Int) = 18 then (some ((x393001.length : Int) == (wrap64 (Int.tdiv (wrap64 ((x0.length : Int) - 18)) 2)))) else (some false))
end
def churnlaw09_TapeParts.f (k : Nat) (l0 : List Int) (a1 : Int) : Option (Bool) := (churnlaw09_awake.f).bind fun t381 => (if t381 = true then ((tape_Split.f k l0 a1).bind fun bt382 => (if a1 < 1 then (churnlaw09_TapeParts.j0 k l0 a1 bt382.2.2.2 true bt382.1 bt382.2.1 bt382.2.2.1) else (churnlaw09_TapeParts.j0 k l0 a1 bt382.2.2.2 (decide (a1 > 64)) bt382.1 bt382.2.1 bt382.2.2.1))) else (some false))
theorem churnlaw09_TapeParts.mono_l : ∀ k, (∀ y0 y1 y2 y3 y4 y5 y6, LeO (churnlaw09_TapeParts.j0 k y0 y1 y2 y3 y4 y5 y6) (churnlaw09_TapeParts.j0 (k + 1) y0 y1 y2 y3 y4 y5 y6)) ∧ (∀ y0 y1 y2 y3 y4 y5 y6 y7 y8 y9, LeO (churnlaw09_TapeParts.l0 k y0 y1 y2 y3 y4 y5 y6 y7 y8 y9) (churnlaw09_TapeParts.l0 (k + 1) y0 y1 y2 y3 y4 y5 y6 y7 y8 y9)) ∧ (∀ y0 y1 y2 y3 y4, LeO (churnlaw09_TapeParts.j2 k y0 y1 y2 y3 y4) (churnlaw09_TapeParts.j2 (k + 1) y0 y1 y2 y3 y4)) ∧ (∀ y0 y1 y2 y3 y4 y5 y6, LeO (churnlaw09_TapeParts.l1 k y0 y1 y2 y3 y4 y5 y6) (churnlaw09_TapeParts.l1 (k + 1) y0 y1 y2 y3 y4 y5 y6))
  | 0 => ⟨fun _ _ _ _ _ _ _ r h => by simp [churnlaw09_TapeParts.j0] at h, fun _ _ _ _ _ _ _ _ _ _ r h => by simp [churnlaw09_TapeParts.l0] at h, fun _ _ _ _ _ r h => by simp [churnlaw09_TapeParts.j2] at h, fun _ _ _ _ _ _ _ r h => by simp [churnlaw09_TapeParts.l1] at h⟩
  | k + 1 => by
    obtain ⟨ih0, ih1, ih2, ih3⟩ := churnlaw09_TapeParts.mono_l k
    refine ⟨?_, ?_, ?_, ?_⟩
    · intro y0 y1 y2 y3 y4 y5 y6
      unfold churnlaw09_TapeParts.j0
      repeat' first
      | (with_reducible exact ih0 _ _ _ _ _ _ _)
      | (with_reducible exact ih1 _ _ _ _ _ _ _ _ _ _)
      | (with_reducible exact ih2 _ _ _ _ _)
      | (with_reducible exact ih3 _ _ _ _ _ _ _)
      | (with_reducible exact tape_Split.mono _ _ _)
      | (with_reducible exact LeO.refl _)
      | (with_reducible exact LeO.none _)
      | (with_reducible refine LeO.ite ?_ ?_)
      | (with_reducible refine LeO.bind ?_ (fun _ => ?_))
      | exact ih0 _ _ _ _ _ _ _
      | exact ih1 _ _ _ _ _ _ _ _ _ _
      | exact ih2 _ _ _ _ _
      | exact ih3 _ _ _ _ _ _ _
      | exact tape_Split.mono _ _ _
      | exact LeO.none _
      | refine LeO.ite ?_ ?_
      | refine LeO.bind ?_ (fun _ => ?_)
    · intro y0 y1 y2 y3 y4 y5 y6 y7 y8 y9
      unfold churnlaw09_TapeParts.l0
      repeat' first
      | (with_reducible exact ih0 _ _ _ _ _ _ _)
      | (with_reducible exact ih1 _ _ _ _ _ _ _ _ _ _)
      | (with_reducible exact ih2 _ _ _ _ _)
      | (with_reducible exact ih3 _ _ _ _ _ _ _)
      | (with_reducible exact tape_Split.mono _ _ _)
      | (with_reducible exact LeO.refl _)
      | (with_reducible exact LeO.none _)
      | (with_reducible refine LeO.ite ?_ ?_)
      | (with_reducible refine LeO.bind ?_ (fun _ => ?_))
      | exact ih0 _ _ _ _ _ _ _
      | exact ih1 _ _ _ _ _ _ _ _ _ _
      | exact ih2 _ _ _ _ _
      | exact ih3 _ _ _ _ _ _ _
      | exact tape_Split.mono _ _ _
      | exact LeO.none _
      | refine LeO.ite ?_ ?_
      | refine LeO.bind ?_ (fun _ => ?_)
    · intro y0 y1 y2 y3 y4
      unfold churnlaw09_TapeParts.j2
      repeat' first
      | (with_reducible exact ih0 _ _ _ _ _ _ _)
      | (with_reducible exact ih1 _ _ _ _ _ _ _ _ _ _)
      | (with_reducible exact ih2 _ _ _ _ _)
      | (with_reducible exact ih3 _ _ _ _ _ _ _)
      | (with_reducible exact tape_Split.mono _ _ _)
      | (with_reducible exact LeO.refl _)
      | (with_reducible exact LeO.none _)
      | (with_reducible refine LeO.ite ?_ ?_)
      | (with_reducible refine LeO.bind ?_ (fun _ => ?_))
      | exact ih0 _ _ _ _ _ _ _
      | exact ih1 _ _ _ _ _ _ _ _ _ _
      | exact ih2 _ _ _ _ _
      | exact ih3 _ _ _ _ _ _ _
      | exact tape_Split.mono _ _ _
      | exact LeO.none _
      | refine LeO.ite ?_ ?_
      | refine LeO.bind ?_ (fun _ => ?_)
    · intro y0 y1 y2 y3 y4 y5 y6
      unfold churnlaw09_TapeParts.l1
      repeat' first
      | (with_reducible exact ih0 _ _ _ _ _ _ _)
      | (with_reducible exact ih1 _ _ _ _ _ _ _ _ _ _)
      | (with_reducible exact ih2 _ _ _ _ _)
      | (with_reducible exact ih3 _ _ _ _ _ _ _)
      | (with_reducible exact tape_Split.mono _ _ _)
      | (with_reducible exact LeO.refl _)
      | (with_reducible exact LeO.none _)
      | (with_reducible refine LeO.ite ?_ ?_)
      | (with_reducible refine LeO.bind ?_ (fun _ => ?_))
      | exact ih0 _ _ _ _ _ _ _
      | exact ih1 _ _ _ _ _ _ _ _ _ _
      | exact ih2 _ _ _ _ _
      | exact ih3 _ _ _ _ _ _ _
      | exact tape_Split.mono _ _ _
      | exact LeO.none _
      | refine LeO.ite ?_ ?_
      | refine LeO.bind ?_ (fun _ => ?_)
theorem churnlaw09_TapeParts.mono : ∀ a0 a1 k, LeO (churnlaw09_TapeParts.f k a0 a1) (churnlaw09_TapeParts.f (k + 1) a0 a1) := by
  intro a0 a1 k
  obtain ⟨ih0, ih1, ih2, ih3⟩ := churnlaw09_TapeParts.mono_l k
  unfold churnlaw09_TapeParts.f
  repeat' first
      | (with_reducible exact ih0 _ _ _ _ _ _ _)
      | (with_reducible exact ih1 _ _ _ _ _ _ _ _ _ _)
      | (with_reducible exact ih2 _ _ _ _ _)
      | (with_reducible exact ih3 _ _ _ _ _ _ _)
      | (with_reducible exact tape_Split.mono _ _ _)
      | (with_reducible exact LeO.refl _)
      | (with_reducible exact LeO.none _)
      | (with_reducible refine LeO.ite ?_ ?_)
      | (with_reducible refine LeO.bind ?_ (fun _ => ?_))
      | exact ih0 _ _ _ _ _ _ _
      | exact ih1 _ _ _ _ _ _ _ _ _ _
      | exact ih2 _ _ _ _ _
      | exact ih3 _ _ _ _ _ _ _
      | exact tape_Split.mono _ _ _
      | exact LeO.none _
      | refine LeO.ite ?_ ?_
      | refine LeO.bind ?_ (fun _ => ?_)
set_option maxHeartbeats 8000000 in
set_option maxRecDepth 100000 in
theorem churnlaw09_TapeParts.calls (k : Nat) (A0 : Option Addr) (c0 : Nat) (l0 : List Int) (a1 : Int) (r : Bool) (w : World) (hr0 : Kd.C (Kd.int .u8) w A0 l0.length l0) (hc0 : l0.length ≤ c0) (h : churnlaw09_TapeParts.f k l0 a1 = some r) :
    Calls Try.prog 6 #[.slice A0 l0.length c0, .int .i64 a1] w fun e w' => e = .returned (.bool r) ∧ Below w.heap.size w w' := by
  have hu50 := Try.underlying50
  have HR0 := Aside0.mk hr0
  have HC0 := Aside0.mk hc0
  clear hr0 hc0
  have HB := Aside0.mk (Below.refl w.heap.size w)
  have H : ((churnlaw09_awake.f).bind fun t381 => (if t381 = true then ((tape_Split.f k l0 a1).bind fun bt382 => (if a1 < 1 then (churnlaw09_TapeParts.j0 k l0 a1 bt382.2.2.2 true bt382.1 bt382.2.1 bt382.2.2.1) else (churnlaw09_TapeParts.j0 k l0 a1 bt382.2.2.2 (decide (a1 > 64)) bt382.1 bt382.2.1 bt382.2.2.1))) else (some false))) = some r := h
  clear h
  replace H := Option.bind_eq_some_iff.mp H
  obtain ⟨t381, A30, H⟩ := H
  replace H : (if t381 = true then ((tape_Split.f k l0 a1).bind fun bt382 => (if a1 < 1 then (churnlaw09_TapeParts.j0 k l0 a1 bt382.2.2.2 true bt382.1 bt382.2.1 bt382.2.2.1) else (churnlaw09_TapeParts.j0 k l0 a1 bt382.2.2.2 (decide (a1 > 64)) bt382.1 bt382.2.1 bt382.2.2.1))) else (some false)) = some r := H
  have A3 := Aside0.mk A30
  clear A30
  by_cases c4 : t381 = true
  · subst c4
    have H1 : ((tape_Split.f k l0 a1).bind fun bt382 => (if a1 < 1 then (churnlaw09_TapeParts.j0 k l0 a1 bt382.2.2.2 true bt382.1 bt382.2.1 bt382.2.2.1) else (churnlaw09_TapeParts.j0 k l0 a1 bt382.2.2.2 (decide (a1 > 64)) bt382.1 bt382.2.1 bt382.2.2.1))) = some r := by rw [if_pos rfl] at H; exact H
    clear H
    have H := H1
    clear H1
    replace H := Option.bind_eq_some_iff.mp H
    obtain ⟨⟨t382, t385, t388, t391⟩, A50, H⟩ := H
    replace H : (if a1 < 1 then (churnlaw09_TapeParts.j0 k l0 a1 t391 true t382 t385 t388) else (churnlaw09_TapeParts.j0 k l0 a1 t391 (decide (a1 > 64)) t382 t385 t388)) = some r := H
    have A5 := Aside0.mk A50
    clear A50
    have HC6 := Aside0.mk H
    clear H
    go_enter Try.func6, Try.ntmps6
    go_upto_region 4 with (first | ((with_reducible refine gate_callee (f := 7) rfl ?_); refine goesL_ (some 12) rfl rfl Try.func7 (by kernel_rfl) rfl #[] rfl (by (try simp only [List.map_toArray, List.map_cons, List.map_nil]); first | done | rfl | (simp only [List.length_drop, List.length_take]; rfl)) ?_; (with_reducible refine (churnlaw09_awake.calls  true _ A3.out).mono ?_); rintro e w7 ⟨rfl, hb⟩; refine ⟨_, rfl, ?_⟩; have n0_ := Aside0.mk (below_step (by repeat (first | (with_reducible first | exact HB.out | apply below_alloc | apply pw_below_drewN | apply below_drew1) | exact HB.out)) hb); clear HB; have HB := n0_; clear n0_; (try clear hb); (try clear hb2); (try clear hk); (try clear hi)) | ((with_reducible refine gate_callee (f := 18) rfl ?_); refine goesL_ (some 17) rfl rfl Try.func18 (by kernel_rfl) rfl #[.slice A0 l0.length c0, .int .i64 a1] rfl (by (try simp only [List.map_toArray, List.map_cons, List.map_nil]); first | done | rfl | (simp only [List.length_drop, List.length_take]; rfl)) ?_; (with_reducible refine (tape_Split.calls k _ _ l0 a1 t382 t385 t388 t391 _ ?side1 ?side2 A5.out).mono ?_); (case side1 => repeat (first | exact (Kd.C_below HR0.out HB.out) | (with_reducible refine Kd.C_alloc ?_ _) | (with_reducible refine Kd.C_drewN ?_ _) | (with_reducible refine Kd.C_drew ?_))); (case side2 => exact HC0.out); rintro e w8 ⟨v383, v386, v389, rfl, ho0, ho1, ho2, hb⟩; refine ⟨_, rfl, ?_⟩; have n0_ := Aside0.mk (Kd.R_lower ho0 (below_size (by repeat (first | (with_reducible first | exact HB.out | apply below_alloc | apply pw_below_drewN | apply below_drew1) | exact HB.out)))); have n1_ := Aside0.mk (Kd.R_lower ho1 (below_size (by repeat (first | (with_reducible first | exact HB.out | apply below_alloc | apply pw_below_drewN | apply below_drew1) | exact HB.out)))); have n2_ := Aside0.mk (Kd.N_lower (Kd.N_mono (ok' := fun k_ => some k_ ≠ (v383 : Value).ownBlock ∧ some k_ ≠ (v386 : Value).ownBlock) (Kd.S_N (Kd.S_bound ho2)) (fun k_ hk_ => ⟨hk_.1.1, hk_.1.2⟩)) (below_size (by repeat (first | (with_reducible first | exact HB.out | apply below_alloc | apply pw_below_drewN | apply below_drew1) | exact HB.out)))); have n3_ := Aside0.mk (below_step (by repeat (first | (with_reducible first | exact HB.out | apply below_alloc | apply pw_below_drewN | apply below_drew1) | exact HB.out)) hb); clear HB; have HO384 := n0_; have HO387 := n1_; have HO390 := n2_; have HB := n3_; clear n0_ n1_ n2_ n3_; (try clear hb); (try clear hb2); (try clear hk); (try clear hi); (try clear ho0); (try clear ho1); (try clear ho2)) | ((with_reducible refine gate_dst (N := 5) rfl ?_); (try (refine gate_guard (by rfl) ?_; dsimp only)); refine box_event ?hg (N := 5) ?hd (cs := #[.slice none 0 0, .slice none 0 0, .slice none 0 0]) (t := 50) ?hr ?_; (case hd => rfl); (case hg => rfl); (case hr => first | (go_simp; done) | (go_simp; rfl)); intro gb392 hg w9 hbox hb; have n0_ := Aside0.mk (Kd.R_below (by (with_reducible repeat (first | apply Kd.R_alloc | apply Kd.R_drewN | apply Kd.R_drew)); exact HO384.out) hb); have n1_ := Aside0.mk (Kd.R_below (by (with_reducible repeat (first | apply Kd.R_alloc | apply Kd.R_drewN | apply Kd.R_drew)); exact HO387.out) hb); have n2_ := Aside0.mk (Kd.N_below (Kd.N_elderB (by (with_reducible repeat (first | apply Kd.N_alloc | apply Kd.N_drewN | apply Kd.N_drew)); exact HO390.out) gb392 (Nat.le_of_eq hg.symm)) hb); have n3_ := Aside0.mk (below_step (by repeat (first | (with_reducible first | exact HB.out | apply below_alloc | apply pw_below_drewN | apply below_drew1) | exact HB.out)) hb); have n4_ := Aside0.mk (hbox); have n5_ := Aside0.mk ((by rw [hg]; exact (below_size (by repeat (first | (with_reducible first | exact HB.out | apply below_alloc | apply pw_below_drewN | apply below_drew1) | exact HB.out))) : w.heap.size ≤ gb392)); have n6_ := Aside0.mk ((by rw [hg]; exact (below_size (by repeat (first | (with_reducible first | exact HB.out | apply below_alloc | apply pw_below_drewN | apply below_drew1) | exact HB.out))) : w.heap.size ≤ gb392)); clear HO384; clear HO387; clear HO390; clear HB; have HO384 := n0_; have HO387 := n1_; have HO390 := n2_; have HB := n3_; have BK392 := n4_; have GW392 := n5_; have GE392 := n6_; clear n0_ n1_ n2_ n3_ n4_ n5_ n6_; clear hb hbox hg; obtain ⟨Ao10, co10, eo10⟩ := Kd.R_slice HO384.out; subst eo10; have hcz11_0 : w9.cell? ⟨gb392, 0, none⟩ = some (.slice none 0 0) := (blk_cell BK392.out 0).trans rfl; have hcz11_1 : w9.cell? ⟨gb392, 1, none⟩ = some (.slice none 0 0) := (blk_cell BK392.out 1).trans rfl; have hcz11_2 : w9.cell? ⟨gb392, 2, none⟩ = some (.slice none 0 0) := (blk_cell BK392.out 2).trans rfl; have hfz11_0 := blk_frozen BK392.out 0; have hfz11_1 := blk_frozen BK392.out 1; have hfz11_2 := blk_frozen BK392.out 2; obtain ⟨Ao12, co12, eo12⟩ := Kd.R_slice HO387.out; subst eo12; obtain ⟨Ao13, co13, eo13⟩ := Kd.N_slice HO390.out; subst eo13))
    (try simp only [Act.put, List.setIfInBounds_toArray, List.set_cons_zero, List.set_cons_succ])
    go_cut [25] (fun v25 wc => ∃ (kq : Nat) (x25_5 : Bool), v25 = .bool x25_5 ∧ Aside0 (churnlaw09_TapeParts.j0 kq l0 a1 t391 x25_5 t382 t385 t388 = some r) ∧ Aside0 (kq ≤ k) ∧ Aside0 (Kd.R (Kd.int .u8) 5 wc w.heap.size (fun k_ => some k_ ≠ ((.slice Ao12 t385.length co12) : Value).ownBlock) (.slice Ao10 t382.length co10) t382) ∧ Aside0 (Kd.R (Kd.int .u8) 5 wc w.heap.size (fun k_ => some k_ ≠ ((.slice Ao10 t382.length co10) : Value).ownBlock) (.slice Ao12 t385.length co12) t385) ∧ Aside0 (Kd.N (Kd.slice 5 (Kd.int .u8)) 27 wc w.heap.size (fun k_ => some k_ ≠ ((.slice Ao10 t382.length co10) : Value).ownBlock ∧ some k_ ≠ ((.slice Ao12 t385.length co12) : Value).ownBlock ∧ k_ ≠ gb392) (.slice Ao13 t388.length co13) t388) ∧ Aside0 (wc.heap[gb392]? = some (.cells #[(.slice Ao10 t382.length co10), (.slice Ao12 t385.length co12), (.slice Ao13 t388.length co13)] 50 (0, 0))) ∧ Aside0 (Below w.heap.size w wc))
    case first =>
      have H := HC6.out
      clear HC6
      by_cases c14 : a1 < 1
      · rw [if_pos c14] at H
        have c14b0 : decide (a1 < 1) = true := decide_eq_true c14
        clear c14
        (first | rw [c14b0] | (simp only [i64_w, i32_w]; rw [c14b0]) | skip)
        have H' := Aside0.mk H
        clear H
        go_wp2
        go_meet
        case rel => exact ⟨_, (true), (by first | rfl | (simp; done) | (simp [*]; done)), H', ⟨by first | omega | exact Nat.le_refl _⟩, ⟨by (with_reducible repeat (first | apply Kd.R_alloc | apply Kd.R_drewN | apply Kd.R_drew)); exact Kd.R_mono (Kd.R_far (p := ⟨gb392, 2, none⟩) (Kd.R_far (p := ⟨gb392, 1, none⟩) (Kd.R_far (p := ⟨gb392, 0, none⟩) (Kd.R_types HO384.out BK392.out (by decide)) (fun _ hk => hk.2) (.slice Ao10 t382.length co10)) (fun _ hk => hk.2) (.slice Ao12 t385.length co12)) (fun _ hk => hk.2) (.slice Ao13 t388.length co13)) (fun _ hk => hk.1)⟩, ⟨by (with_reducible repeat (first | apply Kd.R_alloc | apply Kd.R_drewN | apply Kd.R_drew)); exact Kd.R_mono (Kd.R_far (p := ⟨gb392, 2, none⟩) (Kd.R_far (p := ⟨gb392, 1, none⟩) (Kd.R_far (p := ⟨gb392, 0, none⟩) (Kd.R_types HO387.out BK392.out (by decide)) (fun _ hk => hk.2) (.slice Ao10 t382.length co10)) (fun _ hk => hk.2) (.slice Ao12 t385.length co12)) (fun _ hk => hk.2) (.slice Ao13 t388.length co13)) (fun _ hk => hk.1)⟩, ⟨by (with_reducible repeat (first | apply Kd.N_alloc | apply Kd.N_drewN | apply Kd.N_drew)); exact Kd.N_mono (Kd.N_far (p := ⟨gb392, 2, none⟩) (Kd.N_far (p := ⟨gb392, 1, none⟩) (Kd.N_far (p := ⟨gb392, 0, none⟩) (Kd.N_mono HO390.out (fun k_ hk => (⟨hk, hk.2⟩ : _ ∧ k_ ≠ gb392))) (fun _ hk => hk.2) (.slice Ao10 t382.length co10)) (fun _ hk => hk.2) (.slice Ao12 t385.length co12)) (fun _ hk => hk.2) (.slice Ao13 t388.length co13)) (fun _ hk => ⟨hk.1.1.1, ⟨hk.1.1.2, hk.1.2⟩⟩)⟩, ⟨by (with_reducible repeat (first | refine blk_drewN ?_ _ | refine blk_drew ?_ | refine blk_alloc ?_ _)); refine blk_put (cs := #[.slice Ao10 t382.length co10, .slice Ao12 t385.length co12, .slice none 0 0]) ?_ 2 _ rfl; (with_reducible repeat (first | refine blk_drewN ?_ _ | refine blk_drew ?_ | refine blk_alloc ?_ _)); refine blk_put (cs := #[.slice Ao10 t382.length co10, .slice none 0 0, .slice none 0 0]) ?_ 1 _ rfl; (with_reducible repeat (first | refine blk_drewN ?_ _ | refine blk_drew ?_ | refine blk_alloc ?_ _)); refine blk_put (cs := #[.slice none 0 0, .slice none 0 0, .slice none 0 0]) ?_ 0 _ rfl; (with_reducible repeat (first | refine blk_drewN ?_ _ | refine blk_drew ?_ | refine blk_alloc ?_ _)); exact BK392.out⟩, ⟨by repeat (first | (with_reducible first | exact HB.out | apply below_alloc | apply pw_below_drewN | apply below_drew1 | refine below_set ?_ GE392.out) | exact HB.out)⟩⟩
      · rw [if_neg c14] at H
        have c14b0 : decide (a1 < 1) = false := decide_eq_false c14
        clear c14
        (first | rw [c14b0] | (simp only [i64_w, i32_w]; rw [c14b0]) | skip)
        have H' := Aside0.mk H
        clear H
        go_wp2
        go_meet
        case rel => exact ⟨_, (decide (a1 > 64)), (by first | rfl | (simp; done) | (simp [*]; done)), H', ⟨by first | omega | exact Nat.le_refl _⟩, ⟨by (with_reducible repeat (first | apply Kd.R_alloc | apply Kd.R_drewN | apply Kd.R_drew)); exact Kd.R_mono (Kd.R_far (p := ⟨gb392, 2, none⟩) (Kd.R_far (p := ⟨gb392, 1, none⟩) (Kd.R_far (p := ⟨gb392, 0, none⟩) (Kd.R_types HO384.out BK392.out (by decide)) (fun _ hk => hk.2) (.slice Ao10 t382.length co10)) (fun _ hk => hk.2) (.slice Ao12 t385.length co12)) (fun _ hk => hk.2) (.slice Ao13 t388.length co13)) (fun _ hk => hk.1)⟩, ⟨by (with_reducible repeat (first | apply Kd.R_alloc | apply Kd.R_drewN | apply Kd.R_drew)); exact Kd.R_mono (Kd.R_far (p := ⟨gb392, 2, none⟩) (Kd.R_far (p := ⟨gb392, 1, none⟩) (Kd.R_far (p := ⟨gb392, 0, none⟩) (Kd.R_types HO387.out BK392.out (by decide)) (fun _ hk => hk.2) (.slice Ao10 t382.length co10)) (fun _ hk => hk.2) (.slice Ao12 t385.length co12)) (fun _ hk => hk.2) (.slice Ao13 t388.length co13)) (fun _ hk => hk.1)⟩, ⟨by (with_reducible repeat (first | apply Kd.N_alloc | apply Kd.N_drewN | apply Kd.N_drew)); exact Kd.N_mono (Kd.N_far (p := ⟨gb392, 2, none⟩) (Kd.N_far (p := ⟨gb392, 1, none⟩) (Kd.N_far (p := ⟨gb392, 0, none⟩) (Kd.N_mono HO390.out (fun k_ hk => (⟨hk, hk.2⟩ : _ ∧ k_ ≠ gb392))) (fun _ hk => hk.2) (.slice Ao10 t382.length co10)) (fun _ hk => hk.2) (.slice Ao12 t385.length co12)) (fun _ hk => hk.2) (.slice Ao13 t388.length co13)) (fun _ hk => ⟨hk.1.1.1, ⟨hk.1.1.2, hk.1.2⟩⟩)⟩, ⟨by (with_reducible repeat (first | refine blk_drewN ?_ _ | refine blk_drew ?_ | refine blk_alloc ?_ _)); refine blk_put (cs := #[.slice Ao10 t382.length co10, .slice Ao12 t385.length co12, .slice none 0 0]) ?_ 2 _ rfl; (with_reducible repeat (first | refine blk_drewN ?_ _ | refine blk_drew ?_ | refine blk_alloc ?_ _)); refine blk_put (cs := #[.slice Ao10 t382.length co10, .slice none 0 0, .slice none 0 0]) ?_ 1 _ rfl; (with_reducible repeat (first | refine blk_drewN ?_ _ | refine blk_drew ?_ | refine blk_alloc ?_ _)); refine blk_put (cs := #[.slice none 0 0, .slice none 0 0, .slice none 0 0]) ?_ 0 _ rfl; (with_reducible repeat (first | refine blk_drewN ?_ _ | refine blk_drew ?_ | refine blk_alloc ?_ _)); exact BK392.out⟩, ⟨by repeat (first | (with_reducible first | exact HB.out | apply below_alloc | apply pw_below_drewN | apply below_drew1 | refine below_set ?_ GE392.out) | exact HB.out)⟩⟩
    case rest =>
      clear HC6
      try clear c1
      try clear p2
      try clear c4
      try clear c6
      try clear c7
      try clear c14
      try clear c14b0
      try clear hcz11_0
      try clear hcz11_1
      try clear hcz11_2
      try clear hfz11_0
      try clear hfz11_1
      try clear hfz11_2
      obtain ⟨kq, x25_5, rfl, HA, HJ5, HO_393000, HO_393001, HO_393002, BK392, HB⟩ := hcut
      cases kq with
      | zero => exact absurd HA.out (by simp [churnlaw09_TapeParts.j0])
      | succ kj5 =>
        have H := HA.out
        clear HA
        simp only [churnlaw09_TapeParts.j0] at H
        by_cases c15 : x25_5 = true
        · subst c15
          have H1 : (if t391 = 2 then ((churnlaw09_lists.f t382 t385 t388).bind fun t393 => (some ((t393.length : Int) == 2))) else (some false)) = some r := by rw [if_pos rfl] at H; exact H
          clear H
          have H := H1
          clear H1
          by_cases c16 : t391 = 2
          · rw [if_pos c16] at H
            have c16b0 : (t391 == 2) = true := beq_iff_eq.mpr c16
            have c16b1 : (t391 != 2) = false := bne_eq_false_iff_eq.mpr c16
            clear c16
            replace H := Option.bind_eq_some_iff.mp H
            obtain ⟨t393, A170, H⟩ := H
            replace H : (some ((t393.length : Int) == 2)) = some r := H
            have A17 := Aside0.mk A170
            clear A170
            obtain rfl := Option.some.inj H
            have hcz18_0 : wc.cell? ⟨gb392, 0, none⟩ = some (.slice Ao10 t382.length co10) := (blk_cell BK392.out 0).trans rfl
            have hcz18_1 : wc.cell? ⟨gb392, 1, none⟩ = some (.slice Ao12 t385.length co12) := (blk_cell BK392.out 1).trans rfl
            have hcz18_2 : wc.cell? ⟨gb392, 2, none⟩ = some (.slice Ao13 t388.length co13) := (blk_cell BK392.out 2).trans rfl
            have hfz18_0 := blk_frozen BK392.out 0
            have hfz18_1 := blk_frozen BK392.out 1
            have hfz18_2 := blk_frozen BK392.out 2
            go_wp2_with (first | (go_at_call 21; (with_reducible refine (churnlaw09_lists.calls (fun k_ => some k_ = (.slice Ao10 t382.length co10 : Value).ownBlock) _ _ t382 (fun k_ => some k_ = (.slice Ao12 t385.length co12 : Value).ownBlock) _ _ t385 (fun k_ => (some k_ ≠ (.slice Ao10 t382.length co10 : Value).ownBlock ∧ (some k_ ≠ (.slice Ao12 t385.length co12 : Value).ownBlock ∧ k_ ≠ gb392))) _ _ t388 t393 _ ?side1 ?side2 ?side3 A17.out).mono ?_); (case side1 => exact Kd.R_V (Kd.R_tight rfl (Kd.R_types (Kd.R_apart' (HO_393000.out) (Kd.N_typed HO_393002.out) (by decide)) BK392.out (by decide)))); (case side2 => exact Kd.R_V (Kd.R_tight rfl (Kd.R_types (Kd.R_apart' (HO_393001.out) (Kd.N_typed HO_393002.out) (by decide)) BK392.out (by decide)))); (case side3 => exact Kd.N_V (HO_393002.out)); rintro e w19 ⟨v394, rfl, ho0, hb⟩; have n0_ := Aside0.mk (Kd.R_below (by (with_reducible repeat (first | apply Kd.R_alloc | apply Kd.R_drewN | apply Kd.R_drew)); exact HO_393000.out) hb); have n1_ := Aside0.mk (Kd.R_below (by (with_reducible repeat (first | apply Kd.R_alloc | apply Kd.R_drewN | apply Kd.R_drew)); exact HO_393001.out) hb); have n2_ := Aside0.mk (Kd.N_elder' (by (with_reducible repeat (first | apply Kd.N_alloc | apply Kd.N_drewN | apply Kd.N_drew)); exact HO_393002.out) (Kd.N_base ho0) hb); have n3_ := Aside0.mk (Kd.N_lower (Kd.N_mono (ok' := fun k_ => k_ ≠ gb392) ho0 (fun k_ hk_ => Or.elim hk_ (fun hs_ => Or.elim hs_ (fun hs_ => ((Kd.R_types (Kd.R_apart' (HO_393000.out) (Kd.N_typed HO_393002.out) (by decide)) BK392.out (by decide)).1 k_ hs_.symm).2) (fun hs_ => Or.elim hs_ (fun hs_ => ((Kd.R_types (Kd.R_apart' (HO_393001.out) (Kd.N_typed HO_393002.out) (by decide)) BK392.out (by decide)).1 k_ hs_.symm).2) (fun hs_ => hs_.2.2))) (fun hn_ => (Kd.freshB (g := gb392) (o := .cells #[.slice Ao10 t382.length co10, .slice Ao12 t385.length co12, .slice Ao13 t388.length co13] 50 (0, 0)) (by (with_reducible repeat (first | refine blk_drewN ?_ _ | refine blk_drew ?_ | refine blk_alloc ?_ _)); exact BK392.out) k_ hn_)))) (below_size (by repeat (first | (with_reducible first | exact HB.out | apply below_alloc | apply pw_below_drewN | apply below_drew1 | refine below_set ?_ GE392.out) | exact HB.out)))); have n4_ := Aside0.mk (blk_below (g := gb392) (o := .cells #[.slice Ao10 t382.length co10, .slice Ao12 t385.length co12, .slice Ao13 t388.length co13] 50 (0, 0)) (by (with_reducible repeat (first | refine blk_drewN ?_ _ | refine blk_drew ?_ | refine blk_alloc ?_ _)); exact BK392.out) hb); have n5_ := Aside0.mk (below_step (by repeat (first | (with_reducible first | exact HB.out | apply below_alloc | apply pw_below_drewN | apply below_drew1 | refine below_set ?_ GE392.out) | exact HB.out)) hb); clear HO_393000; clear HO_393001; clear HO_393002; clear BK392; clear HB; have HO_393000 := n0_; have HO_393001 := n1_; have HO_393002 := n2_; have HO395 := n3_; have BK392 := n4_; have HB := n5_; clear n0_ n1_ n2_ n3_ n4_ n5_; (try clear hb); (try clear hb2); (try clear hk); (try clear hi); (try clear ho0); obtain ⟨Ao20, co20, eo20⟩ := Kd.N_slice HO395.out; subst eo20))
            go_ret
            exact ⟨by first | rfl | (simp [errW_none, errW_some] <;> rfl) | (simp [*, errW_none, errW_some] <;> rfl), by repeat (first | (with_reducible first | exact HB.out | apply below_alloc | apply pw_below_drewN | apply below_drew1 | refine below_set ?_ GE392.out) | exact HB.out)⟩
          · rw [if_neg c16] at H
            have c16b0 : (t391 == 2) = false := beq_eq_false_iff_ne.mpr c16
            have c16b1 : (t391 != 2) = true := bne_iff_ne.mpr c16
            obtain rfl := Option.some.inj H
            go_wp2
            go_ret
            exact ⟨by first | rfl | (simp [errW_none, errW_some] <;> rfl) | (simp [*, errW_none, errW_some] <;> rfl), by repeat (first | (with_reducible first | exact HB.out | apply below_alloc | apply pw_below_drewN | apply below_drew1 | refine below_set ?_ GE392.out) | exact HB.out)⟩
        · replace c15 := Bool.eq_false_iff.mpr c15
          subst c15
          have H1 : (if (l0.length : Int) < 18 then (if t391 = 3 then (if (t382.length : Int) = 0 then (some ((t388.length : Int) == 0)) else (some false)) else (some false)) else ((churnlaw09_lists.f t382 t385 t388).bind fun t396 => (churnlaw09_TapeParts.l0 kj5 l0 a1 t391 ([] : List Int) t396 (t396.length : Int) 0 t382 t385 t388))) = some r := by rw [if_neg (show ¬ (false = true) by decide)] at H; exact H
          clear H
          have H := H1
          clear H1
          by_cases c21 : (l0.length : Int) < 18
          · rw [if_pos c21] at H
            have c21b0 : decide ((l0.length : Int) < 18) = true := decide_eq_true c21
            have c21b1 : decide (l0.length < 18) = true := decide_eq_true (by omega)
            clear c21
            by_cases c22 : t391 = 3
            · rw [if_pos c22] at H
              have c22b0 : (t391 == 3) = true := beq_iff_eq.mpr c22
              have c22b1 : (t391 != 3) = false := bne_eq_false_iff_eq.mpr c22
              clear c22
              by_cases c23 : (t382.length : Int) = 0
              · rw [if_pos c23] at H
                have c23b0 : ((t382.length : Int) == 0) = true := beq_iff_eq.mpr c23
                have c23b1 : ((t382.length : Int) != 0) = false := bne_eq_false_iff_eq.mpr c23
                clear c23
                obtain rfl := Option.some.inj H
                have hcz24_0 : wc.cell? ⟨gb392, 0, none⟩ = some (.slice Ao10 t382.length co10) := (blk_cell BK392.out 0).trans rfl
                have hcz24_1 : wc.cell? ⟨gb392, 1, none⟩ = some (.slice Ao12 t385.length co12) := (blk_cell BK392.out 1).trans rfl
                have hcz24_2 : wc.cell? ⟨gb392, 2, none⟩ = some (.slice Ao13 t388.length co13) := (blk_cell BK392.out 2).trans rfl
                have hfz24_0 := blk_frozen BK392.out 0
                have hfz24_1 := blk_frozen BK392.out 1
                have hfz24_2 := blk_frozen BK392.out 2
                go_wp2
                go_ret
                exact ⟨by first | rfl | (simp [errW_none, errW_some] <;> rfl) | (simp [*, errW_none, errW_some] <;> rfl), by repeat (first | (with_reducible first | exact HB.out | apply below_alloc | apply pw_below_drewN | apply below_drew1 | refine below_set ?_ GE392.out) | exact HB.out)⟩
              · rw [if_neg c23] at H
                have c23b0 : ((t382.length : Int) == 0) = false := beq_eq_false_iff_ne.mpr c23
                have c23b1 : ((t382.length : Int) != 0) = true := bne_iff_ne.mpr c23
                have c23b2 : ¬ (t382 = []) := fun h_ => c23 (by rw [h_]; rfl)
                obtain rfl := Option.some.inj H
                have hcz25_0 : wc.cell? ⟨gb392, 0, none⟩ = some (.slice Ao10 t382.length co10) := (blk_cell BK392.out 0).trans rfl
                have hcz25_1 : wc.cell? ⟨gb392, 1, none⟩ = some (.slice Ao12 t385.length co12) := (blk_cell BK392.out 1).trans rfl
                have hcz25_2 : wc.cell? ⟨gb392, 2, none⟩ = some (.slice Ao13 t388.length co13) := (blk_cell BK392.out 2).trans rfl
                have hfz25_0 := blk_frozen BK392.out 0
                have hfz25_1 := blk_frozen BK392.out 1
                have hfz25_2 := blk_frozen BK392.out 2
                go_wp2
                go_ret
                exact ⟨by first | rfl | (simp [errW_none, errW_some] <;> rfl) | (simp [*, errW_none, errW_some] <;> rfl), by repeat (first | (with_reducible first | exact HB.out | apply below_alloc | apply pw_below_drewN | apply below_drew1 | refine below_set ?_ GE392.out) | exact HB.out)⟩
            · rw [if_neg c22] at H
              have c22b0 : (t391 == 3) = false := beq_eq_false_iff_ne.mpr c22
              have c22b1 : (t391 != 3) = true := bne_iff_ne.mpr c22
              obtain rfl := Option.some.inj H
              go_wp2
              go_ret
              exact ⟨by first | rfl | (simp [errW_none, errW_some] <;> rfl) | (simp [*, errW_none, errW_some] <;> rfl), by repeat (first | (with_reducible first | exact HB.out | apply below_alloc | apply pw_below_drewN | apply below_drew1 | refine below_set ?_ GE392.out) | exact HB.out)⟩
          · rw [if_neg c21] at H
            have c21b0 : decide ((l0.length : Int) < 18) = false := decide_eq_false c21
            have c21b1 : decide (l0.length < 18) = false := decide_eq_false (by omega)
            clear c21
            replace H := Option.bind_eq_some_iff.mp H
            obtain ⟨t396, A260, H⟩ := H
            replace H : (churnlaw09_TapeParts.l0 kj5 l0 a1 t391 ([] : List Int) t396 (t396.length : Int) 0 t382 t385 t388) = some r := H
            have A26 := Aside0.mk A260
            clear A260
            have H' := Aside0.mk H
            clear H
            have hcz27_0 : wc.cell? ⟨gb392, 0, none⟩ = some (.slice Ao10 t382.length co10) := (blk_cell BK392.out 0).trans rfl
            have hcz27_1 : wc.cell? ⟨gb392, 1, none⟩ = some (.slice Ao12 t385.length co12) := (blk_cell BK392.out 1).trans rfl
            have hcz27_2 : wc.cell? ⟨gb392, 2, none⟩ = some (.slice Ao13 t388.length co13) := (blk_cell BK392.out 2).trans rfl
            have hfz27_0 := blk_frozen BK392.out 0
            have hfz27_1 := blk_frozen BK392.out 1
            have hfz27_2 := blk_frozen BK392.out 2
            go_wp2_with (first | ((with_reducible refine gate_callee (f := 21) rfl ?_); refine goesL_ (some 52) rfl rfl Try.func21 (by kernel_rfl) rfl #[.agg #[.slice Ao10 t382.length co10, .slice Ao12 t385.length co12, .slice Ao13 t388.length co13]] rfl (by (try simp only [List.map_toArray, List.map_cons, List.map_nil]); first | done | rfl | (simp only [List.length_drop, List.length_take]; rfl)) ?_; (with_reducible refine (churnlaw09_lists.calls (fun k_ => some k_ = (.slice Ao10 t382.length co10 : Value).ownBlock) _ _ t382 (fun k_ => some k_ = (.slice Ao12 t385.length co12 : Value).ownBlock) _ _ t385 (fun k_ => (some k_ ≠ (.slice Ao10 t382.length co10 : Value).ownBlock ∧ (some k_ ≠ (.slice Ao12 t385.length co12 : Value).ownBlock ∧ k_ ≠ gb392))) _ _ t388 t396 _ ?side1 ?side2 ?side3 A26.out).mono ?_); (case side1 => exact Kd.R_V (Kd.R_tight rfl (Kd.R_types (Kd.R_apart' (HO_393000.out) (Kd.N_typed HO_393002.out) (by decide)) BK392.out (by decide)))); (case side2 => exact Kd.R_V (Kd.R_tight rfl (Kd.R_types (Kd.R_apart' (HO_393001.out) (Kd.N_typed HO_393002.out) (by decide)) BK392.out (by decide)))); (case side3 => exact Kd.N_V (HO_393002.out)); rintro e w28 ⟨v397, rfl, ho0, hb⟩; refine ⟨_, rfl, ?_⟩; have n0_ := Aside0.mk (Kd.R_below (by (with_reducible repeat (first | apply Kd.R_alloc | apply Kd.R_drewN | apply Kd.R_drew)); exact HO_393000.out) hb); have n1_ := Aside0.mk (Kd.R_below (by (with_reducible repeat (first | apply Kd.R_alloc | apply Kd.R_drewN | apply Kd.R_drew)); exact HO_393001.out) hb); have n2_ := Aside0.mk (Kd.N_elder' (by (with_reducible repeat (first | apply Kd.N_alloc | apply Kd.N_drewN | apply Kd.N_drew)); exact HO_393002.out) (Kd.N_base ho0) hb); have n3_ := Aside0.mk (Kd.N_lower (Kd.N_mono (ok' := fun k_ => k_ ≠ gb392) ho0 (fun k_ hk_ => Or.elim hk_ (fun hs_ => Or.elim hs_ (fun hs_ => ((Kd.R_types (Kd.R_apart' (HO_393000.out) (Kd.N_typed HO_393002.out) (by decide)) BK392.out (by decide)).1 k_ hs_.symm).2) (fun hs_ => Or.elim hs_ (fun hs_ => ((Kd.R_types (Kd.R_apart' (HO_393001.out) (Kd.N_typed HO_393002.out) (by decide)) BK392.out (by decide)).1 k_ hs_.symm).2) (fun hs_ => hs_.2.2))) (fun hn_ => (Kd.freshB (g := gb392) (o := .cells #[.slice Ao10 t382.length co10, .slice Ao12 t385.length co12, .slice Ao13 t388.length co13] 50 (0, 0)) (by (with_reducible repeat (first | refine blk_drewN ?_ _ | refine blk_drew ?_ | refine blk_alloc ?_ _)); exact BK392.out) k_ hn_)))) (below_size (by repeat (first | (with_reducible first | exact HB.out | apply below_alloc | apply pw_below_drewN | apply below_drew1 | refine below_set ?_ GE392.out) | exact HB.out)))); have n4_ := Aside0.mk (blk_below (g := gb392) (o := .cells #[.slice Ao10 t382.length co10, .slice Ao12 t385.length co12, .slice Ao13 t388.length co13] 50 (0, 0)) (by (with_reducible repeat (first | refine blk_drewN ?_ _ | refine blk_drew ?_ | refine blk_alloc ?_ _)); exact BK392.out) hb); have n5_ := Aside0.mk (below_step (by repeat (first | (with_reducible first | exact HB.out | apply below_alloc | apply pw_below_drewN | apply below_drew1 | refine below_set ?_ GE392.out) | exact HB.out)) hb); clear HO_393000; clear HO_393001; clear HO_393002; clear BK392; clear HB; have HO_393000 := n0_; have HO_393001 := n1_; have HO_393002 := n2_; have HO398 := n3_; have BK392 := n4_; have HB := n5_; clear n0_ n1_ n2_ n3_ n4_ n5_; (try clear hb); (try clear hb2); (try clear hk); (try clear hi); (try clear ho0); obtain ⟨Ao29, co29, eo29⟩ := Kd.N_slice HO398.out; subst eo29))
            go_loopg [7, 54] kj5 (fun kq v7 v54 w' => ∃ (x7_2 : List Int) (x54_2 : Int), v54 = .int .i64 x54_2 ∧ Aside0 (churnlaw09_TapeParts.l0 kq l0 a1 t391 x7_2 t396 (t396.length : Int) x54_2 t382 t385 t388 = some r) ∧ Aside0 (kq ≤ kj5) ∧ Aside0 (Kd.R (Kd.int .u8) 5 w' w.heap.size (fun k_ => some k_ ≠ ((.slice Ao10 t382.length co10) : Value).ownBlock ∧ some k_ ≠ ((.slice Ao12 t385.length co12) : Value).ownBlock) v7 x7_2) ∧ Aside0 (Kd.N (Kd.slice 5 (Kd.int .u8)) 27 w' w.heap.size (fun k_ => some k_ ≠ (v7 : Value).ownBlock ∧ k_ ≠ gb392) (.slice Ao29 t396.length co29) t396) ∧ Aside0 (Kd.R (Kd.int .u8) 5 w' w.heap.size (fun k_ => some k_ ≠ (v7 : Value).ownBlock ∧ some k_ ≠ ((.slice Ao12 t385.length co12) : Value).ownBlock) (.slice Ao10 t382.length co10) t382) ∧ Aside0 (Kd.R (Kd.int .u8) 5 w' w.heap.size (fun k_ => some k_ ≠ (v7 : Value).ownBlock ∧ some k_ ≠ ((.slice Ao10 t382.length co10) : Value).ownBlock) (.slice Ao12 t385.length co12) t385) ∧ Aside0 (Kd.N (Kd.slice 5 (Kd.int .u8)) 27 w' w.heap.size (fun k_ => some k_ ≠ (v7 : Value).ownBlock ∧ some k_ ≠ ((.slice Ao29 t396.length co29) : Value).ownBlock ∧ some k_ ≠ ((.slice Ao10 t382.length co10) : Value).ownBlock ∧ some k_ ≠ ((.slice Ao12 t385.length co12) : Value).ownBlock ∧ k_ ≠ gb392) (.slice Ao13 t388.length co13) t388) ∧ Aside0 (w'.heap[gb392]? = some (.cells #[(.slice Ao10 t382.length co10), (.slice Ao12 t385.length co12), (.slice Ao13 t388.length co13)] 50 (0, 0))) ∧ Aside0 (Below w.heap.size w w'))
            case atStart => exact ⟨(([] : List Int)), (0), (by first | rfl | (simp; done) | (simp [*]; done)), H', ⟨Nat.le_refl _⟩, ⟨by first | exact Kd.R_nil _ _ _ _ _ | exact Kd.N_nil _ _ _ _ _ | exact Kd.V_nil _ _ _ _ _ | exact Kd.Q_nil _ _ _ _ _ | exact Kd.S_nil _ _ _ _ _⟩, ⟨by (with_reducible repeat (first | apply Kd.N_alloc | apply Kd.N_drewN | apply Kd.N_drew)); exact Kd.N_mono HO398.out (fun _ hk => ⟨(by simp [Value.ownBlock]), hk⟩)⟩, ⟨by (with_reducible repeat (first | apply Kd.R_alloc | apply Kd.R_drewN | apply Kd.R_drew)); exact Kd.R_mono HO_393000.out (fun _ hk => ⟨(by simp [Value.ownBlock]), hk⟩)⟩, ⟨by (with_reducible repeat (first | apply Kd.R_alloc | apply Kd.R_drewN | apply Kd.R_drew)); exact Kd.R_mono HO_393001.out (fun _ hk => ⟨(by simp [Value.ownBlock]), hk⟩)⟩, ⟨by (with_reducible repeat (first | apply Kd.N_alloc | apply Kd.N_drewN | apply Kd.N_drew)); exact Kd.N_mono HO_393002.out (fun _ hk => ⟨(by simp [Value.ownBlock]), ⟨hk.2, ⟨hk.1.1, ⟨hk.1.2.1, hk.1.2.2⟩⟩⟩⟩)⟩, ⟨by (with_reducible repeat (first | refine blk_drewN ?_ _ | refine blk_drew ?_ | refine blk_alloc ?_ _)); exact BK392.out⟩, ⟨by repeat (first | (with_reducible first | exact HB.out | apply below_alloc | apply pw_below_drewN | apply below_drew1 | refine below_set ?_ GE392.out) | exact HB.out)⟩⟩
            case round =>
              clear H'
              try clear c1
              try clear c2
              try clear p2
              try clear c4
              try clear c6
              try clear c7
              try clear c14
              try clear c14b0
              try clear c15
              try clear c16
              try clear c16b0
              try clear c16b1
              try clear c18
              try clear c21
              try clear c21b0
              try clear c21b1
              try clear c22
              try clear c22b0
              try clear c22b1
              try clear c23
              try clear c23b0
              try clear c23b1
              try clear c23b2
              try clear hcz11_0
              try clear hcz11_1
              try clear hcz11_2
              try clear hcz18_0
              try clear hcz18_1
              try clear hcz18_2
              try clear hcz24_0
              try clear hcz24_1
              try clear hcz24_2
              try clear hcz25_0
              try clear hcz25_1
              try clear hcz25_2
              try clear hcz27_0
              try clear hcz27_1
              try clear hcz27_2
              try clear hfz11_0
              try clear hfz11_1
              try clear hfz11_2
              try clear hfz18_0
              try clear hfz18_1
              try clear hfz18_2
              try clear hfz24_0
              try clear hfz24_1
              try clear hfz24_2
              try clear hfz25_0
              try clear hfz25_1
              try clear hfz25_2
              try clear hfz27_0
              try clear hfz27_1
              try clear hfz27_2
              try clear p2
              obtain ⟨x7_2, x54_2, rfl, HA, HK2, HO_7, HO_52, HO_393000, HO_393001, HO_393002, BK392, HB⟩ := hrel
              cases gk with
              | zero => exact absurd HA.out (by simp [churnlaw09_TapeParts.l0])
              | succ k2 =>
                have H := HA.out
                clear HA
                simp only [churnlaw09_TapeParts.l0] at H
                by_cases c30 : x54_2 < (t396.length : Int)
                · rw [if_pos c30] at H
                  have c30b0 : decide (x54_2 < (t396.length : Int)) = true := decide_eq_true c30
                  clear c30
                  by_cases c31 : 0 ≤ x54_2
                  · rw [if_pos c31] at H
                    have c31b0 : decide (0 ≤ x54_2) = true := decide_eq_true c31
                    clear c31
                    by_cases c32 : x54_2 < (t396.length : Int)
                    · rw [if_pos c32] at H
                      have c32b0 : decide (x54_2 < (t396.length : Int)) = true := decide_eq_true c32
                      clear c32
                      by_cases c33 : x7_2.length + (rd_L2 t396 x54_2).length < 140737488355328
                      · rw [if_pos c33] at H
                        have LMc33 := Aside0.mk c33
                        clear c33
                        obtain ⟨y400, hy400⟩ : ∃ y_ : List Int, y_ = (x7_2 ++ (rd_L2 t396 x54_2)) := ⟨_, rfl⟩
                        replace H : (churnlaw09_TapeParts.l0 k2 l0 a1 t391 y400 t396 (t396.length : Int) (wrap64 (x54_2 + 1)) t382 t385 t388) = some r := by first | (rw [hy400]; with_reducible exact H) | (have H2_ := (Option.bind_some _ _).symm.trans H; rw [hy400]; with_reducible exact H2_) | (have H2_ := (Option.bind_some _ _).symm.trans H; with_reducible exact H2_) | with_reducible exact H | (rw [hy400]; exact H) | exact H
                        have Ny400 := Aside0.mk hy400
                        clear hy400
                        have H' := Aside0.mk H
                        clear H
                        have p399 : 0 ≤ (x54_2 : Int) := of_decide_eq_true (by first | (with_reducible assumption) | assumption)
                        have q399 : x54_2 < (t396.length : Int) := of_decide_eq_true (by first | (with_reducible assumption) | assumption)
                        obtain ⟨ad399, A399_0, c399_0, e399, hx399_0, hl399_0, hi399_0⟩ := at_L2 (Kd.N_reads' HO_52.out).2.2 x54_2 p399 q399
                        cases e399
                        obtain ⟨ce399, hce399, hMe399, hcc399⟩ := Kd.N_get HO_52.out [] x54_2 p399 (by first | exact q399 | exact of_decide_eq_true (by first | (with_reducible assumption) | assumption) | (have e_ := (Kd.N_reads' HO_52.out).1; omega))
                        obtain ⟨ua399_0, uc399_0, rfl, ul399_0, ge399_0⟩ := Kd.FK_slice_open hMe399
                        have hv399_0 := hcc399 0 _ rfl
                        rw [Nat.add_zero, show ((Kd.slice 5 (Kd.int .u8))).sz = 1 from rfl, Nat.mul_one] at hv399_0
                        replace hv399_0 := Option.some.inj (hv399_0.symm.trans hx399_0)
                        injection hv399_0 with hva_ hvn_ hvc_
                        rw [hva_] at ge399_0
                        rw [hvc_] at ul399_0
                        have HL399_0 := Aside0.mk (show Kd.V (Kd.int .u8) 5 _ w.heap.size _ _ (rd_L2 t396 x54_2) from Kd.V_mk ul399_0 ge399_0)
                        clear hva_ hvn_ hvc_ ge399_0 ul399_0
                        clear hcc399 hce399
                        have HR399_0 := Aside0.mk hi399_0
                        have HC399_0 := Aside0.mk hl399_0
                        clear hi399_0 hl399_0
                        replace p399 := eq_true p399
                        replace q399 := eq_true q399
                        go_wp2_with (first | ((with_reducible refine gate_builtin (b := .append) (xs := #[.tmp 58, .tmp 59]) rfl ?_); (try (refine gate_guard (by rfl) ?_; dsimp only)); at_builtin; refine Kd.R_append_rows (Kd.int .u8) (w0 := w) w.heap.size rfl (.tmp 58) (.tmp 59) 27 5 (.int .u8 0) 1 rfl Try.underlying27 info5 rfl (by decide) (by omega) u7 x7_2 (rd_L2 t396 x54_2) _ _ _ (fun k_ => some k_ ≠ (.slice Ao10 t382.length co10 : Value).ownBlock ∧ some k_ ≠ (.slice Ao12 t385.length co12 : Value).ownBlock) (fun _ => False) rfl rfl ?aO ?aR (fun _ _ h => h) (fun _ h => h.elim) ?aF ?aB ?aS ?aL ?_; (case aR => repeat (first | exact (by repeat (first | (with_reducible exact HR399_0.out) | (with_reducible refine Kd.C_alloc ?_ _) | (with_reducible refine Kd.C_drewN ?_ _) | (with_reducible refine Kd.C_drew ?_) | exact HR399_0.out)) | (with_reducible refine Kd.C_alloc ?_ _) | (with_reducible refine Kd.C_drewN ?_ _) | (with_reducible refine Kd.C_drew ?_))); (case aB => exact (by repeat (first | (with_reducible first | exact HB.out | apply below_alloc | apply pw_below_drewN | apply below_drew1 | refine below_set ?_ GE392.out) | exact HB.out))); (case aF => exact (fun k_ hk => ⟨Kd.fresh' (Kd.R_lt (by (with_reducible repeat (first | apply Kd.R_alloc | apply Kd.R_drewN | apply Kd.R_drew)); exact HO_393000.out)) k_ hk, Kd.fresh' (Kd.R_lt (by (with_reducible repeat (first | apply Kd.R_alloc | apply Kd.R_drewN | apply Kd.R_drew)); exact HO_393001.out)) k_ hk⟩)); (case aO => exact (by (with_reducible repeat (first | apply Kd.R_alloc | apply Kd.R_drewN | apply Kd.R_drew)); exact HO_7.out)); (case aS => exact (below_size (by repeat (first | (with_reducible first | exact HB.out | apply below_alloc | apply pw_below_drewN | apply below_drew1 | refine below_set ?_ GE392.out) | exact HB.out)))); (case aL => have := LMc33.out; omega); intro v401 w34 ho hb hg hat; rw [← Ny400.out] at ho; have n0_ := Aside0.mk (Kd.N_afterv (ok := (fun k_ => k_ ≠ gb392)) (by (with_reducible repeat (first | apply Kd.N_alloc | apply Kd.N_drewN | apply Kd.N_drew)); exact Kd.N_mono HO_52.out (fun _ hk => ⟨hk.2, hk.1⟩)) hg hat); have n1_ := Aside0.mk (Kd.R_after (ok := (fun k_ => some k_ ≠ (.slice Ao12 t385.length co12 : Value).ownBlock)) (by (with_reducible repeat (first | apply Kd.R_alloc | apply Kd.R_drewN | apply Kd.R_drew)); exact Kd.R_mono HO_393000.out (fun _ hk => ⟨hk.2, hk.1⟩)) hg hat); have n2_ := Aside0.mk (Kd.R_after (ok := (fun k_ => some k_ ≠ (.slice Ao10 t382.length co10 : Value).ownBlock)) (by (with_reducible repeat (first | apply Kd.R_alloc | apply Kd.R_drewN | apply Kd.R_drew)); exact Kd.R_mono HO_393001.out (fun _ hk => ⟨hk.2, hk.1⟩)) hg hat); have n3_ := Aside0.mk (Kd.N_afterv (ok := (fun k_ => some k_ ≠ (.slice (some ad399) t396.length co29 : Value).ownBlock ∧ some k_ ≠ (.slice Ao10 t382.length co10 : Value).ownBlock ∧ some k_ ≠ (.slice Ao12 t385.length co12 : Value).ownBlock ∧ k_ ≠ gb392)) (by (with_reducible repeat (first | apply Kd.N_alloc | apply Kd.N_drewN | apply Kd.N_drew)); exact Kd.N_mono HO_393002.out (fun _ hk => ⟨⟨hk.2.1, ⟨hk.2.2.1, ⟨hk.2.2.2.1, hk.2.2.2.2⟩⟩⟩, hk.1⟩)) hg hat); have n4_ := Aside0.mk (blk_grown (g := gb392) (o := .cells #[.slice Ao10 t382.length co10, .slice Ao12 t385.length co12, .slice Ao13 t388.length co13] 50 (0, 0)) (by (with_reducible repeat (first | refine blk_drewN ?_ _ | refine blk_drew ?_ | refine blk_alloc ?_ _)); exact BK392.out) hg (Kd.R_ne HO_7.out BK392.out (by decide))); have n5_ := Aside0.mk (Kd.V_afterv (ok := (fun k_ => some k_ ≠ (.slice (some ad399) t396.length co29 : Value).ownBlock ∧ k_ ≠ gb392)) (by (with_reducible repeat (first | apply Kd.V_alloc | apply Kd.V_drewN | apply Kd.V_drew)); exact Kd.V_mono HL399_0.out (fun _ hk => ⟨⟨hk.2, hk.1.2⟩, hk.1.1⟩)) hg hat); have n6_ := Aside0.mk (hb); have n7_ := Aside0.mk (ho); clear HO_52; clear HO_393000; clear HO_393001; clear HO_393002; clear BK392; clear HL399_0; clear HB; clear HO_7; have HO_52 := n0_; have HO_393000 := n1_; have HO_393001 := n2_; have HO_393002 := n3_; have BK392 := n4_; have HL399_0 := n5_; have HB := n6_; have HO402 := n7_; clear n0_ n1_ n2_ n3_ n4_ n5_ n6_ n7_; clear ho hb hg hat))
                        go_roundg k2
                        case measure => have := HJ5.out; have := HK2.out; omega
                        case rel => exact ⟨(y400), (wrap64 (x54_2 + 1)), (by first | rfl | (simp; done) | (simp [*]; done)), H', ⟨by have := HJ5.out; have := HK2.out; omega⟩, ⟨by (with_reducible repeat (first | apply Kd.R_alloc | apply Kd.R_drewN | apply Kd.R_drew)); exact HO402.out⟩, ⟨by (with_reducible repeat (first | apply Kd.N_alloc | apply Kd.N_drewN | apply Kd.N_drew)); exact Kd.N_mono HO_52.out (fun _ hk => ⟨hk.2, hk.1⟩)⟩, ⟨by (with_reducible repeat (first | apply Kd.R_alloc | apply Kd.R_drewN | apply Kd.R_drew)); exact Kd.R_mono HO_393000.out (fun _ hk => ⟨hk.2, hk.1⟩)⟩, ⟨by (with_reducible repeat (first | apply Kd.R_alloc | apply Kd.R_drewN | apply Kd.R_drew)); exact Kd.R_mono HO_393001.out (fun _ hk => ⟨hk.2, hk.1⟩)⟩, ⟨by (with_reducible repeat (first | apply Kd.N_alloc | apply Kd.N_drewN | apply Kd.N_drew)); exact Kd.N_mono HO_393002.out (fun _ hk => ⟨hk.2, ⟨hk.1.1, ⟨hk.1.2.1, ⟨hk.1.2.2.1, hk.1.2.2.2⟩⟩⟩⟩)⟩, ⟨by (with_reducible repeat (first | refine blk_drewN ?_ _ | refine blk_drew ?_ | refine blk_alloc ?_ _)); exact BK392.out⟩, ⟨by repeat (first | (with_reducible first | exact HB.out | apply below_alloc | apply pw_below_drewN | apply below_drew1 | refine below_set ?_ GE392.out) | exact HB.out)⟩⟩
                      · rw [if_neg c33] at H
                        exact absurd H (by simp)
                    · rw [if_neg c32] at H
                      exact absurd H (by simp)
                  · rw [if_neg c31] at H
                    exact absurd H (by simp)
                · rw [if_neg c30] at H
                  have c30b0 : decide (x54_2 < (t396.length : Int)) = false := decide_eq_false c30
                  clear c30
                  have HC35 := Aside0.mk H
                  clear H
                  go_upto_region 14 with (fail)
                  go_cut [95] (fun v95 wc => ∃ (kq : Nat) (x95_34 : Bool), v95 = .bool x95_34 ∧ Aside0 (churnlaw09_TapeParts.j2 kq l0 x95_34 t382 t385 t388 = some r) ∧ Aside0 (kq ≤ k2) ∧ Aside0 (Kd.R (Kd.int .u8) 5 wc w.heap.size (fun k_ => some k_ ≠ ((.slice Ao12 t385.length co12) : Value).ownBlock) (.slice Ao10 t382.length co10) t382) ∧ Aside0 (Kd.R (Kd.int .u8) 5 wc w.heap.size (fun k_ => some k_ ≠ ((.slice Ao10 t382.length co10) : Value).ownBlock) (.slice Ao12 t385.length co12) t385) ∧ Aside0 (Kd.N (Kd.slice 5 (Kd.int .u8)) 27 wc w.heap.size (fun k_ => some k_ ≠ ((.slice Ao10 t382.length co10) : Value).ownBlock ∧ some k_ ≠ ((.slice Ao12 t385.length co12) : Value).ownBlock ∧ k_ ≠ gb392) (.slice Ao13 t388.length co13) t388) ∧ Aside0 (wc.heap[gb392]? = some (.cells #[(.slice Ao10 t382.length co10), (.slice Ao12 t385.length co12), (.slice Ao13 t388.length co13)] 50 (0, 0))) ∧ Aside0 (Below w.heap.size w wc))
                  case first =>
                    have H := HC35.out
                    clear HC35
                    by_cases c36 : t391 = 0
                    · rw [if_pos c36] at H
                      have c36b0 : (t391 == 0) = true := beq_iff_eq.mpr c36
                      have c36b1 : (t391 != 0) = false := bne_eq_false_iff_eq.mpr c36
                      clear c36
                      (first | rw [c36b0] | (simp only [i64_w, i32_w]; rw [c36b0]) | skip)
                      by_cases c37 : (t388.length : Int) = a1
                      · rw [if_pos c37] at H
                        have c37b0 : ((t388.length : Int) == a1) = true := beq_iff_eq.mpr c37
                        have c37b1 : ((t388.length : Int) != a1) = false := bne_eq_false_iff_eq.mpr c37
                        clear c37
                        by_cases c38 : (x7_2.length : Int) > (l0.length : Int)
                        · rw [if_pos c38] at H
                          have c38b0 : decide ((l0.length : Int) < (x7_2.length : Int)) = true := decide_eq_true c38
                          have c38b1 : decide (l0.length < x7_2.length) = true := decide_eq_true (Int.ofNat_lt.mp c38)
                          clear c38
                          have H' := Aside0.mk H
                          clear H
                          have hcz39_0 : wr.cell? ⟨gb392, 0, none⟩ = some (.slice Ao10 t382.length co10) := (blk_cell BK392.out 0).trans rfl
                          have hcz39_1 : wr.cell? ⟨gb392, 1, none⟩ = some (.slice Ao12 t385.length co12) := (blk_cell BK392.out 1).trans rfl
                          have hcz39_2 : wr.cell? ⟨gb392, 2, none⟩ = some (.slice Ao13 t388.length co13) := (blk_cell BK392.out 2).trans rfl
                          have hfz39_0 := blk_frozen BK392.out 0
                          have hfz39_1 := blk_frozen BK392.out 1
                          have hfz39_2 := blk_frozen BK392.out 2
                          obtain ⟨Ao40, co40, eo40⟩ := Kd.R_slice HO_7.out
                          subst eo40
                          go_wp2
                          go_meet
                          case rel => exact ⟨_, (true), (by first | rfl | (simp; done) | (simp [*]; done)), H', ⟨by have := HJ5.out; have := HK2.out; first | omega | exact Nat.le_refl _⟩, ⟨by (with_reducible repeat (first | apply Kd.R_alloc | apply Kd.R_drewN | apply Kd.R_drew)); exact Kd.R_mono HO_393000.out (fun _ hk => hk.2)⟩, ⟨by (with_reducible repeat (first | apply Kd.R_alloc | apply Kd.R_drewN | apply Kd.R_drew)); exact Kd.R_mono HO_393001.out (fun _ hk => hk.2)⟩, ⟨by (with_reducible repeat (first | apply Kd.N_alloc | apply Kd.N_drewN | apply Kd.N_drew)); exact Kd.N_mono HO_393002.out (fun _ hk => ⟨hk.2.2.1, ⟨hk.2.2.2.1, hk.2.2.2.2⟩⟩)⟩, ⟨by (with_reducible repeat (first | refine blk_drewN ?_ _ | refine blk_drew ?_ | refine blk_alloc ?_ _)); exact BK392.out⟩, ⟨by repeat (first | (with_reducible first | exact HB.out | apply below_alloc | apply pw_below_drewN | apply below_drew1 | refine below_set ?_ GE392.out) | exact HB.out)⟩⟩
                        · rw [if_neg c38] at H
                          have c38b0 : decide ((l0.length : Int) < (x7_2.length : Int)) = false := decide_eq_false c38
                          have c38b1 : decide (l0.length < x7_2.length) = false := decide_eq_false (fun h => c38 (Int.ofNat_lt.mpr h))
                          clear c38
                          by_cases c41 : 0 ≤ (x7_2.length : Int)
                          · rw [if_pos c41] at H
                            have c41b0 := eq_true c41
                            have c41b1 : decide (0 ≤ (x7_2.length : Int)) = true := decide_eq_true c41
                            clear c41
                            by_cases c42 : (x7_2.length : Int) ≤ (l0.length : Int)
                            · rw [if_pos c42] at H
                              have c42b0 := eq_true c42
                              have c42b1 : decide ((x7_2.length : Int) ≤ (l0.length : Int)) = true := decide_eq_true c42
                              clear c42
                              obtain ⟨y403, hy403⟩ : ∃ y_ : List Int, y_ = (l0.take ((x7_2.length : Int) : Int).toNat) := ⟨_, rfl⟩
                              replace H : ((churnlaw09_same.f x7_2 y403).bind fun t407 => (if t407 = true then (churnlaw09_TapeParts.j2 k2 l0 (decide ((wrap64 ((l0.length : Int) - (x7_2.length : Int))) ≥ a1)) t382 t385 t388) else (churnlaw09_TapeParts.j2 k2 l0 true t382 t385 t388))) = some r := by first | (rw [hy403]; with_reducible exact H) | (have H2_ := (Option.bind_some _ _).symm.trans H; rw [hy403]; with_reducible exact H2_) | (have H2_ := (Option.bind_some _ _).symm.trans H; with_reducible exact H2_) | with_reducible exact H | (rw [hy403]; exact H) | exact H
                              have Ny403 := Aside0.mk hy403
                              clear hy403
                              replace H := Option.bind_eq_some_iff.mp H
                              obtain ⟨t407, A430, H⟩ := H
                              replace H : (if t407 = true then (churnlaw09_TapeParts.j2 k2 l0 (decide ((wrap64 ((l0.length : Int) - (x7_2.length : Int))) ≥ a1)) t382 t385 t388) else (churnlaw09_TapeParts.j2 k2 l0 true t382 t385 t388)) = some r := H
                              have A43 := Aside0.mk A430
                              clear A430
                              by_cases c44 : t407 = true
                              · subst c44
                                have H1 : (churnlaw09_TapeParts.j2 k2 l0 (decide ((wrap64 ((l0.length : Int) - (x7_2.length : Int))) ≥ a1)) t382 t385 t388) = some r := by rw [if_pos rfl] at H; exact H
                                clear H
                                have H := H1
                                clear H1
                                have H' := Aside0.mk H
                                clear H
                                have hcz45_0 : wr.cell? ⟨gb392, 0, none⟩ = some (.slice Ao10 t382.length co10) := (blk_cell BK392.out 0).trans rfl
                                have hcz45_1 : wr.cell? ⟨gb392, 1, none⟩ = some (.slice Ao12 t385.length co12) := (blk_cell BK392.out 1).trans rfl
                                have hcz45_2 : wr.cell? ⟨gb392, 2, none⟩ = some (.slice Ao13 t388.length co13) := (blk_cell BK392.out 2).trans rfl
                                have hfz45_0 := blk_frozen BK392.out 0
                                have hfz45_1 := blk_frozen BK392.out 1
                                have hfz45_2 := blk_frozen BK392.out 2
                                obtain ⟨Ao46, co46, eo46⟩ := Kd.R_slice HO_7.out
                                subst eo46
                                have q47 : ((x7_2.length : Int) : Int) ≤ ((l0.length : Int) : Int) := of_decide_eq_true (by first | (with_reducible assumption) | assumption)
                                obtain ⟨i047, hi047, _, hsz47, _⟩ := info_parts info5
                                have hroom47 : l0.length ≤ c0 := HC0.out
                                have hC47 : Kd.C (Kd.int .u8) _ A0 l0.length l0 := HR0.out
                                have hcut47 := cut_to (P := Try.prog) 27 5 .i64 Try.underlying27 hi047 A0 l0.length c0 (x7_2.length : Int) (of_decide_eq_true (by first | (with_reducible assumption) | assumption)) q47 hroom47
                                have hr47 := Kd.C_take (m := ((x7_2.length : Int) : Int).toNat) hC47 (by omega)
                                have hy47 : y403.length = ((x7_2.length : Int) : Int).toNat := (by rw [Ny403.out, List.length_take]; omega)
                                rw [← Ny403.out] at hr47
                                rw [← hy47] at hcut47
                                have HR406 := Aside0.mk hr47
                                have HC406 := Aside0.mk (show y403.length ≤ c0 from by omega)
                                clear hr47 hC47 hroom47 hi047 hsz47
                                have KY47 := Aside0.mk hy47
                                clear hy47
                                replace q47 := eq_true q47
                                go_wp2_with (first | (go_at_call 10; (with_reducible refine (churnlaw09_same.calls _ _ x7_2 _ _ y403 true _ ?side1 ?side2 ?side3 ?side4 A43.out).mono ?_); (case side1 => repeat (first | exact (Kd.R_reads' HO_7.out).2.2 | (with_reducible refine Kd.C_alloc ?_ _) | (with_reducible refine Kd.C_drewN ?_ _) | (with_reducible refine Kd.C_drew ?_))); (case side2 => exact (Kd.R_reads' HO_7.out).2.1); (case side3 => repeat (first | exact (Kd.C_below HR406.out HB.out) | (with_reducible refine Kd.C_alloc ?_ _) | (with_reducible refine Kd.C_drewN ?_ _) | (with_reducible refine Kd.C_drew ?_))); (case side4 => exact HC406.out); rintro e w' ⟨rfl, ⟨nd, rfl⟩⟩))
                                go_meet
                                case rel => exact ⟨_, (decide ((wrap64 ((l0.length : Int) - (x7_2.length : Int))) ≥ a1)), (by first | rfl | (simp; done) | (simp [*]; done)), H', ⟨by have := HJ5.out; have := HK2.out; first | omega | exact Nat.le_refl _⟩, ⟨by (with_reducible repeat (first | apply Kd.R_alloc | apply Kd.R_drewN | apply Kd.R_drew)); exact Kd.R_mono HO_393000.out (fun _ hk => hk.2)⟩, ⟨by (with_reducible repeat (first | apply Kd.R_alloc | apply Kd.R_drewN | apply Kd.R_drew)); exact Kd.R_mono HO_393001.out (fun _ hk => hk.2)⟩, ⟨by (with_reducible repeat (first | apply Kd.N_alloc | apply Kd.N_drewN | apply Kd.N_drew)); exact Kd.N_mono HO_393002.out (fun _ hk => ⟨hk.2.2.1, ⟨hk.2.2.2.1, hk.2.2.2.2⟩⟩)⟩, ⟨by (with_reducible repeat (first | refine blk_drewN ?_ _ | refine blk_drew ?_ | refine blk_alloc ?_ _)); exact BK392.out⟩, ⟨by repeat (first | (with_reducible first | exact HB.out | apply below_alloc | apply pw_below_drewN | apply below_drew1 | refine below_set ?_ GE392.out) | exact HB.out)⟩⟩
                              · replace c44 := Bool.eq_false_iff.mpr c44
                                subst c44
                                have H1 : (churnlaw09_TapeParts.j2 k2 l0 true t382 t385 t388) = some r := by rw [if_neg (show ¬ (false = true) by decide)] at H; exact H
                                clear H
                                have H := H1
                                clear H1
                                have H' := Aside0.mk H
                                clear H
                                have hcz48_0 : wr.cell? ⟨gb392, 0, none⟩ = some (.slice Ao10 t382.length co10) := (blk_cell BK392.out 0).trans rfl
                                have hcz48_1 : wr.cell? ⟨gb392, 1, none⟩ = some (.slice Ao12 t385.length co12) := (blk_cell BK392.out 1).trans rfl
                                have hcz48_2 : wr.cell? ⟨gb392, 2, none⟩ = some (.slice Ao13 t388.length co13) := (blk_cell BK392.out 2).trans rfl
                                have hfz48_0 := blk_frozen BK392.out 0
                                have hfz48_1 := blk_frozen BK392.out 1
                                have hfz48_2 := blk_frozen BK392.out 2
                                obtain ⟨Ao49, co49, eo49⟩ := Kd.R_slice HO_7.out
                                subst eo49
                                have q50 : ((x7_2.length : Int) : Int) ≤ ((l0.length : Int) : Int) := of_decide_eq_true (by first | (with_reducible assumption) | assumption)
                                obtain ⟨i050, hi050, _, hsz50, _⟩ := info_parts info5
                                have hroom50 : l0.length ≤ c0 := HC0.out
                                have hC50 : Kd.C (Kd.int .u8) _ A0 l0.length l0 := HR0.out
                                have hcut50 := cut_to (P := Try.prog) 27 5 .i64 Try.underlying27 hi050 A0 l0.length c0 (x7_2.length : Int) (of_decide_eq_true (by first | (with_reducible assumption) | assumption)) q50 hroom50
                                have hr50 := Kd.C_take (m := ((x7_2.length : Int) : Int).toNat) hC50 (by omega)
                                have hy50 : y403.length = ((x7_2.length : Int) : Int).toNat := (by rw [Ny403.out, List.length_take]; omega)
                                rw [← Ny403.out] at hr50
                                rw [← hy50] at hcut50
                                have HR406 := Aside0.mk hr50
                                have HC406 := Aside0.mk (show y403.length ≤ c0 from by omega)
                                clear hr50 hC50 hroom50 hi050 hsz50
                                have KY50 := Aside0.mk hy50
                                clear hy50
                                replace q50 := eq_true q50
                                go_wp2_with (first | (go_at_call 10; (with_reducible refine (churnlaw09_same.calls _ _ x7_2 _ _ y403 false _ ?side1 ?side2 ?side3 ?side4 A43.out).mono ?_); (case side1 => repeat (first | exact (Kd.R_reads' HO_7.out).2.2 | (with_reducible refine Kd.C_alloc ?_ _) | (with_reducible refine Kd.C_drewN ?_ _) | (with_reducible refine Kd.C_drew ?_))); (case side2 => exact (Kd.R_reads' HO_7.out).2.1); (case side3 => repeat (first | exact (Kd.C_below HR406.out HB.out) | (with_reducible refine Kd.C_alloc ?_ _) | (with_reducible refine Kd.C_drewN ?_ _) | (with_reducible refine Kd.C_drew ?_))); (case side4 => exact HC406.out); rintro e w' ⟨rfl, ⟨nd, rfl⟩⟩))
                                go_meet
                                case rel => exact ⟨_, (true), (by first | rfl | (simp; done) | (simp [*]; done)), H', ⟨by have := HJ5.out; have := HK2.out; first | omega | exact Nat.le_refl _⟩, ⟨by (with_reducible repeat (first | apply Kd.R_alloc | apply Kd.R_drewN | apply Kd.R_drew)); exact Kd.R_mono HO_393000.out (fun _ hk => hk.2)⟩, ⟨by (with_reducible repeat (first | apply Kd.R_alloc | apply Kd.R_drewN | apply Kd.R_drew)); exact Kd.R_mono HO_393001.out (fun _ hk => hk.2)⟩, ⟨by (with_reducible repeat (first | apply Kd.N_alloc | apply Kd.N_drewN | apply Kd.N_drew)); exact Kd.N_mono HO_393002.out (fun _ hk => ⟨hk.2.2.1, ⟨hk.2.2.2.1, hk.2.2.2.2⟩⟩)⟩, ⟨by (with_reducible repeat (first | refine blk_drewN ?_ _ | refine blk_drew ?_ | refine blk_alloc ?_ _)); exact BK392.out⟩, ⟨by repeat (first | (with_reducible first | exact HB.out | apply below_alloc | apply pw_below_drewN | apply below_drew1 | refine below_set ?_ GE392.out) | exact HB.out)⟩⟩
                            · rw [if_neg c42] at H
                              exact absurd H (by simp)
                          · rw [if_neg c41] at H
                            exact absurd H (by simp)
                      · rw [if_neg c37] at H
                        have c37b0 : ((t388.length : Int) == a1) = false := beq_eq_false_iff_ne.mpr c37
                        have c37b1 : ((t388.length : Int) != a1) = true := bne_iff_ne.mpr c37
                        have H' := Aside0.mk H
                        clear H
                        have hcz51_0 : wr.cell? ⟨gb392, 0, none⟩ = some (.slice Ao10 t382.length co10) := (blk_cell BK392.out 0).trans rfl
                        have hcz51_1 : wr.cell? ⟨gb392, 1, none⟩ = some (.slice Ao12 t385.length co12) := (blk_cell BK392.out 1).trans rfl
                        have hcz51_2 : wr.cell? ⟨gb392, 2, none⟩ = some (.slice Ao13 t388.length co13) := (blk_cell BK392.out 2).trans rfl
                        have hfz51_0 := blk_frozen BK392.out 0
                        have hfz51_1 := blk_frozen BK392.out 1
                        have hfz51_2 := blk_frozen BK392.out 2
                        go_wp2
                        go_meet
                        case rel => exact ⟨_, (true), (by first | rfl | (simp; done) | (simp [*]; done)), H', ⟨by have := HJ5.out; have := HK2.out; first | omega | exact Nat.le_refl _⟩, ⟨by (with_reducible repeat (first | apply Kd.R_alloc | apply Kd.R_drewN | apply Kd.R_drew)); exact Kd.R_mono HO_393000.out (fun _ hk => hk.2)⟩, ⟨by (with_reducible repeat (first | apply Kd.R_alloc | apply Kd.R_drewN | apply Kd.R_drew)); exact Kd.R_mono HO_393001.out (fun _ hk => hk.2)⟩, ⟨by (with_reducible repeat (first | apply Kd.N_alloc | apply Kd.N_drewN | apply Kd.N_drew)); exact Kd.N_mono HO_393002.out (fun _ hk => ⟨hk.2.2.1, ⟨hk.2.2.2.1, hk.2.2.2.2⟩⟩)⟩, ⟨by (with_reducible repeat (first | refine blk_drewN ?_ _ | refine blk_drew ?_ | refine blk_alloc ?_ _)); exact BK392.out⟩, ⟨by repeat (first | (with_reducible first | exact HB.out | apply below_alloc | apply pw_below_drewN | apply below_drew1 | refine below_set ?_ GE392.out) | exact HB.out)⟩⟩
                    · rw [if_neg c36] at H
                      have c36b0 : (t391 == 0) = false := beq_eq_false_iff_ne.mpr c36
                      have c36b1 : (t391 != 0) = true := bne_iff_ne.mpr c36
                      (first | rw [c36b0] | (simp only [i64_w, i32_w]; rw [c36b0]) | skip)
                      have H' := Aside0.mk H
                      clear H
                      go_wp2
                      go_meet
                      case rel => exact ⟨_, (true), (by first | rfl | (simp; done) | (simp [*]; done)), H', ⟨by have := HJ5.out; have := HK2.out; first | omega | exact Nat.le_refl _⟩, ⟨by (with_reducible repeat (first | apply Kd.R_alloc | apply Kd.R_drewN | apply Kd.R_drew)); exact Kd.R_mono HO_393000.out (fun _ hk => hk.2)⟩, ⟨by (with_reducible repeat (first | apply Kd.R_alloc | apply Kd.R_drewN | apply Kd.R_drew)); exact Kd.R_mono HO_393001.out (fun _ hk => hk.2)⟩, ⟨by (with_reducible repeat (first | apply Kd.N_alloc | apply Kd.N_drewN | apply Kd.N_drew)); exact Kd.N_mono HO_393002.out (fun _ hk => ⟨hk.2.2.1, ⟨hk.2.2.2.1, hk.2.2.2.2⟩⟩)⟩, ⟨by (with_reducible repeat (first | refine blk_drewN ?_ _ | refine blk_drew ?_ | refine blk_alloc ?_ _)); exact BK392.out⟩, ⟨by repeat (first | (with_reducible first | exact HB.out | apply below_alloc | apply pw_below_drewN | apply below_drew1 | refine below_set ?_ GE392.out) | exact HB.out)⟩⟩
                  case rest =>
                    clear HC35
                    try clear c1
                    try clear c2
                    try clear p2
                    try clear c3
                    try clear p3
                    try clear q3
                    try clear hx3
                    try clear c4
                    try clear q4
                    try clear q5
                    try clear c6
                    try clear p6
                    try clear c7
                    try clear c14
                    try clear c14b0
                    try clear c15
                    try clear c16
                    try clear c16b0
                    try clear c16b1
                    try clear c18
                    try clear c21
                    try clear c21b0
                    try clear c21b1
                    try clear c22
                    try clear c22b0
                    try clear c22b1
                    try clear c23
                    try clear c23b0
                    try clear c23b1
                    try clear c23b2
                    try clear c30
                    try clear c30b0
                    try clear c31
                    try clear c31b0
                    try clear c32
                    try clear c32b0
                    try clear c33
                    try clear c36
                    try clear c36b0
                    try clear c36b1
                    try clear c37
                    try clear c37b0
                    try clear c37b1
                    try clear c38
                    try clear c38b0
                    try clear c38b1
                    try clear c39
                    try clear p39
                    try clear q39
                    try clear hx39
                    try clear c41
                    try clear c41b0
                    try clear c41b1
                    try clear c42
                    try clear c42b0
                    try clear c42b1
                    try clear c44
                    try clear q47
                    try clear q50
                    try clear hcz11_0
                    try clear hcz11_1
                    try clear hcz11_2
                    try clear hcz18_0
                    try clear hcz18_1
                    try clear hcz18_2
                    try clear hcz24_0
                    try clear hcz24_1
                    try clear hcz24_2
                    try clear hcz25_0
                    try clear hcz25_1
                    try clear hcz25_2
                    try clear hcz27_0
                    try clear hcz27_1
                    try clear hcz27_2
                    try clear hcz39_0
                    try clear hcz39_1
                    try clear hcz39_2
                    try clear hcz45_0
                    try clear hcz45_1
                    try clear hcz45_2
                    try clear hcz48_0
                    try clear hcz48_1
                    try clear hcz48_2
                    try clear hcz51_0
                    try clear hcz51_1
                    try clear hcz51_2
                    try clear hfz11_0
                    try clear hfz11_1
                    try clear hfz11_2
                    try clear hfz18_0
                    try clear hfz18_1
                    try clear hfz18_2
                    try clear hfz24_0
                    try clear hfz24_1
                    try clear hfz24_2
                    try clear hfz25_0
                    try clear hfz25_1
                    try clear hfz25_2
                    try clear hfz27_0
                    try clear hfz27_1
                    try clear hfz27_2
                    try clear hfz39_0
                    try clear hfz39_1
                    try clear hfz39_2
                    try clear hfz45_0
                    try clear hfz45_1
                    try clear hfz45_2
                    try clear hfz48_0
                    try clear hfz48_1
                    try clear hfz48_2
                    try clear hfz51_0
                    try clear hfz51_1
                    try clear hfz51_2
                    try clear hx399_0
                    try clear p2
                    try clear p399
                    try clear q399
                    try clear q47
                    try clear q50
                    obtain ⟨kq, x95_34, rfl, HA, HJ34, HO_393000, HO_393001, HO_393002, BK392, HB⟩ := hcut
                    cases kq with
                    | zero => exact absurd HA.out (by simp [churnlaw09_TapeParts.j2])
                    | succ kj34 =>
                      have H := HA.out
                      clear HA
                      simp only [churnlaw09_TapeParts.j2] at H
                      by_cases c52 : x95_34 = true
                      · subst c52
                        have H1 : (some false) = some r := by rw [if_pos rfl] at H; exact H
                        clear H
                        have H := H1
                        clear H1
                        obtain rfl := Option.some.inj H
                        go_wp2
                        go_ret
                        exact ⟨by first | rfl | (simp [errW_none, errW_some] <;> rfl) | (simp [*, errW_none, errW_some] <;> rfl), by repeat (first | (with_reducible first | exact HB.out | apply below_alloc | apply pw_below_drewN | apply below_drew1 | refine below_set ?_ GE392.out) | exact HB.out)⟩
                      · replace c52 := Bool.eq_false_iff.mpr c52
                        subst c52
                        have H1 : (churnlaw09_TapeParts.l1 kj34 l0 t388 (t388.length : Int) 0 t382 t385 t388) = some r := by rw [if_neg (show ¬ (false = true) by decide)] at H; exact H
                        clear H
                        have H := H1
                        clear H1
                        have H' := Aside0.mk H
                        clear H
                        have hcz53_0 : wc.cell? ⟨gb392, 0, none⟩ = some (.slice Ao10 t382.length co10) := (blk_cell BK392.out 0).trans rfl
                        have hcz53_1 : wc.cell? ⟨gb392, 1, none⟩ = some (.slice Ao12 t385.length co12) := (blk_cell BK392.out 1).trans rfl
                        have hcz53_2 : wc.cell? ⟨gb392, 2, none⟩ = some (.slice Ao13 t388.length co13) := (blk_cell BK392.out 2).trans rfl
                        have hfz53_0 := blk_frozen BK392.out 0
                        have hfz53_1 := blk_frozen BK392.out 1
                        have hfz53_2 := blk_frozen BK392.out 2
                        go_wp2
                        go_loopg [99] kj34 (fun kq v99 w' => ∃ (x99_4 : Int), v99 = .int .i64 x99_4 ∧ Aside0 (churnlaw09_TapeParts.l1 kq l0 t388 (t388.length : Int) x99_4 t382 t385 t388 = some r) ∧ Aside0 (kq ≤ kj34) ∧ Aside0 (Kd.N (Kd.slice 5 (Kd.int .u8)) 27 w' w.heap.size (fun k_ => some k_ ≠ ((.slice Ao10 t382.length co10) : Value).ownBlock ∧ some k_ ≠ ((.slice Ao12 t385.length co12) : Value).ownBlock ∧ k_ ≠ gb392) (.slice Ao13 t388.length co13) t388) ∧ Aside0 (Kd.R (Kd.int .u8) 5 w' w.heap.size (fun k_ => some k_ ≠ ((.slice Ao12 t385.length co12) : Value).ownBlock) (.slice Ao10 t382.length co10) t382) ∧ Aside0 (Kd.R (Kd.int .u8) 5 w' w.heap.size (fun k_ => some k_ ≠ ((.slice Ao10 t382.length co10) : Value).ownBlock) (.slice Ao12 t385.length co12) t385) ∧ Aside0 (Kd.N (Kd.slice 5 (Kd.int .u8)) 27 w' w.heap.size (fun k_ => some k_ ≠ ((.slice Ao10 t382.length co10) : Value).ownBlock ∧ some k_ ≠ ((.slice Ao12 t385.length co12) : Value).ownBlock ∧ k_ ≠ gb392) (.slice Ao13 t388.length co13) t388) ∧ Aside0 (w'.heap[gb392]? = some (.cells #[(.slice Ao10 t382.length co10), (.slice Ao12 t385.length co12), (.slice Ao13 t388.length co13)] 50 (0, 0))) ∧ Aside0 (Below w.heap.size w w'))
                        case atStart => exact ⟨(0), (by first | rfl | (simp; done) | (simp [*]; done)), H', ⟨Nat.le_refl _⟩, ⟨by (with_reducible repeat (first | apply Kd.N_alloc | apply Kd.N_drewN | apply Kd.N_drew)); exact HO_393002.out⟩, ⟨by (with_reducible repeat (first | apply Kd.R_alloc | apply Kd.R_drewN | apply Kd.R_drew)); exact HO_393000.out⟩, ⟨by (with_reducible repeat (first | apply Kd.R_alloc | apply Kd.R_drewN | apply Kd.R_drew)); exact HO_393001.out⟩, ⟨by (with_reducible repeat (first | apply Kd.N_alloc | apply Kd.N_drewN | apply Kd.N_drew)); exact HO_393002.out⟩, ⟨by (with_reducible repeat (first | refine blk_drewN ?_ _ | refine blk_drew ?_ | refine blk_alloc ?_ _)); exact BK392.out⟩, ⟨by repeat (first | (with_reducible first | exact HB.out | apply below_alloc | apply pw_below_drewN | apply below_drew1 | refine below_set ?_ GE392.out) | exact HB.out)⟩⟩
                        case round =>
                          clear H'
                          try clear c1
                          try clear c2
                          try clear p2
                          try clear c3
                          try clear p3
                          try clear q3
                          try clear hx3
                          try clear c4
                          try clear q4
                          try clear c5
                          try clear q5
                          try clear c6
                          try clear p6
                          try clear c7
                          try clear c14
                          try clear c14b0
                          try clear c15
                          try clear c16
                          try clear c16b0
                          try clear c16b1
                          try clear c18
                          try clear c21
                          try clear c21b0
                          try clear c21b1
                          try clear c22
                          try clear c22b0
                          try clear c22b1
                          try clear c23
                          try clear c23b0
                          try clear c23b1
                          try clear c23b2
                          try clear c30
                          try clear c30b0
                          try clear c31
                          try clear c31b0
                          try clear c32
                          try clear c32b0
                          try clear c33
                          try clear c36
                          try clear c36b0
                          try clear c36b1
                          try clear c37
                          try clear c37b0
                          try clear c37b1
                          try clear c38
                          try clear c38b0
                          try clear c38b1
                          try clear c39
                          try clear p39
                          try clear q39
                          try clear hx39
                          try clear c41
                          try clear c41b0
                          try clear c41b1
                          try clear c42
                          try clear c42b0
                          try clear c42b1
                          try clear c44
                          try clear q47
                          try clear q50
                          try clear c52
                          try clear hcz11_0
                          try clear hcz11_1
                          try clear hcz11_2
                          try clear hcz18_0
                          try clear hcz18_1
                          try clear hcz18_2
                          try clear hcz24_0
                          try clear hcz24_1
                          try clear hcz24_2
                          try clear hcz25_0
                          try clear hcz25_1
                          try clear hcz25_2
                          try clear hcz27_0
                          try clear hcz27_1
                          try clear hcz27_2
                          try clear hcz39_0
                          try clear hcz39_1
                          try clear hcz39_2
                          try clear hcz45_0
                          try clear hcz45_1
                          try clear hcz45_2
                          try clear hcz48_0
                          try clear hcz48_1
                          try clear hcz48_2
                          try clear hcz51_0
                          try clear hcz51_1
                          try clear hcz51_2
                          try clear hcz53_0
                          try clear hcz53_1
                          try clear hcz53_2
                          try clear hfz11_0
                          try clear hfz11_1
                          try clear hfz11_2
                          try clear hfz18_0
                          try clear hfz18_1
                          try clear hfz18_2
                          try clear hfz24_0
                          try clear hfz24_1
                          try clear hfz24_2
                          try clear hfz25_0
                          try clear hfz25_1
                          try clear hfz25_2
                          try clear hfz27_0
                          try clear hfz27_1
                          try clear hfz27_2
                          try clear hfz39_0
                          try clear hfz39_1
                          try clear hfz39_2
                          try clear hfz45_0
                          try clear hfz45_1
                          try clear hfz45_2
                          try clear hfz48_0
                          try clear hfz48_1
                          try clear hfz48_2
                          try clear hfz51_0
                          try clear hfz51_1
                          try clear hfz51_2
                          try clear hfz53_0
                          try clear hfz53_1
                          try clear hfz53_2
                          try clear hx399_0
                          try clear p2
                          try clear p3
                          try clear p39
                          try clear p399
                          try clear p6
                          try clear q3
                          try clear q39
                          try clear q399
                          try clear q4
                          try clear q47
                          try clear q5
                          try clear q50
                          obtain ⟨x99_4, rfl, HA, HK4, HO_97, HO_393000, HO_393001, HO_393002, BK392, HB⟩ := hrel
                          cases gk with
                          | zero => exact absurd HA.out (by simp [churnlaw09_TapeParts.l1])
                          | succ k4 =>
                            have H := HA.out
                            clear HA
                            simp only [churnlaw09_TapeParts.l1] at H
                            by_cases c54 : x99_4 < (t388.length : Int)
                            · rw [if_pos c54] at H
                              have c54b0 : decide (x99_4 < (t388.length : Int)) = true := decide_eq_true c54
                              clear c54
                              by_cases c55 : 0 ≤ x99_4
                              · rw [if_pos c55] at H
                                have c55b0 : decide (0 ≤ x99_4) = true := decide_eq_true c55
                                clear c55
                                by_cases c56 : x99_4 < (t388.length : Int)
                                · rw [if_pos c56] at H
                                  have c56b0 : decide (x99_4 < (t388.length : Int)) = true := decide_eq_true c56
                                  clear c56
                                  by_cases c57 : 0 < (t388.length : Int)
                                  · rw [if_pos c57] at H
                                    have c57b0 : decide (0 < (t388.length : Int)) = true := decide_eq_true c57
                                    have c57b1 : decide (0 < t388.length) = true := decide_eq_true (by omega)
                                    clear c57
                                    by_cases c58 : ((rd_L2 t388 x99_4).length : Int) = ((rd_L2 t388 0).length : Int)
                                    · rw [if_pos c58] at H
                                      have c58b0 : (((rd_L2 t388 x99_4).length : Int) == ((rd_L2 t388 0).length : Int)) = true := beq_iff_eq.mpr c58
                                      have c58b1 : (((rd_L2 t388 x99_4).length : Int) != ((rd_L2 t388 0).length : Int)) = false := bne_eq_false_iff_eq.mpr c58
                                      have c58b2 : ((rd_L2 t388 x99_4).length == (rd_L2 t388 0).length) = true := by first | simpa using c58 | (simp at c58 ⊢; omega)
                                      clear c58
                                      have H' := Aside0.mk H
                                      clear H
                                      have p408 : 0 ≤ (x99_4 : Int) := of_decide_eq_true (by first | (with_reducible assumption) | assumption)
                                      have q408 : x99_4 < (t388.length : Int) := of_decide_eq_true (by first | (with_reducible assumption) | assumption)
                                      obtain ⟨ad408, A408_0, c408_0, e408, hx408_0, hl408_0, hi408_0⟩ := at_L2 (Kd.N_reads' HO_97.out).2.2 x99_4 p408 q408
                                      cases e408
                                      obtain ⟨ce408, hce408, hMe408, hcc408⟩ := Kd.N_get HO_97.out [] x99_4 p408 (by first | exact q408 | exact of_decide_eq_true (by first | (with_reducible assumption) | assumption) | (have e_ := (Kd.N_reads' HO_97.out).1; omega))
                                      obtain ⟨ua408_0, uc408_0, rfl, ul408_0, ge408_0⟩ := Kd.FK_slice_open hMe408
                                      have hv408_0 := hcc408 0 _ rfl
                                      rw [Nat.add_zero, show ((Kd.slice 5 (Kd.int .u8))).sz = 1 from rfl, Nat.mul_one] at hv408_0
                                      replace hv408_0 := Option.some.inj (hv408_0.symm.trans hx408_0)
                                      injection hv408_0 with hva_ hvn_ hvc_
                                      rw [hva_] at ge408_0
                                      rw [hvc_] at ul408_0
                                      have HL408_0 := Aside0.mk (show Kd.V (Kd.int .u8) 5 _ w.heap.size _ _ (rd_L2 t388 x99_4) from Kd.V_mk ul408_0 ge408_0)
                                      clear hva_ hvn_ hvc_ ge408_0 ul408_0
                                      clear hcc408 hce408
                                      have HR408_0 := Aside0.mk hi408_0
                                      have HC408_0 := Aside0.mk hl408_0
                                      clear hi408_0 hl408_0
                                      replace p408 := eq_true p408
                                      replace q408 := eq_true q408
                                      have hcz59_0 : wr.cell? ⟨gb392, 0, none⟩ = some (.slice Ao10 t382.length co10) := (blk_cell BK392.out 0).trans rfl
                                      have hcz59_1 : wr.cell? ⟨gb392, 1, none⟩ = some (.slice Ao12 t385.length co12) := (blk_cell BK392.out 1).trans rfl
                                      have hcz59_2 : wr.cell? ⟨gb392, 2, none⟩ = some (.slice (some ad408) t388.length co13) := (blk_cell BK392.out 2).trans rfl
                                      have hfz59_0 := blk_frozen BK392.out 0
                                      have hfz59_1 := blk_frozen BK392.out 1
                                      have hfz59_2 := blk_frozen BK392.out 2
                                      have p409 : 0 ≤ (0 : Int) := (by omega)
                                      have q409 : 0 < (t388.length : Int) := of_decide_eq_true (by first | (with_reducible assumption) | assumption)
                                      obtain ⟨ad409, A409_0, c409_0, e409, hx409_0, hl409_0, hi409_0⟩ := at_L2 (Kd.N_reads' HO_393002.out).2.2 0 p409 q409
                                      obtain rfl : ad408 = ad409 := (by injection e409)
                                      obtain ⟨ce409, hce409, hMe409, hcc409⟩ := Kd.N_get HO_393002.out [] 0 p409 (by first | exact q409 | exact of_decide_eq_true (by first | (with_reducible assumption) | assumption) | (have e_ := (Kd.N_reads' HO_393002.out).1; omega))
                                      obtain ⟨ua409_0, uc409_0, rfl, ul409_0, ge409_0⟩ := Kd.FK_slice_open hMe409
                                      have hv409_0 := hcc409 0 _ rfl
                                      rw [Nat.add_zero, show ((Kd.slice 5 (Kd.int .u8))).sz = 1 from rfl, Nat.mul_one] at hv409_0
                                      replace hv409_0 := Option.some.inj (hv409_0.symm.trans hx409_0)
                                      injection hv409_0 with hva_ hvn_ hvc_
                                      rw [hva_] at ge409_0
                                      rw [hvc_] at ul409_0
                                      have HL409_0 := Aside0.mk (show Kd.V (Kd.int .u8) 5 _ w.heap.size _ _ (rd_L2 t388 0) from Kd.V_mk ul409_0 ge409_0)
                                      clear hva_ hvn_ hvc_ ge409_0 ul409_0
                                      clear hcc409 hce409
                                      have qi409 : (0 < t388.length) = True := eq_true (by omega)
                                      (try rw [show ((0 : Int)).toNat = 0 from rfl] at hx409_0)
                                      (try rw [Addr.add_zero'] at hx409_0)
                                      have HR409_0 := Aside0.mk hi409_0
                                      have HC409_0 := Aside0.mk hl409_0
                                      clear hi409_0 hl409_0
                                      replace p409 := eq_true p409
                                      replace q409 := eq_true q409
                                      go_wp2
                                      go_roundg k4
                                      case measure => have := HJ5.out; have := HK2.out; have := HJ34.out; have := HK4.out; omega
                                      case rel => exact ⟨(wrap64 (x99_4 + 1)), (by first | rfl | (simp; done) | (simp [*]; done)), H', ⟨by have := HJ5.out; have := HK2.out; have := HJ34.out; have := HK4.out; omega⟩, ⟨by (with_reducible repeat (first | apply Kd.N_alloc | apply Kd.N_drewN | apply Kd.N_drew)); exact HO_97.out⟩, ⟨by (with_reducible repeat (first | apply Kd.R_alloc | apply Kd.R_drewN | apply Kd.R_drew)); exact HO_393000.out⟩, ⟨by (with_reducible repeat (first | apply Kd.R_alloc | apply Kd.R_drewN | apply Kd.R_drew)); exact HO_393001.out⟩, ⟨by (with_reducible repeat (first | apply Kd.N_alloc | apply Kd.N_drewN | apply Kd.N_drew)); exact HO_393002.out⟩, ⟨by (with_reducible repeat (first | refine blk_drewN ?_ _ | refine blk_drew ?_ | refine blk_alloc ?_ _)); exact BK392.out⟩, ⟨by repeat (first | (with_reducible first | exact HB.out | apply below_alloc | apply pw_below_drewN | apply below_drew1 | refine below_set ?_ GE392.out) | exact HB.out)⟩⟩
                                    · rw [if_neg c58] at H
                                      have c58b0 : (((rd_L2 t388 x99_4).length : Int) == ((rd_L2 t388 0).length : Int)) = false := beq_eq_false_iff_ne.mpr c58
                                      have c58b1 : (((rd_L2 t388 x99_4).length : Int) != ((rd_L2 t388 0).length : Int)) = true := bne_iff_ne.mpr c58
                                      have c58b2 : ((rd_L2 t388 x99_4).length == (rd_L2 t388 0).length) = false := by first | simpa using c58 | (simp at c58 ⊢; omega)
                                      obtain rfl := Option.some.inj H
                                      have p408 : 0 ≤ (x99_4 : Int) := of_decide_eq_true (by first | (with_reducible assumption) | assumption)
                                      have q408 : x99_4 < (t388.length : Int) := of_decide_eq_true (by first | (with_reducible assumption) | assumption)
                                      obtain ⟨ad408, A408_0, c408_0, e408, hx408_0, hl408_0, hi408_0⟩ := at_L2 (Kd.N_reads' HO_97.out).2.2 x99_4 p408 q408
                                      cases e408
                                      obtain ⟨ce408, hce408, hMe408, hcc408⟩ := Kd.N_get HO_97.out [] x99_4 p408 (by first | exact q408 | exact of_decide_eq_true (by first | (with_reducible assumption) | assumption) | (have e_ := (Kd.N_reads' HO_97.out).1; omega))
                                      obtain ⟨ua408_0, uc408_0, rfl, ul408_0, ge408_0⟩ := Kd.FK_slice_open hMe408
                                      have hv408_0 := hcc408 0 _ rfl
                                      rw [Nat.add_zero, show ((Kd.slice 5 (Kd.int .u8))).sz = 1 from rfl, Nat.mul_one] at hv408_0
                                      replace hv408_0 := Option.some.inj (hv408_0.symm.trans hx408_0)
                                      injection hv408_0 with hva_ hvn_ hvc_
                                      rw [hva_] at ge408_0
                                      rw [hvc_] at ul408_0
                                      have HL408_0 := Aside0.mk (show Kd.V (Kd.int .u8) 5 _ w.heap.size _ _ (rd_L2 t388 x99_4) from Kd.V_mk ul408_0 ge408_0)
                                      clear hva_ hvn_ hvc_ ge408_0 ul408_0
                                      clear hcc408 hce408
                                      have HR408_0 := Aside0.mk hi408_0
                                      have HC408_0 := Aside0.mk hl408_0
                                      clear hi408_0 hl408_0
                                      replace p408 := eq_true p408
                                      replace q408 := eq_true q408
                                      have hcz60_0 : wr.cell? ⟨gb392, 0, none⟩ = some (.slice Ao10 t382.length co10) := (blk_cell BK392.out 0).trans rfl
                                      have hcz60_1 : wr.cell? ⟨gb392, 1, none⟩ = some (.slice Ao12 t385.length co12) := (blk_cell BK392.out 1).trans rfl
                                      have hcz60_2 : wr.cell? ⟨gb392, 2, none⟩ = some (.slice (some ad408) t388.length co13) := (blk_cell BK392.out 2).trans rfl
                                      have hfz60_0 := blk_frozen BK392.out 0
                                      have hfz60_1 := blk_frozen BK392.out 1
                                      have hfz60_2 := blk_frozen BK392.out 2
                                      have p409 : 0 ≤ (0 : Int) := (by omega)
                                      have q409 : 0 < (t388.length : Int) := of_decide_eq_true (by first | (with_reducible assumption) | assumption)
                                      obtain ⟨ad409, A409_0, c409_0, e409, hx409_0, hl409_0, hi409_0⟩ := at_L2 (Kd.N_reads' HO_393002.out).2.2 0 p409 q409
                                      obtain rfl : ad408 = ad409 := (by injection e409)
                                      obtain ⟨ce409, hce409, hMe409, hcc409⟩ := Kd.N_get HO_393002.out [] 0 p409 (by first | exact q409 | exact of_decide_eq_true (by first | (with_reducible assumption) | assumption) | (have e_ := (Kd.N_reads' HO_393002.out).1; omega))
                                      obtain ⟨ua409_0, uc409_0, rfl, ul409_0, ge409_0⟩ := Kd.FK_slice_open hMe409
                                      have hv409_0 := hcc409 0 _ rfl
                                      rw [Nat.add_zero, show ((Kd.slice 5 (Kd.int .u8))).sz = 1 from rfl, Nat.mul_one] at hv409_0
                                      replace hv409_0 := Option.some.inj (hv409_0.symm.trans hx409_0)
                                      injection hv409_0 with hva_ hvn_ hvc_
                                      rw [hva_] at ge409_0
                                      rw [hvc_] at ul409_0
                                      have HL409_0 := Aside0.mk (show Kd.V (Kd.int .u8) 5 _ w.heap.size _ _ (rd_L2 t388 0) from Kd.V_mk ul409_0 ge409_0)
                                      clear hva_ hvn_ hvc_ ge409_0 ul409_0
                                      clear hcc409 hce409
                                      have qi409 : (0 < t388.length) = True := eq_true (by omega)
                                      (try rw [show ((0 : Int)).toNat = 0 from rfl] at hx409_0)
                                      (try rw [Addr.add_zero'] at hx409_0)
                                      have HR409_0 := Aside0.mk hi409_0
                                      have HC409_0 := Aside0.mk hl409_0
                                      clear hi409_0 hl409_0
                                      replace p409 := eq_true p409
                                      replace q409 := eq_true q409
                                      go_wp2
                                      go_ret
                                      exact ⟨by first | rfl | (simp [errW_none, errW_some] <;> rfl) | (simp [*, errW_none, errW_some] <;> rfl), by repeat (first | (with_reducible first | exact HB.out | apply below_alloc | apply pw_below_drewN | apply below_drew1 | refine below_set ?_ GE392.out) | exact HB.out)⟩
                                  · rw [if_neg c57] at H
                                    exact absurd H (by simp)
                                · rw [if_neg c56] at H
                                  exact absurd H (by simp)
                              · rw [if_neg c55] at H
                                exact absurd H (by simp)
                            · rw [if_neg c54] at H
                              have c54b0 : decide (x99_4 < (t388.length : Int)) = false := decide_eq_false c54
                              clear c54
                              by_cases c61 : (t382.length : Int) = 18
                              · rw [if_pos c61] at H
                                have c61b0 : ((t382.length : Int) == 18) = true := beq_iff_eq.mpr c61
                                have c61b1 : ((t382.length : Int) != 18) = false := bne_eq_false_iff_eq.mpr c61
                                clear c61
                                obtain rfl := Option.some.inj H
                                have hcz62_0 : wr.cell? ⟨gb392, 0, none⟩ = some (.slice Ao10 t382.length co10) := (blk_cell BK392.out 0).trans rfl
                                have hcz62_1 : wr.cell? ⟨gb392, 1, none⟩ = some (.slice Ao12 t385.length co12) := (blk_cell BK392.out 1).trans rfl
                                have hcz62_2 : wr.cell? ⟨gb392, 2, none⟩ = some (.slice Ao13 t388.length co13) := (blk_cell BK392.out 2).trans rfl
                                have hfz62_0 := blk_frozen BK392.out 0
                                have hfz62_1 := blk_frozen BK392.out 1
                                have hfz62_2 := blk_frozen BK392.out 2
                                go_wp2
                                go_ret
                                exact ⟨by first | rfl | (simp [errW_none, errW_some] <;> rfl) | (simp [*, errW_none, errW_some] <;> rfl), by repeat (first | (with_reducible first | exact HB.out | apply below_alloc | apply pw_below_drewN | apply below_drew1 | refine below_set ?_ GE392.out) | exact HB.out)⟩
                              · rw [if_neg c61] at H
                                have c61b0 : ((t382.length : Int) == 18) = false := beq_eq_false_iff_ne.mpr c61
                                have c61b1 : ((t382.length : Int) != 18) = true := bne_iff_ne.mpr c61
                                obtain rfl := Option.some.inj H
                                have hcz63_0 : wr.cell? ⟨gb392, 0, none⟩ = some (.slice Ao10 t382.length co10) := (blk_cell BK392.out 0).trans rfl
                                have hcz63_1 : wr.cell? ⟨gb392, 1, none⟩ = some (.slice Ao12 t385.length co12) := (blk_cell BK392.out 1).trans rfl
                                have hcz63_2 : wr.cell? ⟨gb392, 2, none⟩ = some (.slice Ao13 t388.length co13) := (blk_cell BK392.out 2).trans rfl
                                have hfz63_0 := blk_frozen BK392.out 0
                                have hfz63_1 := blk_frozen BK392.out 1
                                have hfz63_2 := blk_frozen BK392.out 2
                                go_wp2
                                go_ret
                                exact ⟨by first | rfl | (simp [errW_none, errW_some] <;> rfl) | (simp [*, errW_none, errW_some] <;> rfl), by repeat (first | (with_reducible first | exact HB.out | apply below_alloc | apply pw_below_drewN | apply below_drew1 | refine below_set ?_ GE392.out) | exact HB.out)⟩
  · replace c4 := Bool.eq_false_iff.mpr c4
    subst c4
    have H1 : (some false) = some r := by rw [if_neg (show ¬ (false = true) by decide)] at H; exact H
    clear H
    have H := H1
    clear H1
    obtain rfl := Option.some.inj H
    go_enter Try.func6, Try.ntmps6
    go_wp2_with (first | ((with_reducible refine gate_callee (f := 7) rfl ?_); refine goesL_ (some 12) rfl rfl Try.func7 (by kernel_rfl) rfl #[] rfl (by (try simp only [List.map_toArray, List.map_cons, List.map_nil]); first | done | rfl | (simp only [List.length_drop, List.length_take]; rfl)) ?_; (with_reducible refine (churnlaw09_awake.calls  false _ A3.out).mono ?_); rintro e w64 ⟨rfl, hb⟩; refine ⟨_, rfl, ?_⟩; have n0_ := Aside0.mk (below_step (by repeat (first | (with_reducible first | exact HB.out | apply below_alloc | apply pw_below_drewN | apply below_drew1) | exact HB.out)) hb); clear HB; have HB := n0_; clear n0_; (try clear hb); (try clear hb2); (try clear hk); (try clear hi)))
    go_ret
    exact ⟨by first | rfl | (simp [errW_none, errW_some] <;> rfl) | (simp [*, errW_none, errW_some] <;> rfl), by repeat (first | (with_reducible first | exact HB.out | apply below_alloc | apply pw_below_drewN | apply below_drew1) | exact HB.out)⟩

/-- THE ONE PURE STATEMENT of churnlaw09_TapeParts: yours. -/
def churnlaw09_TapeParts.Pure : Prop := ∀ (l0 : List Int) (a1 : Int), l0.length ≤ maxLen → l0.length * 1 ≤ 140737488351232 → (∀ x ∈ l0, (Lit.int .u8 x).wf = true) → (Lit.int .i64 a1).wf = true → ∃ k, churnlaw09_TapeParts.f k l0 a1 = some true
theorem churnlaw09_TapeParts.walk (P : churnlaw09_TapeParts.Pure) (a0 : Option Addr) (len0 cap0 : Nat) (z0 : List Int) (a1 : Int) (w : World) (w0 : (a0 = none ∧ len0 = 0 ∧ cap0 = 0 ∧ z0 = []) ∨ ∃ x, a0 = some x ∧ len0 ≤ cap0 ∧ cap0 ≤ maxLen ∧ z0.length = cap0 ∧ (∀ i, i < z0.length → w.cell? (x.add i) = some (.int .u8 (z0.getD i 0))) ∧ ∀ n ∈ z0, (Lit.int .u8 n).wf = true) (y0 : len0 * 1 ≤ 140737488351232) (w1 : (Lit.int .i64 a1).wf = true) :
    Calls Try.prog 6 #[.slice a0 len0 cap0, .int .i64 a1] w fun e w' => e = .returned (.bool true) ∧ Below w.heap.size w w' := by
  obtain ⟨l0, rfl, hr0, hm0, hw0, hc0⟩ := ReadsInt.ofRowC w0
  obtain ⟨k, h⟩ := P l0 a1 hm0 y0 hw0 w1
  refine (churnlaw09_TapeParts.calls k _ _ l0 a1 true w (Kd.C_of_reads (d := (0 : Int)) (h1 := fun _ => rfl) hr0) hc0 h).mono ?_
  rintro e w' ⟨rfl, hd⟩
  exact ⟨rfl, hd⟩

end Go.Proofs.Ytangepklgeikkaa.Q
