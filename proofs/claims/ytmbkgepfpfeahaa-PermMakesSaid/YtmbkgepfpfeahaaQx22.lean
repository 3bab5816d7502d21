/- Functions of the program as plain Lean functions, each with a proof that its call comes to just these answers, or the row that joins them to the given statement; no condition beside the statement's own. Written for this claim by pf.py, this session's program over the kit's print. -/
import Derived.Test.YtmbkgepfpfeahaaQx0
import Derived.Test.YtmbkgepfpfeahaaQx1
import Derived.Test.YtmbkgepfpfeahaaQx2
import Derived.Test.YtmbkgepfpfeahaaQx3
import Derived.Test.YtmbkgepfpfeahaaQx4
import Derived.Test.YtmbkgepfpfeahaaQx14
import Derived.Test.YtmbkgepfpfeahaaQx15
import Derived.Test.YtmbkgepfpfeahaaQx17
import Derived.Test.YtmbkgepfpfeahaaQx18
import Derived.Test.YtmbkgepfpfeahaaQx20
import Derived.Test.YtmbkgepfpfeahaaQx21
namespace Go.Proofs.Ytmbkgepfpfeahaa.Q
open Go.RowKit Go.Proofs.YtmbkgepfpfeahaaW.PrintWords Go.Proofs.YtmbkgepfpfeahaaW.PrintLast Go.Proofs.YtmbkgepfpfeahaaW.PrintMore
attribute [local go_sem] max2_int min2_int max_two min_two max_three min_three max_four min_four   -- for this text's walks alone
set_option linter.unusedVariables false
set_option linter.unusedSimpArgs false

/-! ### churnlaw11_PermMakes: function 4 -/
def churnlaw11_PermMakes.j0 : Nat → Int → Bool → Option (Bool)
  | 0, _, _ => none
  | k + 1, x0, x56 => if x56 = true then (some false) else (if x0 > 5000 then (some true) else ((perm_Identity.f k x0).bind fun t276 => ((churnref11_Identity.f k x0).bind fun t279 => ((churnlaw11_same.f k t276 t279).bind fun t282 => (if t282 = true then ((perm_Bounds.f k x0).bind fun t283 => ((churnref11_Bounds.f k x0).bind fun t286 => ((churnlaw11_same.f k t283 t286).bind fun t289 => (some t289)))) else (some false))))))
def churnlaw11_PermMakes.f (k : Nat) (a0 : Int) (l1 : List Int) : Option (Bool) := (churnlaw11_awake.f k).bind fun t257 => (if t257 = true then ((churnref11_From.f k a0 l1).bind fun bt258 => ((churnref11_Unrank.f k l1).bind fun bt262 => ((perm_From.f k a0 l1).bind fun bt266 => ((perm_Unrank.f k l1).bind fun bt270 => (if bt266.2 = bt258.2 then (if bt270.2 = bt262.2 then ((churnlaw11_same.f k bt266.1 bt258.1).bind fun t274 => (if t274 = true then ((churnlaw11_same.f k bt270.1 bt262.1).bind fun t275 => (churnlaw11_PermMakes.j0 k a0 (!t275))) else (churnlaw11_PermMakes.j0 k a0 true))) else (churnlaw11_PermMakes.j0 k a0 true)) else (churnlaw11_PermMakes.j0 k a0 true)))))) else (some false))
theorem churnlaw11_PermMakes.mono_l : ∀ k, (∀ y0 y1, LeO (churnlaw11_PermMakes.j0 k y0 y1) (churnlaw11_PermMakes.j0 (k + 1) y0 y1))
  | 0 => fun _ _ r h => by simp [churnlaw11_PermMakes.j0] at h
  | k + 1 => by
    have ih0 := churnlaw11_PermMakes.mono_l k
    · intro y0 y1
      unfold churnlaw11_PermMakes.j0
      repeat' first
      | (with_reducible exact ih0 _ _)
      | (with_reducible exact churnlaw11_awake.mono _)
      | (with_reducible exact churnlaw11_same.mono _ _ _)
      | (with_reducible exact churnref11_Bounds.mono _ _)
      | (with_reducible exact churnref11_From.mono _ _ _)
      | (with_reducible exact churnref11_Identity.mono _ _)
      | (with_reducible exact churnref11_Unrank.mono _ _)
      | (with_reducible exact perm_Bounds.mono _ _)
      | (with_reducible exact perm_From.mono _ _ _)
      | (with_reducible exact perm_Identity.mono _ _)
      | (with_reducible exact perm_Unrank.mono _ _)
      | (with_reducible exact LeO.refl _)
      | (with_reducible exact LeO.none _)
      | (with_reducible refine LeO.ite ?_ ?_)
      | (with_reducible refine LeO.bind ?_ (fun _ => ?_))
      | exact ih0 _ _
      | exact churnlaw11_awake.mono _
      | exact churnlaw11_same.mono _ _ _
      | exact churnref11_Bounds.mono _ _
      | exact churnref11_From.mono _ _ _
      | exact churnref11_Identity.mono _ _
      | exact churnref11_Unrank.mono _ _
      | exact perm_Bounds.mono _ _
      | exact perm_From.mono _ _ _
      | exact perm_Identity.mono _ _
      | exact perm_Unrank.mono _ _
      | exact LeO.none _
      | refine LeO.ite ?_ ?_
      | refine LeO.bind ?_ (fun _ => ?_)
theorem churnlaw11_PermMakes.mono : ∀ a0 a1 k, LeO (churnlaw11_PermMakes.f k a0 a1) (churnlaw11_PermMakes.f (k + 1) a0 a1) := by
  intro a0 a1 k
  have ih0 := churnlaw11_PermMakes.mono_l k
  unfold churnlaw11_PermMakes.f
  repeat' first
      | (with_reducible exact ih0 _ _)
      | (with_reducible exact churnlaw11_awake.mono _)
      | (with_reducible exact churnlaw11_same.mono _ _ _)
      | (with_reducible exact churnref11_Bounds.mono _ _)
      | (with_reducible exact churnref11_From.mono _ _ _)
      | (with_reducible exact churnref11_Identity.mono _ _)
      | (with_reducible exact churnref11_Unrank.mono _ _)
      | (with_reducible exact perm_Bounds.mono _ _)
      | (with_reducible exact perm_From.mono _ _ _)
      | (with_reducible exact perm_Identity.mono _ _)
      | (with_reducible exact perm_Unrank.mono _ _)
      | (with_reducible exact LeO.refl _)
      | (with_reducible exact LeO.none _)
      | (with_reducible refine LeO.ite ?_ ?_)
      | (with_reducible refine LeO.bind ?_ (fun _ => ?_))
      | exact ih0 _ _
      | exact churnlaw11_awake.mono _
      | exact churnlaw11_same.mono _ _ _
      | exact churnref11_Bounds.mono _ _
      | exact churnref11_From.mono _ _ _
      | exact churnref11_Identity.mono _ _
      | exact churnref11_Unrank.mono _ _
      | exact perm_Bounds.mono _ _
      | exact perm_From.mono _ _ _
      | exact perm_Identity.mono _ _
      | exact perm_Unrank.mono _ _
      | exact LeO.none _
      | refine LeO.ite ?_ ?_
      | refine LeO.bind ?_ (fun _ => ?_)
set_option maxHeartbeats 8000000 in
set_option maxRecDepth 100000 in
theorem churnlaw11_PermMakes.calls (k : Nat) (a0 : Int) (A1 : Option Addr) (c1 : Nat) (l1 : List Int) (r : Bool) (w : World) (hr1 : Kd.C (Kd.int .i64) w A1 l1.length l1) (hc1 : l1.length ≤ c1) (h : churnlaw11_PermMakes.f k a0 l1 = some r) :
    Calls Try.prog 4 #[.int .i64 a0, .slice A1 l1.length c1] w fun e w' => e = .returned (.bool r) ∧ Below w.heap.size w w' := by
  have HR1 := Aside0.mk hr1
  have HC1 := Aside0.mk hc1
  clear hr1 hc1
  have HB := Aside0.mk (Below.refl w.heap.size w)
  have H : ((churnlaw11_awake.f k).bind fun t257 => (if t257 = true then ((churnref11_From.f k a0 l1).bind fun bt258 => ((churnref11_Unrank.f k l1).bind fun bt262 => ((perm_From.f k a0 l1).bind fun bt266 => ((perm_Unrank.f k l1).bind fun bt270 => (if bt266.2 = bt258.2 then (if bt270.2 = bt262.2 then ((churnlaw11_same.f k bt266.1 bt258.1).bind fun t274 => (if t274 = true then ((churnlaw11_same.f k bt270.1 bt262.1).bind fun t275 => (churnlaw11_PermMakes.j0 k a0 (!t275))) else (churnlaw11_PermMakes.j0 k a0 true))) else (churnlaw11_PermMakes.j0 k a0 true)) else (churnlaw11_PermMakes.j0 k a0 true)))))) else (some false))) = some r := h
  clear h
  replace H := Option.bind_eq_some_iff.mp H
  obtain ⟨t257, A30, H⟩ := H
  replace H : (if t257 = true then ((churnref11_From.f k a0 l1).bind fun bt258 => ((churnref11_Unrank.f k l1).bind fun bt262 => ((perm_From.f k a0 l1).bind fun bt266 => ((perm_Unrank.f k l1).bind fun bt270 => (if bt266.2 = bt258.2 then (if bt270.2 = bt262.2 then ((churnlaw11_same.f k bt266.1 bt258.1).bind fun t274 => (if t274 = true then ((churnlaw11_same.f k bt270.1 bt262.1).bind fun t275 => (churnlaw11_PermMakes.j0 k a0 (!t275))) else (churnlaw11_PermMakes.j0 k a0 true))) else (churnlaw11_PermMakes.j0 k a0 true)) else (churnlaw11_PermMakes.j0 k a0 true)))))) else (some false)) = some r := H
  have A3 := Aside0.mk A30
  clear A30
  by_cases c4 : t257 = true
  · subst c4
    have H1 : ((churnref11_From.f k a0 l1).bind fun bt258 => ((churnref11_Unrank.f k l1).bind fun bt262 => ((perm_From.f k a0 l1).bind fun bt266 => ((perm_Unrank.f k l1).bind fun bt270 => (if bt266.2 = bt258.2 then (if bt270.2 = bt262.2 then ((churnlaw11_same.f k bt266.1 bt258.1).bind fun t274 => (if t274 = true then ((churnlaw11_same.f k bt270.1 bt262.1).bind fun t275 => (churnlaw11_PermMakes.j0 k a0 (!t275))) else (churnlaw11_PermMakes.j0 k a0 true))) else (churnlaw11_PermMakes.j0 k a0 true)) else (churnlaw11_PermMakes.j0 k a0 true)))))) = some r := by rw [if_pos rfl] at H; exact H
    clear H
    have H := H1
    clear H1
    replace H := Option.bind_eq_some_iff.mp H
    obtain ⟨⟨t258, t259⟩, A50, H⟩ := H
    replace H : ((churnref11_Unrank.f k l1).bind fun bt262 => ((perm_From.f k a0 l1).bind fun bt266 => ((perm_Unrank.f k l1).bind fun bt270 => (if bt266.2 = t259 then (if bt270.2 = bt262.2 then ((churnlaw11_same.f k bt266.1 t258).bind fun t274 => (if t274 = true then ((churnlaw11_same.f k bt270.1 bt262.1).bind fun t275 => (churnlaw11_PermMakes.j0 k a0 (!t275))) else (churnlaw11_PermMakes.j0 k a0 true))) else (churnlaw11_PermMakes.j0 k a0 true)) else (churnlaw11_PermMakes.j0 k a0 true))))) = some r := H
    have A5 := Aside0.mk A50
    clear A50
    replace H := Option.bind_eq_some_iff.mp H
    obtain ⟨⟨t262, t263⟩, A60, H⟩ := H
    replace H : ((perm_From.f k a0 l1).bind fun bt266 => ((perm_Unrank.f k l1).bind fun bt270 => (if bt266.2 = t259 then (if bt270.2 = t263 then ((churnlaw11_same.f k bt266.1 t258).bind fun t274 => (if t274 = true then ((churnlaw11_same.f k bt270.1 t262).bind fun t275 => (churnlaw11_PermMakes.j0 k a0 (!t275))) else (churnlaw11_PermMakes.j0 k a0 true))) else (churnlaw11_PermMakes.j0 k a0 true)) else (churnlaw11_PermMakes.j0 k a0 true)))) = some r := H
    have A6 := Aside0.mk A60
    clear A60
    replace H := Option.bind_eq_some_iff.mp H
    obtain ⟨⟨t266, t267⟩, A70, H⟩ := H
    replace H : ((perm_Unrank.f k l1).bind fun bt270 => (if t267 = t259 then (if bt270.2 = t263 then ((churnlaw11_same.f k t266 t258).bind fun t274 => (if t274 = true then ((churnlaw11_same.f k bt270.1 t262).bind fun t275 => (churnlaw11_PermMakes.j0 k a0 (!t275))) else (churnlaw11_PermMakes.j0 k a0 true))) else (churnlaw11_PermMakes.j0 k a0 true)) else (churnlaw11_PermMakes.j0 k a0 true))) = some r := H
    have A7 := Aside0.mk A70
    clear A70
    replace H := Option.bind_eq_some_iff.mp H
    obtain ⟨⟨t270, t271⟩, A80, H⟩ := H
    replace H : (if t267 = t259 then (if t271 = t263 then ((churnlaw11_same.f k t266 t258).bind fun t274 => (if t274 = true then ((churnlaw11_same.f k t270 t262).bind fun t275 => (churnlaw11_PermMakes.j0 k a0 (!t275))) else (churnlaw11_PermMakes.j0 k a0 true))) else (churnlaw11_PermMakes.j0 k a0 true)) else (churnlaw11_PermMakes.j0 k a0 true)) = some r := H
    have A8 := Aside0.mk A80
    clear A80
    have HC9 := Aside0.mk H
    clear H
    go_enter Try.func4, Try.ntmps4
    go_upto_region 7 with (first | ((with_reducible refine gate_callee (f := 10) rfl ?_); refine goesL_ (some 13) rfl rfl Try.func10 (by kernel_rfl) rfl #[] rfl (by (try simp only [List.map_toArray, List.map_cons, List.map_nil]); first | done | rfl | (simp only [List.length_drop, List.length_take]; rfl)) ?_; (with_reducible refine (churnlaw11_awake.calls k  true _ A3.out).mono ?_); rintro e w10 ⟨rfl, hb⟩; refine ⟨_, rfl, ?_⟩; have n0_ := Aside0.mk (below_step (by repeat (first | (with_reducible first | exact HB.out | apply below_alloc | apply pw_below_drewN | apply below_drew1) | exact HB.out)) hb); clear HB; have HB := n0_; clear n0_; (try clear hb); (try clear hb2); (try clear hk); (try clear hi)) | ((with_reducible refine gate_callee (f := 16) rfl ?_); refine goesL_ (some 18) rfl rfl Try.func16 (by kernel_rfl) rfl #[.int .i64 a0, .slice A1 l1.length c1] rfl (by (try simp only [List.map_toArray, List.map_cons, List.map_nil]); first | done | rfl | (simp only [List.length_drop, List.length_take]; rfl)) ?_; (with_reducible refine (churnref11_From.calls k a0 _ _ l1 t258 t259 _ ?side1 ?side2 A5.out).mono ?_); (case side1 => repeat (first | exact (Kd.C_below HR1.out HB.out) | (with_reducible refine Kd.C_alloc ?_ _) | (with_reducible refine Kd.C_drewN ?_ _) | (with_reducible refine Kd.C_drew ?_))); (case side2 => exact HC1.out); rintro e w11 ⟨v260, rfl, ho0, hb⟩; refine ⟨_, rfl, ?_⟩; have n0_ := Aside0.mk (Kd.R_lower ho0 (below_size (by repeat (first | (with_reducible first | exact HB.out | apply below_alloc | apply pw_below_drewN | apply below_drew1) | exact HB.out)))); have n1_ := Aside0.mk (below_step (by repeat (first | (with_reducible first | exact HB.out | apply below_alloc | apply pw_below_drewN | apply below_drew1) | exact HB.out)) hb); clear HB; have HO261 := n0_; have HB := n1_; clear n0_ n1_; (try clear hb); (try clear hb2); (try clear hk); (try clear hi); (try clear ho0)) | ((with_reducible refine gate_callee (f := 17) rfl ?_); refine goesL_ (some 23) rfl rfl Try.func17 (by kernel_rfl) rfl #[.slice A1 l1.length c1] rfl (by (try simp only [List.map_toArray, List.map_cons, List.map_nil]); first | done | rfl | (simp only [List.length_drop, List.length_take]; rfl)) ?_; (with_reducible refine (churnref11_Unrank.calls k _ _ l1 t262 t263 _ ?side1 ?side2 A6.out).mono ?_); (case side1 => repeat (first | exact (Kd.C_below HR1.out HB.out) | (with_reducible refine Kd.C_alloc ?_ _) | (with_reducible refine Kd.C_drewN ?_ _) | (with_reducible refine Kd.C_drew ?_))); (case side2 => exact HC1.out); rintro e w12 ⟨v264, rfl, ho0, hb⟩; refine ⟨_, rfl, ?_⟩; have n0_ := Aside0.mk (Kd.R_elder' (by (with_reducible repeat (first | apply Kd.R_alloc | apply Kd.R_drewN | apply Kd.R_drew)); exact HO261.out) (Kd.R_base ho0) hb); have n1_ := Aside0.mk (Kd.R_lower (Kd.R_new' ho0 (Kd.R_lt (by (with_reducible repeat (first | apply Kd.R_alloc | apply Kd.R_drewN | apply Kd.R_drew)); exact HO261.out))) (below_size (by repeat (first | (with_reducible first | exact HB.out | apply below_alloc | apply pw_below_drewN | apply below_drew1) | exact HB.out)))); have n2_ := Aside0.mk (below_step (by repeat (first | (with_reducible first | exact HB.out | apply below_alloc | apply pw_below_drewN | apply below_drew1) | exact HB.out)) hb); clear HO261; clear HB; have HO261 := n0_; have HO265 := n1_; have HB := n2_; clear n0_ n1_ n2_; (try clear hb); (try clear hb2); (try clear hk); (try clear hi); (try clear ho0)) | ((with_reducible refine gate_callee (f := 18) rfl ?_); refine goesL_ (some 29) rfl rfl Try.func18 (by kernel_rfl) rfl #[.int .i64 a0, .slice A1 l1.length c1] rfl (by (try simp only [List.map_toArray, List.map_cons, List.map_nil]); first | done | rfl | (simp only [List.length_drop, List.length_take]; rfl)) ?_; (with_reducible refine (perm_From.calls k a0 _ _ l1 t266 t267 _ ?side1 ?side2 A7.out).mono ?_); (case side1 => repeat (first | exact (Kd.C_below HR1.out HB.out) | (with_reducible refine Kd.C_alloc ?_ _) | (with_reducible refine Kd.C_drewN ?_ _) | (with_reducible refine Kd.C_drew ?_))); (case side2 => exact HC1.out); rintro e w13 ⟨v268, rfl, ho0, hb⟩; refine ⟨_, rfl, ?_⟩; have n0_ := Aside0.mk (Kd.R_elder' (by (with_reducible repeat (first | apply Kd.R_alloc | apply Kd.R_drewN | apply Kd.R_drew)); exact HO261.out) (Kd.R_base ho0) hb); have n1_ := Aside0.mk (Kd.R_elder' (by (with_reducible repeat (first | apply Kd.R_alloc | apply Kd.R_drewN | apply Kd.R_drew)); exact HO265.out) (Kd.R_base ho0) hb); have n2_ := Aside0.mk (Kd.R_lower (Kd.R_new' (Kd.R_new' ho0 (Kd.R_lt (by (with_reducible repeat (first | apply Kd.R_alloc | apply Kd.R_drewN | apply Kd.R_drew)); exact HO261.out))) (Kd.R_lt (by (with_reducible repeat (first | apply Kd.R_alloc | apply Kd.R_drewN | apply Kd.R_drew)); exact HO265.out))) (below_size (by repeat (first | (with_reducible first | exact HB.out | apply below_alloc | apply pw_below_drewN | apply below_drew1) | exact HB.out)))); have n3_ := Aside0.mk (below_step (by repeat (first | (with_reducible first | exact HB.out | apply below_alloc | apply pw_below_drewN | apply below_drew1) | exact HB.out)) hb); clear HO261; clear HO265; clear HB; have HO261 := n0_; have HO265 := n1_; have HO269 := n2_; have HB := n3_; clear n0_ n1_ n2_ n3_; (try clear hb); (try clear hb2); (try clear hk); (try clear hi); (try clear ho0)) | ((with_reducible refine gate_callee (f := 19) rfl ?_); refine goesL_ (some 34) rfl rfl Try.func19 (by kernel_rfl) rfl #[.slice A1 l1.length c1] rfl (by (try simp only [List.map_toArray, List.map_cons, List.map_nil]); first | done | rfl | (simp only [List.length_drop, List.length_take]; rfl)) ?_; (with_reducible refine (perm_Unrank.calls k _ _ l1 t270 t271 _ ?side1 ?side2 A8.out).mono ?_); (case side1 => repeat (first | exact (Kd.C_below HR1.out HB.out) | (with_reducible refine Kd.C_alloc ?_ _) | (with_reducible refine Kd.C_drewN ?_ _) | (with_reducible refine Kd.C_drew ?_))); (case side2 => exact HC1.out); rintro e w14 ⟨v272, rfl, ho0, hb⟩; refine ⟨_, rfl, ?_⟩; have n0_ := Aside0.mk (Kd.R_elder' (by (with_reducible repeat (first | apply Kd.R_alloc | apply Kd.R_drewN | apply Kd.R_drew)); exact HO261.out) (Kd.R_base ho0) hb); have n1_ := Aside0.mk (Kd.R_elder' (by (with_reducible repeat (first | apply Kd.R_alloc | apply Kd.R_drewN | apply Kd.R_drew)); exact HO265.out) (Kd.R_base ho0) hb); have n2_ := Aside0.mk (Kd.R_elder' (by (with_reducible repeat (first | apply Kd.R_alloc | apply Kd.R_drewN | apply Kd.R_drew)); exact HO269.out) (Kd.R_base ho0) hb); have n3_ := Aside0.mk (Kd.R_lower (Kd.R_new' (Kd.R_new' (Kd.R_new' ho0 (Kd.R_lt (by (with_reducible repeat (first | apply Kd.R_alloc | apply Kd.R_drewN | apply Kd.R_drew)); exact HO261.out))) (Kd.R_lt (by (with_reducible repeat (first | apply Kd.R_alloc | apply Kd.R_drewN | apply Kd.R_drew)); exact HO265.out))) (Kd.R_lt (by (with_reducible repeat (first | apply Kd.R_alloc | apply Kd.R_drewN | apply Kd.R_drew)); exact HO269.out))) (below_size (by repeat (first | (with_reducible first | exact HB.out | apply below_alloc | apply pw_below_drewN | apply below_drew1) | exact HB.out)))); have n4_ := Aside0.mk (below_step (by repeat (first | (with_reducible first | exact HB.out | apply below_alloc | apply pw_below_drewN | apply below_drew1) | exact HB.out)) hb); clear HO261; clear HO265; clear HO269; clear HB; have HO261 := n0_; have HO265 := n1_; have HO269 := n2_; have HO273 := n3_; have HB := n4_; clear n0_ n1_ n2_ n3_ n4_; (try clear hb); (try clear hb2); (try clear hk); (try clear hi); (try clear ho0)))
    (try simp only [Act.put, List.setIfInBounds_toArray, List.set_cons_zero, List.set_cons_succ])
    go_cut [56] (fun v56 wc => ∃ (kq : Nat) (x56_8 : Bool), v56 = .bool x56_8 ∧ Aside0 (churnlaw11_PermMakes.j0 kq a0 x56_8 = some r) ∧ Aside0 (kq ≤ k) ∧ Aside0 (Below w.heap.size w wc))
    case first =>
      have H := HC9.out
      clear HC9
      by_cases c15 : t267 = t259
      · rw [if_pos c15] at H
        have c15b0 : (t267 == t259) = true := beq_iff_eq.mpr c15
        have c15b1 : (t267 != t259) = false := bne_eq_false_iff_eq.mpr c15
        clear c15
        (first | rw [c15b0] | (simp only [i64_w, i32_w]; rw [c15b0]) | skip)
        by_cases c16 : t271 = t263
        · rw [if_pos c16] at H
          have c16b0 : (t271 == t263) = true := beq_iff_eq.mpr c16
          have c16b1 : (t271 != t263) = false := bne_eq_false_iff_eq.mpr c16
          clear c16
          replace H := Option.bind_eq_some_iff.mp H
          obtain ⟨t274, A170, H⟩ := H
          replace H : (if t274 = true then ((churnlaw11_same.f k t270 t262).bind fun t275 => (churnlaw11_PermMakes.j0 k a0 (!t275))) else (churnlaw11_PermMakes.j0 k a0 true)) = some r := H
          have A17 := Aside0.mk A170
          clear A170
          by_cases c18 : t274 = true
          · subst c18
            have H1 : ((churnlaw11_same.f k t270 t262).bind fun t275 => (churnlaw11_PermMakes.j0 k a0 (!t275))) = some r := by rw [if_pos rfl] at H; exact H
            clear H
            have H := H1
            clear H1
            replace H := Option.bind_eq_some_iff.mp H
            obtain ⟨t275, A190, H⟩ := H
            replace H : (churnlaw11_PermMakes.j0 k a0 (!t275)) = some r := H
            have A19 := Aside0.mk A190
            clear A190
            have H' := Aside0.mk H
            clear H
            obtain ⟨Ao20, co20, eo20⟩ := Kd.R_slice HO269.out
            subst eo20
            obtain ⟨Ao21, co21, eo21⟩ := Kd.R_slice HO261.out
            subst eo21
            go_wp2_with (first | (go_at_call 15; (with_reducible refine (churnlaw11_same.calls k _ _ t266 _ _ t258 true _ ?side1 ?side2 ?side3 ?side4 A17.out).mono ?_); (case side1 => repeat (first | exact (Kd.R_reads' HO269.out).2.2 | (with_reducible refine Kd.C_alloc ?_ _) | (with_reducible refine Kd.C_drewN ?_ _) | (with_reducible refine Kd.C_drew ?_))); (case side2 => exact (Kd.R_reads' HO269.out).2.1); (case side3 => repeat (first | exact (Kd.R_reads' HO261.out).2.2 | (with_reducible refine Kd.C_alloc ?_ _) | (with_reducible refine Kd.C_drewN ?_ _) | (with_reducible refine Kd.C_drew ?_))); (case side4 => exact (Kd.R_reads' HO261.out).2.1); rintro e w' ⟨rfl, ⟨nd, rfl⟩⟩; obtain ⟨Ao22, co22, eo22⟩ := Kd.R_slice HO273.out; subst eo22; obtain ⟨Ao23, co23, eo23⟩ := Kd.R_slice HO265.out; subst eo23) | (go_at_call 15; (with_reducible refine (churnlaw11_same.calls k _ _ t270 _ _ t262 t275 _ ?side1 ?side2 ?side3 ?side4 A19.out).mono ?_); (case side1 => repeat (first | exact (Kd.R_reads' HO273.out).2.2 | (with_reducible refine Kd.C_alloc ?_ _) | (with_reducible refine Kd.C_drewN ?_ _) | (with_reducible refine Kd.C_drew ?_))); (case side2 => exact (Kd.R_reads' HO273.out).2.1); (case side3 => repeat (first | exact (Kd.R_reads' HO265.out).2.2 | (with_reducible refine Kd.C_alloc ?_ _) | (with_reducible refine Kd.C_drewN ?_ _) | (with_reducible refine Kd.C_drew ?_))); (case side4 => exact (Kd.R_reads' HO265.out).2.1); rintro e w' ⟨rfl, ⟨nd, rfl⟩⟩))
            go_meet
            case rel => exact ⟨_, (!t275), (by first | rfl | (simp; done) | (simp [*]; done)), H', ⟨by first | omega | exact Nat.le_refl _⟩, ⟨by repeat (first | (with_reducible first | exact HB.out | apply below_alloc | apply pw_below_drewN | apply below_drew1) | exact HB.out)⟩⟩
          · replace c18 := Bool.eq_false_iff.mpr c18
            subst c18
            have H1 : (churnlaw11_PermMakes.j0 k a0 true) = some r := by rw [if_neg (show ¬ (false = true) by decide)] at H; exact H
            clear H
            have H := H1
            clear H1
            have H' := Aside0.mk H
            clear H
            obtain ⟨Ao24, co24, eo24⟩ := Kd.R_slice HO269.out
            subst eo24
            obtain ⟨Ao25, co25, eo25⟩ := Kd.R_slice HO261.out
            subst eo25
            go_wp2_with (first | (go_at_call 15; (with_reducible refine (churnlaw11_same.calls k _ _ t266 _ _ t258 false _ ?side1 ?side2 ?side3 ?side4 A17.out).mono ?_); (case side1 => repeat (first | exact (Kd.R_reads' HO269.out).2.2 | (with_reducible refine Kd.C_alloc ?_ _) | (with_reducible refine Kd.C_drewN ?_ _) | (with_reducible refine Kd.C_drew ?_))); (case side2 => exact (Kd.R_reads' HO269.out).2.1); (case side3 => repeat (first | exact (Kd.R_reads' HO261.out).2.2 | (with_reducible refine Kd.C_alloc ?_ _) | (with_reducible refine Kd.C_drewN ?_ _) | (with_reducible refine Kd.C_drew ?_))); (case side4 => exact (Kd.R_reads' HO261.out).2.1); rintro e w' ⟨rfl, ⟨nd, rfl⟩⟩))
            go_meet
            case rel => exact ⟨_, (true), (by first | rfl | (simp; done) | (simp [*]; done)), H', ⟨by first | omega | exact Nat.le_refl _⟩, ⟨by repeat (first | (with_reducible first | exact HB.out | apply below_alloc | apply pw_below_drewN | apply below_drew1) | exact HB.out)⟩⟩
        · rw [if_neg c16] at H
          have c16b0 : (t271 == t263) = false := beq_eq_false_iff_ne.mpr c16
          have c16b1 : (t271 != t263) = true := bne_iff_ne.mpr c16
          have H' := Aside0.mk H
          clear H
          go_wp2
          go_meet
          case rel => exact ⟨_, (true), (by first | rfl | (simp; done) | (simp [*]; done)), H', ⟨by first | omega | exact Nat.le_refl _⟩, ⟨by repeat (first | (with_reducible first | exact HB.out | apply below_alloc | apply pw_below_drewN | apply below_drew1) | exact HB.out)⟩⟩
      · rw [if_neg c15] at H
        have c15b0 : (t267 == t259) = false := beq_eq_false_iff_ne.mpr c15
        have c15b1 : (t267 != t259) = true := bne_iff_ne.mpr c15
        (first | rw [c15b0] | (simp only [i64_w, i32_w]; rw [c15b0]) | skip)
        have H' := Aside0.mk H
        clear H
        go_wp2
        go_meet
        case rel => exact ⟨_, (true), (by first | rfl | (simp; done) | (simp [*]; done)), H', ⟨by first | omega | exact Nat.le_refl _⟩, ⟨by repeat (first | (with_reducible first | exact HB.out | apply below_alloc | apply pw_below_drewN | apply below_drew1) | exact HB.out)⟩⟩
    case rest =>
      clear HC9
      try clear c1
      try clear p2
      try clear c4
      try clear c10
      try clear c15
      try clear c15b0
      try clear c15b1
      try clear c16
      try clear c16b0
      try clear c16b1
      try clear c17
      try clear c18
      try clear c19
      obtain ⟨kq, x56_8, rfl, HA, HJ8, HB⟩ := hcut
      cases kq with
      | zero => exact absurd HA.out (by simp [churnlaw11_PermMakes.j0])
      | succ kj8 =>
        have H := HA.out
        clear HA
        simp only [churnlaw11_PermMakes.j0] at H
        by_cases c26 : x56_8 = true
        · subst c26
          have H1 : (some false) = some r := by rw [if_pos rfl] at H; exact H
          clear H
          have H := H1
          clear H1
          obtain rfl := Option.some.inj H
          go_wp2
          go_ret
          exact ⟨by first | rfl | (simp [errW_none, errW_some] <;> rfl) | (simp [*, errW_none, errW_some] <;> rfl), by repeat (first | (with_reducible first | exact HB.out | apply below_alloc | apply pw_below_drewN | apply below_drew1) | exact HB.out)⟩
        · replace c26 := Bool.eq_false_iff.mpr c26
          subst c26
          have H1 : (if a0 > 5000 then (some true) else ((perm_Identity.f kj8 a0).bind fun t276 => ((churnref11_Identity.f kj8 a0).bind fun t279 => ((churnlaw11_same.f kj8 t276 t279).bind fun t282 => (if t282 = true then ((perm_Bounds.f kj8 a0).bind fun t283 => ((churnref11_Bounds.f kj8 a0).bind fun t286 => ((churnlaw11_same.f kj8 t283 t286).bind fun t289 => (some t289)))) else (some false)))))) = some r := by rw [if_neg (show ¬ (false = true) by decide)] at H; exact H
          clear H
          have H := H1
          clear H1
          by_cases c27 : a0 > 5000
          · rw [if_pos c27] at H
            have c27b0 : decide (5000 < a0) = true := decide_eq_true c27
            clear c27
            obtain rfl := Option.some.inj H
            go_wp2
            go_ret
            exact ⟨by first | rfl | (simp [errW_none, errW_some] <;> rfl) | (simp [*, errW_none, errW_some] <;> rfl), by repeat (first | (with_reducible first | exact HB.out | apply below_alloc | apply pw_below_drewN | apply below_drew1) | exact HB.out)⟩
          · rw [if_neg c27] at H
            have c27b0 : decide (5000 < a0) = false := decide_eq_false c27
            clear c27
            replace H := Option.bind_eq_some_iff.mp H
            obtain ⟨t276, A280, H⟩ := H
            replace H : ((churnref11_Identity.f kj8 a0).bind fun t279 => ((churnlaw11_same.f kj8 t276 t279).bind fun t282 => (if t282 = true then ((perm_Bounds.f kj8 a0).bind fun t283 => ((churnref11_Bounds.f kj8 a0).bind fun t286 => ((churnlaw11_same.f kj8 t283 t286).bind fun t289 => (some t289)))) else (some false)))) = some r := H
            have A28 := Aside0.mk A280
            clear A280
            replace H := Option.bind_eq_some_iff.mp H
            obtain ⟨t279, A290, H⟩ := H
            replace H : ((churnlaw11_same.f kj8 t276 t279).bind fun t282 => (if t282 = true then ((perm_Bounds.f kj8 a0).bind fun t283 => ((churnref11_Bounds.f kj8 a0).bind fun t286 => ((churnlaw11_same.f kj8 t283 t286).bind fun t289 => (some t289)))) else (some false))) = some r := H
            have A29 := Aside0.mk A290
            clear A290
            replace H := Option.bind_eq_some_iff.mp H
            obtain ⟨t282, A300, H⟩ := H
            replace H : (if t282 = true then ((perm_Bounds.f kj8 a0).bind fun t283 => ((churnref11_Bounds.f kj8 a0).bind fun t286 => ((churnlaw11_same.f kj8 t283 t286).bind fun t289 => (some t289)))) else (some false)) = some r := H
            have A30 := Aside0.mk A300
            clear A300
            by_cases c31 : t282 = true
            · subst c31
              have H1 : ((perm_Bounds.f kj8 a0).bind fun t283 => ((churnref11_Bounds.f kj8 a0).bind fun t286 => ((churnlaw11_same.f kj8 t283 t286).bind fun t289 => (some t289)))) = some r := by rw [if_pos rfl] at H; exact H
              clear H
              have H := H1
              clear H1
              replace H := Option.bind_eq_some_iff.mp H
              obtain ⟨t283, A320, H⟩ := H
              replace H : ((churnref11_Bounds.f kj8 a0).bind fun t286 => ((churnlaw11_same.f kj8 t283 t286).bind fun t289 => (some t289))) = some r := H
              have A32 := Aside0.mk A320
              clear A320
              replace H := Option.bind_eq_some_iff.mp H
              obtain ⟨t286, A330, H⟩ := H
              replace H : ((churnlaw11_same.f kj8 t283 t286).bind fun t289 => (some t289)) = some r := H
              have A33 := Aside0.mk A330
              clear A330
              replace H := Option.bind_eq_some_iff.mp H
              obtain ⟨t289, A340, H⟩ := H
              replace H : (some t289) = some r := H
              have A34 := Aside0.mk A340
              clear A340
              obtain rfl := Option.some.inj H
              go_wp2_with (first | (go_at_call 20; (with_reducible refine (perm_Identity.calls kj8 a0 t276 _ A28.out).mono ?_); rintro e w35 ⟨v277, rfl, ho0, hb⟩; have n0_ := Aside0.mk (Kd.R_lower ho0 (below_size (by repeat (first | (with_reducible first | exact HB.out | apply below_alloc | apply pw_below_drewN | apply below_drew1) | exact HB.out)))); have n1_ := Aside0.mk (below_step (by repeat (first | (with_reducible first | exact HB.out | apply below_alloc | apply pw_below_drewN | apply below_drew1) | exact HB.out)) hb); clear HB; have HO278 := n0_; have HB := n1_; clear n0_ n1_; (try clear hb); (try clear hb2); (try clear hk); (try clear hi); (try clear ho0)) | (go_at_call 21; (with_reducible refine (churnref11_Identity.calls kj8 a0 t279 _ A29.out).mono ?_); rintro e w36 ⟨v280, rfl, ho0, hb⟩; have n0_ := Aside0.mk (Kd.R_elder' (by (with_reducible repeat (first | apply Kd.R_alloc | apply Kd.R_drewN | apply Kd.R_drew)); exact HO278.out) (Kd.R_base ho0) hb); have n1_ := Aside0.mk (Kd.R_lower (Kd.R_new' ho0 (Kd.R_lt (by (with_reducible repeat (first | apply Kd.R_alloc | apply Kd.R_drewN | apply Kd.R_drew)); exact HO278.out))) (below_size (by repeat (first | (with_reducible first | exact HB.out | apply below_alloc | apply pw_below_drewN | apply below_drew1) | exact HB.out)))); have n2_ := Aside0.mk (below_step (by repeat (first | (with_reducible first | exact HB.out | apply below_alloc | apply pw_below_drewN | apply below_drew1) | exact HB.out)) hb); clear HO278; clear HB; have HO278 := n0_; have HO281 := n1_; have HB := n2_; clear n0_ n1_ n2_; (try clear hb); (try clear hb2); (try clear hk); (try clear hi); (try clear ho0); obtain ⟨Ao37, co37, eo37⟩ := Kd.R_slice HO278.out; subst eo37; obtain ⟨Ao38, co38, eo38⟩ := Kd.R_slice HO281.out; subst eo38) | (go_at_call 15; (with_reducible refine (churnlaw11_same.calls kj8 _ _ t276 _ _ t279 true _ ?side1 ?side2 ?side3 ?side4 A30.out).mono ?_); (case side1 => repeat (first | exact (Kd.R_reads' HO278.out).2.2 | (with_reducible refine Kd.C_alloc ?_ _) | (with_reducible refine Kd.C_drewN ?_ _) | (with_reducible refine Kd.C_drew ?_))); (case side2 => exact (Kd.R_reads' HO278.out).2.1); (case side3 => repeat (first | exact (Kd.R_reads' HO281.out).2.2 | (with_reducible refine Kd.C_alloc ?_ _) | (with_reducible refine Kd.C_drewN ?_ _) | (with_reducible refine Kd.C_drew ?_))); (case side4 => exact (Kd.R_reads' HO281.out).2.1); rintro e w' ⟨rfl, ⟨nd, rfl⟩⟩) | (go_at_call 22; (with_reducible refine (perm_Bounds.calls kj8 a0 t283 _ A32.out).mono ?_); rintro e w39 ⟨v284, rfl, ho0, hb⟩; have n0_ := Aside0.mk (Kd.R_elder' (by (with_reducible repeat (first | apply Kd.R_alloc | apply Kd.R_drewN | apply Kd.R_drew)); exact HO278.out) (Kd.R_base ho0) hb); have n1_ := Aside0.mk (Kd.R_elder' (by (with_reducible repeat (first | apply Kd.R_alloc | apply Kd.R_drewN | apply Kd.R_drew)); exact HO281.out) (Kd.R_base ho0) hb); have n2_ := Aside0.mk (Kd.R_lower (Kd.R_new' (Kd.R_new' ho0 (Kd.R_lt (by (with_reducible repeat (first | apply Kd.R_alloc | apply Kd.R_drewN | apply Kd.R_drew)); exact HO278.out))) (Kd.R_lt (by (with_reducible repeat (first | apply Kd.R_alloc | apply Kd.R_drewN | apply Kd.R_drew)); exact HO281.out))) (below_size (by repeat (first | (with_reducible first | exact HB.out | apply below_alloc | apply pw_below_drewN | apply below_drew1) | exact HB.out)))); have n3_ := Aside0.mk (below_step (by repeat (first | (with_reducible first | exact HB.out | apply below_alloc | apply pw_below_drewN | apply below_drew1) | exact HB.out)) hb); clear HO278; clear HO281; clear HB; have HO278 := n0_; have HO281 := n1_; have HO285 := n2_; have HB := n3_; clear n0_ n1_ n2_ n3_; (try clear hb); (try clear hb2); (try clear hk); (try clear hi); (try clear ho0)) | (go_at_call 23; (with_reducible refine (churnref11_Bounds.calls kj8 a0 t286 _ A33.out).mono ?_); rintro e w40 ⟨v287, rfl, ho0, hb⟩; have n0_ := Aside0.mk (Kd.R_elder' (by (with_reducible repeat (first | apply Kd.R_alloc | apply Kd.R_drewN | apply Kd.R_drew)); exact HO278.out) (Kd.R_base ho0) hb); have n1_ := Aside0.mk (Kd.R_elder' (by (with_reducible repeat (first | apply Kd.R_alloc | apply Kd.R_drewN | apply Kd.R_drew)); exact HO281.out) (Kd.R_base ho0) hb); have n2_ := Aside0.mk (Kd.R_elder' (by (with_reducible repeat (first | apply Kd.R_alloc | apply Kd.R_drewN | apply Kd.R_drew)); exact HO285.out) (Kd.R_base ho0) hb); have n3_ := Aside0.mk (Kd.R_lower (Kd.R_new' (Kd.R_new' (Kd.R_new' ho0 (Kd.R_lt (by (with_reducible repeat (first | apply Kd.R_alloc | apply Kd.R_drewN | apply Kd.R_drew)); exact HO278.out))) (Kd.R_lt (by (with_reducible repeat (first | apply Kd.R_alloc | apply Kd.R_drewN | apply Kd.R_drew)); exact HO281.out))) (Kd.R_lt (by (with_reducible repeat (first | apply Kd.R_alloc | apply Kd.R_drewN | apply Kd.R_drew)); exact HO285.out))) (below_size (by repeat (first | (with_reducible first | exact HB.out | apply below_alloc | apply pw_below_drewN | apply below_drew1) | exact HB.out)))); have n4_ := Aside0.mk (below_step (by repeat (first | (with_reducible first | exact HB.out | apply below_alloc | apply pw_below_drewN | apply below_drew1) | exact HB.out)) hb); clear HO278; clear HO281; clear HO285; clear HB; have HO278 := n0_; have HO281 := n1_; have HO285 := n2_; have HO288 := n3_; have HB := n4_; clear n0_ n1_ n2_ n3_ n4_; (try clear hb); (try clear hb2); (try clear hk); (try clear hi); (try clear ho0); obtain ⟨Ao41, co41, eo41⟩ := Kd.R_slice HO285.out; subst eo41; obtain ⟨Ao42, co42, eo42⟩ := Kd.R_slice HO288.out; subst eo42) | (go_at_call 15; (with_reducible refine (churnlaw11_same.calls kj8 _ _ t283 _ _ t286 t289 _ ?side1 ?side2 ?side3 ?side4 A34.out).mono ?_); (case side1 => repeat (first | exact (Kd.R_reads' HO285.out).2.2 | (with_reducible refine Kd.C_alloc ?_ _) | (with_reducible refine Kd.C_drewN ?_ _) | (with_reducible refine Kd.C_drew ?_))); (case side2 => exact (Kd.R_reads' HO285.out).2.1); (case side3 => repeat (first | exact (Kd.R_reads' HO288.out).2.2 | (with_reducible refine Kd.C_alloc ?_ _) | (with_reducible refine Kd.C_drewN ?_ _) | (with_reducible refine Kd.C_drew ?_))); (case side4 => exact (Kd.R_reads' HO288.out).2.1); rintro e w' ⟨rfl, ⟨nd, rfl⟩⟩))
              go_ret
              exact ⟨by first | rfl | (simp [errW_none, errW_some] <;> rfl) | (simp [*, errW_none, errW_some] <;> rfl), by repeat (first | (with_reducible first | exact HB.out | apply below_alloc | apply pw_below_drewN | apply below_drew1) | exact HB.out)⟩
            · replace c31 := Bool.eq_false_iff.mpr c31
              subst c31
              have H1 : (some false) = some r := by rw [if_neg (show ¬ (false = true) by decide)] at H; exact H
              clear H
              have H := H1
              clear H1
              obtain rfl := Option.some.inj H
              go_wp2_with (first | (go_at_call 20; (with_reducible refine (perm_Identity.calls kj8 a0 t276 _ A28.out).mono ?_); rintro e w43 ⟨v277, rfl, ho0, hb⟩; have n0_ := Aside0.mk (Kd.R_lower ho0 (below_size (by repeat (first | (with_reducible first | exact HB.out | apply below_alloc | apply pw_below_drewN | apply below_drew1) | exact HB.out)))); have n1_ := Aside0.mk (below_step (by repeat (first | (with_reducible first | exact HB.out | apply below_alloc | apply pw_below_drewN | apply below_drew1) | exact HB.out)) hb); clear HB; have HO278 := n0_; have HB := n1_; clear n0_ n1_; (try clear hb); (try clear hb2); (try clear hk); (try clear hi); (try clear ho0)) | (go_at_call 21; (with_reducible refine (churnref11_Identity.calls kj8 a0 t279 _ A29.out).mono ?_); rintro e w44 ⟨v280, rfl, ho0, hb⟩; have n0_ := Aside0.mk (Kd.R_elder' (by (with_reducible repeat (first | apply Kd.R_alloc | apply Kd.R_drewN | apply Kd.R_drew)); exact HO278.out) (Kd.R_base ho0) hb); have n1_ := Aside0.mk (Kd.R_lower (Kd.R_new' ho0 (Kd.R_lt (by (with_reducible repeat (first | apply Kd.R_alloc | apply Kd.R_drewN | apply Kd.R_drew)); exact HO278.out))) (below_size (by repeat (first | (with_reducible first | exact HB.out | apply below_alloc | apply pw_below_drewN | apply below_drew1) | exact HB.out)))); have n2_ := Aside0.mk (below_step (by repeat (first | (with_reducible first | exact HB.out | apply below_alloc | apply pw_below_drewN | apply below_drew1) | exact HB.out)) hb); clear HO278; clear HB; have HO278 := n0_; have HO281 := n1_; have HB := n2_; clear n0_ n1_ n2_; (try clear hb); (try clear hb2); (try clear hk); (try clear hi); (try clear ho0); obtain ⟨Ao45, co45, eo45⟩ := Kd.R_slice HO278.out; subst eo45; obtain ⟨Ao46, co46, eo46⟩ := Kd.R_slice HO281.out; subst eo46) | (go_at_call 15; (with_reducible refine (churnlaw11_same.calls kj8 _ _ t276 _ _ t279 false _ ?side1 ?side2 ?side3 ?side4 A30.out).mono ?_); (case side1 => repeat (first | exact (Kd.R_reads' HO278.out).2.2 | (with_reducible refine Kd.C_alloc ?_ _) | (with_reducible refine Kd.C_drewN ?_ _) | (with_reducible refine Kd.C_drew ?_))); (case side2 => exact (Kd.R_reads' HO278.out).2.1); (case side3 => repeat (first | exact (Kd.R_reads' HO281.out).2.2 | (with_reducible refine Kd.C_alloc ?_ _) | (with_reducible refine Kd.C_drewN ?_ _) | (with_reducible refine Kd.C_drew ?_))); (case side4 => exact (Kd.R_reads' HO281.out).2.1); rintro e w' ⟨rfl, ⟨nd, rfl⟩⟩))
              go_ret
              exact ⟨by first | rfl | (simp [errW_none, errW_some] <;> rfl) | (simp [*, errW_none, errW_some] <;> rfl), by repeat (first | (with_reducible first | exact HB.out | apply below_alloc | apply pw_below_drewN | apply below_drew1) | exact HB.out)⟩
  · replace c4 := Bool.eq_false_iff.mpr c4
    subst c4
    have H1 : (some false) = some r := by rw [if_neg (show ¬ (false = true) by decide)] at H; exact H
    clear H
    have H := H1
    clear H1
    obtain rfl := Option.some.inj H
    go_enter Try.func4, Try.ntmps4
    go_wp2_with (first | ((with_reducible refine gate_callee (f := 10) rfl ?_); refine goesL_ (some 13) rfl rfl Try.func10 (by kernel_rfl) rfl #[] rfl (by (try simp only [List.map_toArray, List.map_cons, List.map_nil]); first | done | rfl | (simp only [List.length_drop, List.length_take]; rfl)) ?_; (with_reducible refine (churnlaw11_awake.calls k  false _ A3.out).mono ?_); rintro e w47 ⟨rfl, hb⟩; refine ⟨_, rfl, ?_⟩; have n0_ := Aside0.mk (below_step (by repeat (first | (with_reducible first | exact HB.out | apply below_alloc | apply pw_below_drewN | apply below_drew1) | exact HB.out)) hb); clear HB; have HB := n0_; clear n0_; (try clear hb); (try clear hb2); (try clear hk); (try clear hi)))
    go_ret
    exact ⟨by first | rfl | (simp [errW_none, errW_some] <;> rfl) | (simp [*, errW_none, errW_some] <;> rfl), by repeat (first | (with_reducible first | exact HB.out | apply below_alloc | apply pw_below_drewN | apply below_drew1) | exact HB.out)⟩

/-- THE ONE PURE STATEMENT of churnlaw11_PermMakes: yours. -/
def churnlaw11_PermMakes.Pure : Prop := ∀ (a0 : Int) (l1 : List Int), (Lit.int .i64 a0).wf = true → l1.length ≤ maxLen → l1.length * 8 ≤ 140737488351232 → (∀ x ∈ l1, (Lit.int .i64 x).wf = true) → ∃ k, churnlaw11_PermMakes.f k a0 l1 = some true
theorem churnlaw11_PermMakes.walk (P : churnlaw11_PermMakes.Pure) (a0 : Int) (a1 : Option Addr) (len1 cap1 : Nat) (z1 : List Int) (w : World) (w0 : (Lit.int .i64 a0).wf = true) (w1 : (a1 = none ∧ len1 = 0 ∧ cap1 = 0 ∧ z1 = []) ∨ ∃ x, a1 = some x ∧ len1 ≤ cap1 ∧ cap1 ≤ maxLen ∧ z1.length = cap1 ∧ (∀ i, i < z1.length → w.cell? (x.add i) = some (.int .i64 (z1.getD i 0))) ∧ ∀ n ∈ z1, (Lit.int .i64 n).wf = true) (y1 : len1 * 8 ≤ 140737488351232) :
    Calls Try.prog 4 #[.int .i64 a0, .slice a1 len1 cap1] w fun e w' => e = .returned (.bool true) ∧ Below w.heap.size w w' := by
  obtain ⟨l1, rfl, hr1, hm1, hw1, hc1⟩ := ReadsInt.ofRowC w1
  obtain ⟨k, h⟩ := P a0 l1 w0 hm1 y1 hw1
  refine (churnlaw11_PermMakes.calls k a0 _ _ l1 true w (Kd.C_of_reads (d := (0 : Int)) (h1 := fun _ => rfl) hr1) hc1 h).mono ?_
  rintro e w' ⟨rfl, hd⟩
  exact ⟨rfl, hd⟩

end Go.Proofs.Ytmbkgepfpfeahaa.Q
