/- Functions of the program as plain Lean functions, each with a proof that its call comes to just these answers, and the row that joins them to the given statement; no condition beside the statement's own. Written for this claim by this session's programs (pf.py, pack.py) over the kit's print. -/
import Derived.Test.YtbnifpfnjhdenaaZRiffleOrders0
import Derived.Test.YtbnifpfnjhdenaaZRiffleOrders1
import Derived.Test.YtbnifpfnjhdenaaZRiffleOrders2
import Derived.Test.YtbnifpfnjhdenaaZRiffleOrders3
import Derived.Test.YtbnifpfnjhdenaaZRiffleOrders4
import Derived.Test.YtbnifpfnjhdenaaZRiffleOrders5
section
namespace Go.Proofs.Ytbnifpfnjhdenaa.Q
open Go.RowKit Go.Proofs.YtbnifpfnjhdenaaW.PrintWords Go.Proofs.YtbnifpfnjhdenaaW.PrintLast Go.Proofs.YtbnifpfnjhdenaaW.PrintMore
open Go.Proofs.YtbnifpfnjhdenaaW.PrintLast renaming i64_w → jE, i32_w → jG
open Go.Proofs.YtbnifpfnjhdenaaW.PrintMore renaming max_three → jO, min_three → jP, max2_int → jS, min2_int → jT, max_four → jU, min_four → jV, max_two → Ja, min_two → Jb
open Go.Proofs.YtbnifpfnjhdenaaW.PrintWords renaming below_size → ja, below_step → jh, blk_drew → jl, blk_alloc → jm, blk_drewN → jn, blk_below → jq, blk_put → jt, gate_callee → jv, gate_dst → jx, box_event → jJ, gate_builtin → jK, below_drew1 → jM, below_set → jR, gate_guard → jW, blk_lt → jX, blk_far → jY, add_plain → Jg, pw_below_drewN → Jh
open Go.Proofs.YtbnifpfnjhdenaaW.PrintWords.Kd renaming int → jb, R_mono → jc, R_far → jd, R_below → je, R_base → jf, R_reads' → jg, R_elder' → ji, R_lt → jj, R_new' → jk, R_lower → jo, R_slice → jp, R_drew → jr, R_types → js, R → ju, C_below → jw, slice → jy, S_mono → jz, S_far → jA, R_over' → jB, R_after → jC, S_below → jD, R_typed → jF, at_int → jH, fresh' → jI, R_celln → jL, S_elder' → jN, S_reads' → jQ, S_slice → jZ, S_typed → Jc, S_types → Jd, S_drew → Je, C → Jf, R_append → Ji
attribute [local go_sem] jS jT Ja Jb jO jP jU jV
set_option linter.unusedVariables false
set_option linter.unusedSimpArgs false
mutual
def churnref12_Pattern.j0 : Nat → List Int → List Int → Int → Bool → Option (List Int × List Int × Int)
 | 0, _, _, _, _ => none
 | k + 1, x0, x1, x7, x25 => if x25 = true then (some (([] : List Int), ([] : List Int), 2)) else (if ([] : List Int).length + x0.length < 17592186044416 then (if 0 ≤ (x0.length : Int) then (if ((x0.length : Int) : Int).toNat ≤ 11728124029610 then (churnref12_Pattern.l0 k x1 x7 (([] : List Int) ++ x0) (List.replicate ((x0.length : Int) : Int).toNat []) ([] : List Int) 0) else (none)) else (none)) else (none))
def churnref12_Pattern.l0 : Nat → List Int → Int → List Int → List (List Int) → List Int → Int → Option (List Int × List Int × Int)
 | 0, _, _, _, _, _, _ => none
 | k + 1, x1, x7, x8, x9, x10, x11 => if x11 < x7 then (if 0 ≤ x11 then (if x11 < (x1.length : Int) then (if (rd x1 x11) < 0 then (churnref12_Pattern.j2 k x1 x7 x8 x9 x10 x11 (rd x1 x11) true) else (churnref12_Pattern.j2 k x1 x7 x8 x9 x10 x11 (rd x1 x11) (decide ((rd x1 x11) ≥ (wrap64 (x7 - x11)))))) else (none)) else (none)) else (churnref12_Pattern.l2 k x9 x10 ([] : List Int) 0)
def churnref12_Pattern.j2 : Nat → List Int → Int → List Int → List (List Int) → List Int → Int → Int → Bool → Option (List Int × List Int × Int)
 | 0, _, _, _, _, _, _, _, _ => none
 | k + 1, x1, x7, x8, x9, x10, x11, x12, x49 => if x49 = true then (some (([] : List Int), ([] : List Int), 2)) else (churnref12_Pattern.l1 k x1 x7 x8 x9 x10 x11 x12 0)
def churnref12_Pattern.l1 : Nat → List Int → Int → List Int → List (List Int) → List Int → Int → Int → Int → Option (List Int × List Int × Int)
 | 0, _, _, _, _, _, _, _, _ => none
 | k + 1, x1, x7, x8, x9, x10, x11, x12, x13 => if 0 ≤ x13 then (if x13 < (x8.length : Int) then (if x12 ≥ (rd x8 x13) then (churnref12_Pattern.l1 k x1 x7 x8 x9 x10 x11 (wrap64 (x12 - (rd x8 x13))) (wrap64 (x13 + 1))) else (if x10.length < 17592186044416 then (if x13 < (x9.length : Int) then (if (rd_L3 x9 x13).length < 17592186044416 then (churnref12_Pattern.l0 k x1 x7 (x8.set (x13 : Int).toNat (wrap64 ((rd x8 x13) - 1))) (x9.set (x13 : Int).toNat ((rd_L3 x9 x13) ++ [x12])) (x10 ++ [x13]) (wrap64 (x11 + 1))) else (none)) else (none)) else (none))) else (none)) else (none)
def churnref12_Pattern.l2 : Nat → List (List Int) → List Int → List Int → Int → Option (List Int × List Int × Int)
 | 0, _, _, _, _ => none
 | k + 1, x9, x10, x14, x15 => if x15 < (x9.length : Int) then (if 0 ≤ x15 then (if x14.length + (rd_L3 x9 x15).length < 17592186044416 then (churnref12_Pattern.l2 k x9 x10 (x14 ++ (rd_L3 x9 x15)) (wrap64 (x15 + 1))) else (none)) else (none)) else (some (x10, x14, 0))
end
def churnref12_Pattern.f (k : Nat) (l0 : List Int) (l1 : List Int) : Option (List Int × List Int × Int) := (churnref12_total.f k l0).bind fun t637 => (if t637 < 0 then (churnref12_Pattern.j0 k l0 l1 t637 true) else (churnref12_Pattern.j0 k l0 l1 t637 ((l1.length : Int) != t637)))
set_option maxHeartbeats 8000000 in
set_option maxRecDepth 100000 in
theorem churnref12_Pattern.calls (k : Nat) (A0 : Option Addr) (c0 : Nat) (l0 : List Int) (A1 : Option Addr) (c1 : Nat) (l1 : List Int) (r1 : List Int) (r2 : List Int) (r3 : Int) (w : World) (hr0 : Jf (jb .i64) w A0 l0.length l0) (hc0 : l0.length ≤ c0) (hr1 : Jf (jb .i64) w A1 l1.length l1) (hc1 : l1.length ≤ c1) (h : churnref12_Pattern.f k l0 l1 = some (r1, r2, r3)) :
  Calls Try.prog 47 #[.slice A0 l0.length c0, .slice A1 l1.length c1] w fun e w' => ∃ v0_ v1_ : Value, e = .returned (.tuple #[v0_, v1_, .int .i64 r3]) ∧ ju (jb .i64) 3 w' w.heap.size (fun k_ => some k_ ≠ (v1_ : Value).ownBlock) v0_ r1 ∧ ju (jb .i64) 3 w' w.heap.size (fun k_ => some k_ ≠ (v0_ : Value).ownBlock) v1_ r2 ∧ Below w.heap.size w w' := by
 have HR0 := am_ hr0
 have HC0 := am_ hc0
 clear hr0 hc0
 have HR1 := am_ hr1
 have HC1 := am_ hc1
 clear hr1 hc1
 have HB := am_ (Below.refl w.heap.size w)
 have H : ((churnref12_total.f k l0).bind fun t637 => (if t637 < 0 then (churnref12_Pattern.j0 k l0 l1 t637 true) else (churnref12_Pattern.j0 k l0 l1 t637 ((l1.length : Int) != t637)))) = some (r1, r2, r3) := h
 clear h
 replace H := Option.bind_eq_some_iff.mp H
 obtain ⟨t637, A30, H⟩ := H
 try dsimp only at H
 have A3 := am_ A30
 clear A30
 have HC4 := am_ H
 clear H
 go_enter Try.func47, Try.ntmps47
 go_upto_region 2 with (first | ((with_reducible refine jv (f := 51) rfl ?_); refine gl_ (some 17) Try.func51 #[.slice A0 l0.length c0] ?_; (with_reducible refine (churnref12_total.calls k _ _ l0 t637 _ ?side1 ?side2 A3.out).mono ?_); (case side1 => exact cu_ HR0.out); (case side2 => exact HC0.out); rintro e w' ⟨rfl, ⟨nd, rfl⟩⟩; refine ⟨_, rfl, ?_⟩))
 (try simp only [Act.put, List.setIfInBounds_toArray, List.set_cons_zero, List.set_cons_succ])
 go_cut [25] (fun v25 wc => ∃ (kq : Nat) (x25_3 : Bool), v25 = .bool x25_3 ∧ Aside0 (churnref12_Pattern.j0 kq l0 l1 t637 x25_3 = some (r1, r2, r3)) ∧ Aside0 (kq ≤ k) ∧ Aside0 (Below w.heap.size w wc))
 case first =>
  have H := HC4.out
  clear HC4
  by_cases c5 : t637 < 0
  ·rw [if_pos c5] at H
   have c5b0 := decide_eq_true c5
   clear c5
   (first | rw [c5b0] | (simp only [jE, jG]; rw [c5b0]) | skip)
   have H' := am_ H
   clear H
   go_wp2
   go_meet
   case rel => exact ⟨_, (true), T10_, H', ⟨T8_⟩, ⟨T18_⟩⟩
  rw [if_neg c5] at H
  have c5b0 := decide_eq_false c5
  clear c5
  (first | rw [c5b0] | (simp only [jE, jG]; rw [c5b0]) | skip)
  have H' := am_ H
  clear H
  go_wp2
  go_meet
  case rel => exact ⟨_, (((l1.length : Int) != t637)), T10_, H', ⟨T8_⟩, ⟨T18_⟩⟩
 case rest =>
  clear HC4
  (try clear c1);(try clear p2);(try clear c4);(try clear c5);(try clear c5b0)
  obtain ⟨kq, x25_3, rfl, HA, HJ3, HB⟩ := hcut
  cases kq with
  | zero => exact absurd HA.out (by simp [churnref12_Pattern.j0])
  | succ kj3 =>
   have H := HA.out
   clear HA
   simp only [churnref12_Pattern.j0] at H
   by_cases c6 : x25_3 = true
   ·subst c6
    have H1 : (some (([] : List Int), ([] : List Int), 2)) = some (r1, r2, r3) := by rw [if_pos rfl] at H; exact H
    clear H
    have H := H1
    clear H1
    simp only [Option.some.injEq, Prod.mk.injEq] at H
    obtain ⟨rfl, rfl, rfl⟩ := H
    go_wp2
    go_ret3
    exact ⟨_, _, T16_, T20_, T20_, T18_⟩
   replace c6 := Bool.eq_false_iff.mpr c6
   subst c6
   have H1 : (if ([] : List Int).length + l0.length < 17592186044416 then (if 0 ≤ (l0.length : Int) then (if ((l0.length : Int) : Int).toNat ≤ 11728124029610 then (churnref12_Pattern.l0 kj3 l1 t637 (([] : List Int) ++ l0) (List.replicate ((l0.length : Int) : Int).toNat []) ([] : List Int) 0) else (none)) else (none)) else (none)) = some (r1, r2, r3) := by rw [if_neg (show ¬ (false = true) by decide)] at H; exact H
   clear H
   have H := H1
   clear H1
   replace H := ifa_ H;obtain ⟨LMc7, H⟩ := H
   obtain ⟨y638, hy_⟩ : ∃ y_ : List Int, y_ = (([] : List Int) ++ l0) := ⟨_, rfl⟩
   replace H : (if 0 ≤ (l0.length : Int) then (if ((l0.length : Int) : Int).toNat ≤ 11728124029610 then (churnref12_Pattern.l0 kj3 l1 t637 y638 (List.replicate ((l0.length : Int) : Int).toNat []) ([] : List Int) 0) else (none)) else (none)) = some (r1, r2, r3) := hyw_
   have Ny638 := am_ hy_
   clear hy_
   replace H := ifn_ H;obtain ⟨c8, H⟩ := H
   have c8b0 := eq_true c8
   have c8b1 : decide (0 ≤ (l0.length : Int)) = true := decide_eq_true c8
   clear c8
   replace H := ifn_ H;obtain ⟨c9, H⟩ := H
   have c9b0 := eq_true c9
   have c9b1 : decide (((l0.length : Int) : Int).toNat ≤ 11728124029610) = true := decide_eq_true c9
   clear c9
   obtain ⟨y641, hy_⟩ : ∃ y_ : List (List Int), y_ = (List.replicate ((l0.length : Int) : Int).toNat []) := ⟨_, rfl⟩
   replace H : (churnref12_Pattern.l0 kj3 l1 t637 y638 y641 ([] : List Int) 0) = some (r1, r2, r3) := hyw_
   have Ny641 := am_ hy_
   clear hy_
   have H' := am_ H
   clear H
   go_wp2_with (first | ((with_reducible refine jK (b := .append) (xs := #[.tmp 26, .tmp 27]) rfl ?_); (try (refine jW T0_ ?_; dsimp only)); at_builtin; refine Kd.R_append_rows (jb .i64) (w0 := w) w.heap.size rfl (.tmp 26) (.tmp 27) 24 3 (.int .i64 0) 8 rfl Try.underlying24 info3 rfl T3_ T2_ (.slice none 0 0) ([] : List Int) l0 _ _ _ (fun _ => True) (fun _ => False) rfl rfl ?aO ?aR (fun _ _ h => h) (fun _ h => h.elim) ?aF ?aB ?aS ?aL ?_; (case aR => exact cu_ (jw HR0.out HB.out)); (case aB => exact T18_); (case aF => exact (fun _ _ => trivial)); (case aO => exact ((Kd.R_nil _ _ _ _ (fun _ => True)))); (case aS => exact (ja T18_)); (case aL => have := LMc7.out; omega); intro v639 w10 ho hb hg hat; rw [← Ny638.out] at ho; have n_ := P2_ (hb) (ho); clear HB; obtain ⟨HB, HO640⟩ := n_; clear ho hb hg hat) | ((with_reducible refine jx (N := 31) rfl ?_); (try (refine jW T0_ ?_; dsimp only)); refine Kd.S_make (jy 3 (jb .i64)) _ 24 rfl (N := 31) rfl 51 _ _ rfl (l0.length : Int) rfl rfl Try.underlying51 (.slice none 0 0) 24 info24 rfl T3_ T2_ [] (ok := fun _ => True) (okp := fun _ => True) ⟨_, rfl, Kd.R_nil _ _ _ _ _⟩ (fun _ hk => hk) trivial (od_) (Nat.le_trans (Nat.mul_le_mul_right _ (od_ : (l0.length : Int).toNat ≤ 11728124029610)) T2_) (Below.refl _ _) (Nat.le_refl _) ?_; intro v642 w11 ho12 hb hg_ hnew_; clear hg_ hnew_; (first | rw [← Ny641.out] at ho12 | (simp only [Int.reduceToNat] at ho12; rw [← Ny641.out] at ho12)); have n_ := P3_ (je (ru_ HO640.out) hb) (Kd.S_lower (Kd.S_new' ho12 (jj (ru_ HO640.out))) (ja T18_)) (jh T18_ hb); clear HO640 HB; obtain ⟨HO640, HO643, HB⟩ := n_; clear hb ho12))
   go_loopg [10, 11] kj3 (fun kq v10 v11 w' => ∃ (x8_2 : List Int) (x9_2 : List (List Int)) (x10_2 : List Int) (x11_2 : Int), v11 = .int .i64 x11_2 ∧ Aside0 (churnref12_Pattern.l0 kq l1 t637 x8_2 x9_2 x10_2 x11_2 = some (r1, r2, r3)) ∧ Aside0 (kq ≤ kj3) ∧ Aside0 (ju (jb .i64) 3 w' w.heap.size (fun k_ => some k_ ≠ (v10 : Value).ownBlock) v639 x8_2) ∧ Aside0 (Kd.S (jy 3 (jb .i64)) 24 w' w.heap.size (fun k_ => some k_ ≠ (v639 : Value).ownBlock ∧ some k_ ≠ (v10 : Value).ownBlock) v642 x9_2) ∧ Aside0 (ju (jb .i64) 3 w' w.heap.size (fun k_ => some k_ ≠ (v639 : Value).ownBlock) v10 x10_2) ∧ Aside0 (Below w.heap.size w w'))
   case atStart => exact ⟨(y638), (y641), (([] : List Int)), (0), T10_, H', ⟨Nat.le_refl _⟩, ⟨ru_ (jc HO640.out (fun _ hk => T6_))⟩, ⟨su_ (jz HO643.out (fun _ hk => ⟨hk.2, T6_⟩))⟩, ⟨T20_⟩, ⟨T18_⟩⟩
   case round =>
    clear H'
    (try clear c1);(try clear p2 p2);(try clear c4);(try clear c5);(try clear c5b0);(try clear c6);(try clear c7);(try clear c8);(try clear c8b0 c8b1);(try clear c9);(try clear c9b0 c9b1)
    obtain ⟨x8_2, x9_2, x10_2, x11_2, rfl, HA, HK2, HO_8, HO_9, HO_10, HB⟩ := hrel
    cases gk with
    | zero => exact absurd HA.out (by simp [churnref12_Pattern.l0])
    | succ k2 =>
     have H := HA.out
     clear HA
     simp only [churnref12_Pattern.l0] at H
     by_cases c13 : x11_2 < t637
     rotate_left
     ·rw [if_neg c13] at H
      have c13b0 := decide_eq_false c13
      clear c13
      have H' := am_ H
      clear H
      go_wp2
      go_loopg [14, 15] k2 (fun kq v14 v15 w' => ∃ (x14_3 : List Int) (x15_3 : Int), v15 = .int .i64 x15_3 ∧ Aside0 (churnref12_Pattern.l2 kq x9_2 x10_2 x14_3 x15_3 = some (r1, r2, r3)) ∧ Aside0 (kq ≤ k2) ∧ Aside0 (Kd.S (jy 3 (jb .i64)) 24 w' w.heap.size (fun k_ => some k_ ≠ (u10 : Value).ownBlock ∧ some k_ ≠ (v14 : Value).ownBlock) v642 x9_2) ∧ Aside0 (ju (jb .i64) 3 w' w.heap.size (fun k_ => some k_ ≠ (v14 : Value).ownBlock) u10 x10_2) ∧ Aside0 (ju (jb .i64) 3 w' w.heap.size (fun k_ => some k_ ≠ (u10 : Value).ownBlock) v14 x14_3) ∧ Aside0 (Below w.heap.size w w'))
      case atStart => exact ⟨(([] : List Int)), (0), T10_, H', ⟨Nat.le_refl _⟩, ⟨su_ (jz HO_9.out (fun _ hk => ⟨hk.2, T6_⟩))⟩, ⟨ru_ (jc HO_10.out (fun _ hk => T6_))⟩, ⟨T20_⟩, ⟨T18_⟩⟩
      case round =>
       clear H'
       (try clear c1);(try clear c2);(try clear p2 q2 p2);(try clear hx2);(try clear hf2);(try clear c3);(try clear hx3);(try clear hf3);(try clear c4);(try clear c5);(try clear c5b0);(try clear c6);(try clear p6 q6 p6 q6);(try clear hx6);(try clear c7);(try clear c8);(try clear c8b0 c8b1);(try clear c9);(try clear c9b0 c9b1);(try clear c13);(try clear c13b0);(try clear c14);(try clear c14b0);(try clear c15);(try clear c15b0);(try clear c17);(try clear c17b0);(try clear c18);(try clear c19);(try clear c19b0);(try clear c20);(try clear c20b0);(try clear c21);(try clear c21b0);(try clear c23);(try clear c24);(try clear c24b0);(try clear c25);(try clear p26 q26 p26 q26);(try clear p27 q27 p27 q27);(try clear hx27 hx27_0);(try clear hf27);(try clear c31);(try clear c33);(try clear hx33 hx33_0);(try clear hf33);(try clear hx644_0);(try clear hx645_0);(try clear hx646_0);(try clear hx650_0);(try clear hx655_0);(try clear p644 q644);(try clear p645 q645);(try clear p646 q646);(try clear p650 q650);(try clear p655 q655)
       obtain ⟨x14_3, x15_3, rfl, HA, HK3, HO_9, HO_10, HO_14, HB⟩ := hrel
       cases gk with
       | zero => exact absurd HA.out (by simp [churnref12_Pattern.l2])
       | succ k3 =>
        have H := HA.out
        clear HA
        simp only [churnref12_Pattern.l2] at H
        by_cases c38 : x15_3 < (x9_2.length : Int)
        rotate_left
        ·rw [if_neg c38] at H
         have c38b0 := decide_eq_false c38
         clear c38
         simp only [Option.some.injEq, Prod.mk.injEq] at H
         obtain ⟨rfl, rfl, rfl⟩ := H
         obtain ⟨Ao43, co43, eo43⟩ := jZ HO_9.out
         subst eo43
         go_wp2
         go_ret3
         exact ⟨_, _, T16_, ru_ HO_10.out, ru_ HO_14.out, T18_⟩
        rw [if_pos c38] at H
        have c38b0 := decide_eq_true c38
        clear c38
        replace H := ifn_ H;obtain ⟨c39, H⟩ := H
        have c39b0 := decide_eq_true c39
        clear c39
        replace H := ifa_ H;obtain ⟨LMc40, H⟩ := H
        obtain ⟨y658, hy_⟩ : ∃ y_ : List Int, y_ = (x14_3 ++ (rd_L3 x9_2 x15_3)) := ⟨_, rfl⟩
        replace H : (churnref12_Pattern.l2 k3 x9_2 x10_2 y658 (wrap64 (x15_3 + 1))) = some (r1, r2, r3) := hyw_
        have Ny658 := am_ hy_
        clear hy_
        have H' := am_ H
        clear H
        obtain ⟨Ao41, co41, eo41⟩ := jZ HO_9.out
        subst eo41
        have p657 : 0 ≤ (x15_3 : Int) := od_
        have q657 : x15_3 < (x9_2.length : Int) := od_
        obtain ⟨ad657, A657_0, c657_0, e657, hx657_0, hl657_0, hi657_0⟩ := at_L3 (jQ HO_9.out).2.2 x15_3 p657 q657
        cases e657
        obtain ⟨ce657, hce657, hMe657, hcc657⟩ := Kd.S_get HO_9.out [] x15_3 p657 (by first | exact q657 | exact od_ | (have e_ := (jQ HO_9.out).1; omega))
        obtain ⟨ve657_0, rfl, ge657_0⟩ := hMe657
        have hv657_0 := hcc657 0 _ rfl
        rw [Nat.add_zero, show ((jy 3 (jb .i64))).sz = 1 from rfl, Nat.mul_one] at hv657_0
        replace hv657_0 := Option.some.inj (hv657_0.symm.trans hx657_0)
        rw [hv657_0] at ge657_0
        have HL657_0 := am_ (show ju (jb .i64) 3 _ _ _ _ (rd_L3 x9_2 x15_3) from ge657_0)
        clear hv657_0 ge657_0
        have HX657_0 := am_ hx657_0
        clear hcc657 hce657
        have HR657_0 := am_ hi657_0
        have HC657_0 := am_ hl657_0
        clear hi657_0 hl657_0
        replace p657 := eq_true p657
        replace q657 := eq_true q657
        go_wp2_with (first | ((with_reducible refine jK (b := .append) (xs := #[.tmp 90, .tmp 94]) rfl ?_); (try (refine jW T0_ ?_; dsimp only)); at_builtin; refine Kd.R_append_rows (jb .i64) (w0 := w) w.heap.size rfl (.tmp 90) (.tmp 94) 24 3 (.int .i64 0) 8 rfl Try.underlying24 info3 rfl T3_ T2_ u14 x14_3 (rd_L3 x9_2 x15_3) _ _ _ (fun k_ => some k_ ≠ (u10 : Value).ownBlock) (fun _ => False) rfl rfl ?aO ?aR (fun _ _ h => h) (fun _ h => h.elim) ?aF ?aB ?aS ?aL ?_; (case aR => exact cu_ HR657_0.out); (case aB => exact T18_); (case aF => exact (fun k_ hk => jI (jj (ru_ HO_10.out)) k_ hk)); (case aO => exact (ru_ HO_14.out)); (case aS => exact (ja T18_)); (case aL => have := LMc40.out; omega); intro v659 w42 ho hb hg hat; rw [← Ny658.out] at ho; have n_ := P5_ (Kd.S_after (ok := (fun k_ => some k_ ≠ (u10 : Value).ownBlock)) (su_ HO_9.out) hg hat) (jC (ok := (fun _ => True)) (ru_ (jc HO_10.out (fun _ hk => ⟨trivial, hk⟩))) hg hat) (jC (ok := (fun k_ => some k_ ≠ (.slice (some ad657) x9_2.length co41 : Value).ownBlock ∧ some k_ ≠ (u10 : Value).ownBlock)) (ru_ (jc HL657_0.out (fun _ hk => ⟨⟨hk.2, hk.1.1⟩, hk.1.2⟩))) hg hat) (hb) (ho); clear HO_9 HO_10 HL657_0 HB HO_14; obtain ⟨HO_9, HO_10, HL657_0, HB, HO660⟩ := n_; clear ho hb hg hat))
        go_roundg k3
        case measure => have := HJ3.out; have := HK2.out; have := HK3.out; omega
        case rel => exact ⟨(y658), (wrap64 (x15_3 + 1)), T10_, H', ⟨(by have := HJ3.out; have := HK2.out; have := HK3.out; omega)⟩, ⟨su_ HO_9.out⟩, ⟨ru_ (jc HO_10.out (fun _ hk => hk.2))⟩, ⟨ru_ HO660.out⟩, ⟨T18_⟩⟩
     rw [if_pos c13] at H
     have c13b0 := decide_eq_true c13
     clear c13
     replace H := ifn_ H;obtain ⟨c14, H⟩ := H
     have c14b0 := decide_eq_true c14
     clear c14
     replace H := ifn_ H;obtain ⟨c15, H⟩ := H
     have c15b0 := decide_eq_true c15
     clear c15
     have HC16 := am_ H
     clear H
     have p644 : 0 ≤ (x11_2 : Int) := od_
     have q644 : x11_2 < (l1.length : Int) := od_
     obtain ⟨ad644, e644, hx644_0⟩ := jH HR1.out x11_2 p644 q644
     cases e644
     (try (replace hx644_0 := (HB.out.cell (World.block_lt_of_cell? w _ hx644_0)).trans hx644_0))
     replace p644 := eq_true p644
     replace q644 := eq_true q644
     go_upto_region 12 with (fail)
     go_cut [49] (fun v49 wc => ∃ (kq : Nat) (x49_15 : Bool), v49 = .bool x49_15 ∧ Aside0 (churnref12_Pattern.j2 kq l1 t637 x8_2 x9_2 x10_2 x11_2 (rd l1 x11_2) x49_15 = some (r1, r2, r3)) ∧ Aside0 (kq ≤ k2) ∧ Aside0 (ju (jb .i64) 3 wc w.heap.size (fun k_ => some k_ ≠ (u10 : Value).ownBlock) v639 x8_2) ∧ Aside0 (Kd.S (jy 3 (jb .i64)) 24 wc w.heap.size (fun k_ => some k_ ≠ (v639 : Value).ownBlock ∧ some k_ ≠ (u10 : Value).ownBlock) v642 x9_2) ∧ Aside0 (ju (jb .i64) 3 wc w.heap.size (fun k_ => some k_ ≠ (v639 : Value).ownBlock) u10 x10_2) ∧ Aside0 (Below w.heap.size w wc))
     case first =>
      have H := HC16.out
      clear HC16
      by_cases c17 : (rd l1 x11_2) < 0
      ·rw [if_pos c17] at H
       have c17b0 := decide_eq_true c17
       clear c17
       (first | rw [c17b0] | (simp only [jE, jG]; rw [c17b0]) | skip)
       have H' := am_ H
       clear H
       go_wp2
       go_meet
       case rel => exact ⟨_, (true), T10_, H', ⟨T12_⟩, ⟨ru_ HO_8.out⟩, ⟨su_ HO_9.out⟩, ⟨ru_ HO_10.out⟩, ⟨T18_⟩⟩
      rw [if_neg c17] at H
      have c17b0 := decide_eq_false c17
      clear c17
      (first | rw [c17b0] | (simp only [jE, jG]; rw [c17b0]) | skip)
      have H' := am_ H
      clear H
      go_wp2
      go_meet
      case rel => exact ⟨_, (decide ((rd l1 x11_2) ≥ (wrap64 (t637 - x11_2)))), T10_, H', ⟨T12_⟩, ⟨ru_ HO_8.out⟩, ⟨su_ HO_9.out⟩, ⟨ru_ HO_10.out⟩, ⟨T18_⟩⟩
     case rest =>
      clear HC16
      (try clear c1);(try clear p2 p2);(try clear c4);(try clear c5);(try clear c5b0);(try clear c6);(try clear p6 q6);(try clear hx6);(try clear c7);(try clear c8);(try clear c8b0 c8b1);(try clear c9);(try clear c9b0 c9b1);(try clear c13);(try clear c13b0);(try clear c14);(try clear c14b0);(try clear c15);(try clear c15b0);(try clear c17);(try clear c17b0);(try clear hx644_0);(try clear p644 q644)
      obtain ⟨kq, x49_15, rfl, HA, HJ15, HO_8, HO_9, HO_10, HB⟩ := hcut
      cases kq with
      | zero => exact absurd HA.out (by simp [churnref12_Pattern.j2])
      | succ kj15 =>
       have H := HA.out
       clear HA
       simp only [churnref12_Pattern.j2] at H
       by_cases c18 : x49_15 = true
       ·subst c18
        have H1 : (some (([] : List Int), ([] : List Int), 2)) = some (r1, r2, r3) := by rw [if_pos rfl] at H; exact H
        clear H
        have H := H1
        clear H1
        simp only [Option.some.injEq, Prod.mk.injEq] at H
        obtain ⟨rfl, rfl, rfl⟩ := H
        go_wp2
        go_ret3
        exact ⟨_, _, T16_, T20_, T20_, T18_⟩
       replace c18 := Bool.eq_false_iff.mpr c18
       subst c18
       have H1 : (churnref12_Pattern.l1 kj15 l1 t637 x8_2 x9_2 x10_2 x11_2 (rd l1 x11_2) 0) = some (r1, r2, r3) := by rw [if_neg (show ¬ (false = true) by decide)] at H; exact H
       clear H
       have H := H1
       clear H1
       have H' := am_ H
       clear H
       go_wp2
       go_loopg [12, 13] kj15 (fun kq v12 v13 w' => ∃ (x12_4 : Int) (x13_4 : Int), v12 = .int .i64 x12_4 ∧ v13 = .int .i64 x13_4 ∧ Aside0 (churnref12_Pattern.l1 kq l1 t637 x8_2 x9_2 x10_2 x11_2 x12_4 x13_4 = some (r1, r2, r3)) ∧ Aside0 (kq ≤ kj15) ∧ Aside0 (ju (jb .i64) 3 w' w.heap.size (fun k_ => some k_ ≠ (u10 : Value).ownBlock) v639 x8_2) ∧ Aside0 (Kd.S (jy 3 (jb .i64)) 24 w' w.heap.size (fun k_ => some k_ ≠ (v639 : Value).ownBlock ∧ some k_ ≠ (u10 : Value).ownBlock) v642 x9_2) ∧ Aside0 (ju (jb .i64) 3 w' w.heap.size (fun k_ => some k_ ≠ (v639 : Value).ownBlock) u10 x10_2) ∧ Aside0 (Below w.heap.size w w'))
       case atStart => exact ⟨((rd l1 x11_2)), (0), T10_, T10_, H', ⟨Nat.le_refl _⟩, ⟨ru_ HO_8.out⟩, ⟨su_ HO_9.out⟩, ⟨ru_ HO_10.out⟩, ⟨T18_⟩⟩
       case round =>
        clear H'
        (try clear c1);(try clear p2 p2);(try clear c4);(try clear c5);(try clear c5b0);(try clear c6);(try clear p6 q6 p6 q6);(try clear hx6);(try clear c7);(try clear c8);(try clear c8b0 c8b1);(try clear c9);(try clear c9b0 c9b1);(try clear c13);(try clear c13b0);(try clear c14);(try clear c14b0);(try clear c15);(try clear c15b0);(try clear c17);(try clear c17b0);(try clear c18);(try clear hx644_0);(try clear p644 q644)
        obtain ⟨x12_4, x13_4, rfl, rfl, HA, HK4, HO_8, HO_9, HO_10, HB⟩ := hrel
        cases gk with
        | zero => exact absurd HA.out (by simp [churnref12_Pattern.l1])
        | succ k4 =>
         have H := HA.out
         clear HA
         simp only [churnref12_Pattern.l1] at H
         replace H := ifn_ H;obtain ⟨c19, H⟩ := H
         have c19b0 := decide_eq_true c19
         clear c19
         replace H := ifn_ H;obtain ⟨c20, H⟩ := H
         have c20b0 := decide_eq_true c20
         clear c20
         by_cases c21 : x12_4 ≥ (rd x8_2 x13_4)
         ·rw [if_pos c21] at H
          have c21b0 := decide_eq_true c21
          clear c21
          have H' := am_ H
          clear H
          obtain ⟨Ao22, co22, eo22⟩ := jp HO_8.out
          subst eo22
          obtain ⟨ad645, e645, hx645_0, p645, q645⟩ := ai_ (jg HO_8.out).2.2 x13_4
          cases e645
          have p646 : 0 ≤ (x13_4 : Int) := od_
          have q646 : x13_4 < (x8_2.length : Int) := od_
          obtain ⟨ad646, e646, hx646_0⟩ := jH (jg HO_8.out).2.2 x13_4 p646 q646
          obtain rfl : ad645 = ad646 := (by injection e646)
          replace p646 := eq_true p646
          replace q646 := eq_true q646
          go_wp2
          go_roundg k4
          case measure => have := HJ3.out; have := HK2.out; have := HJ15.out; have := HK4.out; omega
          case rel => exact ⟨(wrap64 (x12_4 - (rd x8_2 x13_4))), (wrap64 (x13_4 + 1)), T10_, T10_, H', ⟨(by have := HJ3.out; have := HK2.out; have := HJ15.out; have := HK4.out; omega)⟩, ⟨ru_ HO_8.out⟩, ⟨su_ HO_9.out⟩, ⟨ru_ HO_10.out⟩, ⟨T18_⟩⟩
         rw [if_neg c21] at H
         have c21b0 := decide_eq_false c21
         clear c21
         replace H := ifa_ H;obtain ⟨LMc23, H⟩ := H
         obtain ⟨y647, hy_⟩ : ∃ y_ : List Int, y_ = (x10_2 ++ [x13_4]) := ⟨_, rfl⟩
         replace H : (if x13_4 < (x9_2.length : Int) then (if (rd_L3 x9_2 x13_4).length < 17592186044416 then (churnref12_Pattern.l0 k4 l1 t637 (x8_2.set (x13_4 : Int).toNat (wrap64 ((rd x8_2 x13_4) - 1))) (x9_2.set (x13_4 : Int).toNat ((rd_L3 x9_2 x13_4) ++ [x12_4])) y647 (wrap64 (x11_2 + 1))) else (none)) else (none)) = some (r1, r2, r3) := hyw_
         have Ny647 := am_ hy_
         clear hy_
         replace H := ifn_ H;obtain ⟨c24, H⟩ := H
         have c24b0 := decide_eq_true c24
         clear c24
         replace H := ifa_ H;obtain ⟨LMc25, H⟩ := H
         obtain ⟨y651, hy_⟩ : ∃ y_ : List Int, y_ = ((rd_L3 x9_2 x13_4) ++ [x12_4]) := ⟨_, rfl⟩
         replace H : (churnref12_Pattern.l0 k4 l1 t637 (x8_2.set (x13_4 : Int).toNat (wrap64 ((rd x8_2 x13_4) - 1))) (x9_2.set (x13_4 : Int).toNat y651) y647 (wrap64 (x11_2 + 1))) = some (r1, r2, r3) := hyw_
         have Ny651 := am_ hy_
         clear hy_
         obtain ⟨y654, hy_⟩ : ∃ y_ : List (List Int), y_ = (x9_2.set (x13_4 : Int).toNat y651) := ⟨_, rfl⟩
         replace H : (churnref12_Pattern.l0 k4 l1 t637 (x8_2.set (x13_4 : Int).toNat (wrap64 ((rd x8_2 x13_4) - 1))) y654 y647 (wrap64 (x11_2 + 1))) = some (r1, r2, r3) := hyw_
         have Ny654 := am_ hy_
         clear hy_
         obtain ⟨y656, hy_⟩ : ∃ y_ : List Int, y_ = (x8_2.set (x13_4 : Int).toNat (wrap64 ((rd x8_2 x13_4) - 1))) := ⟨_, rfl⟩
         replace H : (churnref12_Pattern.l0 k4 l1 t637 y656 y654 y647 (wrap64 (x11_2 + 1))) = some (r1, r2, r3) := hyw_
         have Ny656 := am_ hy_
         clear hy_
         have H' := am_ H
         clear H
         obtain ⟨Ao28, co28, eo28⟩ := jp HO_8.out
         subst eo28
         obtain ⟨ad645, e645, hx645_0, p645, q645⟩ := ai_ (jg HO_8.out).2.2 x13_4
         cases e645
         go_wp2_with (first | ((with_reducible refine jK (b := .append) (xs := #[.tmp 64, .tmp 66]) rfl ?_); (try (refine jW T0_ ?_; dsimp only)); at_builtin; refine Ji (jb .i64) (w0 := w) w.heap.size rfl (.tmp 64) (.tmp 66) 24 3 (.int .i64 0) 8 rfl Try.underlying24 info3 rfl T3_ T2_ u10 x10_2 x13_4 [.int .i64 x13_4] (fun k_ => some k_ ≠ (.slice (some ad645) x8_2.length co28 : Value).ownBlock) (fun _ => False) rfl rfl ?aP (fun _ hk => hk.elim) ?aF ?aO ?aB ?aS ?aL ?_; (case aP => exact rfl); (case aB => exact T18_); (case aF => exact (fun k_ hk => jI (jj (ru_ HO_8.out)) k_ hk)); (case aO => exact (ru_ HO_10.out)); (case aS => exact (ja T18_)); (case aL => have := LMc23.out; omega); intro v648 w29 ho hb hg hat; rw [← Ny647.out] at ho; have n_ := P4_ (jC (ok := (fun _ => True)) (ru_ (jc HO_8.out (fun _ hk => ⟨trivial, hk⟩))) hg hat) (Kd.S_after (ok := (fun k_ => some k_ ≠ (.slice (some ad645) x8_2.length co28 : Value).ownBlock)) (su_ HO_9.out) hg hat) (hb) (ho); clear HO_8 HO_9 HB HO_10; obtain ⟨HO_8, HO_9, HB, HO649⟩ := n_; clear ho hb hg hat; obtain ⟨Ao30, co30, eo30⟩ := jZ HO_9.out; subst eo30; have p650 : 0 ≤ (x13_4 : Int) := od_; have q650 : x13_4 < (x9_2.length : Int) := od_; obtain ⟨ad650, A650_0, c650_0, e650, hx650_0, hl650_0, hi650_0⟩ := at_L3 (jQ HO_9.out).2.2 x13_4 p650 q650; cases e650; obtain ⟨ce650, hce650, hMe650, hcc650⟩ := Kd.S_get HO_9.out [] x13_4 p650 (by first | exact q650 | exact od_ | (have e_ := (jQ HO_9.out).1; omega)); obtain ⟨ve650_0, rfl, ge650_0⟩ := hMe650; have hv650_0 := hcc650 0 _ rfl; rw [Nat.add_zero, show ((jy 3 (jb .i64))).sz = 1 from rfl, Nat.mul_one] at hv650_0; replace hv650_0 := Option.some.inj (hv650_0.symm.trans hx650_0); rw [hv650_0] at ge650_0; have HL650_0 := am_ (show ju (jb .i64) 3 _ _ _ _ (rd_L3 x9_2 x13_4) from ge650_0); clear hv650_0 ge650_0; have HX650_0 := am_ hx650_0; clear hcc650 hce650; have HR650_0 := am_ hi650_0; have HC650_0 := am_ hl650_0; clear hi650_0 hl650_0; replace p650 := eq_true p650; replace q650 := eq_true q650; obtain ⟨go31, co31, eo31, gb31, gl31, cl31, HG31⟩ := Kd.S_form HO_9.out (by have h_ : (x13_4 : Int) < ((x9_2.length : Int) : Int) := od_; have h2_ : 0 ≤ (x13_4 : Int) := (od_); omega); (first | cases eo31 | (injection eo31 with ea_ en_ ec_; (first | subst ea_ | (injection ea_ with ea_; subst ea_)); subst ec_; clear en_)); have GB31 := am_ gb31; have GG31 := am_ HG31; clear gb31 gl31 HG31; (first | simp only [Jg] at hx650_0 | skip); obtain ⟨oki31, ce31, hcl31, hM31, hcc31, _, _, hH31⟩ := Kd.S_elem HO_9.out [] (x13_4 : Int) (od_) (by have h_ : (x13_4 : Int) < ((x9_2.length : Int) : Int) := od_; first | exact h_ | (have e_ := (jQ HO_9.out).1; omega) | simpa using h_); obtain ⟨ve31_0, rfl, ge31_0⟩ := hM31; have hv31 := hcc31 0 _ rfl; have hX31 := HX650_0.out; (try simp only [Jg] at hX31); (try simp only [Nat.add_zero] at hv31); (try rw [show ((jy 3 (jb .i64))).sz = 1 from rfl, Nat.mul_one] at hv31); replace hv31 := Option.some.inj (hv31.symm.trans hX31); subst hv31; clear hX31 hcc31 hcl31; have UU31 := am_ (show ju (jb .i64) 3 _ w.heap.size oki31 (.slice A650_0 (rd_L3 x9_2 x13_4).length c650_0) (rd_L3 x9_2 x13_4) from ge31_0); have HH31 := am_ hH31; have HN31 := am_ (jQ HO_9.out).1; clear hH31 ge31_0) | ((with_reducible refine jK (b := .append) (xs := #[.tmp 73, .tmp 75]) rfl ?_); (try (refine jW T0_ ?_; dsimp only)); at_builtin; refine Ji (jb .i64) (w0 := w) w.heap.size rfl (.tmp 73) (.tmp 75) 24 3 (.int .i64 0) 8 rfl Try.underlying24 info3 rfl T3_ T2_ (.slice A650_0 (rd_L3 x9_2 x13_4).length c650_0) (rd_L3 x9_2 x13_4) x12_4 [.int .i64 x12_4] (fun k_ => oki31 k_ ∨ ((fun k_ => some k_ ≠ (.slice (some ad645) x8_2.length co28 : Value).ownBlock ∧ some k_ ≠ (v648 : Value).ownBlock)) k_ ∧ w29.heap.size ≤ k_) (fun _ => False) rfl rfl ?aP (fun _ hk => hk.elim) ?aF ?aO ?aB ?aS ?aL ?_; (case aP => exact rfl); (case aB => exact T18_); (case aF => exact (fun k_ hk => .inr ⟨⟨jI (jj (ru_ HO_8.out)) k_ hk, jI (jj (ru_ HO649.out)) k_ hk⟩, hk⟩)); (case aO => exact (ru_ (jc UU31.out (fun _ hk => .inl hk)))); (case aS => exact (ja T18_)); (case aL => have := LMc25.out; omega); intro v652 w32 ho hb hg hat; rw [← Ny651.out] at ho; have n_ := P5_ (Kd.R_grown2 (ru_ HO_8.out) rfl hg (fun k_ e_ => (HL650_0.out.1 k_ e_).1.1)) (Kd.R_grown2 (ru_ HO649.out) rfl hg (fun k_ e_ => (HL650_0.out.1 k_ e_).1.2)) (hb) (Kd.H_grown (Kd.H_widen (by repeat (first | exact HH31.out | refine Kd.H_alloc ?_ _ | refine Kd.H_drewN ?_ _ | refine Kd.H_drew ?_))) hg (fun k_ e_ => .inl (UU31.out.1 k_ e_))) (ho); clear HO_8 HO649 HB HH31 HO_9 UU31 HL650_0; obtain ⟨HO_8, HO649, HB, HH31, HO653⟩ := n_; clear ho hb hg hat; have p26 : 0 ≤ (x13_4 : Int) := od_; have q26 : (x13_4 : Int) < ((x9_2.length : Int) : Int) := od_; replace p26 := eq_true p26; replace q26 := eq_true q26; obtain ⟨Ao35, co35, eo35⟩ := jp HO653.out; subst eo35; obtain ⟨_, _, hraw33, _, _, hcc33, _⟩ := Kd.H_raw HH31.out (od_) (by have h_ : (x13_4 : Int) < ((x9_2.length : Int) : Int) := od_; first | exact h_ | (have e_ := (HN31.out); omega) | simpa using h_); obtain ⟨_, hfr33⟩ := Kd.H_at HH31.out (od_) (by have h_ : (x13_4 : Int) < ((x9_2.length : Int) : Int) := od_; first | exact h_ | (have e_ := (HN31.out); omega) | simpa using h_); have hx33_0 := hcc33 0 _ rfl; have hf33_0 := hfr33 0; (try simp only [Nat.add_zero] at hx33_0 hf33_0); (try rw [show ((jy 3 (jb .i64))).sz = 1 from rfl, Nat.mul_one] at hx33_0); (try rw [show ((jy 3 (jb .i64))).sz = 1 from rfl, Nat.mul_one] at hf33_0); have HP33 := Kd.S_seg0 HH31.out (od_) (by have h_ : (x13_4 : Int) < ((x9_2.length : Int) : Int) := od_; first | exact h_ | (have e_ := (HN31.out); omega) | simpa using h_) (seg := [.slice Ao35 y651.length co35]) (j := 0) (show 1 ≤ 1 from by decide) (x' := y651) (Kd.M_row HO653.out) (fun _ hk => hk); (try simp only [show ((jy 3 (jb .i64))).sz = 1 from rfl, Nat.mul_one, Nat.add_zero] at HP33); clear hcc33 hfr33) | ((with_reducible refine gate_store (t := 24) (p := 77) rfl ?_); refine store_event (t := 24) (p := 77) (v := ?vo_w34) (w1 := (w32.setCell ⟨go31, (x13_4 : Int).toNat, none⟩ (.slice Ao35 y651.length co35))) ?hg ?ho ?hn ?hr ?_; (case ho => rfl); (case hg => rfl); (case hn => rfl); (case hr => first | (go_simp; done) | (go_simp; rfl)); intro w34 hw; have hg : w32.grownBy w34 (some go31) := (by rw [hw]; exact HP33.2); have hp_ : Kd.S (jy 3 (jb .i64)) 24 w34 w.heap.size (fun k_ => some k_ ≠ (.slice (some ad645) x8_2.length co28 : Value).ownBlock ∧ some k_ ≠ (v648 : Value).ownBlock) (.slice (some ⟨go31, 0, none⟩) x9_2.length co30) y654 := (by rw [hw, Ny654.out]; exact HP33.1); clear HP33; have n_ := P4_ (jB (v := (.slice (some ⟨go31, 0, none⟩) x9_2.length co30)) (ru_ HO_8.out) (jF hraw33) T3_ hg) (jB (v := (.slice (some ⟨go31, 0, none⟩) x9_2.length co30)) (ru_ HO649.out) (jF hraw33) T3_ hg) ((by rw [hw]; exact jR HB.out GB31.out : Below w.heap.size w w34)) (hp_); clear HO_8 HO649 HB HO653 HH31; obtain ⟨HO_8, HO649, HB, HO_9⟩ := n_; clear hg hw hp_ hraw33; have p655 : 0 ≤ (x13_4 : Int) := od_; have q655 : x13_4 < (x8_2.length : Int) := od_; obtain ⟨ad655, e655, hx655_0⟩ := jH (jg HO_8.out).2.2 x13_4 p655 q655; obtain rfl : ad645 = ad655 := (by injection e655); replace p655 := eq_true p655; replace q655 := eq_true q655; have p27 : 0 ≤ (x13_4 : Int) := od_; have q27 : (x13_4 : Int) < ((x8_2.length : Int) : Int) := od_; obtain ⟨go27, co27, eo27, gb27, gl27, cl27, HG27⟩ := Kd.R_form HO_8.out T2_; (first | cases eo27 | (injection eo27 with ea_ en_ ec_; (first | subst ea_ | (injection ea_ with ea_; subst ea_)); subst ec_; clear en_)); have GB27 := am_ gb27; have GG27 := am_ HG27; clear gb27 gl27 HG27; (first | simp only [Jg] at hx645_0 | skip); (first | simp only [Jg] at hx646_0 | skip); (first | simp only [Jg] at hx655_0 | skip); obtain ⟨hx27_0, hf27_0⟩ := jL 0 HO_8.out (x13_4 : Int) p27 q27; replace p27 := eq_true p27; replace q27 := eq_true q27; have n_ := am_ (jc (ok' := (fun k_ => some k_ ≠ (v648 : Value).ownBlock)) HO_8.out (fun k_ hk => hk.2)); clear HO_8; have HO_8 := n_; clear n_; obtain ⟨hy36_, hz36_⟩ := jL 0 HO_8.out (x13_4 : Int) (od_) (od_); have HP36 := Kd.R_putg HO_8.out (x13_4 : Int) (wrap64 ((rd x8_2 x13_4) - 1))) | ((with_reducible refine gate_store (t := 3) (p := 83) rfl ?_); refine store_event (t := 3) (p := 83) (v := ?vo_w37) (w1 := (w34.setCell ⟨go27, (x13_4 : Int).toNat, none⟩ (.int .i64 (wrap64 ((rd x8_2 x13_4) - 1))))) ?hg ?ho ?hn ?hr ?_; (case ho => rfl); (case hg => rfl); (case hn => rfl); (case hr => first | (go_simp; done) | (go_simp; rfl)); intro w37 hw; have hg : w34.grownBy w37 (some go27) := (by rw [hw]; exact HP36.2); have hp_ : ju (jb .i64) 3 w37 w.heap.size (fun k_ => some k_ ≠ (v648 : Value).ownBlock) (.slice (some ⟨go27, 0, none⟩) x8_2.length co28) y656 := (by rw [hw, Ny656.out]; exact HP36.1); clear HP36; have n_ := P4_ (hp_) (jC (v := (.slice (some ⟨go27, 0, none⟩) x8_2.length co28)) (v1 := (.slice (some ⟨go27, 0, none⟩) x8_2.length co28)) (ok := (fun _ => True)) (ru_ (jc HO649.out (fun _ hk => ⟨trivial, hk⟩))) hg (.inl rfl)) (Kd.S_after (v := (.slice (some ⟨go27, 0, none⟩) x8_2.length co28)) (v1 := (.slice (some ⟨go27, 0, none⟩) x8_2.length co28)) (ok := (fun k_ => some k_ ≠ (v648 : Value).ownBlock)) (su_ (jz HO_9.out (fun _ hk => ⟨hk.2, hk.1⟩))) hg (.inl rfl)) ((by rw [hw]; exact jR (HB.out) GB27.out : Below w.heap.size w w37)); clear HO_8 HO649 HO_9 HB; obtain ⟨HO_8, HO649, HO_9, HB⟩ := n_; clear hg hw hp_))
         go_roundg k4
         case measure => have := HJ3.out; have := HK2.out; have := HJ15.out; have := HK4.out; omega
         case rel => exact ⟨(y656), (y654), (y647), (wrap64 (x11_2 + 1)), T10_, H', ⟨(by have := HJ3.out; have := HK2.out; have := HJ15.out; have := HK4.out; omega)⟩, ⟨ru_ HO_8.out⟩, ⟨su_ (jz HO_9.out (fun _ hk => ⟨hk.2, hk.1⟩))⟩, ⟨ru_ (jc HO649.out (fun _ hk => hk.2))⟩, ⟨T18_⟩⟩
def churnref11_Identity.l0 : Nat → Int → List Int → Int → Option (List Int)
 | 0, _, _, _ => none
 | k + 1, x0, x3, x4 => if x4 < x0 then (if x3.length < 17592186044416 then (churnref11_Identity.l0 k x0 (x3 ++ [x4]) (wrap64 (x4 + 1))) else (none)) else (some x3)
def churnref11_Identity.f (k : Nat) (a0 : Int) : Option (List Int) := churnref11_Identity.l0 k a0 ([] : List Int) 0
set_option maxHeartbeats 8000000 in
set_option maxRecDepth 100000 in
theorem churnref11_Identity.calls (k : Nat) (a0 : Int) (r : List Int) (w : World) (h : churnref11_Identity.f k a0 = some r) :
  Calls Try.prog 54 #[.int .i64 a0] w fun e w' => ∃ v0_ : Value, e = .returned (v0_) ∧ ju (jb .i64) 3 w' w.heap.size (fun _ => True) v0_ r ∧ Below w.heap.size w w' := by
 have HB := am_ (Below.refl w.heap.size w)
 have H : (churnref11_Identity.l0 k a0 ([] : List Int) 0) = some r := h
 clear h
 have H' := am_ H
 clear H
 go_enter Try.func54, Try.ntmps54
 go_wp2
 go_loopg [3, 4] k (fun kq v3 v4 w' => ∃ (x3_1 : List Int) (x4_1 : Int), v4 = .int .i64 x4_1 ∧ Aside0 (churnref11_Identity.l0 kq a0 x3_1 x4_1 = some r) ∧ Aside0 (kq ≤ k) ∧ Aside0 (ju (jb .i64) 3 w' w.heap.size (fun _ => True) v3 x3_1) ∧ Aside0 (Below w.heap.size w w'))
 case atStart => exact ⟨(([] : List Int)), (0), T10_, H', ⟨Nat.le_refl _⟩, ⟨T20_⟩, ⟨T18_⟩⟩
 case round =>
  clear H'
  obtain ⟨x3_1, x4_1, rfl, HA, HK1, HO_3, HB⟩ := hrel
  cases gk with
  | zero => exact absurd HA.out (by simp [churnref11_Identity.l0])
  | succ k1 =>
   have H := HA.out
   clear HA
   simp only [churnref11_Identity.l0] at H
   by_cases c2 : x4_1 < a0
   rotate_left
   ·rw [if_neg c2] at H
    have c2b0 := decide_eq_false c2
    clear c2
    obtain rfl := Option.some.inj H
    simp only [Option.some.injEq, Prod.mk.injEq] at H
    obtain ⟨rfl⟩ := H
    go_wp2
    go_ret
    exact ⟨_, T16_, ru_ HO_3.out, T18_⟩
   rw [if_pos c2] at H
   have c2b0 := decide_eq_true c2
   clear c2
   replace H := ifa_ H;obtain ⟨LMc3, H⟩ := H
   obtain ⟨y661, hy_⟩ : ∃ y_ : List Int, y_ = (x3_1 ++ [x4_1]) := ⟨_, rfl⟩
   replace H : (churnref11_Identity.l0 k1 a0 y661 (wrap64 (x4_1 + 1))) = some r := hyw_
   have Ny661 := am_ hy_
   clear hy_
   have H' := am_ H
   clear H
   go_wp2_with (first | ((with_reducible refine jK (b := .append) (xs := #[.tmp 10, .tmp 12]) rfl ?_); at_builtin; refine Ji (jb .i64) (w0 := w) w.heap.size rfl (.tmp 10) (.tmp 12) 24 3 (.int .i64 0) 8 rfl Try.underlying24 info3 rfl T3_ T2_ u3 x3_1 x4_1 [.int .i64 x4_1] (fun _ => True) (fun _ => False) rfl rfl ?aP (fun _ hk => hk.elim) ?aF ?aO ?aB ?aS ?aL ?_; (case aP => exact rfl); (case aB => exact T18_); (case aF => exact (fun _ _ => trivial)); (case aO => exact (ru_ HO_3.out)); (case aS => exact (ja T18_)); (case aL => have := LMc3.out; omega); intro v662 w4 ho hb hg hat; rw [← Ny661.out] at ho; have n_ := P2_ (hb) (ho); clear HB HO_3; obtain ⟨HB, HO663⟩ := n_; clear ho hb hg hat))
   go_roundg k1
   case measure => have := HK1.out; omega
   case rel => exact ⟨(y661), (wrap64 (x4_1 + 1)), T10_, H', ⟨T7_⟩, ⟨ru_ HO663.out⟩, ⟨T18_⟩⟩
def churnref11_Fit.l0 : Nat → Int → List Int → Int → Option (Bool)
 | 0, _, _, _ => none
 | k + 1, x0, x1, x5 => if x5 < (x1.length : Int) then (if 0 ≤ x5 then (if (rd x1 x5) < 0 then (some false) else (if (rd x1 x5) ≥ (wrap64 (x0 - x5)) then (some false) else (churnref11_Fit.l0 k x0 x1 (wrap64 (x5 + 1))))) else (none)) else (some true)
def churnref11_Fit.f (k : Nat) (a0 : Int) (l1 : List Int) : Option (Bool) := (churnref11_Bounds.f k a0).bind fun t664 => (if (l1.length : Int) = (t664.length : Int) then (churnref11_Fit.l0 k a0 l1 0) else (some false))
set_option maxHeartbeats 8000000 in
set_option maxRecDepth 100000 in
theorem churnref11_Fit.calls (k : Nat) (a0 : Int) (A1 : Option Addr) (c1 : Nat) (l1 : List Int) (r : Bool) (w : World) (hr1 : Jf (jb .i64) w A1 l1.length l1) (hc1 : l1.length ≤ c1) (h : churnref11_Fit.f k a0 l1 = some r) :
  Calls Try.prog 62 #[.int .i64 a0, .slice A1 l1.length c1] w fun e w' => e = .returned (.bool r) ∧ Below w.heap.size w w' := by
 have HR1 := am_ hr1
 have HC1 := am_ hc1
 clear hr1 hc1
 have HB := am_ (Below.refl w.heap.size w)
 have H : ((churnref11_Bounds.f k a0).bind fun t664 => (if (l1.length : Int) = (t664.length : Int) then (churnref11_Fit.l0 k a0 l1 0) else (some false))) = some r := h
 clear h
 replace H := Option.bind_eq_some_iff.mp H
 obtain ⟨t664, A30, H⟩ := H
 try dsimp only at H
 have A3 := am_ A30
 clear A30
 by_cases c4 : (l1.length : Int) = (t664.length : Int)
 rotate_left
 ·rw [if_neg c4] at H
  have c4b0 : ((l1.length : Int) == (t664.length : Int)) = false := beq_eq_false_iff_ne.mpr c4
  have c4b1 : ((l1.length : Int) != (t664.length : Int)) = true := bne_iff_ne.mpr c4
  have c4b2 : (l1.length == t664.length) = false := by first | simpa using c4 | (simp at c4 ⊢; omega)
  obtain rfl := Option.some.inj H
  simp only [Option.some.injEq, Prod.mk.injEq] at H
  obtain ⟨rfl⟩ := H
  go_enter Try.func62, Try.ntmps62
  go_wp2_with (first | ((with_reducible refine jv (f := 31) rfl ?_); refine gl_ (some 9) Try.func31 #[.int .i64 a0] ?_; (with_reducible refine (churnref11_Bounds.calls k a0 t664 _ A3.out).mono ?_); rintro e w11 ⟨v665, rfl, ho0, hb⟩; refine ⟨_, rfl, ?_⟩; have n_ := P2_ (jo ho0 (ja T18_)) (jh T18_ hb); clear HB; obtain ⟨HO666, HB⟩ := n_; clear hb ho0; obtain ⟨Ao12, co12, eo12⟩ := jp HO666.out; subst eo12))
  go_ret
  exact ⟨T16_, T18_⟩
 rw [if_pos c4] at H
 have c4b0 : ((l1.length : Int) == (t664.length : Int)) = true := beq_iff_eq.mpr c4
 have c4b1 : ((l1.length : Int) != (t664.length : Int)) = false := bne_eq_false_iff_eq.mpr c4
 have c4b2 : (l1.length == t664.length) = true := by first | simpa using c4 | (simp at c4 ⊢; omega)
 clear c4
 have H' := am_ H
 clear H
 go_enter Try.func62, Try.ntmps62
 go_wp2_with (first | ((with_reducible refine jv (f := 31) rfl ?_); refine gl_ (some 9) Try.func31 #[.int .i64 a0] ?_; (with_reducible refine (churnref11_Bounds.calls k a0 t664 _ A3.out).mono ?_); rintro e w5 ⟨v665, rfl, ho0, hb⟩; refine ⟨_, rfl, ?_⟩; have n_ := P2_ (jo ho0 (ja T18_)) (jh T18_ hb); clear HB; obtain ⟨HO666, HB⟩ := n_; clear hb ho0; obtain ⟨Ao6, co6, eo6⟩ := jp HO666.out; subst eo6))
 go_loopg [5] k (fun kq v5 w' => ∃ (x5_1 : Int), v5 = .int .i64 x5_1 ∧ Aside0 (churnref11_Fit.l0 kq a0 l1 x5_1 = some r) ∧ Aside0 (kq ≤ k) ∧ Aside0 (Below w.heap.size w w'))
 case atStart => exact ⟨(0), T10_, H', ⟨Nat.le_refl _⟩, ⟨T18_⟩⟩
 case round =>
  clear H'
  (try clear c1);(try clear p2);(try clear c3);(try clear c4);(try clear c4b0 c4b1 c4b2);(try clear c6)
  obtain ⟨x5_1, rfl, HA, HK1, HB⟩ := hrel
  cases gk with
  | zero => exact absurd HA.out (by simp [churnref11_Fit.l0])
  | succ k1 =>
   have H := HA.out
   clear HA
   simp only [churnref11_Fit.l0] at H
   by_cases c7 : x5_1 < (l1.length : Int)
   rotate_left
   ·rw [if_neg c7] at H
    have c7b0 := decide_eq_false c7
    clear c7
    obtain rfl := Option.some.inj H
    simp only [Option.some.injEq, Prod.mk.injEq] at H
    obtain ⟨rfl⟩ := H
    go_wp2
    go_ret
    exact ⟨T16_, T18_⟩
   rw [if_pos c7] at H
   have c7b0 := decide_eq_true c7
   clear c7
   replace H := ifn_ H;obtain ⟨c8, H⟩ := H
   have c8b0 := decide_eq_true c8
   clear c8
   by_cases c9 : (rd l1 x5_1) < 0
   ·rw [if_pos c9] at H
    have c9b0 := decide_eq_true c9
    clear c9
    obtain rfl := Option.some.inj H
    simp only [Option.some.injEq, Prod.mk.injEq] at H
    obtain ⟨rfl⟩ := H
    have p667 : 0 ≤ (x5_1 : Int) := od_
    have q667 : x5_1 < (l1.length : Int) := od_
    obtain ⟨ad667, e667, hx667_0⟩ := jH HR1.out x5_1 p667 q667
    cases e667
    (try (replace hx667_0 := (HB.out.cell (World.block_lt_of_cell? w _ hx667_0)).trans hx667_0))
    replace p667 := eq_true p667
    replace q667 := eq_true q667
    go_wp2
    go_ret
    exact ⟨T16_, T18_⟩
   rw [if_neg c9] at H
   have c9b0 := decide_eq_false c9
   clear c9
   by_cases c10 : (rd l1 x5_1) ≥ (wrap64 (a0 - x5_1))
   ·rw [if_pos c10] at H
    have c10b0 := decide_eq_true c10
    clear c10
    obtain rfl := Option.some.inj H
    simp only [Option.some.injEq, Prod.mk.injEq] at H
    obtain ⟨rfl⟩ := H
    have p667 : 0 ≤ (x5_1 : Int) := od_
    have q667 : x5_1 < (l1.length : Int) := od_
    obtain ⟨ad667, e667, hx667_0⟩ := jH HR1.out x5_1 p667 q667
    cases e667
    (try (replace hx667_0 := (HB.out.cell (World.block_lt_of_cell? w _ hx667_0)).trans hx667_0))
    replace p667 := eq_true p667
    replace q667 := eq_true q667
    have p668 : 0 ≤ (x5_1 : Int) := od_
    have q668 : x5_1 < (l1.length : Int) := od_
    obtain ⟨ad668, e668, hx668_0⟩ := jH HR1.out x5_1 p668 q668
    obtain rfl : ad667 = ad668 := (by injection e668)
    (try (replace hx668_0 := (HB.out.cell (World.block_lt_of_cell? w _ hx668_0)).trans hx668_0))
    replace p668 := eq_true p668
    replace q668 := eq_true q668
    go_wp2
    go_ret
    exact ⟨T16_, T18_⟩
   rw [if_neg c10] at H
   have c10b0 := decide_eq_false c10
   clear c10
   have H' := am_ H
   clear H
   have p667 : 0 ≤ (x5_1 : Int) := od_
   have q667 : x5_1 < (l1.length : Int) := od_
   obtain ⟨ad667, e667, hx667_0⟩ := jH HR1.out x5_1 p667 q667
   cases e667
   (try (replace hx667_0 := (HB.out.cell (World.block_lt_of_cell? w _ hx667_0)).trans hx667_0))
   replace p667 := eq_true p667
   replace q667 := eq_true q667
   have p668 : 0 ≤ (x5_1 : Int) := od_
   have q668 : x5_1 < (l1.length : Int) := od_
   obtain ⟨ad668, e668, hx668_0⟩ := jH HR1.out x5_1 p668 q668
   obtain rfl : ad667 = ad668 := (by injection e668)
   (try (replace hx668_0 := (HB.out.cell (World.block_lt_of_cell? w _ hx668_0)).trans hx668_0))
   replace p668 := eq_true p668
   replace q668 := eq_true q668
   go_wp2
   go_roundg k1
   case measure => have := HK1.out; omega
   case rel => exact ⟨(wrap64 (x5_1 + 1)), T10_, H', ⟨T7_⟩, ⟨T18_⟩⟩
mutual
def churnref11_From.j0 : Nat → Int → List Int → Bool → Option (List Int × Int)
 | 0, _, _, _ => none
 | k + 1, x0, x1, x33 => if x33 = true then (some (([] : List Int), 110)) else ((churnref11_Identity.f k x0).bind fun t671 => (churnref11_From.l0 k x0 x1 t671 0))
def churnref11_From.l0 : Nat → Int → List Int → List Int → Int → Option (List Int × Int)
 | 0, _, _, _, _ => none
 | k + 1, x0, x1, x6, x7 => if x7 < (x1.length : Int) then (if 0 ≤ x7 then (if 0 ≤ (wrap64 ((wrap64 (x0 - 1)) - x7)) then (if (wrap64 ((wrap64 (x0 - 1)) - x7)) < (x6.length : Int) then (if 0 ≤ (rd x1 x7) then (if (rd x1 x7) < (x6.length : Int) then (churnref11_From.l0 k x0 x1 ((x6.set ((wrap64 ((wrap64 (x0 - 1)) - x7)) : Int).toNat (rd x6 (rd x1 x7))).set ((rd x1 x7) : Int).toNat (rd x6 (wrap64 ((wrap64 (x0 - 1)) - x7)))) (wrap64 (x7 + 1))) else (none)) else (none)) else (none)) else (none)) else (none)) else (some (x6, 0))
end
def churnref11_From.f (k : Nat) (a0 : Int) (l1 : List Int) : Option (List Int × Int) := if a0 < 0 then (some (([] : List Int), 2)) else (if a0 = (wrap64 ((l1.length : Int) + 1)) then ((churnref11_Fit.f k a0 l1).bind fun t669 => (churnref11_From.j0 k a0 l1 (!t669))) else (if a0 = 0 then (if ((l1.length : Int) = 0) then ((churnref11_Fit.f k a0 l1).bind fun t670 => (churnref11_From.j0 k a0 l1 (!t670))) else (churnref11_From.j0 k a0 l1 true)) else (churnref11_From.j0 k a0 l1 true)))
set_option maxHeartbeats 8000000 in
set_option maxRecDepth 100000 in
theorem churnref11_From.calls (k : Nat) (a0 : Int) (A1 : Option Addr) (c1 : Nat) (l1 : List Int) (r1 : List Int) (r2 : Int) (w : World) (hr1 : Jf (jb .i64) w A1 l1.length l1) (hc1 : l1.length ≤ c1) (h : churnref11_From.f k a0 l1 = some (r1, r2)) :
  Calls Try.prog 48 #[.int .i64 a0, .slice A1 l1.length c1] w fun e w' => ∃ v0_ : Value, e = .returned (.tuple #[v0_, .int .i64 r2]) ∧ ju (jb .i64) 3 w' w.heap.size (fun _ => True) v0_ r1 ∧ Below w.heap.size w w' := by
 have HR1 := am_ hr1
 have HC1 := am_ hc1
 clear hr1 hc1
 have HB := am_ (Below.refl w.heap.size w)
 have H : (if a0 < 0 then (some (([] : List Int), 2)) else (if a0 = (wrap64 ((l1.length : Int) + 1)) then ((churnref11_Fit.f k a0 l1).bind fun t669 => (churnref11_From.j0 k a0 l1 (!t669))) else (if a0 = 0 then (if ((l1.length : Int) = 0) then ((churnref11_Fit.f k a0 l1).bind fun t670 => (churnref11_From.j0 k a0 l1 (!t670))) else (churnref11_From.j0 k a0 l1 true)) else (churnref11_From.j0 k a0 l1 true)))) = some (r1, r2) := h
 clear h
 by_cases c3 : a0 < 0
 ·rw [if_pos c3] at H
  have c3b0 := decide_eq_true c3
  clear c3
  simp only [Option.some.injEq, Prod.mk.injEq] at H
  obtain ⟨rfl, rfl⟩ := H
  go_enter Try.func48, Try.ntmps48
  go_wp2
  repeat (go_quiet (fail); try go_wp2)
  go_ret2
  exact ⟨_, T16_, T20_, T18_⟩
 rw [if_neg c3] at H
 have c3b0 := decide_eq_false c3
 clear c3
 have HC4 := am_ H
 clear H
 go_enter Try.func48, Try.ntmps48
 go_upto_region 3 with (fail)
 repeat (go_quiet (fail); go_upto_region 3 with (fail))
 go_cut [33] (fun v33 wc => ∃ (kq : Nat) (x33_3 : Bool), v33 = .bool x33_3 ∧ Aside0 (churnref11_From.j0 kq a0 l1 x33_3 = some (r1, r2)) ∧ Aside0 (kq ≤ k) ∧ Aside0 (Below w.heap.size w wc))
 case first =>
  have H := HC4.out
  clear HC4
  by_cases c5 : a0 = (wrap64 ((l1.length : Int) + 1))
  ·rw [if_pos c5] at H
   have c5b0 : (a0 == (wrap64 ((l1.length : Int) + 1))) = true := beq_iff_eq.mpr c5
   have c5b1 : (a0 != (wrap64 ((l1.length : Int) + 1))) = false := bne_eq_false_iff_eq.mpr c5
   clear c5
   (first | rw [c5b0] | (simp only [jE, jG]; rw [c5b0]) | skip)
   replace H := Option.bind_eq_some_iff.mp H
   obtain ⟨t669, A60, H⟩ := H
   try dsimp only at H
   have A6 := am_ A60
   clear A60
   have H' := am_ H
   clear H
   go_wp2_with (first | (go_at_call 62; (with_reducible refine (churnref11_Fit.calls k a0 _ _ l1 t669 _ ?side1 ?side2 A6.out).mono ?_); (case side1 => exact cu_ (jw HR1.out HB.out)); (case side2 => exact HC1.out); rintro e w7 ⟨rfl, hb⟩; have n0_ := am_ (jh T18_ hb); clear HB; have HB := n0_; clear n0_; clear hb))
   repeat (go_quiet (first | (go_at_call 62; (with_reducible refine (churnref11_Fit.calls k a0 _ _ l1 t669 _ ?side1 ?side2 A6.out).mono ?_); (case side1 => exact cu_ (jw HR1.out HB.out)); (case side2 => exact HC1.out); rintro e w7 ⟨rfl, hb⟩; have n0_ := am_ (jh T18_ hb); clear HB; have HB := n0_; clear n0_; clear hb)); try go_wp2_with (first | (go_at_call 62; (with_reducible refine (churnref11_Fit.calls k a0 _ _ l1 t669 _ ?side1 ?side2 A6.out).mono ?_); (case side1 => exact cu_ (jw HR1.out HB.out)); (case side2 => exact HC1.out); rintro e w7 ⟨rfl, hb⟩; have n0_ := am_ (jh T18_ hb); clear HB; have HB := n0_; clear n0_; clear hb)))
   go_meet
   case rel => exact ⟨_, (!t669), T10_, H', ⟨T8_⟩, ⟨T18_⟩⟩
  rw [if_neg c5] at H
  have c5b0 : (a0 == (wrap64 ((l1.length : Int) + 1))) = false := beq_eq_false_iff_ne.mpr c5
  have c5b1 : (a0 != (wrap64 ((l1.length : Int) + 1))) = true := bne_iff_ne.mpr c5
  (first | rw [c5b0] | (simp only [jE, jG]; rw [c5b0]) | skip)
  by_cases c8 : a0 = 0
  rotate_left
  ·rw [if_neg c8] at H
   have c8b0 : (a0 == 0) = false := beq_eq_false_iff_ne.mpr c8
   have c8b1 : (a0 != 0) = true := bne_iff_ne.mpr c8
   have H' := am_ H
   clear H
   go_wp2
   repeat (go_quiet (fail); try go_wp2)
   go_meet
   case rel => exact ⟨_, (true), T10_, H', ⟨T8_⟩, ⟨T18_⟩⟩
  rw [if_pos c8] at H
  have c8b0 : (a0 == 0) = true := beq_iff_eq.mpr c8
  have c8b1 : (a0 != 0) = false := bne_eq_false_iff_eq.mpr c8
  clear c8
  by_cases c9 : ((l1.length : Int) = 0)
  rotate_left
  ·rw [if_neg c9] at H
   have c9b0 : ((l1.length : Int) == 0) = false := beq_eq_false_iff_ne.mpr c9
   have c9b1 : ((l1.length : Int) != 0) = true := bne_iff_ne.mpr c9
   have c9b2 : ¬ (l1 = []) := fun h_ => c9 (by rw [h_]; rfl)
   have H' := am_ H
   clear H
   go_wp2
   repeat (go_quiet (fail); try go_wp2)
   go_meet
   case rel => exact ⟨_, (true), T10_, H', ⟨T8_⟩, ⟨T18_⟩⟩
  rw [if_pos c9] at H
  have c9b0 : ((l1.length : Int) == 0) = true := beq_iff_eq.mpr c9
  have c9b1 : ((l1.length : Int) != 0) = false := bne_eq_false_iff_eq.mpr c9
  clear c9
  replace H := Option.bind_eq_some_iff.mp H
  obtain ⟨t670, A100, H⟩ := H
  try dsimp only at H
  have A10 := am_ A100
  clear A100
  have H' := am_ H
  clear H
  go_wp2_with (first | (go_at_call 62; (with_reducible refine (churnref11_Fit.calls k a0 _ _ l1 t670 _ ?side1 ?side2 A10.out).mono ?_); (case side1 => exact cu_ (jw HR1.out HB.out)); (case side2 => exact HC1.out); rintro e w11 ⟨rfl, hb⟩; have n0_ := am_ (jh T18_ hb); clear HB; have HB := n0_; clear n0_; clear hb))
  repeat (go_quiet (first | (go_at_call 62; (with_reducible refine (churnref11_Fit.calls k a0 _ _ l1 t670 _ ?side1 ?side2 A10.out).mono ?_); (case side1 => exact cu_ (jw HR1.out HB.out)); (case side2 => exact HC1.out); rintro e w11 ⟨rfl, hb⟩; have n0_ := am_ (jh T18_ hb); clear HB; have HB := n0_; clear n0_; clear hb)); try go_wp2_with (first | (go_at_call 62; (with_reducible refine (churnref11_Fit.calls k a0 _ _ l1 t670 _ ?side1 ?side2 A10.out).mono ?_); (case side1 => exact cu_ (jw HR1.out HB.out)); (case side2 => exact HC1.out); rintro e w11 ⟨rfl, hb⟩; have n0_ := am_ (jh T18_ hb); clear HB; have HB := n0_; clear n0_; clear hb)))
  go_meet
  case rel => exact ⟨_, (!t670), T10_, H', ⟨T8_⟩, ⟨T18_⟩⟩
 case rest =>
  clear HC4
  (try clear c1);(try clear p2);(try clear c3);(try clear c3b0);(try clear c4);(try clear c5);(try clear c5b0 c5b1);(try clear p6);(try clear c8);(try clear c8b0 c8b1);(try clear c9);(try clear c9b0 c9b1 c9b2)
  obtain ⟨kq, x33_3, rfl, HA, HJ3, HB⟩ := hcut
  cases kq with
  | zero => exact absurd HA.out (by simp [churnref11_From.j0])
  | succ kj3 =>
   have H := HA.out
   clear HA
   simp only [churnref11_From.j0] at H
   by_cases c12 : x33_3 = true
   ·subst c12
    have H1 : (some (([] : List Int), 110)) = some (r1, r2) := by rw [if_pos rfl] at H; exact H
    clear H
    have H := H1
    clear H1
    simp only [Option.some.injEq, Prod.mk.injEq] at H
    obtain ⟨rfl, rfl⟩ := H
    go_wp2
    repeat (go_quiet (fail); try go_wp2)
    go_ret2
    exact ⟨_, T16_, T20_, T18_⟩
   replace c12 := Bool.eq_false_iff.mpr c12
   subst c12
   have H1 : ((churnref11_Identity.f kj3 a0).bind fun t671 => (churnref11_From.l0 kj3 a0 l1 t671 0)) = some (r1, r2) := by rw [if_neg (show ¬ (false = true) by decide)] at H; exact H
   clear H
   have H := H1
   clear H1
   replace H := Option.bind_eq_some_iff.mp H
   obtain ⟨t671, A130, H⟩ := H
   try dsimp only at H
   have A13 := am_ A130
   clear A130
   have H' := am_ H
   clear H
   go_wp2_with (first | (go_at_call 54; (with_reducible refine (churnref11_Identity.calls kj3 a0 t671 _ A13.out).mono ?_); rintro e w14 ⟨v672, rfl, ho0, hb⟩; have n_ := P2_ (jo ho0 (ja T18_)) (jh T18_ hb); clear HB; obtain ⟨HO673, HB⟩ := n_; clear hb ho0))
   repeat (go_quiet (first | (go_at_call 54; (with_reducible refine (churnref11_Identity.calls kj3 a0 t671 _ A13.out).mono ?_); rintro e w14 ⟨v672, rfl, ho0, hb⟩; have n_ := P2_ (jo ho0 (ja T18_)) (jh T18_ hb); clear HB; obtain ⟨HO673, HB⟩ := n_; clear hb ho0)); try go_wp2_with (first | (go_at_call 54; (with_reducible refine (churnref11_Identity.calls kj3 a0 t671 _ A13.out).mono ?_); rintro e w14 ⟨v672, rfl, ho0, hb⟩; have n_ := P2_ (jo ho0 (ja T18_)) (jh T18_ hb); clear HB; obtain ⟨HO673, HB⟩ := n_; clear hb ho0)))
   go_loopg [7] kj3 (fun kq v7 w' => ∃ (x6_2 : List Int) (x7_2 : Int), v7 = .int .i64 x7_2 ∧ Aside0 (churnref11_From.l0 kq a0 l1 x6_2 x7_2 = some (r1, r2)) ∧ Aside0 (kq ≤ kj3) ∧ Aside0 (ju (jb .i64) 3 w' w.heap.size (fun _ => True) v672 x6_2) ∧ Aside0 (Below w.heap.size w w'))
   case atStart => exact ⟨(t671), (0), T10_, H', ⟨Nat.le_refl _⟩, ⟨ru_ HO673.out⟩, ⟨T18_⟩⟩
   case round =>
    clear H'
    (try clear c1);(try clear p2 p2);(try clear c3);(try clear c3b0);(try clear c4);(try clear c5);(try clear c5b0 c5b1);(try clear p6 p6);(try clear c8);(try clear c8b0 c8b1);(try clear c9);(try clear c9b0 c9b1 c9b2);(try clear c12)
    obtain ⟨x6_2, x7_2, rfl, HA, HK2, HO_6, HB⟩ := hrel
    cases gk with
    | zero => exact absurd HA.out (by simp [churnref11_From.l0])
    | succ k2 =>
     have H := HA.out
     clear HA
     simp only [churnref11_From.l0] at H
     by_cases c15 : x7_2 < (l1.length : Int)
     rotate_left
     ·rw [if_neg c15] at H
      have c15b0 := decide_eq_false c15
      clear c15
      simp only [Option.some.injEq, Prod.mk.injEq] at H
      obtain ⟨rfl, rfl⟩ := H
      go_wp2
      repeat (go_quiet (fail); try go_wp2)
      go_ret2
      exact ⟨_, T16_, ru_ HO_6.out, T18_⟩
     rw [if_pos c15] at H
     have c15b0 := decide_eq_true c15
     clear c15
     replace H := ifn_ H;obtain ⟨c16, H⟩ := H
     have c16b0 := decide_eq_true c16
     clear c16
     obtain ⟨ji17, hji17⟩ : ∃ j_ : Int, (wrap64 ((wrap64 (a0 - 1)) - x7_2)) = j_ := ⟨_, rfl⟩
     replace H : (if 0 ≤ (ji17) then (if (ji17) < (x6_2.length : Int) then (if 0 ≤ (rd l1 x7_2) then (if (rd l1 x7_2) < (x6_2.length : Int) then (churnref11_From.l0 k2 a0 l1 ((x6_2.set ((ji17) : Int).toNat (rd x6_2 (rd l1 x7_2))).set ((rd l1 x7_2) : Int).toNat (rd x6_2 (ji17))) (wrap64 (x7_2 + 1))) else (none)) else (none)) else (none)) else (none)) = some (r1, r2) := by first | (rw [hji17] at H; exact H) | (simp only [hji17] at H ⊢; exact H)
     have hji17w : (IntKind.i64.wrap ((wrap64 (a0 - 1)) - x7_2)) = ji17 := (jE _).trans hji17
     replace H := ifn_ H;obtain ⟨c18, H⟩ := H
     have c18b0 := decide_eq_true c18
     clear c18
     replace H := ifn_ H;obtain ⟨c19, H⟩ := H
     have c19b0 := decide_eq_true c19
     clear c19
     replace H := ifn_ H;obtain ⟨c20, H⟩ := H
     have c20b0 := decide_eq_true c20
     clear c20
     replace H := ifn_ H;obtain ⟨c21, H⟩ := H
     have c21b0 := decide_eq_true c21
     clear c21
     obtain ⟨y677, hy_⟩ : ∃ y_ : List Int, y_ = (x6_2.set ((ji17) : Int).toNat (rd x6_2 (rd l1 x7_2))) := ⟨_, rfl⟩
     replace H : (churnref11_From.l0 k2 a0 l1 (y677.set ((rd l1 x7_2) : Int).toNat (rd x6_2 (ji17))) (wrap64 (x7_2 + 1))) = some (r1, r2) := hyw_
     have Ny677 := am_ hy_
     clear hy_
     obtain ⟨y678, hy_⟩ : ∃ y_ : List Int, y_ = (y677.set ((rd l1 x7_2) : Int).toNat (rd x6_2 (ji17))) := ⟨_, rfl⟩
     replace H : (churnref11_From.l0 k2 a0 l1 y678 (wrap64 (x7_2 + 1))) = some (r1, r2) := hyw_
     have Ny678 := am_ hy_
     clear hy_
     have H' := am_ H
     clear H
     have p674 : 0 ≤ (x7_2 : Int) := od_
     have q674 : x7_2 < (l1.length : Int) := od_
     obtain ⟨ad674, e674, hx674_0⟩ := jH HR1.out x7_2 p674 q674
     cases e674
     (try (replace hx674_0 := (HB.out.cell (World.block_lt_of_cell? w _ hx674_0)).trans hx674_0))
     replace p674 := eq_true p674
     replace q674 := eq_true q674
     obtain ⟨Ao24, co24, eo24⟩ := jp HO_6.out
     subst eo24
     obtain ⟨ad675, e675, hx675_0, p675, q675⟩ := ai_ (jg HO_6.out).2.2 (ji17)
     cases e675
     have p676 : 0 ≤ ((rd l1 x7_2) : Int) := od_
     have q676 : (rd l1 x7_2) < (x6_2.length : Int) := od_
     obtain ⟨ad676, e676, hx676_0⟩ := jH (jg HO_6.out).2.2 (rd l1 x7_2) p676 q676
     obtain rfl : ad675 = ad676 := (by injection e676)
     replace p676 := eq_true p676
     replace q676 := eq_true q676
     have p22 : 0 ≤ ((ji17) : Int) := od_
     have q22 : ((ji17) : Int) < ((x6_2.length : Int) : Int) := od_
     obtain ⟨go22, co22, eo22, gb22, gl22, cl22, HG22⟩ := Kd.R_form HO_6.out T2_
     (first | cases eo22 | (injection eo22 with ea_ en_ ec_; (first | subst ea_ | (injection ea_ with ea_; subst ea_)); subst ec_; clear en_))
     have GB22 := am_ gb22
     have GG22 := am_ HG22
     clear gb22 gl22 HG22
     (first | simp only [Jg] at hx675_0 | skip)
     (first | simp only [Jg] at hx676_0 | skip)
     obtain ⟨hx22_0, hf22_0⟩ := jL 0 HO_6.out ((ji17) : Int) p22 q22
     replace p22 := eq_true p22
     replace q22 := eq_true q22
     obtain ⟨hy25_, hz25_⟩ := jL 0 HO_6.out ((ji17) : Int) (od_) (od_)
     have HP25 := Kd.R_putg HO_6.out ((ji17) : Int) (rd x6_2 (rd l1 x7_2))
     go_wp2_with (first | ((with_reducible refine gate_store (t := 3) (p := 60) rfl ?_); (try (rw [drewN_self wr]; generalize hq_ : World.drewN wr _ = wr; have n_ := P2_ (Kd.R_at hq_ HO_6.out) (below_at hq_ HB.out); obtain ⟨HO_6, HB⟩ := n_; (try (obtain ⟨hy25_, hz25_⟩ := jL 0 HO_6.out ((ji17) : Int) (od_) (od_))); (try (have HP25 := Kd.R_putg HO_6.out ((ji17) : Int) (rd x6_2 (rd l1 x7_2)))))); refine store_event (t := 3) (p := 60) (v := ?vo_w26) (w1 := (wr.setCell ⟨go22, ((ji17) : Int).toNat, none⟩ (.int .i64 (rd x6_2 (rd l1 x7_2))))) ?hg ?ho ?hn ?hr ?_; (case ho => rfl); (case hg => rfl); (case hn => rfl); (case hr => first | (go_simp; done) | (go_simp; rfl)); intro w26 hw; have hg : wr.grownBy w26 (some go22) := (by rw [hw]; exact HP25.2); have hp_ : ju (jb .i64) 3 w26 w.heap.size (fun _ => True) (.slice (some ⟨go22, 0, none⟩) x6_2.length co24) y677 := (by rw [hw, Ny677.out]; exact HP25.1); clear HP25; have n_ := P2_ (hp_) ((by rw [hw]; exact jR (HB.out) GB22.out : Below w.heap.size w w26)); clear HO_6 HB; obtain ⟨HO_6, HB⟩ := n_; clear hg hw hp_; have p23 : 0 ≤ ((rd l1 x7_2) : Int) := od_; have q23 : ((rd l1 x7_2) : Int) < ((x6_2.length : Int) : Int) := od_; obtain ⟨hx23_0, hf23_0⟩ := jL 0 HO_6.out ((rd l1 x7_2) : Int) p23 q23; replace p23 := eq_true p23; replace q23 := eq_true q23; obtain ⟨hy27_, hz27_⟩ := jL 0 HO_6.out ((rd l1 x7_2) : Int) (od_) (od_); have HP27 := Kd.R_putg HO_6.out ((rd l1 x7_2) : Int) (rd x6_2 (ji17))) | ((with_reducible refine gate_store (t := 3) (p := 64) rfl ?_); (try (rw [drewN_self w26]; generalize hq_ : World.drewN w26 _ = w26; have n_ := P2_ (Kd.R_at hq_ HO_6.out) (below_at hq_ HB.out); obtain ⟨HO_6, HB⟩ := n_; (try (obtain ⟨hy27_, hz27_⟩ := jL 0 HO_6.out ((rd l1 x7_2) : Int) (od_) (od_))); (try (have HP27 := Kd.R_putg HO_6.out ((rd l1 x7_2) : Int) (rd x6_2 (ji17)))))); refine store_event (t := 3) (p := 64) (v := ?vo_w28) (w1 := (w26.setCell ⟨go22, ((rd l1 x7_2) : Int).toNat, none⟩ (.int .i64 (rd x6_2 (ji17))))) ?hg ?ho ?hn ?hr ?_; (case ho => rfl); (case hg => rfl); (case hn => rfl); (case hr => first | (go_simp; done) | (go_simp; rfl)); intro w28 hw; have hg : w26.grownBy w28 (some go22) := (by rw [hw]; exact HP27.2); have hp_ : ju (jb .i64) 3 w28 w.heap.size (fun _ => True) (.slice (some ⟨go22, 0, none⟩) x6_2.length co24) y678 := (by rw [hw, Ny678.out]; exact HP27.1); clear HP27; have n_ := P2_ (hp_) ((by rw [hw]; exact jR (HB.out) GB22.out : Below w.heap.size w w28)); clear HO_6 HB; obtain ⟨HO_6, HB⟩ := n_; clear hg hw hp_))
     repeat (go_quiet (first | ((with_reducible refine gate_store (t := 3) (p := 60) rfl ?_); (try (rw [drewN_self wr]; generalize hq_ : World.drewN wr _ = wr; have n_ := P2_ (Kd.R_at hq_ HO_6.out) (below_at hq_ HB.out); obtain ⟨HO_6, HB⟩ := n_; (try (obtain ⟨hy25_, hz25_⟩ := jL 0 HO_6.out ((ji17) : Int) (od_) (od_))); (try (have HP25 := Kd.R_putg HO_6.out ((ji17) : Int) (rd x6_2 (rd l1 x7_2)))))); refine store_event (t := 3) (p := 60) (v := ?vo_w26) (w1 := (wr.setCell ⟨go22, ((ji17) : Int).toNat, none⟩ (.int .i64 (rd x6_2 (rd l1 x7_2))))) ?hg ?ho ?hn ?hr ?_; (case ho => rfl); (case hg => rfl); (case hn => rfl); (case hr => first | (go_simp; done) | (go_simp; rfl)); intro w26 hw; have hg : wr.grownBy w26 (some go22) := (by rw [hw]; exact HP25.2); have hp_ : ju (jb .i64) 3 w26 w.heap.size (fun _ => True) (.slice (some ⟨go22, 0, none⟩) x6_2.length co24) y677 := (by rw [hw, Ny677.out]; exact HP25.1); clear HP25; have n_ := P2_ (hp_) ((by rw [hw]; exact jR (HB.out) GB22.out : Below w.heap.size w w26)); clear HO_6 HB; obtain ⟨HO_6, HB⟩ := n_; clear hg hw hp_; have p23 : 0 ≤ ((rd l1 x7_2) : Int) := od_; have q23 : ((rd l1 x7_2) : Int) < ((x6_2.length : Int) : Int) := od_; obtain ⟨hx23_0, hf23_0⟩ := jL 0 HO_6.out ((rd l1 x7_2) : Int) p23 q23; replace p23 := eq_true p23; replace q23 := eq_true q23; obtain ⟨hy27_, hz27_⟩ := jL 0 HO_6.out ((rd l1 x7_2) : Int) (od_) (od_); have HP27 := Kd.R_putg HO_6.out ((rd l1 x7_2) : Int) (rd x6_2 (ji17))) | ((with_reducible refine gate_store (t := 3) (p := 64) rfl ?_); (try (rw [drewN_self w26]; generalize hq_ : World.drewN w26 _ = w26; have n_ := P2_ (Kd.R_at hq_ HO_6.out) (below_at hq_ HB.out); obtain ⟨HO_6, HB⟩ := n_; (try (obtain ⟨hy27_, hz27_⟩ := jL 0 HO_6.out ((rd l1 x7_2) : Int) (od_) (od_))); (try (have HP27 := Kd.R_putg HO_6.out ((rd l1 x7_2) : Int) (rd x6_2 (ji17)))))); refine store_event (t := 3) (p := 64) (v := ?vo_w28) (w1 := (w26.setCell ⟨go22, ((rd l1 x7_2) : Int).toNat, none⟩ (.int .i64 (rd x6_2 (ji17))))) ?hg ?ho ?hn ?hr ?_; (case ho => rfl); (case hg => rfl); (case hn => rfl); (case hr => first | (go_simp; done) | (go_simp; rfl)); intro w28 hw; have hg : w26.grownBy w28 (some go22) := (by rw [hw]; exact HP27.2); have hp_ : ju (jb .i64) 3 w28 w.heap.size (fun _ => True) (.slice (some ⟨go22, 0, none⟩) x6_2.length co24) y678 := (by rw [hw, Ny678.out]; exact HP27.1); clear HP27; have n_ := P2_ (hp_) ((by rw [hw]; exact jR (HB.out) GB22.out : Below w.heap.size w w28)); clear HO_6 HB; obtain ⟨HO_6, HB⟩ := n_; clear hg hw hp_)); try go_wp2_with (first | ((with_reducible refine gate_store (t := 3) (p := 60) rfl ?_); (try (rw [drewN_self wr]; generalize hq_ : World.drewN wr _ = wr; have n_ := P2_ (Kd.R_at hq_ HO_6.out) (below_at hq_ HB.out); obtain ⟨HO_6, HB⟩ := n_; (try (obtain ⟨hy25_, hz25_⟩ := jL 0 HO_6.out ((ji17) : Int) (od_) (od_))); (try (have HP25 := Kd.R_putg HO_6.out ((ji17) : Int) (rd x6_2 (rd l1 x7_2)))))); refine store_event (t := 3) (p := 60) (v := ?vo_w26) (w1 := (wr.setCell ⟨go22, ((ji17) : Int).toNat, none⟩ (.int .i64 (rd x6_2 (rd l1 x7_2))))) ?hg ?ho ?hn ?hr ?_; (case ho => rfl); (case hg => rfl); (case hn => rfl); (case hr => first | (go_simp; done) | (go_simp; rfl)); intro w26 hw; have hg : wr.grownBy w26 (some go22) := (by rw [hw]; exact HP25.2); have hp_ : ju (jb .i64) 3 w26 w.heap.size (fun _ => True) (.slice (some ⟨go22, 0, none⟩) x6_2.length co24) y677 := (by rw [hw, Ny677.out]; exact HP25.1); clear HP25; have n_ := P2_ (hp_) ((by rw [hw]; exact jR (HB.out) GB22.out : Below w.heap.size w w26)); clear HO_6 HB; obtain ⟨HO_6, HB⟩ := n_; clear hg hw hp_; have p23 : 0 ≤ ((rd l1 x7_2) : Int) := od_; have q23 : ((rd l1 x7_2) : Int) < ((x6_2.length : Int) : Int) := od_; obtain ⟨hx23_0, hf23_0⟩ := jL 0 HO_6.out ((rd l1 x7_2) : Int) p23 q23; replace p23 := eq_true p23; replace q23 := eq_true q23; obtain ⟨hy27_, hz27_⟩ := jL 0 HO_6.out ((rd l1 x7_2) : Int) (od_) (od_); have HP27 := Kd.R_putg HO_6.out ((rd l1 x7_2) : Int) (rd x6_2 (ji17))) | ((with_reducible refine gate_store (t := 3) (p := 64) rfl ?_); (try (rw [drewN_self w26]; generalize hq_ : World.drewN w26 _ = w26; have n_ := P2_ (Kd.R_at hq_ HO_6.out) (below_at hq_ HB.out); obtain ⟨HO_6, HB⟩ := n_; (try (obtain ⟨hy27_, hz27_⟩ := jL 0 HO_6.out ((rd l1 x7_2) : Int) (od_) (od_))); (try (have HP27 := Kd.R_putg HO_6.out ((rd l1 x7_2) : Int) (rd x6_2 (ji17)))))); refine store_event (t := 3) (p := 64) (v := ?vo_w28) (w1 := (w26.setCell ⟨go22, ((rd l1 x7_2) : Int).toNat, none⟩ (.int .i64 (rd x6_2 (ji17))))) ?hg ?ho ?hn ?hr ?_; (case ho => rfl); (case hg => rfl); (case hn => rfl); (case hr => first | (go_simp; done) | (go_simp; rfl)); intro w28 hw; have hg : w26.grownBy w28 (some go22) := (by rw [hw]; exact HP27.2); have hp_ : ju (jb .i64) 3 w28 w.heap.size (fun _ => True) (.slice (some ⟨go22, 0, none⟩) x6_2.length co24) y678 := (by rw [hw, Ny678.out]; exact HP27.1); clear HP27; have n_ := P2_ (hp_) ((by rw [hw]; exact jR (HB.out) GB22.out : Below w.heap.size w w28)); clear HO_6 HB; obtain ⟨HO_6, HB⟩ := n_; clear hg hw hp_)))
     go_roundg k2
     case measure => have := HJ3.out; have := HK2.out; omega
     case rel => exact ⟨(y678), (wrap64 (x7_2 + 1)), T10_, H', ⟨(by have := HJ3.out; have := HK2.out; omega)⟩, ⟨ru_ HO_6.out⟩, ⟨T18_⟩⟩
def churnref13_laid.l0 : Nat → Int → Int → List Int → List Int → List Int → List (List Int) → List Int → List Int → List (List Int) → Option (List Int × List Int × List Int × (List (List Int)) × Bool)
 | 0, _, _, _, _, _, _, _, _, _ => none
 | k + 1, x2, x14, x681000, x681001, x681002, x681003, x692000, x692001, x692002 => if x14 < x2 then (if 0 ≤ x14 then (if x14 < (x692002.length : Int) then (if x14 < (x681000.length : Int) then ((churnref11_Bounds.f k (rd x681000 x14)).bind fun t713 => ((churnref10_All.f k (rd_L2 x692002 x14) t713).bind fun bt716 => (if bt716.2.2 = 0 then ((churnref11_From.f k (rd x681000 x14) bt716.1).bind fun bt722 => (if x681003.length < 5864062014805 then (churnref13_laid.l0 k x2 (wrap64 (x14 + 1)) x681000 x681001 x681002 (x681003 ++ [bt722.1]) x692000 x692001 x692002) else (none))) else (some (x681000, x681001, x681002, x681003, false))))) else (none)) else (none)) else (none)) else (some (x681000, x681001, x681002, x681003, true))
def churnref13_laid.f (k : Nat) (l0 : List Int) (a1 : Int) (a2 : Int) : Option (List Int × List Int × List Int × (List (List Int)) × Bool) := (churnref09_Split.f k l0 a2).bind fun bt681 => (if bt681.2.2.2 = 0 then ((churnref12_Sizes.f k a1 a2).bind fun bt692 => ((churnref12_Bounds.f k a1).bind fun t696 => ((churnref10_All.f k bt681.2.1 t696).bind fun bt699 => (if bt699.2.2 = 0 then ((churnref12_Pattern.f k bt692.1 bt699.1).bind fun bt704 => (churnref13_laid.l0 k a2 0 bt692.1 bt704.1 bt704.2.1 ([] : List (List Int)) bt681.1 bt681.2.1 bt681.2.2.1)) else (some (bt692.1, ([] : List Int), ([] : List Int), ([] : List (List Int)), false)))))) else (some (([] : List Int), ([] : List Int), ([] : List Int), ([] : List (List Int)), false)))
def churnref13_laid.T6 : Bool × List (List Nat × List Nat) := (true, [([], []), ([0], [0]), ([], []), ([2], [2]), ([1, 3, 3], [1, 3]), ([4], [4]), ([5], [5]), ([5], [5]), ([5], [5]), ([6, 4, 0, 1, 2, 3, 4, 5, 6], [6]), ([7, 9, 0, 1, 2, 3, 4, 5, 6, 7, 9], [7]), ([8, 10, 0, 1, 2, 3, 4, 5, 6, 7, 8, 9, 10], [8])])
def churnref13_laid.B6 : List Nat := [0, 1, 0, 4, 15, 31, 63, 63, 63, 127, 767, 2047]
theorem churnref13_laid.tab6 : rtab .any (opsOf Try.f23 6) = churnref13_laid.T6 := by kernel_rfl
theorem churnref13_laid.bits6 : waitsOk churnref13_laid.T6.2 churnref13_laid.B6 = true := by kernel_rfl
def churnref13_laid.T13 : Bool × List (List Nat × List Nat) := (true, [([], []), ([0], [0]), ([], []), ([1, 2], [1, 2]), ([3], [3]), ([], []), ([5], [5]), ([], []), ([6, 7], [6, 7]), ([8], [8]), ([9], [9]), ([4, 10, 10], [4, 10]), ([11], [11]), ([12], [12]), ([12], [12]), ([12], [12]), ([13, 11, 0, 1, 2, 3, 4, 5, 6, 7, 8, 9, 10, 11, 12, 13], [13]), ([14, 16, 0, 1, 2, 3, 4, 5, 6, 7, 8, 9, 10, 11, 12, 13, 14, 16], [14]), ([15, 17, 0, 1, 2, 3, 4, 5, 6, 7, 8, 9, 10, 11, 12, 13, 14, 15, 16, 17], [15])])
def churnref13_laid.B13 : List Nat := [0, 1, 0, 7, 15, 0, 32, 0, 224, 480, 992, 2047, 4095, 8191, 8191, 8191, 16383, 98303, 262143]
theorem churnref13_laid.tab13 : rtab .any (opsOf Try.f23 13) = churnref13_laid.T13 := by kernel_rfl
theorem churnref13_laid.bits13 : waitsOk churnref13_laid.T13.2 churnref13_laid.B13 = true := by kernel_rfl
set_option maxHeartbeats 8000000 in
set_option maxRecDepth 100000 in
theorem churnref13_laid.calls (k : Nat) (A0 : Option Addr) (c0 : Nat) (l0 : List Int) (a1 : Int) (a2 : Int) (r1 : List Int) (r2 : List Int) (r3 : List Int) (r4 : List (List Int)) (r5 : Bool) (w : World) (hr0 : Jf (jb .u8) w A0 l0.length l0) (hc0 : l0.length ≤ c0) (h : churnref13_laid.f k l0 a1 a2 = some (r1, r2, r3, r4, r5)) :
  Calls Try.prog 23 #[.slice A0 l0.length c0, .int .i64 a1, .int .i64 a2] w fun e w' => ∃ v0_ v1_ v2_ v3_ : Value, e = .returned (.tuple #[.agg #[v0_, v1_, v2_, v3_], .bool r5]) ∧ ju (jb .i64) 3 w' w.heap.size (fun k_ => some k_ ≠ (v1_ : Value).ownBlock ∧ some k_ ≠ (v2_ : Value).ownBlock) v0_ r1 ∧ ju (jb .i64) 3 w' w.heap.size (fun k_ => some k_ ≠ (v0_ : Value).ownBlock ∧ some k_ ≠ (v2_ : Value).ownBlock) v1_ r2 ∧ ju (jb .i64) 3 w' w.heap.size (fun k_ => some k_ ≠ (v0_ : Value).ownBlock ∧ some k_ ≠ (v1_ : Value).ownBlock) v2_ r3 ∧ Kd.S (jy 3 (jb .i64)) 24 w' w.heap.size (fun k_ => some k_ ≠ (v0_ : Value).ownBlock ∧ some k_ ≠ (v1_ : Value).ownBlock ∧ some k_ ≠ (v2_ : Value).ownBlock) v3_ r4 ∧ Below w.heap.size w w' := by
 have hu63 := Try.underlying63
 have hu55 := Try.underlying55
 have HR0 := am_ hr0
 have HC0 := am_ hc0
 clear hr0 hc0
 have HB := am_ (Below.refl w.heap.size w)
 have H : ((churnref09_Split.f k l0 a2).bind fun bt681 => (if bt681.2.2.2 = 0 then ((churnref12_Sizes.f k a1 a2).bind fun bt692 => ((churnref12_Bounds.f k a1).bind fun t696 => ((churnref10_All.f k bt681.2.1 t696).bind fun bt699 => (if bt699.2.2 = 0 then ((churnref12_Pattern.f k bt692.1 bt699.1).bind fun bt704 => (churnref13_laid.l0 k a2 0 bt692.1 bt704.1 bt704.2.1 ([] : List (List Int)) bt681.1 bt681.2.1 bt681.2.2.1)) else (some (bt692.1, ([] : List Int), ([] : List Int), ([] : List (List Int)), false)))))) else (some (([] : List Int), ([] : List Int), ([] : List Int), ([] : List (List Int)), false)))) = some (r1, r2, r3, r4, r5) := h
 clear h
 replace H := Option.bind_eq_some_iff.mp H
 obtain ⟨⟨t681, t684, t687, t690⟩, A40, H⟩ := H
 try dsimp only at H
 have A4 := am_ A40
 clear A40
 by_cases c5 : t690 = 0
 rotate_left
 ·rw [if_neg c5] at H
  have c5b0 : (t690 == 0) = false := beq_eq_false_iff_ne.mpr c5
  have c5b1 : (t690 != 0) = true := bne_iff_ne.mpr c5
  simp only [Option.some.injEq, Prod.mk.injEq] at H
  obtain ⟨rfl, rfl, rfl, rfl, rfl⟩ := H
  go_enter Try.func23, Try.ntmps23
  go_wp2_with (first | ((with_reducible refine jx (N := 6) rfl ?_); refine jJ ?hg (N := 6) ?hd (cs := #[.slice none 0 0, .slice none 0 0, .slice none 0 0, .slice none 0 0]) (t := 63) ?hr ?_; (case hd => rfl); (case hg => rfl); (case hr => first | (go_simp; done) | (go_simp; rfl)); intro gb679 hg w96 hbox hb; have n_ := P4_ (jh T18_ hb) (hbox) ((by rw [hg]; exact (ja T18_) : w.heap.size ≤ gb679)) ((by rw [hg]; exact (ja T18_) : w.heap.size ≤ gb679)); clear HB; obtain ⟨HB, BK679, GW679, GE679⟩ := n_; clear hb hbox hg) | ((with_reducible refine jx (N := 8) rfl ?_); refine jJ ?hg (N := 8) ?hd (cs := #[.slice none 0 0, .slice none 0 0, .slice none 0 0, .slice none 0 0]) (t := 63) ?hr ?_; (case hd => rfl); (case hg => rfl); (case hr => first | (go_simp; done) | (go_simp; rfl)); intro gb680 hg w97 hbox hb; have n_ := P7_ (jq (g := gb679) (o := .cells #[.slice none 0 0, .slice none 0 0, .slice none 0 0, .slice none 0 0] 63 (0, 0)) (bu_ BK679.out) hb) (jh T33_ hb) (hbox) ((by rw [hg]; exact (ja T33_) : w.heap.size ≤ gb680)) ((by rw [hg]; exact (ja T33_) : w.heap.size ≤ gb680)) ((by rw [hg]; exact Nat.ne_of_lt (jX (g := gb679) (o := .cells #[.slice none 0 0, .slice none 0 0, .slice none 0 0, .slice none 0 0] 63 (0, 0)) (bu_ BK679.out)) : gb679 ≠ gb680)) ((by rw [hg]; exact Nat.ne_of_gt (jX (g := gb679) (o := .cells #[.slice none 0 0, .slice none 0 0, .slice none 0 0, .slice none 0 0] 63 (0, 0)) (bu_ BK679.out)) : gb680 ≠ gb679)); clear BK679 HB; obtain ⟨BK679, HB, BK680, GW680, GE680, NB679_680, NB680_679⟩ := n_; clear hb hbox hg) | ((with_reducible refine jv (f := 26) rfl ?_); refine gl_ (some 23) Try.func26 #[.slice A0 l0.length c0, .int .i64 a2] ?_; (with_reducible refine (churnref09_Split.calls k _ _ l0 a2 t681 t684 t687 t690 _ ?side1 ?side2 A4.out).mono ?_); (case side1 => exact cu_ (jw HR0.out HB.out)); (case side2 => exact HC0.out); rintro e w98 ⟨v682, v685, v688, rfl, ho0, ho1, ho2, hb⟩; refine ⟨_, rfl, ?_⟩; have n_ := P6_ (jo ho0 (ja T40_)) (jo ho1 (ja T40_)) (Kd.S_lower ho2 (ja T40_)) (jq (g := gb679) (o := .cells #[.slice none 0 0, .slice none 0 0, .slice none 0 0, .slice none 0 0] 63 (0, 0)) (bu_ BK679.out) hb) (jq (g := gb680) (o := .cells #[.slice none 0 0, .slice none 0 0, .slice none 0 0, .slice none 0 0] 63 (0, 0)) (bu_ BK680.out) hb) (jh T40_ hb); clear BK679 BK680 HB; obtain ⟨HO683, HO686, HO689, BK679, BK680, HB⟩ := n_; clear hb ho0 ho1 ho2) | ((with_reducible refine jx (N := 9) rfl ?_); refine jJ ?hg (N := 9) ?hd (cs := #[.slice none 0 0, .slice none 0 0, .slice none 0 0]) (t := 55) ?hr ?_; (case hd => rfl); (case hg => rfl); (case hr => first | (go_simp; done) | (go_simp; rfl)); intro gb691 hg w99 hbox hb; have n_ := P13_ (je (ru_ HO683.out) hb) (je (ru_ HO686.out) hb) (jD (su_ HO689.out) hb) (jq (g := gb679) (o := .cells #[.slice none 0 0, .slice none 0 0, .slice none 0 0, .slice none 0 0] 63 (0, 0)) (bu_ BK679.out) hb) (jq (g := gb680) (o := .cells #[.slice none 0 0, .slice none 0 0, .slice none 0 0, .slice none 0 0] 63 (0, 0)) (bu_ BK680.out) hb) (jh T40_ hb) (hbox) ((by rw [hg]; exact (ja T40_) : w.heap.size ≤ gb691)) ((by rw [hg]; exact (ja T40_) : w.heap.size ≤ gb691)) ((by rw [hg]; exact Nat.ne_of_lt (jX (g := gb679) (o := .cells #[.slice none 0 0, .slice none 0 0, .slice none 0 0, .slice none 0 0] 63 (0, 0)) (bu_ BK679.out)) : gb679 ≠ gb691)) ((by rw [hg]; exact Nat.ne_of_gt (jX (g := gb679) (o := .cells #[.slice none 0 0, .slice none 0 0, .slice none 0 0, .slice none 0 0] 63 (0, 0)) (bu_ BK679.out)) : gb691 ≠ gb679)) ((by rw [hg]; exact Nat.ne_of_lt (jX (g := gb680) (o := .cells #[.slice none 0 0, .slice none 0 0, .slice none 0 0, .slice none 0 0] 63 (0, 0)) (bu_ BK680.out)) : gb680 ≠ gb691)) ((by rw [hg]; exact Nat.ne_of_gt (jX (g := gb680) (o := .cells #[.slice none 0 0, .slice none 0 0, .slice none 0 0, .slice none 0 0] 63 (0, 0)) (bu_ BK680.out)) : gb691 ≠ gb680)); clear HO683 HO686 HO689 BK679 BK680 HB; obtain ⟨HO683, HO686, HO689, BK679, BK680, HB, BK691, GW691, GE691, NB679_691, NB691_679, NB680_691, NB691_680⟩ := n_; clear hb hbox hg; obtain ⟨Ao100, co100, eo100⟩ := jp HO683.out; subst eo100; have hnb101 := NB691_679.out; have hnc101 := NB679_691.out; have hnb102 := NB691_680.out; have hnc102 := NB680_691.out; obtain ⟨hcz103_0, hcz103_1, hcz103_2, hfz103_0, hfz103_1, hfz103_2⟩ := cz3_ BK691.out; obtain ⟨Ao104, co104, eo104⟩ := jp HO686.out; subst eo104; obtain ⟨Ao105, co105, eo105⟩ := jZ HO689.out; subst eo105; have hnb106 := NB680_679.out; have hnc106 := NB679_680.out; obtain ⟨hcz107_0, hcz107_1, hcz107_2, hcz107_3, hfz107_0, hfz107_1, hfz107_2, hfz107_3⟩ := cz4_ BK680.out; obtain ⟨hcz108_0, hcz108_1, hcz108_2, hcz108_3, hfz108_0, hfz108_1, hfz108_2, hfz108_3⟩ := cz4_ BK679.out))
  refine bodyPost_ret (results_ct rfl _ _ gb679 63 #[.slice none 0 0, .slice none 0 0, .slice none 0 0, .slice none 0 0] (0, 0) _ rfl (by (with_reducible repeat (first | refine jn ?_ _ | refine jl ?_ | refine jm ?_ _)); refine jt (cs := #[.slice none 0 0, .slice none 0 0, .slice none 0 0, .slice none 0 0]) ?_ 3 _ rfl; (with_reducible repeat (first | refine jn ?_ _ | refine jl ?_ | refine jm ?_ _)); refine jt (cs := #[.slice none 0 0, .slice none 0 0, .slice none 0 0, .slice none 0 0]) ?_ 2 _ rfl; (with_reducible repeat (first | refine jn ?_ _ | refine jl ?_ | refine jm ?_ _)); refine jt (cs := #[.slice none 0 0, .slice none 0 0, .slice none 0 0, .slice none 0 0]) ?_ 1 _ rfl; (with_reducible repeat (first | refine jn ?_ _ | refine jl ?_ | refine jm ?_ _)); refine jt (cs := #[.slice none 0 0, .slice none 0 0, .slice none 0 0, .slice none 0 0]) ?_ 0 _ rfl; (with_reducible repeat (first | refine jn ?_ _ | refine jl ?_ | refine jm ?_ _)); refine jY ?_ NB679_691.out _; (with_reducible repeat (first | refine jn ?_ _ | refine jl ?_ | refine jm ?_ _)); refine jY ?_ NB679_691.out _; (with_reducible repeat (first | refine jn ?_ _ | refine jl ?_ | refine jm ?_ _)); refine jY ?_ NB679_691.out _; exact bu_ BK679.out) Try.underlying63 rfl T4_) rfl ?_
  exact ⟨_, _, _, _, T16_, T20_, T20_, T20_, T21_, T42_⟩
 rw [if_pos c5] at H
 have c5b0 : (t690 == 0) = true := beq_iff_eq.mpr c5
 have c5b1 : (t690 != 0) = false := bne_eq_false_iff_eq.mpr c5
 clear c5
 replace H := Option.bind_eq_some_iff.mp H
 obtain ⟨⟨t692, t693⟩, A60, H⟩ := H
 try dsimp only at H
 have A6 := am_ A60
 clear A60
 replace H := Option.bind_eq_some_iff.mp H
 obtain ⟨t696, A70, H⟩ := H
 try dsimp only at H
 have A7 := am_ A70
 clear A70
 replace H := Option.bind_eq_some_iff.mp H
 obtain ⟨⟨t699, t700, t701⟩, A80, H⟩ := H
 try dsimp only at H
 have A8 := am_ A80
 clear A80
 by_cases c9 : t701 = 0
 rotate_left
 ·rw [if_neg c9] at H
  have c9b0 : (t701 == 0) = false := beq_eq_false_iff_ne.mpr c9
  have c9b1 : (t701 != 0) = true := bne_iff_ne.mpr c9
  simp only [Option.some.injEq, Prod.mk.injEq] at H
  obtain ⟨rfl, rfl, rfl, rfl, rfl⟩ := H
  go_enter Try.func23, Try.ntmps23
  try go_wp2_with (first | ((with_reducible refine jx (N := 6) rfl ?_); refine jJ ?hg (N := 6) ?hd (cs := #[.slice none 0 0, .slice none 0 0, .slice none 0 0, .slice none 0 0]) (t := 63) ?hr ?_; (case hd => rfl); (case hg => rfl); (case hr => first | (go_simp; done) | (go_simp; rfl)); intro gb679 hg w75 hbox hb; have n_ := P4_ (jh T18_ hb) (hbox) ((by rw [hg]; exact (ja T18_) : w.heap.size ≤ gb679)) ((by rw [hg]; exact (ja T18_) : w.heap.size ≤ gb679)); clear HB; obtain ⟨HB, BK679, GW679, GE679⟩ := n_; clear hb hbox hg) | ((with_reducible refine jx (N := 8) rfl ?_); refine jJ ?hg (N := 8) ?hd (cs := #[.slice none 0 0, .slice none 0 0, .slice none 0 0, .slice none 0 0]) (t := 63) ?hr ?_; (case hd => rfl); (case hg => rfl); (case hr => first | (go_simp; done) | (go_simp; rfl)); intro gb680 hg w76 hbox hb; have n_ := P7_ (jq (g := gb679) (o := .cells #[.slice none 0 0, .slice none 0 0, .slice none 0 0, .slice none 0 0] 63 (0, 0)) (bu_ BK679.out) hb) (jh T33_ hb) (hbox) ((by rw [hg]; exact (ja T33_) : w.heap.size ≤ gb680)) ((by rw [hg]; exact (ja T33_) : w.heap.size ≤ gb680)) ((by rw [hg]; exact Nat.ne_of_lt (jX (g := gb679) (o := .cells #[.slice none 0 0, .slice none 0 0, .slice none 0 0, .slice none 0 0] 63 (0, 0)) (bu_ BK679.out)) : gb679 ≠ gb680)) ((by rw [hg]; exact Nat.ne_of_gt (jX (g := gb679) (o := .cells #[.slice none 0 0, .slice none 0 0, .slice none 0 0, .slice none 0 0] 63 (0, 0)) (bu_ BK679.out)) : gb680 ≠ gb679)); clear BK679 HB; obtain ⟨BK679, HB, BK680, GW680, GE680, NB679_680, NB680_679⟩ := n_; clear hb hbox hg) | ((with_reducible refine jv (f := 26) rfl ?_); refine gl_ (some 23) Try.func26 #[.slice A0 l0.length c0, .int .i64 a2] ?_; (with_reducible refine (churnref09_Split.calls k _ _ l0 a2 t681 t684 t687 t690 _ ?side1 ?side2 A4.out).mono ?_); (case side1 => exact cu_ (jw HR0.out HB.out)); (case side2 => exact HC0.out); rintro e w77 ⟨v682, v685, v688, rfl, ho0, ho1, ho2, hb⟩; refine ⟨_, rfl, ?_⟩; have n_ := P6_ (jo ho0 (ja T40_)) (jo ho1 (ja T40_)) (Kd.S_lower ho2 (ja T40_)) (jq (g := gb679) (o := .cells #[.slice none 0 0, .slice none 0 0, .slice none 0 0, .slice none 0 0] 63 (0, 0)) (bu_ BK679.out) hb) (jq (g := gb680) (o := .cells #[.slice none 0 0, .slice none 0 0, .slice none 0 0, .slice none 0 0] 63 (0, 0)) (bu_ BK680.out) hb) (jh T40_ hb); clear BK679 BK680 HB; obtain ⟨HO683, HO686, HO689, BK679, BK680, HB⟩ := n_; clear hb ho0 ho1 ho2) | ((with_reducible refine jx (N := 9) rfl ?_); refine jJ ?hg (N := 9) ?hd (cs := #[.slice none 0 0, .slice none 0 0, .slice none 0 0]) (t := 55) ?hr ?_; (case hd => rfl); (case hg => rfl); (case hr => first | (go_simp; done) | (go_simp; rfl)); intro gb691 hg w78 hbox hb; have n_ := P13_ (je (ru_ HO683.out) hb) (je (ru_ HO686.out) hb) (jD (su_ HO689.out) hb) (jq (g := gb679) (o := .cells #[.slice none 0 0, .slice none 0 0, .slice none 0 0, .slice none 0 0] 63 (0, 0)) (bu_ BK679.out) hb) (jq (g := gb680) (o := .cells #[.slice none 0 0, .slice none 0 0, .slice none 0 0, .slice none 0 0] 63 (0, 0)) (bu_ BK680.out) hb) (jh T40_ hb) (hbox) ((by rw [hg]; exact (ja T40_) : w.heap.size ≤ gb691)) ((by rw [hg]; exact (ja T40_) : w.heap.size ≤ gb691)) ((by rw [hg]; exact Nat.ne_of_lt (jX (g := gb679) (o := .cells #[.slice none 0 0, .slice none 0 0, .slice none 0 0, .slice none 0 0] 63 (0, 0)) (bu_ BK679.out)) : gb679 ≠ gb691)) ((by rw [hg]; exact Nat.ne_of_gt (jX (g := gb679) (o := .cells #[.slice none 0 0, .slice none 0 0, .slice none 0 0, .slice none 0 0] 63 (0, 0)) (bu_ BK679.out)) : gb691 ≠ gb679)) ((by rw [hg]; exact Nat.ne_of_lt (jX (g := gb680) (o := .cells #[.slice none 0 0, .slice none 0 0, .slice none 0 0, .slice none 0 0] 63 (0, 0)) (bu_ BK680.out)) : gb680 ≠ gb691)) ((by rw [hg]; exact Nat.ne_of_gt (jX (g := gb680) (o := .cells #[.slice none 0 0, .slice none 0 0, .slice none 0 0, .slice none 0 0] 63 (0, 0)) (bu_ BK680.out)) : gb691 ≠ gb680)); clear HO683 HO686 HO689 BK679 BK680 HB; obtain ⟨HO683, HO686, HO689, BK679, BK680, HB, BK691, GW691, GE691, NB679_691, NB691_679, NB680_691, NB691_680⟩ := n_; clear hb hbox hg; obtain ⟨Ao79, co79, eo79⟩ := jp HO683.out; subst eo79; have hnb80 := NB691_679.out; have hnc80 := NB679_691.out; have hnb81 := NB691_680.out; have hnc81 := NB680_691.out; obtain ⟨hcz82_0, hcz82_1, hcz82_2, hfz82_0, hfz82_1, hfz82_2⟩ := cz3_ BK691.out; obtain ⟨Ao83, co83, eo83⟩ := jp HO686.out; subst eo83; obtain ⟨Ao84, co84, eo84⟩ := jZ HO689.out; subst eo84) | ((with_reducible refine jv (f := 45) rfl ?_); refine gl_ (some 32) Try.func45 #[.int .i64 a1, .int .i64 a2] ?_; (with_reducible refine (churnref12_Sizes.calls k a1 a2 t692 t693 _ A6.out).mono ?_); rintro e w85 ⟨v694, rfl, ho0, hb⟩; refine ⟨_, rfl, ?_⟩; have n_ := P8_ (je (ru_ ((jc (jd (p := ⟨gb691, 2, none⟩) (jd (p := ⟨gb691, 1, none⟩) (jd (p := ⟨gb691, 0, none⟩) (js HO683.out BK691.out T3_) (fun _ hk => hk.2) (.slice Ao79 t681.length co79)) (fun _ hk => hk.2) (.slice Ao83 t684.length co83)) (fun _ hk => hk.2) (.slice Ao84 t687.length co84)) (fun _ h_ => h_.1)))) hb) (je (ru_ ((jc (jd (p := ⟨gb691, 2, none⟩) (jd (p := ⟨gb691, 1, none⟩) (jd (p := ⟨gb691, 0, none⟩) (js HO686.out BK691.out T3_) (fun _ hk => hk.2) (.slice Ao79 t681.length co79)) (fun _ hk => hk.2) (.slice Ao83 t684.length co83)) (fun _ hk => hk.2) (.slice Ao84 t687.length co84)) (fun _ h_ => h_.1)))) hb) (jD (su_ ((jz (jA (p := ⟨gb691, 2, none⟩) (jA (p := ⟨gb691, 1, none⟩) (jA (p := ⟨gb691, 0, none⟩) (Jd HO689.out BK691.out T3_) (fun _ hk => hk.2) (.slice Ao79 t681.length co79)) (fun _ hk => hk.2) (.slice Ao83 t684.length co83)) (fun _ hk => hk.2) (.slice Ao84 t687.length co84)) (fun _ h_ => h_.1)))) hb) (jo ho0 (ja T42_)) (jq (g := gb679) (o := .cells #[.slice none 0 0, .slice none 0 0, .slice none 0 0, .slice none 0 0] 63 (0, 0)) (by (with_reducible repeat (first | refine jn ?_ _ | refine jl ?_ | refine jm ?_ _)); refine jY ?_ NB679_691.out _; (with_reducible repeat (first | refine jn ?_ _ | refine jl ?_ | refine jm ?_ _)); refine jY ?_ NB679_691.out _; (with_reducible repeat (first | refine jn ?_ _ | refine jl ?_ | refine jm ?_ _)); refine jY ?_ NB679_691.out _; exact bu_ BK679.out) hb) (jq (g := gb680) (o := .cells #[.slice none 0 0, .slice none 0 0, .slice none 0 0, .slice none 0 0] 63 (0, 0)) (by (with_reducible repeat (first | refine jn ?_ _ | refine jl ?_ | refine jm ?_ _)); refine jY ?_ NB680_691.out _; (with_reducible repeat (first | refine jn ?_ _ | refine jl ?_ | refine jm ?_ _)); refine jY ?_ NB680_691.out _; (with_reducible repeat (first | refine jn ?_ _ | refine jl ?_ | refine jm ?_ _)); refine jY ?_ NB680_691.out _; exact bu_ BK680.out) hb) (jq (g := gb691) (o := .cells #[.slice Ao79 t681.length co79, .slice Ao83 t684.length co83, .slice Ao84 t687.length co84] 55 (0, 0)) (by (with_reducible repeat (first | refine jn ?_ _ | refine jl ?_ | refine jm ?_ _)); refine jt (cs := #[.slice Ao79 t681.length co79, .slice Ao83 t684.length co83, .slice none 0 0]) ?_ 2 _ rfl; (with_reducible repeat (first | refine jn ?_ _ | refine jl ?_ | refine jm ?_ _)); refine jt (cs := #[.slice Ao79 t681.length co79, .slice none 0 0, .slice none 0 0]) ?_ 1 _ rfl; (with_reducible repeat (first | refine jn ?_ _ | refine jl ?_ | refine jm ?_ _)); refine jt (cs := #[.slice none 0 0, .slice none 0 0, .slice none 0 0]) ?_ 0 _ rfl; exact bu_ BK691.out) hb) (jh T42_ hb); clear HO683 HO686 HO689 BK679 BK680 BK691 HB; obtain ⟨HO683, HO686, HO689, HO695, BK679, BK680, BK691, HB⟩ := n_; clear hb ho0; obtain ⟨Ao86, co86, eo86⟩ := jp HO695.out; subst eo86; have hnb87 := NB680_679.out; have hnc87 := NB679_680.out; obtain ⟨hcz88_0, hcz88_1, hcz88_2, hcz88_3, hfz88_0, hfz88_1, hfz88_2, hfz88_3⟩ := cz4_ BK680.out))
  have n0_ : Aside0 (ju (jb .u8) 5 (w85.setCell ⟨gb680, 0, none⟩ (.slice Ao86 t692.length co86)) w.heap.size (fun k_ => some k_ ≠ (.slice Ao83 t684.length co83 : Value).ownBlock) (.slice Ao79 t681.length co79) t681) := ⟨ru_ (jc (jd (p := ⟨gb680, 0, none⟩) (js HO683.out BK680.out T3_) (fun _ hk => hk.2) (.slice Ao86 t692.length co86)) (fun _ hk => hk.1))⟩
  have n1_ : Aside0 (ju (jb .u8) 5 (w85.setCell ⟨gb680, 0, none⟩ (.slice Ao86 t692.length co86)) w.heap.size (fun k_ => some k_ ≠ (.slice Ao79 t681.length co79 : Value).ownBlock) (.slice Ao83 t684.length co83) t684) := ⟨ru_ (jc (jd (p := ⟨gb680, 0, none⟩) (js HO686.out BK680.out T3_) (fun _ hk => hk.2) (.slice Ao86 t692.length co86)) (fun _ hk => hk.1))⟩
  have n2_ : Aside0 (Kd.S (jy 5 (jb .u8)) 23 (w85.setCell ⟨gb680, 0, none⟩ (.slice Ao86 t692.length co86)) w.heap.size (fun k_ => some k_ ≠ (.slice Ao79 t681.length co79 : Value).ownBlock ∧ some k_ ≠ (.slice Ao83 t684.length co83 : Value).ownBlock) (.slice Ao84 t687.length co84) t687) := ⟨su_ (jz (jA (p := ⟨gb680, 0, none⟩) (Jd HO689.out BK680.out T3_) (fun _ hk => hk.2) (.slice Ao86 t692.length co86)) (fun _ hk => ⟨hk.1.1, hk.1.2⟩))⟩
  have n3_ : Aside0 (ju (jb .i64) 3 (w85.setCell ⟨gb680, 0, none⟩ (.slice Ao86 t692.length co86)) w.heap.size (fun _ => True) (.slice Ao86 t692.length co86) t692) := ⟨ru_ (jc (jd (p := ⟨gb680, 0, none⟩) (js HO695.out BK680.out T3_) (fun _ hk => hk.2) (.slice Ao86 t692.length co86)) (fun _ hk => trivial))⟩
  have n4_ : Aside0 ((w85.setCell ⟨gb680, 0, none⟩ (.slice Ao86 t692.length co86)).heap[gb679]? = some (.cells #[.slice none 0 0, .slice none 0 0, .slice none 0 0, .slice none 0 0] 63 (0, 0))) := ⟨T23_⟩
  have n5_ : Aside0 ((w85.setCell ⟨gb680, 0, none⟩ (.slice Ao86 t692.length co86)).heap[gb680]? = some (.cells #[.slice Ao86 t692.length co86, .slice none 0 0, .slice none 0 0, .slice none 0 0] 63 (0, 0))) := ⟨(by (with_reducible repeat (first | refine jn ?_ _ | refine jl ?_ | refine jm ?_ _)); refine jt (cs := #[.slice none 0 0, .slice none 0 0, .slice none 0 0, .slice none 0 0]) ?_ 0 _ rfl; exact bu_ BK680.out)⟩
  have n6_ : Aside0 ((w85.setCell ⟨gb680, 0, none⟩ (.slice Ao86 t692.length co86)).heap[gb691]? = some (.cells #[.slice Ao79 t681.length co79, .slice Ao83 t684.length co83, .slice Ao84 t687.length co84] 55 (0, 0))) := ⟨T24_⟩
  have n7_ : Aside0 (Below w.heap.size w (w85.setCell ⟨gb680, 0, none⟩ (.slice Ao86 t692.length co86))) := ⟨T42_⟩
  (try clear HO683);(try clear HO686);(try clear HO689);(try clear HO695);(try clear BK679);(try clear BK680);(try clear BK691);(try clear HB)
  generalize (w85.setCell ⟨gb680, 0, none⟩ (.slice Ao86 t692.length co86)) = w89 at n0_ n1_ n2_ n3_ n4_ n5_ n6_ n7_ ⊢
  have HO683 := n0_
  have HO686 := n1_
  have HO689 := n2_
  have HO695 := n3_
  have BK679 := n4_
  have BK680 := n5_
  have BK691 := n6_
  have HB := n7_
  clear n0_ n1_ n2_ n3_ n4_ n5_ n6_ n7_
  have n_ := P8_ (jr HO683.out) (jr HO686.out) (Je HO689.out) (jr HO695.out) (jl BK679.out) (jl BK680.out) (jl BK691.out) (jM HB.out)
  clear HO683 HO686 HO689 HO695 BK679 BK680 BK691 HB
  obtain ⟨HO683, HO686, HO689, HO695, BK679, BK680, BK691, HB⟩ := n_
  refine start_ (n := 12) (S := fun w' => w'.cell? ⟨gb691, 0, none⟩ = some (.slice Ao79 t681.length co79) ∧ w'.cell? ⟨gb691, 1, none⟩ = some (.slice Ao83 t684.length co83) ∧ w'.cell? ⟨gb691, 2, none⟩ = some (.slice Ao84 t687.length co84)) (ds := []) #[false, false, false, false, false, false, false, false, false, false, false, false] T4_ rfl rfl ⟨bc_ BK691.out 0, bc_ BK691.out 1, bc_ BK691.out 2⟩ (fun hHeld => ?_); refine with_tabW churnref13_laid.tab6 churnref13_laid.bits6 (fun HT_ HW_ => ?_)
  generalize w89.drew = w90 at HO683 HO686 HO689 HO695 BK679 BK680 BK691 HB hHeld ⊢
  refine pz_ 0 (some 37) ?_
  refine pz_ 2 (some 39) ?_
  refine tz3_ 1 (some 38) hHeld ?_
  refine oz_ 3 (some 40) (fun K hK => ?_)
  refine goes_ Try.func29 T4_ rfl #[.int .i64 a1] T0_ rfl rfl T19_ ?_
  with_reducible refine (churnref12_Bounds.calls k a1 t696 _ A7.out).mono ?_
  rintro e w91 ⟨v697, rfl, ho0, hb⟩
  refine ⟨_, rfl, ?_⟩
  have n_ := P9_ (je (ru_ HO683.out) hb) (je (ru_ HO686.out) hb) (jD (su_ HO689.out) hb) (ji (ru_ HO695.out) (jf ho0) hb) (jo (jk ho0 (jj (ru_ HO695.out))) (ja T42_)) (jq (g := gb679) (o := .cells #[.slice none 0 0, .slice none 0 0, .slice none 0 0, .slice none 0 0] 63 (0, 0)) (bu_ BK679.out) hb) (jq (g := gb680) (o := .cells #[.slice Ao86 t692.length co86, .slice none 0 0, .slice none 0 0, .slice none 0 0] 63 (0, 0)) (bu_ BK680.out) hb) (jq (g := gb691) (o := .cells #[.slice Ao79 t681.length co79, .slice Ao83 t684.length co83, .slice Ao84 t687.length co84] 55 (0, 0)) (bu_ BK691.out) hb) (jh T42_ hb)
  clear HO683 HO686 HO689 HO695 BK679 BK680 BK691 HB
  obtain ⟨HO683, HO686, HO689, HO695, HO698, BK679, BK680, BK691, HB⟩ := n_
  (try clear hb);(try clear hb2);(try clear hk);(try clear hi);(try clear ho0)
  obtain ⟨Ao92, co92, eo92⟩ := jp HO698.out
  (first | subst eo92 | (injection eo92 with f1_ f2_ f3_; have f4_ := f1_.symm; have f5_ := f3_.symm; clear f1_ f2_ f3_; subst f4_; subst f5_))
  refine hK.out _ _ ⟨bc_ BK691.out 0, bc_ BK691.out 1, bc_ BK691.out 2⟩ (fun hHeld => ?_)
  clear hK K
  refine norm_ (a' := ?_) ?_ ?_
  rotate_left
  ·show Act.put _ (some 40) _ = _
   simp only [Act.put, List.setIfInBounds_toArray, List.set_cons_zero, List.set_cons_succ, jE, jG]
   rfl
  refine oz_ 4 (some 41) (fun K hK => ?_)
  refine goes_ Try.func46 T4_ rfl #[.slice Ao83 t684.length co83, .slice Ao92 t696.length co92] T0_ rfl rfl T19_ ?_
  with_reducible refine (churnref10_All.calls k _ _ t684 _ _ t696 t699 t700 t701 _ ?side1 ?side2 ?side3 ?side4 A8.out).mono ?_
  (case side1 => exact cu_ ((jg HO686.out).2.2))
  (case side2 => exact (jg HO686.out).2.1)
  (case side3 => exact cu_ ((jg HO698.out).2.2))
  (case side4 => exact (jg HO698.out).2.1)
  rintro e w93 ⟨v702, rfl, ho0, hb⟩
  refine ⟨_, rfl, ?_⟩
  have n_ := P10_ (je (ru_ HO683.out) hb) (je (ru_ HO686.out) hb) (jD (su_ HO689.out) hb) (ji (ru_ HO695.out) (jf ho0) hb) (ji (ru_ HO698.out) (jf ho0) hb) (jo (jk (jk ho0 (jj (ru_ HO695.out))) (jj (ru_ HO698.out))) (ja T42_)) (jq (g := gb679) (o := .cells #[.slice none 0 0, .slice none 0 0, .slice none 0 0, .slice none 0 0] 63 (0, 0)) (bu_ BK679.out) hb) (jq (g := gb680) (o := .cells #[.slice Ao86 t692.length co86, .slice none 0 0, .slice none 0 0, .slice none 0 0] 63 (0, 0)) (bu_ BK680.out) hb) (jq (g := gb691) (o := .cells #[.slice Ao79 t681.length co79, .slice Ao83 t684.length co83, .slice Ao84 t687.length co84] 55 (0, 0)) (bu_ BK691.out) hb) (jh T42_ hb)
  clear HO683 HO686 HO689 HO695 HO698 BK679 BK680 BK691 HB
  obtain ⟨HO683, HO686, HO689, HO695, HO698, HO703, BK679, BK680, BK691, HB⟩ := n_
  (try clear hb);(try clear hb2);(try clear hk);(try clear hi);(try clear ho0)
  refine hK.out _ _ ⟨bc_ BK691.out 0, bc_ BK691.out 1, bc_ BK691.out 2⟩ (fun hHeld => ?_)
  clear hK K
  refine norm_ (a' := ?_) ?_ ?_
  rotate_left
  ·show Act.put _ (some 41) _ = _
   simp only [Act.put, List.setIfInBounds_toArray, List.set_cons_zero, List.set_cons_succ, jE, jG]
   rfl
  refine pz_ 5 (some 36) ?_
  refine pz_ 6 (some 42) ?_
  refine pz_ 7 (some 43) ?_
  refine pz_ 8 (some 44) ?_
  refine pz_ 9 (some 11) ?_
  refine pz_ 10 (some 12) ?_
  refine pz_ 11 (some 13) ?_
  refine done_ (done_of HT_.out T4_) ?_
  obtain ⟨hcz94_0, hcz94_1, hcz94_2, hcz94_3, hfz94_0, hfz94_1, hfz94_2, hfz94_3⟩ := cz4_ BK680.out
  obtain ⟨hcz95_0, hcz95_1, hcz95_2, hcz95_3, hfz95_0, hfz95_1, hfz95_2, hfz95_3⟩ := cz4_ BK679.out
  try go_wp2
  refine bodyPost_ret (results_ct rfl _ _ gb679 63 #[.slice Ao86 t692.length co86, .slice none 0 0, .slice none 0 0, .slice none 0 0] (0, 0) _ rfl (by (with_reducible repeat (first | refine jn ?_ _ | refine jl ?_ | refine jm ?_ _)); refine jt (cs := #[.slice Ao86 t692.length co86, .slice none 0 0, .slice none 0 0, .slice none 0 0]) ?_ 3 _ rfl; (with_reducible repeat (first | refine jn ?_ _ | refine jl ?_ | refine jm ?_ _)); refine jt (cs := #[.slice Ao86 t692.length co86, .slice none 0 0, .slice none 0 0, .slice none 0 0]) ?_ 2 _ rfl; (with_reducible repeat (first | refine jn ?_ _ | refine jl ?_ | refine jm ?_ _)); refine jt (cs := #[.slice Ao86 t692.length co86, .slice none 0 0, .slice none 0 0, .slice none 0 0]) ?_ 1 _ rfl; (with_reducible repeat (first | refine jn ?_ _ | refine jl ?_ | refine jm ?_ _)); refine jt (cs := #[.slice none 0 0, .slice none 0 0, .slice none 0 0, .slice none 0 0]) ?_ 0 _ rfl; exact bu_ BK679.out) Try.underlying63 rfl T4_) rfl ?_
  exact ⟨_, _, _, _, T16_, ru_ (jc (jd (p := ⟨gb679, 3, none⟩) (jd (p := ⟨gb679, 2, none⟩) (jd (p := ⟨gb679, 1, none⟩) (jd (p := ⟨gb679, 0, none⟩) (js HO695.out BK679.out T3_) (fun _ hk => hk.2) (.slice Ao86 t692.length co86)) (fun _ hk => hk.2) (.slice none 0 0)) (fun _ hk => hk.2) (.slice none 0 0)) (fun _ hk => hk.2) (.slice none 0 0)) (fun _ hk => ⟨T6_, T6_⟩)), T20_, T20_, T21_, T42_⟩
 rw [if_pos c9] at H
 have c9b0 : (t701 == 0) = true := beq_iff_eq.mpr c9
 have c9b1 : (t701 != 0) = false := bne_eq_false_iff_eq.mpr c9
 clear c9
 replace H := Option.bind_eq_some_iff.mp H
 obtain ⟨⟨t704, t705, t706⟩, A100, H⟩ := H
 try dsimp only at H
 have A10 := am_ A100
 clear A100
 have H' := am_ H
 clear H
 go_enter Try.func23, Try.ntmps23
 try go_wp2_with (first | ((with_reducible refine jx (N := 6) rfl ?_); refine jJ ?hg (N := 6) ?hd (cs := #[.slice none 0 0, .slice none 0 0, .slice none 0 0, .slice none 0 0]) (t := 63) ?hr ?_; (case hd => rfl); (case hg => rfl); (case hr => first | (go_simp; done) | (go_simp; rfl)); intro gb679 hg w11 hbox hb; have n_ := P4_ (jh T18_ hb) (hbox) ((by rw [hg]; exact (ja T18_) : w.heap.size ≤ gb679)) ((by rw [hg]; exact (ja T18_) : w.heap.size ≤ gb679)); clear HB; obtain ⟨HB, BK679, GW679, GE679⟩ := n_; clear hb hbox hg) | ((with_reducible refine jx (N := 8) rfl ?_); refine jJ ?hg (N := 8) ?hd (cs := #[.slice none 0 0, .slice none 0 0, .slice none 0 0, .slice none 0 0]) (t := 63) ?hr ?_; (case hd => rfl); (case hg => rfl); (case hr => first | (go_simp; done) | (go_simp; rfl)); intro gb680 hg w12 hbox hb; have n_ := P7_ (jq (g := gb679) (o := .cells #[.slice none 0 0, .slice none 0 0, .slice none 0 0, .slice none 0 0] 63 (0, 0)) (bu_ BK679.out) hb) (jh T33_ hb) (hbox) ((by rw [hg]; exact (ja T33_) : w.heap.size ≤ gb680)) ((by rw [hg]; exact (ja T33_) : w.heap.size ≤ gb680)) ((by rw [hg]; exact Nat.ne_of_lt (jX (g := gb679) (o := .cells #[.slice none 0 0, .slice none 0 0, .slice none 0 0, .slice none 0 0] 63 (0, 0)) (bu_ BK679.out)) : gb679 ≠ gb680)) ((by rw [hg]; exact Nat.ne_of_gt (jX (g := gb679) (o := .cells #[.slice none 0 0, .slice none 0 0, .slice none 0 0, .slice none 0 0] 63 (0, 0)) (bu_ BK679.out)) : gb680 ≠ gb679)); clear BK679 HB; obtain ⟨BK679, HB, BK680, GW680, GE680, NB679_680, NB680_679⟩ := n_; clear hb hbox hg) | ((with_reducible refine jv (f := 26) rfl ?_); refine gl_ (some 23) Try.func26 #[.slice A0 l0.length c0, .int .i64 a2] ?_; (with_reducible refine (churnref09_Split.calls k _ _ l0 a2 t681 t684 t687 t690 _ ?side1 ?side2 A4.out).mono ?_); (case side1 => exact cu_ (jw HR0.out HB.out)); (case side2 => exact HC0.out); rintro e w13 ⟨v682, v685, v688, rfl, ho0, ho1, ho2, hb⟩; refine ⟨_, rfl, ?_⟩; have n_ := P6_ (jo ho0 (ja T40_)) (jo ho1 (ja T40_)) (Kd.S_lower ho2 (ja T40_)) (jq (g := gb679) (o := .cells #[.slice none 0 0, .slice none 0 0, .slice none 0 0, .slice none 0 0] 63 (0, 0)) (bu_ BK679.out) hb) (jq (g := gb680) (o := .cells #[.slice none 0 0, .slice none 0 0, .slice none 0 0, .slice none 0 0] 63 (0, 0)) (bu_ BK680.out) hb) (jh T40_ hb); clear BK679 BK680 HB; obtain ⟨HO683, HO686, HO689, BK679, BK680, HB⟩ := n_; clear hb ho0 ho1 ho2) | ((with_reducible refine jx (N := 9) rfl ?_); refine jJ ?hg (N := 9) ?hd (cs := #[.slice none 0 0, .slice none 0 0, .slice none 0 0]) (t := 55) ?hr ?_; (case hd => rfl); (case hg => rfl); (case hr => first | (go_simp; done) | (go_simp; rfl)); intro gb691 hg w14 hbox hb; have n_ := P13_ (je (ru_ HO683.out) hb) (je (ru_ HO686.out) hb) (jD (su_ HO689.out) hb) (jq (g := gb679) (o := .cells #[.slice none 0 0, .slice none 0 0, .slice none 0 0, .slice none 0 0] 63 (0, 0)) (bu_ BK679.out) hb) (jq (g := gb680) (o := .cells #[.slice none 0 0, .slice none 0 0, .slice none 0 0, .slice none 0 0] 63 (0, 0)) (bu_ BK680.out) hb) (jh T40_ hb) (hbox) ((by rw [hg]; exact (ja T40_) : w.heap.size ≤ gb691)) ((by rw [hg]; exact (ja T40_) : w.heap.size ≤ gb691)) ((by rw [hg]; exact Nat.ne_of_lt (jX (g := gb679) (o := .cells #[.slice none 0 0, .slice none 0 0, .slice none 0 0, .slice none 0 0] 63 (0, 0)) (bu_ BK679.out)) : gb679 ≠ gb691)) ((by rw [hg]; exact Nat.ne_of_gt (jX (g := gb679) (o := .cells #[.slice none 0 0, .slice none 0 0, .slice none 0 0, .slice none 0 0] 63 (0, 0)) (bu_ BK679.out)) : gb691 ≠ gb679)) ((by rw [hg]; exact Nat.ne_of_lt (jX (g := gb680) (o := .cells #[.slice none 0 0, .slice none 0 0, .slice none 0 0, .slice none 0 0] 63 (0, 0)) (bu_ BK680.out)) : gb680 ≠ gb691)) ((by rw [hg]; exact Nat.ne_of_gt (jX (g := gb680) (o := .cells #[.slice none 0 0, .slice none 0 0, .slice none 0 0, .slice none 0 0] 63 (0, 0)) (bu_ BK680.out)) : gb691 ≠ gb680)); clear HO683 HO686 HO689 BK679 BK680 HB; obtain ⟨HO683, HO686, HO689, BK679, BK680, HB, BK691, GW691, GE691, NB679_691, NB691_679, NB680_691, NB691_680⟩ := n_; clear hb hbox hg; obtain ⟨Ao15, co15, eo15⟩ := jp HO683.out; subst eo15; have hnb16 := NB691_679.out; have hnc16 := NB679_691.out; have hnb17 := NB691_680.out; have hnc17 := NB680_691.out; obtain ⟨hcz18_0, hcz18_1, hcz18_2, hfz18_0, hfz18_1, hfz18_2⟩ := cz3_ BK691.out; obtain ⟨Ao19, co19, eo19⟩ := jp HO686.out; subst eo19; obtain ⟨Ao20, co20, eo20⟩ := jZ HO689.out; subst eo20) | ((with_reducible refine jv (f := 45) rfl ?_); refine gl_ (some 32) Try.func45 #[.int .i64 a1, .int .i64 a2] ?_; (with_reducible refine (churnref12_Sizes.calls k a1 a2 t692 t693 _ A6.out).mono ?_); rintro e w21 ⟨v694, rfl, ho0, hb⟩; refine ⟨_, rfl, ?_⟩; have n_ := P8_ (je (ru_ ((jc (jd (p := ⟨gb691, 2, none⟩) (jd (p := ⟨gb691, 1, none⟩) (jd (p := ⟨gb691, 0, none⟩) (js HO683.out BK691.out T3_) (fun _ hk => hk.2) (.slice Ao15 t681.length co15)) (fun _ hk => hk.2) (.slice Ao19 t684.length co19)) (fun _ hk => hk.2) (.slice Ao20 t687.length co20)) (fun _ h_ => h_.1)))) hb) (je (ru_ ((jc (jd (p := ⟨gb691, 2, none⟩) (jd (p := ⟨gb691, 1, none⟩) (jd (p := ⟨gb691, 0, none⟩) (js HO686.out BK691.out T3_) (fun _ hk => hk.2) (.slice Ao15 t681.length co15)) (fun _ hk => hk.2) (.slice Ao19 t684.length co19)) (fun _ hk => hk.2) (.slice Ao20 t687.length co20)) (fun _ h_ => h_.1)))) hb) (jD (su_ ((jz (jA (p := ⟨gb691, 2, none⟩) (jA (p := ⟨gb691, 1, none⟩) (jA (p := ⟨gb691, 0, none⟩) (Jd HO689.out BK691.out T3_) (fun _ hk => hk.2) (.slice Ao15 t681.length co15)) (fun _ hk => hk.2) (.slice Ao19 t684.length co19)) (fun _ hk => hk.2) (.slice Ao20 t687.length co20)) (fun _ h_ => h_.1)))) hb) (jo ho0 (ja T42_)) (jq (g := gb679) (o := .cells #[.slice none 0 0, .slice none 0 0, .slice none 0 0, .slice none 0 0] 63 (0, 0)) (by (with_reducible repeat (first | refine jn ?_ _ | refine jl ?_ | refine jm ?_ _)); refine jY ?_ NB679_691.out _; (with_reducible repeat (first | refine jn ?_ _ | refine jl ?_ | refine jm ?_ _)); refine jY ?_ NB679_691.out _; (with_reducible repeat (first | refine jn ?_ _ | refine jl ?_ | refine jm ?_ _)); refine jY ?_ NB679_691.out _; exact bu_ BK679.out) hb) (jq (g := gb680) (o := .cells #[.slice none 0 0, .slice none 0 0, .slice none 0 0, .slice none 0 0] 63 (0, 0)) (by (with_reducible repeat (first | refine jn ?_ _ | refine jl ?_ | refine jm ?_ _)); refine jY ?_ NB680_691.out _; (with_reducible repeat (first | refine jn ?_ _ | refine jl ?_ | refine jm ?_ _)); refine jY ?_ NB680_691.out _; (with_reducible repeat (first | refine jn ?_ _ | refine jl ?_ | refine jm ?_ _)); refine jY ?_ NB680_691.out _; exact bu_ BK680.out) hb) (jq (g := gb691) (o := .cells #[.slice Ao15 t681.length co15, .slice Ao19 t684.length co19, .slice Ao20 t687.length co20] 55 (0, 0)) (by (with_reducible repeat (first | refine jn ?_ _ | refine jl ?_ | refine jm ?_ _)); refine jt (cs := #[.slice Ao15 t681.length co15, .slice Ao19 t684.length co19, .slice none 0 0]) ?_ 2 _ rfl; (with_reducible repeat (first | refine jn ?_ _ | refine jl ?_ | refine jm ?_ _)); refine jt (cs := #[.slice Ao15 t681.length co15, .slice none 0 0, .slice none 0 0]) ?_ 1 _ rfl; (with_reducible repeat (first | refine jn ?_ _ | refine jl ?_ | refine jm ?_ _)); refine jt (cs := #[.slice none 0 0, .slice none 0 0, .slice none 0 0]) ?_ 0 _ rfl; exact bu_ BK691.out) hb) (jh T42_ hb); clear HO683 HO686 HO689 BK679 BK680 BK691 HB; obtain ⟨HO683, HO686, HO689, HO695, BK679, BK680, BK691, HB⟩ := n_; clear hb ho0; obtain ⟨Ao22, co22, eo22⟩ := jp HO695.out; subst eo22; have hnb23 := NB680_679.out; have hnc23 := NB679_680.out; obtain ⟨hcz24_0, hcz24_1, hcz24_2, hcz24_3, hfz24_0, hfz24_1, hfz24_2, hfz24_3⟩ := cz4_ BK680.out))
 have n0_ : Aside0 (ju (jb .u8) 5 (w21.setCell ⟨gb680, 0, none⟩ (.slice Ao22 t692.length co22)) w.heap.size (fun k_ => some k_ ≠ (.slice Ao19 t684.length co19 : Value).ownBlock) (.slice Ao15 t681.length co15) t681) := ⟨ru_ (jc (jd (p := ⟨gb680, 0, none⟩) (js HO683.out BK680.out T3_) (fun _ hk => hk.2) (.slice Ao22 t692.length co22)) (fun _ hk => hk.1))⟩
 have n1_ : Aside0 (ju (jb .u8) 5 (w21.setCell ⟨gb680, 0, none⟩ (.slice Ao22 t692.length co22)) w.heap.size (fun k_ => some k_ ≠ (.slice Ao15 t681.length co15 : Value).ownBlock) (.slice Ao19 t684.length co19) t684) := ⟨ru_ (jc (jd (p := ⟨gb680, 0, none⟩) (js HO686.out BK680.out T3_) (fun _ hk => hk.2) (.slice Ao22 t692.length co22)) (fun _ hk => hk.1))⟩
 have n2_ : Aside0 (Kd.S (jy 5 (jb .u8)) 23 (w21.setCell ⟨gb680, 0, none⟩ (.slice Ao22 t692.length co22)) w.heap.size (fun k_ => some k_ ≠ (.slice Ao15 t681.length co15 : Value).ownBlock ∧ some k_ ≠ (.slice Ao19 t684.length co19 : Value).ownBlock) (.slice Ao20 t687.length co20) t687) := ⟨su_ (jz (jA (p := ⟨gb680, 0, none⟩) (Jd HO689.out BK680.out T3_) (fun _ hk => hk.2) (.slice Ao22 t692.length co22)) (fun _ hk => ⟨hk.1.1, hk.1.2⟩))⟩
 have n3_ : Aside0 (ju (jb .i64) 3 (w21.setCell ⟨gb680, 0, none⟩ (.slice Ao22 t692.length co22)) w.heap.size (fun _ => True) (.slice Ao22 t692.length co22) t692) := ⟨ru_ (jc (jd (p := ⟨gb680, 0, none⟩) (js HO695.out BK680.out T3_) (fun _ hk => hk.2) (.slice Ao22 t692.length co22)) (fun _ hk => trivial))⟩
 have n4_ : Aside0 ((w21.setCell ⟨gb680, 0, none⟩ (.slice Ao22 t692.length co22)).heap[gb679]? = some (.cells #[.slice none 0 0, .slice none 0 0, .slice none 0 0, .slice none 0 0] 63 (0, 0))) := ⟨T23_⟩
 have n5_ : Aside0 ((w21.setCell ⟨gb680, 0, none⟩ (.slice Ao22 t692.length co22)).heap[gb680]? = some (.cells #[.slice Ao22 t692.length co22, .slice none 0 0, .slice none 0 0, .slice none 0 0] 63 (0, 0))) := ⟨(by (with_reducible repeat (first | refine jn ?_ _ | refine jl ?_ | refine jm ?_ _)); refine jt (cs := #[.slice none 0 0, .slice none 0 0, .slice none 0 0, .slice none 0 0]) ?_ 0 _ rfl; exact bu_ BK680.out)⟩
 have n6_ : Aside0 ((w21.setCell ⟨gb680, 0, none⟩ (.slice Ao22 t692.length co22)).heap[gb691]? = some (.cells #[.slice Ao15 t681.length co15, .slice Ao19 t684.length co19, .slice Ao20 t687.length co20] 55 (0, 0))) := ⟨T24_⟩
 have n7_ : Aside0 (Below w.heap.size w (w21.setCell ⟨gb680, 0, none⟩ (.slice Ao22 t692.length co22))) := ⟨T42_⟩
 (try clear HO683);(try clear HO686);(try clear HO689);(try clear HO695);(try clear BK679);(try clear BK680);(try clear BK691);(try clear HB)
 generalize (w21.setCell ⟨gb680, 0, none⟩ (.slice Ao22 t692.length co22)) = w25 at n0_ n1_ n2_ n3_ n4_ n5_ n6_ n7_ ⊢
 have HO683 := n0_
 have HO686 := n1_
 have HO689 := n2_
 have HO695 := n3_
 have BK679 := n4_
 have BK680 := n5_
 have BK691 := n6_
 have HB := n7_
 clear n0_ n1_ n2_ n3_ n4_ n5_ n6_ n7_
 have n_ := P8_ (jr HO683.out) (jr HO686.out) (Je HO689.out) (jr HO695.out) (jl BK679.out) (jl BK680.out) (jl BK691.out) (jM HB.out)
 clear HO683 HO686 HO689 HO695 BK679 BK680 BK691 HB
 obtain ⟨HO683, HO686, HO689, HO695, BK679, BK680, BK691, HB⟩ := n_
 refine start_ (n := 12) (S := fun w' => w'.cell? ⟨gb691, 0, none⟩ = some (.slice Ao15 t681.length co15) ∧ w'.cell? ⟨gb691, 1, none⟩ = some (.slice Ao19 t684.length co19) ∧ w'.cell? ⟨gb691, 2, none⟩ = some (.slice Ao20 t687.length co20)) (ds := []) #[false, false, false, false, false, false, false, false, false, false, false, false] T4_ rfl rfl ⟨bc_ BK691.out 0, bc_ BK691.out 1, bc_ BK691.out 2⟩ (fun hHeld => ?_); refine with_tabW churnref13_laid.tab6 churnref13_laid.bits6 (fun HT_ HW_ => ?_)
 generalize w25.drew = w26 at HO683 HO686 HO689 HO695 BK679 BK680 BK691 HB hHeld ⊢
 refine pz_ 0 (some 37) ?_
 refine pz_ 2 (some 39) ?_
 refine tz3_ 1 (some 38) hHeld ?_
 refine oz_ 3 (some 40) (fun K hK => ?_)
 refine goes_ Try.func29 T4_ rfl #[.int .i64 a1] T0_ rfl rfl T19_ ?_
 with_reducible refine (churnref12_Bounds.calls k a1 t696 _ A7.out).mono ?_
 rintro e w27 ⟨v697, rfl, ho0, hb⟩
 refine ⟨_, rfl, ?_⟩
 have n_ := P9_ (je (ru_ HO683.out) hb) (je (ru_ HO686.out) hb) (jD (su_ HO689.out) hb) (ji (ru_ HO695.out) (jf ho0) hb) (jo (jk ho0 (jj (ru_ HO695.out))) (ja T42_)) (jq (g := gb679) (o := .cells #[.slice none 0 0, .slice none 0 0, .slice none 0 0, .slice none 0 0] 63 (0, 0)) (bu_ BK679.out) hb) (jq (g := gb680) (o := .cells #[.slice Ao22 t692.length co22, .slice none 0 0, .slice none 0 0, .slice none 0 0] 63 (0, 0)) (bu_ BK680.out) hb) (jq (g := gb691) (o := .cells #[.slice Ao15 t681.length co15, .slice Ao19 t684.length co19, .slice Ao20 t687.length co20] 55 (0, 0)) (bu_ BK691.out) hb) (jh T42_ hb)
 clear HO683 HO686 HO689 HO695 BK679 BK680 BK691 HB
 obtain ⟨HO683, HO686, HO689, HO695, HO698, BK679, BK680, BK691, HB⟩ := n_
 (try clear hb);(try clear hb2);(try clear hk);(try clear hi);(try clear ho0)
 obtain ⟨Ao28, co28, eo28⟩ := jp HO698.out
 (first | subst eo28 | (injection eo28 with f1_ f2_ f3_; have f4_ := f1_.symm; have f5_ := f3_.symm; clear f1_ f2_ f3_; subst f4_; subst f5_))
 refine hK.out _ _ ⟨bc_ BK691.out 0, bc_ BK691.out 1, bc_ BK691.out 2⟩ (fun hHeld => ?_)
 clear hK K
 refine norm_ (a' := ?_) ?_ ?_
 rotate_left
 ·show Act.put _ (some 40) _ = _
  simp only [Act.put, List.setIfInBounds_toArray, List.set_cons_zero, List.set_cons_succ, jE, jG]
  rfl
 refine oz_ 4 (some 41) (fun K hK => ?_)
 refine goes_ Try.func46 T4_ rfl #[.slice Ao19 t684.length co19, .slice Ao28 t696.length co28] T0_ rfl rfl T19_ ?_
 with_reducible refine (churnref10_All.calls k _ _ t684 _ _ t696 t699 t700 t701 _ ?side1 ?side2 ?side3 ?side4 A8.out).mono ?_
 (case side1 => exact cu_ ((jg HO686.out).2.2))
 (case side2 => exact (jg HO686.out).2.1)
 (case side3 => exact cu_ ((jg HO698.out).2.2))
 (case side4 => exact (jg HO698.out).2.1)
 rintro e w29 ⟨v702, rfl, ho0, hb⟩
 refine ⟨_, rfl, ?_⟩
 have n_ := P10_ (je (ru_ HO683.out) hb) (je (ru_ HO686.out) hb) (jD (su_ HO689.out) hb) (ji (ru_ HO695.out) (jf ho0) hb) (ji (ru_ HO698.out) (jf ho0) hb) (jo (jk (jk ho0 (jj (ru_ HO695.out))) (jj (ru_ HO698.out))) (ja T42_)) (jq (g := gb679) (o := .cells #[.slice none 0 0, .slice none 0 0, .slice none 0 0, .slice none 0 0] 63 (0, 0)) (bu_ BK679.out) hb) (jq (g := gb680) (o := .cells #[.slice Ao22 t692.length co22, .slice none 0 0, .slice none 0 0, .slice none 0 0] 63 (0, 0)) (bu_ BK680.out) hb) (jq (g := gb691) (o := .cells #[.slice Ao15 t681.length co15, .slice Ao19 t684.length co19, .slice Ao20 t687.length co20] 55 (0, 0)) (bu_ BK691.out) hb) (jh T42_ hb)
 clear HO683 HO686 HO689 HO695 HO698 BK679 BK680 BK691 HB
 obtain ⟨HO683, HO686, HO689, HO695, HO698, HO703, BK679, BK680, BK691, HB⟩ := n_
 (try clear hb);(try clear hb2);(try clear hk);(try clear hi);(try clear ho0)
 refine hK.out _ _ ⟨bc_ BK691.out 0, bc_ BK691.out 1, bc_ BK691.out 2⟩ (fun hHeld => ?_)
 clear hK K
 refine norm_ (a' := ?_) ?_ ?_
 rotate_left
 ·show Act.put _ (some 41) _ = _
  simp only [Act.put, List.setIfInBounds_toArray, List.set_cons_zero, List.set_cons_succ, jE, jG]
  rfl
 refine pz_ 5 (some 36) ?_
 refine pz_ 6 (some 42) ?_
 refine pz_ 7 (some 43) ?_
 refine pz_ 8 (some 44) ?_
 refine pz_ 9 (some 11) ?_
 refine pz_ 10 (some 12) ?_
 refine pz_ 11 (some 13) ?_
 refine done_ (done_of HT_.out T4_) ?_
 obtain ⟨hcz30_0, hcz30_1, hcz30_2, hcz30_3, hfz30_0, hfz30_1, hfz30_2, hfz30_3⟩ := cz4_ BK680.out
 obtain ⟨Ao31, co31, eo31⟩ := jp HO703.out
 subst eo31
 try go_wp2_with (first | ((with_reducible refine jv (f := 47) rfl ?_); refine gl_ (some 52) Try.func47 #[.slice Ao22 t692.length co22, .slice Ao31 t699.length co31] ?_; (with_reducible refine (churnref12_Pattern.calls k _ _ t692 _ _ t699 t704 t705 t706 _ ?side1 ?side2 ?side3 ?side4 A10.out).mono ?_); (case side1 => exact cu_ ((jg HO695.out).2.2)); (case side2 => exact (jg HO695.out).2.1); (case side3 => exact cu_ ((jg HO703.out).2.2)); (case side4 => exact (jg HO703.out).2.1); rintro e w32 ⟨v707, v709, rfl, ho0, ho1, hb⟩; refine ⟨_, rfl, ?_⟩; have n_ := P12_ (je (ru_ HO683.out) hb) (je (ru_ HO686.out) hb) (jD (su_ HO689.out) hb) (jc (Kd.R_told (Kd.R_told (Kd.R_old (ru_ HO695.out) hb) (jf ho0)) (jf ho1)) (fun _ h_ => h_.1)) (jc (Kd.R_told (Kd.R_told (Kd.R_old (ru_ HO698.out) hb) (jf ho0)) (jf ho1)) (fun _ h_ => h_.1)) (jc (Kd.R_told (Kd.R_told (Kd.R_old (ru_ HO703.out) hb) (jf ho0)) (jf ho1)) (fun _ h_ => h_.1)) (jo (jk (jk (jk ho0 (jj (ru_ HO695.out))) (jj (ru_ HO698.out))) (jj (ru_ HO703.out))) (ja T42_)) (jo (jk (jk (jk ho1 (jj (ru_ HO695.out))) (jj (ru_ HO698.out))) (jj (ru_ HO703.out))) (ja T42_)) (jq (g := gb679) (o := .cells #[.slice none 0 0, .slice none 0 0, .slice none 0 0, .slice none 0 0] 63 (0, 0)) (bu_ BK679.out) hb) (jq (g := gb680) (o := .cells #[.slice Ao22 t692.length co22, .slice none 0 0, .slice none 0 0, .slice none 0 0] 63 (0, 0)) (bu_ BK680.out) hb) (jq (g := gb691) (o := .cells #[.slice Ao15 t681.length co15, .slice Ao19 t684.length co19, .slice Ao20 t687.length co20] 55 (0, 0)) (bu_ BK691.out) hb) (jh T42_ hb); clear HO683 HO686 HO689 HO695 HO698 HO703 BK679 BK680 BK691 HB; obtain ⟨HO683, HO686, HO689, HO695, HO698, HO703, HO708, HO710, BK679, BK680, BK691, HB⟩ := n_; clear hb ho0 ho1; obtain ⟨Ao33, co33, eo33⟩ := jp HO708.out; subst eo33; obtain ⟨hcz34_0, hcz34_1, hcz34_2, hcz34_3, hfz34_0, hfz34_1, hfz34_2, hfz34_3⟩ := cz4_ BK680.out; obtain ⟨Ao35, co35, eo35⟩ := jp HO710.out; subst eo35))
 go_loopg [14] k (fun kq v14 w' => ∃ (x14_1 : Int) (x681003_1 : List (List Int)) (u681003 : Value), v14 = .int .i64 x14_1 ∧ Aside0 (churnref13_laid.l0 kq a2 x14_1 t692 t704 t705 x681003_1 t681 t684 t687 = some (r1, r2, r3, r4, r5)) ∧ Aside0 (kq ≤ k) ∧ Aside0 (ju (jb .i64) 3 w' w.heap.size (fun k_ => some k_ ≠ ((.slice Ao33 t704.length co33) : Value).ownBlock ∧ some k_ ≠ ((.slice Ao35 t705.length co35) : Value).ownBlock) (.slice Ao22 t692.length co22) t692) ∧ Aside0 (ju (jb .i64) 3 w' w.heap.size (fun k_ => some k_ ≠ ((.slice Ao22 t692.length co22) : Value).ownBlock ∧ some k_ ≠ ((.slice Ao35 t705.length co35) : Value).ownBlock) (.slice Ao33 t704.length co33) t704) ∧ Aside0 (ju (jb .i64) 3 w' w.heap.size (fun k_ => some k_ ≠ ((.slice Ao22 t692.length co22) : Value).ownBlock ∧ some k_ ≠ ((.slice Ao33 t704.length co33) : Value).ownBlock) (.slice Ao35 t705.length co35) t705) ∧ Aside0 (Kd.S (jy 3 (jb .i64)) 24 w' w.heap.size (fun k_ => some k_ ≠ ((.slice Ao22 t692.length co22) : Value).ownBlock ∧ some k_ ≠ ((.slice Ao33 t704.length co33) : Value).ownBlock ∧ some k_ ≠ ((.slice Ao35 t705.length co35) : Value).ownBlock) u681003 x681003_1) ∧ Aside0 (ju (jb .u8) 5 w' w.heap.size (fun k_ => some k_ ≠ ((.slice Ao19 t684.length co19) : Value).ownBlock) (.slice Ao15 t681.length co15) t681) ∧ Aside0 (ju (jb .u8) 5 w' w.heap.size (fun k_ => some k_ ≠ ((.slice Ao15 t681.length co15) : Value).ownBlock) (.slice Ao19 t684.length co19) t684) ∧ Aside0 (Kd.S (jy 5 (jb .u8)) 23 w' w.heap.size (fun k_ => some k_ ≠ ((.slice Ao15 t681.length co15) : Value).ownBlock ∧ some k_ ≠ ((.slice Ao19 t684.length co19) : Value).ownBlock) (.slice Ao20 t687.length co20) t687) ∧ Aside0 (w'.heap[gb679]? = some (.cells #[(.slice none 0 0), (.slice none 0 0), (.slice none 0 0), (.slice none 0 0)] 63 (0, 0))) ∧ Aside0 (w'.heap[gb680]? = some (.cells #[(.slice Ao22 t692.length co22), (.slice Ao33 t704.length co33), (.slice Ao35 t705.length co35), u681003] 63 (0, 0))) ∧ Aside0 (w'.heap[gb691]? = some (.cells #[(.slice Ao15 t681.length co15), (.slice Ao19 t684.length co19), (.slice Ao20 t687.length co20)] 55 (0, 0))) ∧ Aside0 (Below w.heap.size w w'))
 case atStart => exact ⟨(0), (([] : List (List Int))), (.slice none 0 0), T10_, H', ⟨Nat.le_refl _⟩, ⟨ru_ (jc (jd (p := ⟨gb680, 2, none⟩) (jd (p := ⟨gb680, 1, none⟩) (js HO695.out BK680.out T3_) (fun _ hk => hk.2) (.slice Ao33 t704.length co33)) (fun _ hk => hk.2) (.slice Ao35 t705.length co35)) (fun _ hk => ⟨hk.1.1.2, hk.1.2⟩))⟩, ⟨ru_ (jc (jd (p := ⟨gb680, 2, none⟩) (jd (p := ⟨gb680, 1, none⟩) (js HO708.out BK680.out T3_) (fun _ hk => hk.2) (.slice Ao33 t704.length co33)) (fun _ hk => hk.2) (.slice Ao35 t705.length co35)) (fun _ hk => ⟨hk.1.1.1.2, hk.1.1.1.1⟩))⟩, ⟨ru_ (jc (jd (p := ⟨gb680, 2, none⟩) (jd (p := ⟨gb680, 1, none⟩) (js HO710.out BK680.out T3_) (fun _ hk => hk.2) (.slice Ao33 t704.length co33)) (fun _ hk => hk.2) (.slice Ao35 t705.length co35)) (fun _ hk => ⟨hk.1.1.1.2, hk.1.1.1.1⟩))⟩, ⟨T21_⟩, ⟨ru_ (jc (jd (p := ⟨gb680, 2, none⟩) (jd (p := ⟨gb680, 1, none⟩) (js HO683.out BK680.out T3_) (fun _ hk => hk.2) (.slice Ao33 t704.length co33)) (fun _ hk => hk.2) (.slice Ao35 t705.length co35)) (fun _ hk => hk.1))⟩, ⟨ru_ (jc (jd (p := ⟨gb680, 2, none⟩) (jd (p := ⟨gb680, 1, none⟩) (js HO686.out BK680.out T3_) (fun _ hk => hk.2) (.slice Ao33 t704.length co33)) (fun _ hk => hk.2) (.slice Ao35 t705.length co35)) (fun _ hk => hk.1))⟩, ⟨su_ (jz (jA (p := ⟨gb680, 2, none⟩) (jA (p := ⟨gb680, 1, none⟩) (Jd HO689.out BK680.out T3_) (fun _ hk => hk.2) (.slice Ao33 t704.length co33)) (fun _ hk => hk.2) (.slice Ao35 t705.length co35)) (fun _ hk => ⟨hk.1.1, hk.1.2⟩))⟩, ⟨(by (with_reducible repeat (first | refine jn ?_ _ | refine jl ?_ | refine jm ?_ _)); refine jY ?_ NB679_680.out _; (with_reducible repeat (first | refine jn ?_ _ | refine jl ?_ | refine jm ?_ _)); refine jY ?_ NB679_680.out _; exact bu_ BK679.out)⟩, ⟨(by (with_reducible repeat (first | refine jn ?_ _ | refine jl ?_ | refine jm ?_ _)); refine jt (cs := #[.slice Ao22 t692.length co22, .slice Ao33 t704.length co33, .slice none 0 0, .slice none 0 0]) ?_ 2 _ rfl; (with_reducible repeat (first | refine jn ?_ _ | refine jl ?_ | refine jm ?_ _)); refine jt (cs := #[.slice Ao22 t692.length co22, .slice none 0 0, .slice none 0 0, .slice none 0 0]) ?_ 1 _ rfl; exact bu_ BK680.out)⟩, ⟨(by (with_reducible repeat (first | refine jn ?_ _ | refine jl ?_ | refine jm ?_ _)); refine jY ?_ NB691_680.out _; (with_reducible repeat (first | refine jn ?_ _ | refine jl ?_ | refine jm ?_ _)); refine jY ?_ NB691_680.out _; exact bu_ BK691.out)⟩, ⟨T42_⟩⟩
 case round =>
  clear H'
  (try clear c1);(try clear c2);(try clear p2);(try clear c4);(try clear c5);(try clear c5b0 c5b1);(try clear c9);(try clear c9b0 c9b1);(try clear c16);(try clear c17);(try clear c23);(try clear c26);(try clear c29);(try clear hcz18_0 hcz18_1 hcz18_2 hfz18_0 hfz18_1 hfz18_2);(try clear hcz24_0 hcz24_1 hcz24_2 hcz24_3 hfz24_0 hfz24_1 hfz24_2 hfz24_3);(try clear hcz30_0 hcz30_1 hcz30_2 hcz30_3 hfz30_0 hfz30_1 hfz30_2 hfz30_3);(try clear hcz34_0 hcz34_1 hcz34_2 hcz34_3 hfz34_0 hfz34_1 hfz34_2 hfz34_3);(try clear BK679);(try clear BK680);(try clear BK691)
  obtain ⟨x14_1, x681003_1, u681003, rfl, HA, HK1, HO_681000, HO_681001, HO_681002, HO_681003, HO_692000, HO_692001, HO_692002, BK679, BK680, BK691, HB⟩ := hrel
  cases gk with
  | zero => exact absurd HA.out (by simp [churnref13_laid.l0])
  | succ k1 =>
   have H := HA.out
   clear HA
   simp only [churnref13_laid.l0] at H
   by_cases c36 : x14_1 < a2
   rotate_left
   ·rw [if_neg c36] at H
    have c36b0 := decide_eq_false c36
    clear c36
    simp only [Option.some.injEq, Prod.mk.injEq] at H
    obtain ⟨rfl, rfl, rfl, rfl, rfl⟩ := H
    have hnb69 := NB680_679.out
    have hnc69 := NB679_680.out
    have hnb70 := NB680_691.out
    have hnc70 := NB691_680.out
    obtain ⟨hcz71_0, hcz71_1, hcz71_2, hcz71_3, hfz71_0, hfz71_1, hfz71_2, hfz71_3⟩ := cz4_ BK680.out
    have hnb72 := NB679_691.out
    have hnc72 := NB691_679.out
    obtain ⟨hcz73_0, hcz73_1, hcz73_2, hcz73_3, hfz73_0, hfz73_1, hfz73_2, hfz73_3⟩ := cz4_ BK679.out
    obtain ⟨Ao74, co74, eo74⟩ := jZ HO_681003.out
    subst eo74
    go_wp2
    refine bodyPost_ret (results_ct rfl _ _ gb679 63 #[.slice Ao22 t692.length co22, .slice Ao33 t704.length co33, .slice Ao35 t705.length co35, .slice Ao74 x681003_1.length co74] (0, 0) _ rfl (by (with_reducible repeat (first | refine jn ?_ _ | refine jl ?_ | refine jm ?_ _)); refine jt (cs := #[.slice Ao22 t692.length co22, .slice Ao33 t704.length co33, .slice Ao35 t705.length co35, .slice none 0 0]) ?_ 3 _ rfl; (with_reducible repeat (first | refine jn ?_ _ | refine jl ?_ | refine jm ?_ _)); refine jt (cs := #[.slice Ao22 t692.length co22, .slice Ao33 t704.length co33, .slice none 0 0, .slice none 0 0]) ?_ 2 _ rfl; (with_reducible repeat (first | refine jn ?_ _ | refine jl ?_ | refine jm ?_ _)); refine jt (cs := #[.slice Ao22 t692.length co22, .slice none 0 0, .slice none 0 0, .slice none 0 0]) ?_ 1 _ rfl; (with_reducible repeat (first | refine jn ?_ _ | refine jl ?_ | refine jm ?_ _)); refine jt (cs := #[.slice none 0 0, .slice none 0 0, .slice none 0 0, .slice none 0 0]) ?_ 0 _ rfl; exact bu_ BK679.out) Try.underlying63 rfl T4_) rfl ?_
    exact ⟨_, _, _, _, T16_, ru_ (jc (jd (p := ⟨gb679, 3, none⟩) (jd (p := ⟨gb679, 2, none⟩) (jd (p := ⟨gb679, 1, none⟩) (jd (p := ⟨gb679, 0, none⟩) (js HO_681000.out BK679.out T3_) (fun _ hk => hk.2) (.slice Ao22 t692.length co22)) (fun _ hk => hk.2) (.slice Ao33 t704.length co33)) (fun _ hk => hk.2) (.slice Ao35 t705.length co35)) (fun _ hk => hk.2) (.slice Ao74 x681003_1.length co74)) (fun _ hk => ⟨hk.1.1, hk.1.2⟩)), ru_ (jc (jd (p := ⟨gb679, 3, none⟩) (jd (p := ⟨gb679, 2, none⟩) (jd (p := ⟨gb679, 1, none⟩) (jd (p := ⟨gb679, 0, none⟩) (js HO_681001.out BK679.out T3_) (fun _ hk => hk.2) (.slice Ao22 t692.length co22)) (fun _ hk => hk.2) (.slice Ao33 t704.length co33)) (fun _ hk => hk.2) (.slice Ao35 t705.length co35)) (fun _ hk => hk.2) (.slice Ao74 x681003_1.length co74)) (fun _ hk => ⟨hk.1.1, hk.1.2⟩)), ru_ (jc (jd (p := ⟨gb679, 3, none⟩) (jd (p := ⟨gb679, 2, none⟩) (jd (p := ⟨gb679, 1, none⟩) (jd (p := ⟨gb679, 0, none⟩) (js HO_681002.out BK679.out T3_) (fun _ hk => hk.2) (.slice Ao22 t692.length co22)) (fun _ hk => hk.2) (.slice Ao33 t704.length co33)) (fun _ hk => hk.2) (.slice Ao35 t705.length co35)) (fun _ hk => hk.2) (.slice Ao74 x681003_1.length co74)) (fun _ hk => ⟨hk.1.1, hk.1.2⟩)), su_ (jz (jA (p := ⟨gb679, 3, none⟩) (jA (p := ⟨gb679, 2, none⟩) (jA (p := ⟨gb679, 1, none⟩) (jA (p := ⟨gb679, 0, none⟩) (Jd HO_681003.out BK679.out T3_) (fun _ hk => hk.2) (.slice Ao22 t692.length co22)) (fun _ hk => hk.2) (.slice Ao33 t704.length co33)) (fun _ hk => hk.2) (.slice Ao35 t705.length co35)) (fun _ hk => hk.2) (.slice Ao74 x681003_1.length co74)) (fun _ hk => ⟨hk.1.1, ⟨hk.1.2.1, hk.1.2.2⟩⟩)), T42_⟩
   rw [if_pos c36] at H
   have c36b0 := decide_eq_true c36
   clear c36
   replace H := ifn_ H;obtain ⟨c37, H⟩ := H
   have c37b0 := decide_eq_true c37
   clear c37
   replace H := ifn_ H;obtain ⟨c38, H⟩ := H
   have c38b0 := decide_eq_true c38
   clear c38
   replace H := ifn_ H;obtain ⟨c39, H⟩ := H
   have c39b0 := decide_eq_true c39
   clear c39
   replace H := Option.bind_eq_some_iff.mp H
   obtain ⟨t713, A400, H⟩ := H
   try dsimp only at H
   have A40 := am_ A400
   clear A400
   replace H := Option.bind_eq_some_iff.mp H
   obtain ⟨⟨t716, t717, t718⟩, A410, H⟩ := H
   try dsimp only at H
   have A41 := am_ A410
   clear A410
   by_cases c42 : t718 = 0
   rotate_left
   ·rw [if_neg c42] at H
    have c42b0 : (t718 == 0) = false := beq_eq_false_iff_ne.mpr c42
    have c42b1 : (t718 != 0) = true := bne_iff_ne.mpr c42
    simp only [Option.some.injEq, Prod.mk.injEq] at H
    obtain ⟨rfl, rfl, rfl, rfl, rfl⟩ := H
    try go_wp2
    have n_ := P11_ (jr HO_681000.out) (jr HO_681001.out) (jr HO_681002.out) (Je HO_681003.out) (jr HO_692000.out) (jr HO_692001.out) (Je HO_692002.out) (jl BK679.out) (jl BK680.out) (jl BK691.out) (jM HB.out)
    clear HO_681000 HO_681001 HO_681002 HO_681003 HO_692000 HO_692001 HO_692002 BK679 BK680 BK691 HB
    obtain ⟨HO_681000, HO_681001, HO_681002, HO_681003, HO_692000, HO_692001, HO_692002, BK679, BK680, BK691, HB⟩ := n_
    have p711 : 0 ≤ (x14_1 : Int) := od_
    have q711 : x14_1 < (t687.length : Int) := od_
    obtain ⟨ad711, A711_0, c711_0, e711, hx711_0, hl711_0, hi711_0⟩ := at_L2 (jQ HO_692002.out).2.2 x14_1 p711 q711
    cases e711
    obtain ⟨ce711, hce711, hMe711, hcc711⟩ := Kd.S_get HO_692002.out [] x14_1 p711 (by first | exact q711 | exact od_ | (have e_ := (jQ HO_692002.out).1; omega))
    obtain ⟨ve711_0, rfl, ge711_0⟩ := hMe711
    have hv711_0 := hcc711 0 _ rfl
    rw [Nat.add_zero, show ((jy 5 (jb .u8))).sz = 1 from rfl, Nat.mul_one] at hv711_0
    replace hv711_0 := Option.some.inj (hv711_0.symm.trans hx711_0)
    rw [hv711_0] at ge711_0
    have HL711_0 := am_ (show ju (jb .u8) 5 _ _ _ _ (rd_L2 t687 x14_1) from ge711_0)
    clear hv711_0 ge711_0 hcc711 hce711
    have HR711_0 := am_ hi711_0
    have HC711_0 := am_ hl711_0
    clear hi711_0 hl711_0
    replace p711 := eq_true p711
    replace q711 := eq_true q711
    obtain ⟨ad712, e712, hx712_0, p712, q712⟩ := ai_ (jg HO_681000.out).2.2 x14_1
    cases e712
    refine start_ (n := 19) (S := fun w' => w'.cell? ⟨gb691, 0, none⟩ = some (.slice Ao15 t681.length co15) ∧ w'.cell? ⟨gb691, 1, none⟩ = some (.slice Ao19 t684.length co19) ∧ w'.cell? ⟨gb691, 2, none⟩ = some (.slice (some ad711) t687.length co20) ∧ w'.cell? ⟨gb680, 0, none⟩ = some (.slice (some ad712) t692.length co22) ∧ w'.cell? ⟨gb680, 1, none⟩ = some (.slice Ao33 t704.length co33) ∧ w'.cell? ⟨gb680, 2, none⟩ = some (.slice Ao35 t705.length co35) ∧ w'.cell? ⟨gb680, 3, none⟩ = some (u681003) ∧ w'.cell? (ad711.add (x14_1).toNat) = some (.slice A711_0 (rd_L2 t687 x14_1).length c711_0) ∧ w'.cell? (ad712.add (x14_1).toNat) = some (.int .i64 (rd t692 x14_1))) (ds := []) #[false, false, false, false, false, false, false, false, false, false, false, false, false, false, false, false, false, false, false] T4_ rfl rfl ⟨bc_ BK691.out 0, bc_ BK691.out 1, bc_ BK691.out 2, bc_ BK680.out 0, bc_ BK680.out 1, bc_ BK680.out 2, bc_ BK680.out 3, hx711_0, hx712_0⟩ (fun hHeld => ?_); refine with_tabW churnref13_laid.tab13 churnref13_laid.bits13 (fun HT_ HW_ => ?_)
    generalize wr.drew = w59 at HO_681000 HO_681001 HO_681002 HO_681003 HO_692000 HO_692001 HO_692002 BK679 BK680 BK691 HB HL711_0 HR711_0 hx711_0 hx712_0 hHeld ⊢
    refine pz_ 0 (some 64) ?_
    refine pz_ 2 (some 66) ?_
    refine pz_ 5 (some 69) ?_
    refine pz_ 7 (some 71) ?_
    refine tz9_ 1 (some 65) hHeld ?_
    refine pz_ 3 (some 67) ?_
    refine tz9_ 4 (some 68) hHeld ?_
    refine tz9_ 6 (some 70) hHeld ?_
    refine pz_ 8 (some 72) ?_
    refine tz9_ 9 (some 73) hHeld ?_
    refine oz_ 10 (some 74) (fun K hK => ?_)
    refine goes_ Try.func31 T4_ rfl #[.int .i64 (rd t692 x14_1)] T0_ rfl rfl T19_ ?_
    with_reducible refine (churnref11_Bounds.calls k1 (rd t692 x14_1) t713 _ A40.out).mono ?_
    rintro e w60 ⟨v714, rfl, ho0, hb⟩
    have HS7_ := (hb.cell (World.block_lt_of_cell? _ _ (hHeld.2.2.2.2.2.2.2.1))).trans (hHeld.2.2.2.2.2.2.2.1)
    have HS8_ := (hb.cell (World.block_lt_of_cell? _ _ (hHeld.2.2.2.2.2.2.2.2))).trans (hHeld.2.2.2.2.2.2.2.2)
    refine ⟨_, rfl, ?_⟩
    have n_ := P14_ (ji (ru_ HO_681000.out) (jf ho0) hb) (ji (ru_ HO_681001.out) (jf ho0) hb) (ji (ru_ HO_681002.out) (jf ho0) hb) (jN (su_ HO_681003.out) (jf ho0) hb) (je (ru_ HO_692000.out) hb) (je (ru_ HO_692001.out) hb) (jD (su_ HO_692002.out) hb) (je (ru_ HL711_0.out) hb) (jo (jk (jk (jk ho0 (jj (ru_ HO_681000.out))) (jj (ru_ HO_681001.out))) (jj (ru_ HO_681002.out))) (ja T42_)) (jq (g := gb679) (o := .cells #[.slice none 0 0, .slice none 0 0, .slice none 0 0, .slice none 0 0] 63 (0, 0)) (bu_ BK679.out) hb) (jq (g := gb680) (o := .cells #[.slice (some ad712) t692.length co22, .slice Ao33 t704.length co33, .slice Ao35 t705.length co35, u681003] 63 (0, 0)) (bu_ BK680.out) hb) (jq (g := gb691) (o := .cells #[.slice Ao15 t681.length co15, .slice Ao19 t684.length co19, .slice (some ad711) t687.length co20] 55 (0, 0)) (bu_ BK691.out) hb) (jw (cu_ HR711_0.out) hb) (jh T42_ hb)
    clear HO_681000 HO_681001 HO_681002 HO_681003 HO_692000 HO_692001 HO_692002 HL711_0 BK679 BK680 BK691 HR711_0 HB
    obtain ⟨HO_681000, HO_681001, HO_681002, HO_681003, HO_692000, HO_692001, HO_692002, HL711_0, HO715, BK679, BK680, BK691, HR711_0, HB⟩ := n_
    (try clear hb);(try clear hb2);(try clear hk);(try clear hi);(try clear ho0)
    obtain ⟨Ao61, co61, eo61⟩ := jp HO715.out
    (first | subst eo61 | (injection eo61 with f1_ f2_ f3_; have f4_ := f1_.symm; have f5_ := f3_.symm; clear f1_ f2_ f3_; subst f4_; subst f5_))
    refine hK.out _ _ ⟨bc_ BK691.out 0, bc_ BK691.out 1, bc_ BK691.out 2, bc_ BK680.out 0, bc_ BK680.out 1, bc_ BK680.out 2, bc_ BK680.out 3, HS7_, HS8_⟩ (fun hHeld => ?_)
    clear hK K
    refine norm_ (a' := ?_) ?_ ?_
    rotate_left
    ·show Act.put _ (some 74) _ = _
     simp only [Act.put, List.setIfInBounds_toArray, List.set_cons_zero, List.set_cons_succ, jE, jG]
     rfl
    refine oz_ 11 (some 75) (fun K hK => ?_)
    refine goes_ Try.func46 T4_ rfl #[.slice A711_0 (rd_L2 t687 x14_1).length c711_0, .slice Ao61 t713.length co61] T0_ rfl rfl T19_ ?_
    with_reducible refine (churnref10_All.calls k1 _ _ (rd_L2 t687 x14_1) _ _ t713 t716 t717 t718 _ ?side1 ?side2 ?side3 ?side4 A41.out).mono ?_
    (case side1 => exact cu_ HR711_0.out)
    (case side2 => exact HC711_0.out)
    (case side3 => exact cu_ ((jg HO715.out).2.2))
    (case side4 => exact (jg HO715.out).2.1)
    rintro e w62 ⟨v719, rfl, ho0, hb⟩
    have HS7_ := (hb.cell (World.block_lt_of_cell? _ _ (hHeld.2.2.2.2.2.2.2.1))).trans (hHeld.2.2.2.2.2.2.2.1)
    have HS8_ := (hb.cell (World.block_lt_of_cell? _ _ (hHeld.2.2.2.2.2.2.2.2))).trans (hHeld.2.2.2.2.2.2.2.2)
    refine ⟨_, rfl, ?_⟩
    have n_ := P15_ (ji (ru_ HO_681000.out) (jf ho0) hb) (ji (ru_ HO_681001.out) (jf ho0) hb) (ji (ru_ HO_681002.out) (jf ho0) hb) (jN (su_ HO_681003.out) (jf ho0) hb) (je (ru_ HO_692000.out) hb) (je (ru_ HO_692001.out) hb) (jD (su_ HO_692002.out) hb) (je (ru_ HL711_0.out) hb) (ji (ru_ HO715.out) (jf ho0) hb) (jo (jk (jk (jk (jk ho0 (jj (ru_ HO_681000.out))) (jj (ru_ HO_681001.out))) (jj (ru_ HO_681002.out))) (jj (ru_ HO715.out))) (ja T42_)) (jq (g := gb679) (o := .cells #[.slice none 0 0, .slice none 0 0, .slice none 0 0, .slice none 0 0] 63 (0, 0)) (bu_ BK679.out) hb) (jq (g := gb680) (o := .cells #[.slice (some ad712) t692.length co22, .slice Ao33 t704.length co33, .slice Ao35 t705.length co35, u681003] 63 (0, 0)) (bu_ BK680.out) hb) (jq (g := gb691) (o := .cells #[.slice Ao15 t681.length co15, .slice Ao19 t684.length co19, .slice (some ad711) t687.length co20] 55 (0, 0)) (bu_ BK691.out) hb) (jw (cu_ HR711_0.out) hb) (jh T42_ hb)
    clear HO_681000 HO_681001 HO_681002 HO_681003 HO_692000 HO_692001 HO_692002 HL711_0 HO715 BK679 BK680 BK691 HR711_0 HB
    obtain ⟨HO_681000, HO_681001, HO_681002, HO_681003, HO_692000, HO_692001, HO_692002, HL711_0, HO715, HO720, BK679, BK680, BK691, HR711_0, HB⟩ := n_
    (try clear hb);(try clear hb2);(try clear hk);(try clear hi);(try clear ho0)
    refine hK.out _ _ ⟨bc_ BK691.out 0, bc_ BK691.out 1, bc_ BK691.out 2, bc_ BK680.out 0, bc_ BK680.out 1, bc_ BK680.out 2, bc_ BK680.out 3, HS7_, HS8_⟩ (fun hHeld => ?_)
    clear hK K
    refine norm_ (a' := ?_) ?_ ?_
    rotate_left
    ·show Act.put _ (some 75) _ = _
     simp only [Act.put, List.setIfInBounds_toArray, List.set_cons_zero, List.set_cons_succ, jE, jG]
     rfl
    refine pz_ 12 (some 63) ?_
    refine pz_ 13 (some 76) ?_
    refine pz_ 14 (some 77) ?_
    refine pz_ 15 (some 78) ?_
    refine pz_ 16 (some 15) ?_
    refine pz_ 17 (some 16) ?_
    refine pz_ 18 (some 17) ?_
    refine done_ (done_of HT_.out T4_) ?_
    have hnb63 := NB680_679.out
    have hnc63 := NB679_680.out
    have hnb64 := NB680_691.out
    have hnc64 := NB691_680.out
    obtain ⟨hcz65_0, hcz65_1, hcz65_2, hcz65_3, hfz65_0, hfz65_1, hfz65_2, hfz65_3⟩ := cz4_ BK680.out
    have hnb66 := NB679_691.out
    have hnc66 := NB691_679.out
    obtain ⟨hcz67_0, hcz67_1, hcz67_2, hcz67_3, hfz67_0, hfz67_1, hfz67_2, hfz67_3⟩ := cz4_ BK679.out
    obtain ⟨Ao68, co68, eo68⟩ := jZ HO_681003.out
    subst eo68
    try go_wp2
    refine bodyPost_ret (results_ct rfl _ _ gb679 63 #[.slice (some ad712) t692.length co22, .slice Ao33 t704.length co33, .slice Ao35 t705.length co35, .slice Ao68 x681003_1.length co68] (0, 0) _ rfl (by (with_reducible repeat (first | refine jn ?_ _ | refine jl ?_ | refine jm ?_ _)); refine jt (cs := #[.slice (some ad712) t692.length co22, .slice Ao33 t704.length co33, .slice Ao35 t705.length co35, .slice none 0 0]) ?_ 3 _ rfl; (with_reducible repeat (first | refine jn ?_ _ | refine jl ?_ | refine jm ?_ _)); refine jt (cs := #[.slice (some ad712) t692.length co22, .slice Ao33 t704.length co33, .slice none 0 0, .slice none 0 0]) ?_ 2 _ rfl; (with_reducible repeat (first | refine jn ?_ _ | refine jl ?_ | refine jm ?_ _)); refine jt (cs := #[.slice (some ad712) t692.length co22, .slice none 0 0, .slice none 0 0, .slice none 0 0]) ?_ 1 _ rfl; (with_reducible repeat (first | refine jn ?_ _ | refine jl ?_ | refine jm ?_ _)); refine jt (cs := #[.slice none 0 0, .slice none 0 0, .slice none 0 0, .slice none 0 0]) ?_ 0 _ rfl; exact bu_ BK679.out) Try.underlying63 rfl T4_) rfl ?_
    exact ⟨_, _, _, _, T16_, ru_ (jc (jd (p := ⟨gb679, 3, none⟩) (jd (p := ⟨gb679, 2, none⟩) (jd (p := ⟨gb679, 1, none⟩) (jd (p := ⟨gb679, 0, none⟩) (js HO_681000.out BK679.out T3_) (fun _ hk => hk.2) (.slice (some ad712) t692.length co22)) (fun _ hk => hk.2) (.slice Ao33 t704.length co33)) (fun _ hk => hk.2) (.slice Ao35 t705.length co35)) (fun _ hk => hk.2) (.slice Ao68 x681003_1.length co68)) (fun _ hk => ⟨hk.1.1.1.1, hk.1.1.1.2⟩)), ru_ (jc (jd (p := ⟨gb679, 3, none⟩) (jd (p := ⟨gb679, 2, none⟩) (jd (p := ⟨gb679, 1, none⟩) (jd (p := ⟨gb679, 0, none⟩) (js HO_681001.out BK679.out T3_) (fun _ hk => hk.2) (.slice (some ad712) t692.length co22)) (fun _ hk => hk.2) (.slice Ao33 t704.length co33)) (fun _ hk => hk.2) (.slice Ao35 t705.length co35)) (fun _ hk => hk.2) (.slice Ao68 x681003_1.length co68)) (fun _ hk => ⟨hk.1.1.1.1, hk.1.1.1.2⟩)), ru_ (jc (jd (p := ⟨gb679, 3, none⟩) (jd (p := ⟨gb679, 2, none⟩) (jd (p := ⟨gb679, 1, none⟩) (jd (p := ⟨gb679, 0, none⟩) (js HO_681002.out BK679.out T3_) (fun _ hk => hk.2) (.slice (some ad712) t692.length co22)) (fun _ hk => hk.2) (.slice Ao33 t704.length co33)) (fun _ hk => hk.2) (.slice Ao35 t705.length co35)) (fun _ hk => hk.2) (.slice Ao68 x681003_1.length co68)) (fun _ hk => ⟨hk.1.1.1.1, hk.1.1.1.2⟩)), su_ (jz (jA (p := ⟨gb679, 3, none⟩) (jA (p := ⟨gb679, 2, none⟩) (jA (p := ⟨gb679, 1, none⟩) (jA (p := ⟨gb679, 0, none⟩) (Jd HO_681003.out BK679.out T3_) (fun _ hk => hk.2) (.slice (some ad712) t692.length co22)) (fun _ hk => hk.2) (.slice Ao33 t704.length co33)) (fun _ hk => hk.2) (.slice Ao35 t705.length co35)) (fun _ hk => hk.2) (.slice Ao68 x681003_1.length co68)) (fun _ hk => ⟨hk.1.1.1.1, ⟨hk.1.1.1.2.1, hk.1.1.1.2.2⟩⟩)), T42_⟩
   rw [if_pos c42] at H
   have c42b0 : (t718 == 0) = true := beq_iff_eq.mpr c42
   have c42b1 : (t718 != 0) = false := bne_eq_false_iff_eq.mpr c42
   clear c42
   replace H := Option.bind_eq_some_iff.mp H
   obtain ⟨⟨t722, t723⟩, A430, H⟩ := H
   try dsimp only at H
   have A43 := am_ A430
   clear A430
   replace H := ifa_ H;obtain ⟨LMc44, H⟩ := H
   obtain ⟨y726, hy_⟩ : ∃ y_ : List (List Int), y_ = (x681003_1 ++ [t722]) := ⟨_, rfl⟩
   replace H : (churnref13_laid.l0 k1 a2 (wrap64 (x14_1 + 1)) t692 t704 t705 y726 t681 t684 t687) = some (r1, r2, r3, r4, r5) := hyw_
   have Ny726 := am_ hy_
   clear hy_
   have H' := am_ H
   clear H
   try go_wp2
   have n_ := P11_ (jr HO_681000.out) (jr HO_681001.out) (jr HO_681002.out) (Je HO_681003.out) (jr HO_692000.out) (jr HO_692001.out) (Je HO_692002.out) (jl BK679.out) (jl BK680.out) (jl BK691.out) (jM HB.out)
   clear HO_681000 HO_681001 HO_681002 HO_681003 HO_692000 HO_692001 HO_692002 BK679 BK680 BK691 HB
   obtain ⟨HO_681000, HO_681001, HO_681002, HO_681003, HO_692000, HO_692001, HO_692002, BK679, BK680, BK691, HB⟩ := n_
   have p711 : 0 ≤ (x14_1 : Int) := od_
   have q711 : x14_1 < (t687.length : Int) := od_
   obtain ⟨ad711, A711_0, c711_0, e711, hx711_0, hl711_0, hi711_0⟩ := at_L2 (jQ HO_692002.out).2.2 x14_1 p711 q711
   cases e711
   obtain ⟨ce711, hce711, hMe711, hcc711⟩ := Kd.S_get HO_692002.out [] x14_1 p711 (by first | exact q711 | exact od_ | (have e_ := (jQ HO_692002.out).1; omega))
   obtain ⟨ve711_0, rfl, ge711_0⟩ := hMe711
   have hv711_0 := hcc711 0 _ rfl
   rw [Nat.add_zero, show ((jy 5 (jb .u8))).sz = 1 from rfl, Nat.mul_one] at hv711_0
   replace hv711_0 := Option.some.inj (hv711_0.symm.trans hx711_0)
   rw [hv711_0] at ge711_0
   have HL711_0 := am_ (show ju (jb .u8) 5 _ _ _ _ (rd_L2 t687 x14_1) from ge711_0)
   clear hv711_0 ge711_0 hcc711 hce711
   have HR711_0 := am_ hi711_0
   have HC711_0 := am_ hl711_0
   clear hi711_0 hl711_0
   replace p711 := eq_true p711
   replace q711 := eq_true q711
   obtain ⟨ad712, e712, hx712_0, p712, q712⟩ := ai_ (jg HO_681000.out).2.2 x14_1
   cases e712
   refine start_ (n := 19) (S := fun w' => w'.cell? ⟨gb691, 0, none⟩ = some (.slice Ao15 t681.length co15) ∧ w'.cell? ⟨gb691, 1, none⟩ = some (.slice Ao19 t684.length co19) ∧ w'.cell? ⟨gb691, 2, none⟩ = some (.slice (some ad711) t687.length co20) ∧ w'.cell? ⟨gb680, 0, none⟩ = some (.slice (some ad712) t692.length co22) ∧ w'.cell? ⟨gb680, 1, none⟩ = some (.slice Ao33 t704.length co33) ∧ w'.cell? ⟨gb680, 2, none⟩ = some (.slice Ao35 t705.length co35) ∧ w'.cell? ⟨gb680, 3, none⟩ = some (u681003) ∧ w'.cell? (ad711.add (x14_1).toNat) = some (.slice A711_0 (rd_L2 t687 x14_1).length c711_0) ∧ w'.cell? (ad712.add (x14_1).toNat) = some (.int .i64 (rd t692 x14_1))) (ds := []) #[false, false, false, false, false, false, false, false, false, false, false, false, false, false, false, false, false, false, false] T4_ rfl rfl ⟨bc_ BK691.out 0, bc_ BK691.out 1, bc_ BK691.out 2, bc_ BK680.out 0, bc_ BK680.out 1, bc_ BK680.out 2, bc_ BK680.out 3, hx711_0, hx712_0⟩ (fun hHeld => ?_); refine with_tabW churnref13_laid.tab13 churnref13_laid.bits13 (fun HT_ HW_ => ?_)
   generalize wr.drew = w45 at HO_681000 HO_681001 HO_681002 HO_681003 HO_692000 HO_692001 HO_692002 BK679 BK680 BK691 HB HL711_0 HR711_0 hx711_0 hx712_0 hHeld ⊢
   refine pz_ 0 (some 64) ?_
   refine pz_ 2 (some 66) ?_
   refine pz_ 5 (some 69) ?_
   refine pz_ 7 (some 71) ?_
   refine tz9_ 1 (some 65) hHeld ?_
   refine pz_ 3 (some 67) ?_
   refine tz9_ 4 (some 68) hHeld ?_
   refine tz9_ 6 (some 70) hHeld ?_
   refine pz_ 8 (some 72) ?_
   refine tz9_ 9 (some 73) hHeld ?_
   refine oz_ 10 (some 74) (fun K hK => ?_)
   refine goes_ Try.func31 T4_ rfl #[.int .i64 (rd t692 x14_1)] T0_ rfl rfl T19_ ?_
   with_reducible refine (churnref11_Bounds.calls k1 (rd t692 x14_1) t713 _ A40.out).mono ?_
   rintro e w46 ⟨v714, rfl, ho0, hb⟩
   have HS7_ := (hb.cell (World.block_lt_of_cell? _ _ (hHeld.2.2.2.2.2.2.2.1))).trans (hHeld.2.2.2.2.2.2.2.1)
   have HS8_ := (hb.cell (World.block_lt_of_cell? _ _ (hHeld.2.2.2.2.2.2.2.2))).trans (hHeld.2.2.2.2.2.2.2.2)
   refine ⟨_, rfl, ?_⟩
   have n_ := P14_ (ji (ru_ HO_681000.out) (jf ho0) hb) (ji (ru_ HO_681001.out) (jf ho0) hb) (ji (ru_ HO_681002.out) (jf ho0) hb) (jN (su_ HO_681003.out) (jf ho0) hb) (je (ru_ HO_692000.out) hb) (je (ru_ HO_692001.out) hb) (jD (su_ HO_692002.out) hb) (je (ru_ HL711_0.out) hb) (jo (jk (jk (jk ho0 (jj (ru_ HO_681000.out))) (jj (ru_ HO_681001.out))) (jj (ru_ HO_681002.out))) (ja T42_)) (jq (g := gb679) (o := .cells #[.slice none 0 0, .slice none 0 0, .slice none 0 0, .slice none 0 0] 63 (0, 0)) (bu_ BK679.out) hb) (jq (g := gb680) (o := .cells #[.slice (some ad712) t692.length co22, .slice Ao33 t704.length co33, .slice Ao35 t705.length co35, u681003] 63 (0, 0)) (bu_ BK680.out) hb) (jq (g := gb691) (o := .cells #[.slice Ao15 t681.length co15, .slice Ao19 t684.length co19, .slice (some ad711) t687.length co20] 55 (0, 0)) (bu_ BK691.out) hb) (jw (cu_ HR711_0.out) hb) (jh T42_ hb)
   clear HO_681000 HO_681001 HO_681002 HO_681003 HO_692000 HO_692001 HO_692002 HL711_0 BK679 BK680 BK691 HR711_0 HB
   obtain ⟨HO_681000, HO_681001, HO_681002, HO_681003, HO_692000, HO_692001, HO_692002, HL711_0, HO715, BK679, BK680, BK691, HR711_0, HB⟩ := n_
   (try clear hb);(try clear hb2);(try clear hk);(try clear hi);(try clear ho0)
   obtain ⟨Ao47, co47, eo47⟩ := jp HO715.out
   (first | subst eo47 | (injection eo47 with f1_ f2_ f3_; have f4_ := f1_.symm; have f5_ := f3_.symm; clear f1_ f2_ f3_; subst f4_; subst f5_))
   refine hK.out _ _ ⟨bc_ BK691.out 0, bc_ BK691.out 1, bc_ BK691.out 2, bc_ BK680.out 0, bc_ BK680.out 1, bc_ BK680.out 2, bc_ BK680.out 3, HS7_, HS8_⟩ (fun hHeld => ?_)
   clear hK K
   refine norm_ (a' := ?_) ?_ ?_
   rotate_left
   ·show Act.put _ (some 74) _ = _
    simp only [Act.put, List.setIfInBounds_toArray, List.set_cons_zero, List.set_cons_succ, jE, jG]
    rfl
   refine oz_ 11 (some 75) (fun K hK => ?_)
   refine goes_ Try.func46 T4_ rfl #[.slice A711_0 (rd_L2 t687 x14_1).length c711_0, .slice Ao47 t713.length co47] T0_ rfl rfl T19_ ?_
   with_reducible refine (churnref10_All.calls k1 _ _ (rd_L2 t687 x14_1) _ _ t713 t716 t717 t718 _ ?side1 ?side2 ?side3 ?side4 A41.out).mono ?_
   (case side1 => exact cu_ HR711_0.out)
   (case side2 => exact HC711_0.out)
   (case side3 => exact cu_ ((jg HO715.out).2.2))
   (case side4 => exact (jg HO715.out).2.1)
   rintro e w48 ⟨v719, rfl, ho0, hb⟩
   have HS7_ := (hb.cell (World.block_lt_of_cell? _ _ (hHeld.2.2.2.2.2.2.2.1))).trans (hHeld.2.2.2.2.2.2.2.1)
   have HS8_ := (hb.cell (World.block_lt_of_cell? _ _ (hHeld.2.2.2.2.2.2.2.2))).trans (hHeld.2.2.2.2.2.2.2.2)
   refine ⟨_, rfl, ?_⟩
   have n_ := P15_ (ji (ru_ HO_681000.out) (jf ho0) hb) (ji (ru_ HO_681001.out) (jf ho0) hb) (ji (ru_ HO_681002.out) (jf ho0) hb) (jN (su_ HO_681003.out) (jf ho0) hb) (je (ru_ HO_692000.out) hb) (je (ru_ HO_692001.out) hb) (jD (su_ HO_692002.out) hb) (je (ru_ HL711_0.out) hb) (ji (ru_ HO715.out) (jf ho0) hb) (jo (jk (jk (jk (jk ho0 (jj (ru_ HO_681000.out))) (jj (ru_ HO_681001.out))) (jj (ru_ HO_681002.out))) (jj (ru_ HO715.out))) (ja T42_)) (jq (g := gb679) (o := .cells #[.slice none 0 0, .slice none 0 0, .slice none 0 0, .slice none 0 0] 63 (0, 0)) (bu_ BK679.out) hb) (jq (g := gb680) (o := .cells #[.slice (some ad712) t692.length co22, .slice Ao33 t704.length co33, .slice Ao35 t705.length co35, u681003] 63 (0, 0)) (bu_ BK680.out) hb) (jq (g := gb691) (o := .cells #[.slice Ao15 t681.length co15, .slice Ao19 t684.length co19, .slice (some ad711) t687.length co20] 55 (0, 0)) (bu_ BK691.out) hb) (jw (cu_ HR711_0.out) hb) (jh T42_ hb)
   clear HO_681000 HO_681001 HO_681002 HO_681003 HO_692000 HO_692001 HO_692002 HL711_0 HO715 BK679 BK680 BK691 HR711_0 HB
   obtain ⟨HO_681000, HO_681001, HO_681002, HO_681003, HO_692000, HO_692001, HO_692002, HL711_0, HO715, HO720, BK679, BK680, BK691, HR711_0, HB⟩ := n_
   (try clear hb);(try clear hb2);(try clear hk);(try clear hi);(try clear ho0)
   refine hK.out _ _ ⟨bc_ BK691.out 0, bc_ BK691.out 1, bc_ BK691.out 2, bc_ BK680.out 0, bc_ BK680.out 1, bc_ BK680.out 2, bc_ BK680.out 3, HS7_, HS8_⟩ (fun hHeld => ?_)
   clear hK K
   refine norm_ (a' := ?_) ?_ ?_
   rotate_left
   ·show Act.put _ (some 75) _ = _
    simp only [Act.put, List.setIfInBounds_toArray, List.set_cons_zero, List.set_cons_succ, jE, jG]
    rfl
   refine pz_ 12 (some 63) ?_
   refine pz_ 13 (some 76) ?_
   refine pz_ 14 (some 77) ?_
   refine pz_ 15 (some 78) ?_
   refine pz_ 16 (some 15) ?_
   refine pz_ 17 (some 16) ?_
   refine pz_ 18 (some 17) ?_
   refine done_ (done_of HT_.out T4_) ?_
   have hnb49 := NB680_679.out
   have hnc49 := NB679_680.out
   have hnb50 := NB680_691.out
   have hnc50 := NB691_680.out
   obtain ⟨hcz51_0, hcz51_1, hcz51_2, hcz51_3, hfz51_0, hfz51_1, hfz51_2, hfz51_3⟩ := cz4_ BK680.out
   have p721 : 0 ≤ (x14_1 : Int) := od_
   have q721 : x14_1 < (t692.length : Int) := od_
   obtain ⟨ad721, e721, hx721_0⟩ := jH (jg HO_681000.out).2.2 x14_1 p721 q721
   obtain rfl : ad712 = ad721 := (by injection e721)
   replace p721 := eq_true p721
   replace q721 := eq_true q721
   obtain ⟨Ao52, co52, eo52⟩ := jp HO720.out
   subst eo52
   try go_wp2_with (first | ((with_reducible refine jv (f := 48) rfl ?_); refine gl_ (some 89) Try.func48 #[.int .i64 (rd t692 x14_1), .slice Ao52 t716.length co52] ?_; (with_reducible refine (churnref11_From.calls k1 (rd t692 x14_1) _ _ t716 t722 t723 _ ?side1 ?side2 A43.out).mono ?_); (case side1 => exact cu_ ((jg HO720.out).2.2)); (case side2 => exact (jg HO720.out).2.1); rintro e w53 ⟨v724, rfl, ho0, hb⟩; refine ⟨_, rfl, ?_⟩; have n_ := P16_ (ji (ru_ HO_681000.out) (jf ho0) hb) (ji (ru_ HO_681001.out) (jf ho0) hb) (ji (ru_ HO_681002.out) (jf ho0) hb) (jN (su_ HO_681003.out) (jf ho0) hb) (je (ru_ HO_692000.out) hb) (je (ru_ HO_692001.out) hb) (jD (su_ HO_692002.out) hb) (je (ru_ HL711_0.out) hb) (ji (ru_ HO715.out) (jf ho0) hb) (ji (ru_ HO720.out) (jf ho0) hb) (jo (jk (jk (jk (jk (jk ho0 (jj (ru_ HO_681000.out))) (jj (ru_ HO_681001.out))) (jj (ru_ HO_681002.out))) (jj (ru_ HO715.out))) (jj (ru_ HO720.out))) (ja T42_)) (jq (g := gb679) (o := .cells #[.slice none 0 0, .slice none 0 0, .slice none 0 0, .slice none 0 0] 63 (0, 0)) (bu_ BK679.out) hb) (jq (g := gb680) (o := .cells #[.slice (some ad712) t692.length co22, .slice Ao33 t704.length co33, .slice Ao35 t705.length co35, u681003] 63 (0, 0)) (bu_ BK680.out) hb) (jq (g := gb691) (o := .cells #[.slice Ao15 t681.length co15, .slice Ao19 t684.length co19, .slice (some ad711) t687.length co20] 55 (0, 0)) (bu_ BK691.out) hb) (jw (cu_ HR711_0.out) hb) (jh T42_ hb); clear HO_681000 HO_681001 HO_681002 HO_681003 HO_692000 HO_692001 HO_692002 HL711_0 HO715 HO720 BK679 BK680 BK691 HR711_0 HB; obtain ⟨HO_681000, HO_681001, HO_681002, HO_681003, HO_692000, HO_692001, HO_692002, HL711_0, HO715, HO720, HO725, BK679, BK680, BK691, HR711_0, HB⟩ := n_; clear hb ho0; obtain ⟨hcz54_0, hcz54_1, hcz54_2, hcz54_3, hfz54_0, hfz54_1, hfz54_2, hfz54_3⟩ := cz4_ BK680.out; obtain ⟨Ao56, co56, eo56⟩ := jp HO725.out; subst eo56) | ((with_reducible refine jK (b := .append) (xs := #[.tmp 93, .tmp 95]) rfl ?_); at_builtin; refine Kd.S_append (jy 3 (jb .i64)) (w0 := w) w.heap.size rfl (.tmp 93) (.tmp 95) 51 24 (.slice none 0 0) 24 rfl Try.underlying51 info24 rfl T3_ T2_ u681003 x681003_1 t722 [.slice Ao56 t722.length co56] (fun k_ => some k_ ≠ (.slice (some ad712) t692.length co22 : Value).ownBlock ∧ some k_ ≠ (.slice Ao33 t704.length co33 : Value).ownBlock ∧ some k_ ≠ (.slice Ao35 t705.length co35 : Value).ownBlock ∧ some k_ ≠ (.slice Ao47 t713.length co47 : Value).ownBlock ∧ some k_ ≠ (.slice Ao52 t716.length co52 : Value).ownBlock) (fun k_ => some k_ = (.slice Ao56 t722.length co56 : Value).ownBlock) rfl rfl ?aP (fun k_ hk_ => ((jc (ok' := fun k_ => ((fun k_ => some k_ ≠ (.slice (some ad712) t692.length co22 : Value).ownBlock ∧ some k_ ≠ (.slice Ao33 t704.length co33 : Value).ownBlock ∧ some k_ ≠ (.slice Ao35 t705.length co35 : Value).ownBlock ∧ some k_ ≠ (.slice Ao47 t713.length co47 : Value).ownBlock ∧ some k_ ≠ (.slice Ao52 t716.length co52 : Value).ownBlock)) k_ ∧ some k_ ≠ (u681003 : Value).ownBlock) (Kd.R_apart' (HO725.out) (Jc HO_681003.out) T3_) (fun k_ hk => ⟨⟨hk.1.1.1.1.1.2, ⟨hk.1.1.1.1.2, ⟨hk.1.1.1.2, ⟨hk.1.1.2, hk.1.2⟩⟩⟩⟩, hk.2⟩))).1 k_ hk_.symm) ?aF ?aO ?aB ?aS ?aL ?_; (case aP => exact Kd.M_row (jc (Kd.R_tight rfl (jc (ok' := fun k_ => ((fun k_ => some k_ ≠ (.slice (some ad712) t692.length co22 : Value).ownBlock ∧ some k_ ≠ (.slice Ao33 t704.length co33 : Value).ownBlock ∧ some k_ ≠ (.slice Ao35 t705.length co35 : Value).ownBlock ∧ some k_ ≠ (.slice Ao47 t713.length co47 : Value).ownBlock ∧ some k_ ≠ (.slice Ao52 t716.length co52 : Value).ownBlock)) k_ ∧ some k_ ≠ (u681003 : Value).ownBlock) (Kd.R_apart' (HO725.out) (Jc HO_681003.out) T3_) (fun k_ hk => ⟨⟨hk.1.1.1.1.1.2, ⟨hk.1.1.1.1.2, ⟨hk.1.1.1.2, ⟨hk.1.1.2, hk.1.2⟩⟩⟩⟩, hk.2⟩))) (fun _ h_ => h_))); (case aB => exact T42_); (case aF => exact (fun k_ hk => ⟨jI (jj (ru_ HO_681000.out)) k_ hk, jI (jj (ru_ HO_681001.out)) k_ hk, jI (jj (ru_ HO_681002.out)) k_ hk, jI (jj (ru_ HO715.out)) k_ hk, jI (jj (ru_ HO720.out)) k_ hk⟩)); (case aO => exact (su_ (jz HO_681003.out (fun k_ hk => ⟨⟨hk.1.1.1.1, ⟨hk.1.1.1.2.1, ⟨hk.1.1.1.2.2, ⟨hk.1.1.2, hk.1.2⟩⟩⟩⟩, fun e_ => hk.2 e_⟩)))); (case aS => exact (ja T42_)); (case aL => have := LMc44.out; omega); intro v727 w55 ho hb hg hat; rw [← Ny726.out] at ho; have n_ := P14_ (jB (ru_ HO_681000.out) (Jc (su_ HO_681003.out)) T3_ hg) (jB (ru_ HO_681001.out) (Jc (su_ HO_681003.out)) T3_ hg) (jB (ru_ HO_681002.out) (Jc (su_ HO_681003.out)) T3_ hg) (jB (ru_ HO_692000.out) (Jc (su_ HO_681003.out)) T3_ hg) (jB (ru_ HO_692001.out) (Jc (su_ HO_681003.out)) T3_ hg) (Kd.S_over' (su_ HO_692002.out) (Jc (su_ HO_681003.out)) T3_ hg) (blk_grown (g := gb679) (o := .cells #[.slice none 0 0, .slice none 0 0, .slice none 0 0, .slice none 0 0] 63 (0, 0)) (bu_ BK679.out) hg (Kd.S_ne HO_681003.out BK679.out T3_)) (blk_grown (g := gb680) (o := .cells #[.slice (some ad712) t692.length co22, .slice Ao33 t704.length co33, .slice Ao35 t705.length co35, u681003] 63 (0, 0)) (bu_ BK680.out) hg (Kd.S_ne HO_681003.out BK680.out T3_)) (blk_grown (g := gb691) (o := .cells #[.slice Ao15 t681.length co15, .slice Ao19 t684.length co19, .slice (some ad711) t687.length co20] 55 (0, 0)) (bu_ BK691.out) hg (Kd.S_ne HO_681003.out BK691.out T3_)) (jB (ru_ HL711_0.out) (Jc (su_ HO_681003.out)) T3_ hg) (jB (ru_ HO715.out) (Jc (su_ HO_681003.out)) T3_ hg) (jB (ru_ HO720.out) (Jc (su_ HO_681003.out)) T3_ hg) (hb) (ho); clear HO_681000 HO_681001 HO_681002 HO_692000 HO_692001 HO_692002 BK679 BK680 BK691 HL711_0 HO715 HO720 HB HO_681003 HO725; obtain ⟨HO_681000, HO_681001, HO_681002, HO_692000, HO_692001, HO_692002, BK679, BK680, BK691, HL711_0, HO715, HO720, HB, HO728⟩ := n_; clear ho hb hg hat; obtain ⟨Ao57, co57, eo57⟩ := jZ HO728.out; subst eo57; obtain ⟨hcz58_0, hcz58_1, hcz58_2, hcz58_3, hfz58_0, hfz58_1, hfz58_2, hfz58_3⟩ := cz4_ BK680.out))
   go_roundg k1
   case measure => have := HK1.out; omega
   case rel => exact ⟨(wrap64 (x14_1 + 1)), (y726), (.slice Ao57 y726.length co57), T10_, H', ⟨T7_⟩, ⟨ru_ (jc (jd (p := ⟨gb680, 3, none⟩) (js HO_681000.out BK680.out T3_) (fun _ hk => hk.2) (.slice Ao57 y726.length co57)) (fun _ hk => ⟨hk.1.1.1.1.1, hk.1.1.1.1.2⟩))⟩, ⟨ru_ (jc (jd (p := ⟨gb680, 3, none⟩) (js HO_681001.out BK680.out T3_) (fun _ hk => hk.2) (.slice Ao57 y726.length co57)) (fun _ hk => ⟨hk.1.1.1.1.1, hk.1.1.1.1.2⟩))⟩, ⟨ru_ (jc (jd (p := ⟨gb680, 3, none⟩) (js HO_681002.out BK680.out T3_) (fun _ hk => hk.2) (.slice Ao57 y726.length co57)) (fun _ hk => ⟨hk.1.1.1.1.1, hk.1.1.1.1.2⟩))⟩, ⟨su_ (jz (jA (p := ⟨gb680, 3, none⟩) (Jd HO728.out BK680.out T3_) (fun _ hk => hk.2) (.slice Ao57 y726.length co57)) (fun _ hk => ⟨hk.1.1, ⟨hk.1.2.1, hk.1.2.2.1⟩⟩))⟩, ⟨ru_ (jc (jd (p := ⟨gb680, 3, none⟩) (js HO_692000.out BK680.out T3_) (fun _ hk => hk.2) (.slice Ao57 y726.length co57)) (fun _ hk => hk.1))⟩, ⟨ru_ (jc (jd (p := ⟨gb680, 3, none⟩) (js HO_692001.out BK680.out T3_) (fun _ hk => hk.2) (.slice Ao57 y726.length co57)) (fun _ hk => hk.1))⟩, ⟨su_ (jz (jA (p := ⟨gb680, 3, none⟩) (Jd HO_692002.out BK680.out T3_) (fun _ hk => hk.2) (.slice Ao57 y726.length co57)) (fun _ hk => ⟨hk.1.1, hk.1.2⟩))⟩, ⟨T23_⟩, ⟨(by (with_reducible repeat (first | refine jn ?_ _ | refine jl ?_ | refine jm ?_ _)); refine jt (cs := #[.slice (some ad712) t692.length co22, .slice Ao33 t704.length co33, .slice Ao35 t705.length co35, u681003]) ?_ 3 _ rfl; exact bu_ BK680.out)⟩, ⟨T24_⟩, ⟨T42_⟩⟩
mutual
def churnref13_Order.l0 : Nat → Int → Int → List Int → List Int → Int → List Int → List Int → List Int → List (List Int) → Option (List Int × Int)
 | 0, _, _, _, _, _, _, _, _, _ => none
 | k + 1, x1, x2, x10, x11, x12, x744000, x744001, x744002, x744003 => if x12 < x2 then (if 0 ≤ (wrap64 (x12 - 1)) then (if (wrap64 (x12 - 1)) < (x10.length : Int) then (if (wrap64 (x12 - 1)) < (x744000.length : Int) then (if 0 ≤ x12 then (if x12 < (x10.length : Int) then (churnref13_Order.l0 k x1 x2 (x10.set (x12 : Int).toNat (wrap64 ((rd x10 (wrap64 (x12 - 1))) + (rd x744000 (wrap64 (x12 - 1)))))) x11 (wrap64 (x12 + 1)) x744000 x744001 x744002 x744003) else (none)) else (none)) else (none)) else (none)) else (none)) else (if 0 ≤ x1 then (if (x1 : Int).toNat ≤ 35184372088832 then (churnref13_Order.l1 k x1 x10 x11 (([] : List Int)) 0 x744000 x744001 x744002 x744003) else (none)) else (none))
def churnref13_Order.l1 : Nat → Int → List Int → List Int → List Int → Int → List Int → List Int → List Int → List (List Int) → Option (List Int × Int)
 | 0, _, _, _, _, _, _, _, _, _ => none
 | k + 1, x1, x10, x11, x13, x14, x744000, x744001, x744002, x744003 => if x14 < x1 then (if 0 ≤ x14 then (if x14 < (x744001.length : Int) then (if 0 ≤ (rd x744001 x14) then (if (rd x744001 x14) < (x10.length : Int) then (if (rd x744001 x14) < (x744003.length : Int) then (if (rd x744001 x14) < (x11.length : Int) then (if 0 ≤ (rd x11 (rd x744001 x14)) then (if (rd x11 (rd x744001 x14)) < ((rd_L3 x744003 (rd x744001 x14)).length : Int) then (if x13.length < 17592186044416 then (churnref13_Order.l1 k x1 x10 (x11.set ((rd x744001 x14) : Int).toNat (wrap64 ((rd x11 (rd x744001 x14)) + 1))) (x13 ++ [wrap64 ((rd x10 (rd x744001 x14)) + (rd (rd_L3 x744003 (rd x744001 x14)) (rd x11 (rd x744001 x14))))]) (wrap64 (x14 + 1)) x744000 x744001 x744002 x744003) else (none)) else (none)) else (none)) else (none)) else (none)) else (none)) else (none)) else (none)) else (none)) else (some (x13, 0))
end
def churnref13_Order.f (k : Nat) (l0 : List Int) (a1 : Int) (a2 : Int) : Option (List Int × Int) := (churnref13_fit.f a1 a2).bind fun t729 => (if t729 = true then ((churnref13_laid.f k l0 a1 a2).bind fun bt730 => (if bt730.2.2.2.2 = true then (if 0 ≤ a2 then (if (a2 : Int).toNat ≤ 35184372088832 then (churnref13_Order.l0 k a1 a2 (List.replicate (a2 : Int).toNat 0) (List.replicate (a2 : Int).toNat 0) 1 bt730.1 bt730.2.1 bt730.2.2.1 bt730.2.2.2.1) else (none)) else (none)) else (some (([] : List Int), 3)))) else (some (([] : List Int), 2)))
def churnref13_Order.T11 : Bool × List (List Nat × List Nat) := (true, [([], []), ([], []), ([], []), ([], []), ([3], [3]), ([2, 4], [2, 4]), ([5], [5]), ([], []), ([7], [7]), ([], []), ([9], [9]), ([8, 10], [8, 10]), ([11], [11]), ([6, 12], [6, 12]), ([0, 1, 0, 1, 2, 3, 4, 5, 6, 7, 8, 9, 10, 11, 12, 13], [0, 1]), ([14, 13, 0, 1, 2, 3, 4, 5, 6, 7, 8, 9, 10, 11, 12, 13], [13, 14])])
def churnref13_Order.B11 : List Nat := [0, 0, 0, 0, 8, 28, 60, 0, 128, 0, 512, 1920, 3968, 8188, 16383, 32767]
theorem churnref13_Order.tab11 : rtab .any (opsOf Try.f13 11) = churnref13_Order.T11 := by kernel_rfl
theorem churnref13_Order.bits11 : waitsOk churnref13_Order.T11.2 churnref13_Order.B11 = true := by kernel_rfl
def churnref13_Order.T17 : Bool × List (List Nat × List Nat) := (true, [([], []), ([], []), ([], []), ([1, 2], [1, 2]), ([3], [3]), ([], []), ([5], [5]), ([], []), ([6, 7], [6, 7]), ([8], [8]), ([], []), ([], []), ([10, 11], [10, 11]), ([12], [12]), ([9, 13], [9, 13]), ([14], [14]), ([4, 15], [4, 15]), ([16], [16]), ([0, 17], [0, 17]), ([18, 18, 0, 1, 2, 3, 4, 5, 6, 7, 8, 9, 10, 11, 12, 13, 14, 15, 16, 17, 18], [0, 18])])
def churnref13_Order.B17 : List Nat := [0, 0, 0, 6, 14, 0, 32, 0, 224, 480, 0, 0, 3072, 7168, 16352, 32736, 65534, 131070, 262143, 524287]
theorem churnref13_Order.tab17 : rtab .any (opsOf Try.f13 17) = churnref13_Order.T17 := by kernel_rfl
theorem churnref13_Order.bits17 : waitsOk churnref13_Order.T17.2 churnref13_Order.B17 = true := by kernel_rfl
set_option maxHeartbeats 8000000 in
set_option maxRecDepth 100000 in
theorem churnref13_Order.calls (k : Nat) (A0 : Option Addr) (c0 : Nat) (l0 : List Int) (a1 : Int) (a2 : Int) (r1 : List Int) (r2 : Int) (w : World) (hr0 : Jf (jb .u8) w A0 l0.length l0) (hc0 : l0.length ≤ c0) (h : churnref13_Order.f k l0 a1 a2 = some (r1, r2)) :
  Calls Try.prog 13 #[.slice A0 l0.length c0, .int .i64 a1, .int .i64 a2] w fun e w' => ∃ v0_ : Value, e = .returned (.tuple #[v0_, .int .i64 r2]) ∧ ju (jb .i64) 3 w' w.heap.size (fun _ => True) v0_ r1 ∧ Below w.heap.size w w' := by
 have hu63 := Try.underlying63
 have HR0 := am_ hr0
 have HC0 := am_ hc0
 clear hr0 hc0
 have HB := am_ (Below.refl w.heap.size w)
 have H : ((churnref13_fit.f a1 a2).bind fun t729 => (if t729 = true then ((churnref13_laid.f k l0 a1 a2).bind fun bt730 => (if bt730.2.2.2.2 = true then (if 0 ≤ a2 then (if (a2 : Int).toNat ≤ 35184372088832 then (churnref13_Order.l0 k a1 a2 (List.replicate (a2 : Int).toNat 0) (List.replicate (a2 : Int).toNat 0) 1 bt730.1 bt730.2.1 bt730.2.2.1 bt730.2.2.2.1) else (none)) else (none)) else (some (([] : List Int), 3)))) else (some (([] : List Int), 2)))) = some (r1, r2) := h
 clear h
 replace H := Option.bind_eq_some_iff.mp H
 obtain ⟨t729, A40, H⟩ := H
 try dsimp only at H
 have A4 := am_ A40
 clear A40
 by_cases c5 : t729 = true
 rotate_left
 ·replace c5 := Bool.eq_false_iff.mpr c5
  subst c5
  have H1 : (some (([] : List Int), 2)) = some (r1, r2) := by rw [if_neg (show ¬ (false = true) by decide)] at H; exact H
  clear H
  have H := H1
  clear H1
  simp only [Option.some.injEq, Prod.mk.injEq] at H
  obtain ⟨rfl, rfl⟩ := H
  go_enter Try.func13, Try.ntmps13
  go_wp2_with (first | ((with_reducible refine jv (f := 22) rfl ?_); refine gl_ (some 18) Try.func22 #[.int .i64 a1, .int .i64 a2] ?_; (with_reducible refine (churnref13_fit.calls a1 a2 false _ A4.out).mono ?_); rintro e w' ⟨rfl, ⟨nd, rfl⟩⟩; refine ⟨_, rfl, ?_⟩))
  go_ret2
  exact ⟨_, T16_, T20_, T18_⟩
 subst c5
 have H1 : ((churnref13_laid.f k l0 a1 a2).bind fun bt730 => (if bt730.2.2.2.2 = true then (if 0 ≤ a2 then (if (a2 : Int).toNat ≤ 35184372088832 then (churnref13_Order.l0 k a1 a2 (List.replicate (a2 : Int).toNat 0) (List.replicate (a2 : Int).toNat 0) 1 bt730.1 bt730.2.1 bt730.2.2.1 bt730.2.2.2.1) else (none)) else (none)) else (some (([] : List Int), 3)))) = some (r1, r2) := by rw [if_pos rfl] at H; exact H
 clear H
 have H := H1
 clear H1
 replace H := Option.bind_eq_some_iff.mp H
 obtain ⟨⟨t730, t733, t736, t739, t742⟩, A60, H⟩ := H
 try dsimp only at H
 have A6 := am_ A60
 clear A60
 by_cases c7 : t742 = true
 rotate_left
 ·replace c7 := Bool.eq_false_iff.mpr c7
  subst c7
  have H1 : (some (([] : List Int), 3)) = some (r1, r2) := by rw [if_neg (show ¬ (false = true) by decide)] at H; exact H
  clear H
  have H := H1
  clear H1
  simp only [Option.some.injEq, Prod.mk.injEq] at H
  obtain ⟨rfl, rfl⟩ := H
  go_enter Try.func13, Try.ntmps13
  go_wp2_with (first | ((with_reducible refine jv (f := 22) rfl ?_); refine gl_ (some 18) Try.func22 #[.int .i64 a1, .int .i64 a2] ?_; (with_reducible refine (churnref13_fit.calls a1 a2 true _ A4.out).mono ?_); rintro e w' ⟨rfl, ⟨nd, rfl⟩⟩; refine ⟨_, rfl, ?_⟩) | ((with_reducible refine jv (f := 23) rfl ?_); refine gl_ (some 24) Try.func23 #[.slice A0 l0.length c0, .int .i64 a1, .int .i64 a2] ?_; (with_reducible refine (churnref13_laid.calls k _ _ l0 a1 a2 t730 t733 t736 t739 false _ ?side1 ?side2 A6.out).mono ?_); (case side1 => exact cu_ HR0.out); (case side2 => exact HC0.out); rintro e w54 ⟨v731, v734, v737, v740, rfl, ho0, ho1, ho2, ho3, hb⟩; refine ⟨_, rfl, ?_⟩; have n_ := P5_ (jo ho0 (ja T18_)) (jo ho1 (ja T18_)) (jo ho2 (ja T18_)) (Kd.S_lower ho3 (ja T18_)) (jh T18_ hb); clear HB; obtain ⟨HO732, HO735, HO738, HO741, HB⟩ := n_; clear hb ho0 ho1 ho2 ho3) | ((with_reducible refine jx (N := 8) rfl ?_); refine jJ ?hg (N := 8) ?hd (cs := #[.slice none 0 0, .slice none 0 0, .slice none 0 0, .slice none 0 0]) (t := 63) ?hr ?_; (case hd => rfl); (case hg => rfl); (case hr => first | (go_simp; done) | (go_simp; rfl)); intro gb743 hg w55 hbox hb; have n_ := P8_ (je (ru_ HO732.out) hb) (je (ru_ HO735.out) hb) (je (ru_ HO738.out) hb) (jD (su_ HO741.out) hb) (jh T18_ hb) (hbox) ((by rw [hg]; exact (ja T18_) : w.heap.size ≤ gb743)) ((by rw [hg]; exact (ja T18_) : w.heap.size ≤ gb743)); clear HO732 HO735 HO738 HO741 HB; obtain ⟨HO732, HO735, HO738, HO741, HB, BK743, GW743, GE743⟩ := n_; clear hb hbox hg; obtain ⟨Ao56, co56, eo56⟩ := jp HO732.out; subst eo56; obtain ⟨hcz57_0, hcz57_1, hcz57_2, hcz57_3, hfz57_0, hfz57_1, hfz57_2, hfz57_3⟩ := cz4_ BK743.out; obtain ⟨Ao58, co58, eo58⟩ := jp HO735.out; subst eo58; obtain ⟨Ao59, co59, eo59⟩ := jp HO738.out; subst eo59; obtain ⟨Ao60, co60, eo60⟩ := jZ HO741.out; subst eo60))
  go_ret2
  exact ⟨_, T16_, T20_, T34_⟩
 subst c7
 have H1 : (if 0 ≤ a2 then (if (a2 : Int).toNat ≤ 35184372088832 then (churnref13_Order.l0 k a1 a2 (List.replicate (a2 : Int).toNat 0) (List.replicate (a2 : Int).toNat 0) 1 t730 t733 t736 t739) else (none)) else (none)) = some (r1, r2) := by rw [if_pos rfl] at H; exact H
 clear H
 have H := H1
 clear H1
 replace H := ifn_ H;obtain ⟨c8, H⟩ := H
 have c8b0 := eq_true c8
 have c8b1 : decide (0 ≤ a2) = true := decide_eq_true c8
 clear c8
 replace H := ifn_ H;obtain ⟨c9, H⟩ := H
 have c9b0 := eq_true c9
 have c9b1 : decide ((a2 : Int).toNat ≤ 35184372088832) = true := decide_eq_true c9
 clear c9
 obtain ⟨y744, hy_⟩ : ∃ y_ : List Int, y_ = (List.replicate (a2 : Int).toNat 0) := ⟨_, rfl⟩
 replace H : (churnref13_Order.l0 k a1 a2 y744 (List.replicate (a2 : Int).toNat 0) 1 t730 t733 t736 t739) = some (r1, r2) := hyw_
 have Ny744 := am_ hy_
 clear hy_
 obtain ⟨y747, hy_⟩ : ∃ y_ : List Int, y_ = (List.replicate (a2 : Int).toNat 0) := ⟨_, rfl⟩
 replace H : (churnref13_Order.l0 k a1 a2 y744 y747 1 t730 t733 t736 t739) = some (r1, r2) := hyw_
 have Ny747 := am_ hy_
 clear hy_
 have H' := am_ H
 clear H
 go_enter Try.func13, Try.ntmps13
 go_wp2_with (first | ((with_reducible refine jv (f := 22) rfl ?_); refine gl_ (some 18) Try.func22 #[.int .i64 a1, .int .i64 a2] ?_; (with_reducible refine (churnref13_fit.calls a1 a2 true _ A4.out).mono ?_); rintro e w' ⟨rfl, ⟨nd, rfl⟩⟩; refine ⟨_, rfl, ?_⟩) | ((with_reducible refine jv (f := 23) rfl ?_); refine gl_ (some 24) Try.func23 #[.slice A0 l0.length c0, .int .i64 a1, .int .i64 a2] ?_; (with_reducible refine (churnref13_laid.calls k _ _ l0 a1 a2 t730 t733 t736 t739 true _ ?side1 ?side2 A6.out).mono ?_); (case side1 => exact cu_ HR0.out); (case side2 => exact HC0.out); rintro e w10 ⟨v731, v734, v737, v740, rfl, ho0, ho1, ho2, ho3, hb⟩; refine ⟨_, rfl, ?_⟩; have n_ := P5_ (jo ho0 (ja T18_)) (jo ho1 (ja T18_)) (jo ho2 (ja T18_)) (Kd.S_lower ho3 (ja T18_)) (jh T18_ hb); clear HB; obtain ⟨HO732, HO735, HO738, HO741, HB⟩ := n_; clear hb ho0 ho1 ho2 ho3) | ((with_reducible refine jx (N := 8) rfl ?_); refine jJ ?hg (N := 8) ?hd (cs := #[.slice none 0 0, .slice none 0 0, .slice none 0 0, .slice none 0 0]) (t := 63) ?hr ?_; (case hd => rfl); (case hg => rfl); (case hr => first | (go_simp; done) | (go_simp; rfl)); intro gb743 hg w11 hbox hb; have n_ := P8_ (je (ru_ HO732.out) hb) (je (ru_ HO735.out) hb) (je (ru_ HO738.out) hb) (jD (su_ HO741.out) hb) (jh T18_ hb) (hbox) ((by rw [hg]; exact (ja T18_) : w.heap.size ≤ gb743)) ((by rw [hg]; exact (ja T18_) : w.heap.size ≤ gb743)); clear HO732 HO735 HO738 HO741 HB; obtain ⟨HO732, HO735, HO738, HO741, HB, BK743, GW743, GE743⟩ := n_; clear hb hbox hg; obtain ⟨Ao12, co12, eo12⟩ := jp HO732.out; subst eo12; obtain ⟨hcz13_0, hcz13_1, hcz13_2, hcz13_3, hfz13_0, hfz13_1, hfz13_2, hfz13_3⟩ := cz4_ BK743.out; obtain ⟨Ao14, co14, eo14⟩ := jp HO735.out; subst eo14; obtain ⟨Ao15, co15, eo15⟩ := jp HO738.out; subst eo15; obtain ⟨Ao16, co16, eo16⟩ := jZ HO741.out; subst eo16) | ((with_reducible refine jx (N := 30) rfl ?_); refine Kd.R_make (jb .i64) _ 3 rfl (N := 30) rfl 24 _ _ rfl a2 rfl rfl Try.underlying24 (.int .i64 0) 8 info3 rfl T3_ T2_ 0 (ok := fun _ => True) (okp := fun _ => True) rfl (fun _ hk => hk) trivial (od_) (Nat.le_trans (Nat.mul_le_mul_right _ (od_ : a2.toNat ≤ 35184372088832)) T2_) (Below.refl _ _) (Nat.le_refl _) ?_; intro v745 w17 ho18 hb hg_ hnew_; clear hg_ hnew_; (first | rw [← Ny744.out] at ho18 | (simp only [Int.reduceToNat] at ho18; rw [← Ny744.out] at ho18)); have n_ := P7_ (ji (ru_ ((jc (jd (p := ⟨gb743, 3, none⟩) (jd (p := ⟨gb743, 2, none⟩) (jd (p := ⟨gb743, 1, none⟩) (jd (p := ⟨gb743, 0, none⟩) (js HO732.out BK743.out T3_) (fun _ hk => hk.2) (.slice Ao12 t730.length co12)) (fun _ hk => hk.2) (.slice Ao14 t733.length co14)) (fun _ hk => hk.2) (.slice Ao15 t736.length co15)) (fun _ hk => hk.2) (.slice Ao16 t739.length co16)) (fun _ h_ => h_.1)))) (jf ho18) hb) (ji (ru_ ((jc (jd (p := ⟨gb743, 3, none⟩) (jd (p := ⟨gb743, 2, none⟩) (jd (p := ⟨gb743, 1, none⟩) (jd (p := ⟨gb743, 0, none⟩) (js HO735.out BK743.out T3_) (fun _ hk => hk.2) (.slice Ao12 t730.length co12)) (fun _ hk => hk.2) (.slice Ao14 t733.length co14)) (fun _ hk => hk.2) (.slice Ao15 t736.length co15)) (fun _ hk => hk.2) (.slice Ao16 t739.length co16)) (fun _ h_ => h_.1)))) (jf ho18) hb) (ji (ru_ ((jc (jd (p := ⟨gb743, 3, none⟩) (jd (p := ⟨gb743, 2, none⟩) (jd (p := ⟨gb743, 1, none⟩) (jd (p := ⟨gb743, 0, none⟩) (js HO738.out BK743.out T3_) (fun _ hk => hk.2) (.slice Ao12 t730.length co12)) (fun _ hk => hk.2) (.slice Ao14 t733.length co14)) (fun _ hk => hk.2) (.slice Ao15 t736.length co15)) (fun _ hk => hk.2) (.slice Ao16 t739.length co16)) (fun _ h_ => h_.1)))) (jf ho18) hb) (jN (su_ ((jz (jA (p := ⟨gb743, 3, none⟩) (jA (p := ⟨gb743, 2, none⟩) (jA (p := ⟨gb743, 1, none⟩) (jA (p := ⟨gb743, 0, none⟩) (Jd HO741.out BK743.out T3_) (fun _ hk => hk.2) (.slice Ao12 t730.length co12)) (fun _ hk => hk.2) (.slice Ao14 t733.length co14)) (fun _ hk => hk.2) (.slice Ao15 t736.length co15)) (fun _ hk => hk.2) (.slice Ao16 t739.length co16)) (fun _ h_ => h_.1)))) (jf ho18) hb) (jo (jk (jk (jk ho18 (jj (ru_ ((jc (jd (p := ⟨gb743, 3, none⟩) (jd (p := ⟨gb743, 2, none⟩) (jd (p := ⟨gb743, 1, none⟩) (jd (p := ⟨gb743, 0, none⟩) (js HO732.out BK743.out T3_) (fun _ hk => hk.2) (.slice Ao12 t730.length co12)) (fun _ hk => hk.2) (.slice Ao14 t733.length co14)) (fun _ hk => hk.2) (.slice Ao15 t736.length co15)) (fun _ hk => hk.2) (.slice Ao16 t739.length co16)) (fun _ h_ => h_.1)))))) (jj (ru_ ((jc (jd (p := ⟨gb743, 3, none⟩) (jd (p := ⟨gb743, 2, none⟩) (jd (p := ⟨gb743, 1, none⟩) (jd (p := ⟨gb743, 0, none⟩) (js HO735.out BK743.out T3_) (fun _ hk => hk.2) (.slice Ao12 t730.length co12)) (fun _ hk => hk.2) (.slice Ao14 t733.length co14)) (fun _ hk => hk.2) (.slice Ao15 t736.length co15)) (fun _ hk => hk.2) (.slice Ao16 t739.length co16)) (fun _ h_ => h_.1)))))) (jj (ru_ ((jc (jd (p := ⟨gb743, 3, none⟩) (jd (p := ⟨gb743, 2, none⟩) (jd (p := ⟨gb743, 1, none⟩) (jd (p := ⟨gb743, 0, none⟩) (js HO738.out BK743.out T3_) (fun _ hk => hk.2) (.slice Ao12 t730.length co12)) (fun _ hk => hk.2) (.slice Ao14 t733.length co14)) (fun _ hk => hk.2) (.slice Ao15 t736.length co15)) (fun _ hk => hk.2) (.slice Ao16 t739.length co16)) (fun _ h_ => h_.1)))))) (ja T34_)) (jq (g := gb743) (o := .cells #[.slice Ao12 t730.length co12, .slice Ao14 t733.length co14, .slice Ao15 t736.length co15, .slice Ao16 t739.length co16] 63 (0, 0)) (by (with_reducible repeat (first | refine jn ?_ _ | refine jl ?_ | refine jm ?_ _)); refine jt (cs := #[.slice Ao12 t730.length co12, .slice Ao14 t733.length co14, .slice Ao15 t736.length co15, .slice none 0 0]) ?_ 3 _ rfl; (with_reducible repeat (first | refine jn ?_ _ | refine jl ?_ | refine jm ?_ _)); refine jt (cs := #[.slice Ao12 t730.length co12, .slice Ao14 t733.length co14, .slice none 0 0, .slice none 0 0]) ?_ 2 _ rfl; (with_reducible repeat (first | refine jn ?_ _ | refine jl ?_ | refine jm ?_ _)); refine jt (cs := #[.slice Ao12 t730.length co12, .slice none 0 0, .slice none 0 0, .slice none 0 0]) ?_ 1 _ rfl; (with_reducible repeat (first | refine jn ?_ _ | refine jl ?_ | refine jm ?_ _)); refine jt (cs := #[.slice none 0 0, .slice none 0 0, .slice none 0 0, .slice none 0 0]) ?_ 0 _ rfl; exact bu_ BK743.out) hb) (jh T34_ hb); clear HO732 HO735 HO738 HO741 BK743 HB; obtain ⟨HO732, HO735, HO738, HO741, HO746, BK743, HB⟩ := n_; clear hb ho18) | ((with_reducible refine jx (N := 32) rfl ?_); refine Kd.R_make (jb .i64) _ 3 rfl (N := 32) rfl 24 _ _ rfl a2 rfl rfl Try.underlying24 (.int .i64 0) 8 info3 rfl T3_ T2_ 0 (ok := fun _ => True) (okp := fun _ => True) rfl (fun _ hk => hk) trivial (od_) (Nat.le_trans (Nat.mul_le_mul_right _ (od_ : a2.toNat ≤ 35184372088832)) T2_) (Below.refl _ _) (Nat.le_refl _) ?_; intro v748 w19 ho20 hb hg_ hnew_; clear hg_ hnew_; (first | rw [← Ny747.out] at ho20 | (simp only [Int.reduceToNat] at ho20; rw [← Ny747.out] at ho20)); have n_ := P8_ (ji (ru_ HO732.out) (jf ho20) hb) (ji (ru_ HO735.out) (jf ho20) hb) (ji (ru_ HO738.out) (jf ho20) hb) (jN (su_ HO741.out) (jf ho20) hb) (ji (ru_ HO746.out) (jf ho20) hb) (jo (jk (jk (jk (jk ho20 (jj (ru_ HO732.out))) (jj (ru_ HO735.out))) (jj (ru_ HO738.out))) (jj (ru_ HO746.out))) (ja T34_)) (jq (g := gb743) (o := .cells #[.slice Ao12 t730.length co12, .slice Ao14 t733.length co14, .slice Ao15 t736.length co15, .slice Ao16 t739.length co16] 63 (0, 0)) (bu_ BK743.out) hb) (jh T34_ hb); clear HO732 HO735 HO738 HO741 HO746 BK743 HB; obtain ⟨HO732, HO735, HO738, HO741, HO746, HO749, BK743, HB⟩ := n_; clear hb ho20))
 go_loopg [12] k (fun kq v12 w' => ∃ (x10_1 : List Int) (x12_1 : Int), v12 = .int .i64 x12_1 ∧ Aside0 (churnref13_Order.l0 kq a1 a2 x10_1 y747 x12_1 t730 t733 t736 t739 = some (r1, r2)) ∧ Aside0 (kq ≤ k) ∧ Aside0 (ju (jb .i64) 3 w' w.heap.size (fun k_ => some k_ ≠ (v748 : Value).ownBlock ∧ some k_ ≠ ((.slice Ao12 t730.length co12) : Value).ownBlock ∧ some k_ ≠ ((.slice Ao14 t733.length co14) : Value).ownBlock ∧ some k_ ≠ ((.slice Ao15 t736.length co15) : Value).ownBlock) v745 x10_1) ∧ Aside0 (ju (jb .i64) 3 w' w.heap.size (fun k_ => some k_ ≠ (v745 : Value).ownBlock ∧ some k_ ≠ ((.slice Ao12 t730.length co12) : Value).ownBlock ∧ some k_ ≠ ((.slice Ao14 t733.length co14) : Value).ownBlock ∧ some k_ ≠ ((.slice Ao15 t736.length co15) : Value).ownBlock) v748 y747) ∧ Aside0 (ju (jb .i64) 3 w' w.heap.size (fun k_ => some k_ ≠ (v745 : Value).ownBlock ∧ some k_ ≠ (v748 : Value).ownBlock ∧ some k_ ≠ ((.slice Ao14 t733.length co14) : Value).ownBlock ∧ some k_ ≠ ((.slice Ao15 t736.length co15) : Value).ownBlock) (.slice Ao12 t730.length co12) t730) ∧ Aside0 (ju (jb .i64) 3 w' w.heap.size (fun k_ => some k_ ≠ (v745 : Value).ownBlock ∧ some k_ ≠ (v748 : Value).ownBlock ∧ some k_ ≠ ((.slice Ao12 t730.length co12) : Value).ownBlock ∧ some k_ ≠ ((.slice Ao15 t736.length co15) : Value).ownBlock) (.slice Ao14 t733.length co14) t733) ∧ Aside0 (ju (jb .i64) 3 w' w.heap.size (fun k_ => some k_ ≠ (v745 : Value).ownBlock ∧ some k_ ≠ (v748 : Value).ownBlock ∧ some k_ ≠ ((.slice Ao12 t730.length co12) : Value).ownBlock ∧ some k_ ≠ ((.slice Ao14 t733.length co14) : Value).ownBlock) (.slice Ao15 t736.length co15) t736) ∧ Aside0 (Kd.S (jy 3 (jb .i64)) 24 w' w.heap.size (fun k_ => some k_ ≠ (v745 : Value).ownBlock ∧ some k_ ≠ (v748 : Value).ownBlock ∧ some k_ ≠ ((.slice Ao12 t730.length co12) : Value).ownBlock ∧ some k_ ≠ ((.slice Ao14 t733.length co14) : Value).ownBlock ∧ some k_ ≠ ((.slice Ao15 t736.length co15) : Value).ownBlock) (.slice Ao16 t739.length co16) t739) ∧ Aside0 (w'.heap[gb743]? = some (.cells #[(.slice Ao12 t730.length co12), (.slice Ao14 t733.length co14), (.slice Ao15 t736.length co15), (.slice Ao16 t739.length co16)] 63 (0, 0))) ∧ Aside0 (Below w.heap.size w w'))
 case atStart => exact ⟨(y744), (1), T10_, H', ⟨Nat.le_refl _⟩, ⟨ru_ (jc HO746.out (fun _ hk => ⟨hk.2, ⟨hk.1.1.1.2, ⟨hk.1.1.2, hk.1.2⟩⟩⟩))⟩, ⟨ru_ (jc HO749.out (fun _ hk => ⟨hk.2, ⟨hk.1.1.1.2, ⟨hk.1.1.2, hk.1.2⟩⟩⟩))⟩, ⟨ru_ (jc HO732.out (fun _ hk => ⟨hk.1.2, ⟨hk.2, ⟨hk.1.1.1, hk.1.1.2⟩⟩⟩))⟩, ⟨ru_ (jc HO735.out (fun _ hk => ⟨hk.1.2, ⟨hk.2, ⟨hk.1.1.1, hk.1.1.2⟩⟩⟩))⟩, ⟨ru_ (jc HO738.out (fun _ hk => ⟨hk.1.2, ⟨hk.2, ⟨hk.1.1.1, hk.1.1.2⟩⟩⟩))⟩, ⟨su_ (jz HO741.out (fun _ hk => ⟨hk.1.2, ⟨hk.2, ⟨hk.1.1.1, ⟨hk.1.1.2.1, hk.1.1.2.2⟩⟩⟩⟩))⟩, ⟨bu_ BK743.out⟩, ⟨T34_⟩⟩
 case round =>
  clear H'
  (try clear c1);(try clear c2);(try clear p2);(try clear c5);(try clear c7);(try clear c8);(try clear c8b0 c8b1);(try clear c9);(try clear c9b0 c9b1);(try clear c13);(try clear hcz13_0 hcz13_1 hcz13_2 hcz13_3 hfz13_0 hfz13_1 hfz13_2 hfz13_3);(try clear BK743)
  obtain ⟨x10_1, x12_1, rfl, HA, HK1, HO_10, HO_11, HO_744000, HO_744001, HO_744002, HO_744003, BK743, HB⟩ := hrel
  cases gk with
  | zero => exact absurd HA.out (by simp [churnref13_Order.l0])
  | succ k1 =>
   have H := HA.out
   clear HA
   simp only [churnref13_Order.l0] at H
   by_cases c21 : x12_1 < a2
   ·rw [if_pos c21] at H
    have c21b0 := decide_eq_true c21
    clear c21
    obtain ⟨ji22, hji22⟩ : ∃ j_ : Int, (wrap64 (x12_1 - 1)) = j_ := ⟨_, rfl⟩
    replace H : (if 0 ≤ (ji22) then (if (ji22) < (x10_1.length : Int) then (if (ji22) < (t730.length : Int) then (if 0 ≤ x12_1 then (if x12_1 < (x10_1.length : Int) then (churnref13_Order.l0 k1 a1 a2 (x10_1.set (x12_1 : Int).toNat (wrap64 ((rd x10_1 (ji22)) + (rd t730 (ji22))))) y747 (wrap64 (x12_1 + 1)) t730 t733 t736 t739) else (none)) else (none)) else (none)) else (none)) else (none)) = some (r1, r2) := by first | (rw [hji22] at H; exact H) | (simp only [hji22] at H ⊢; exact H)
    have hji22w : (IntKind.i64.wrap (x12_1 - 1)) = ji22 := (jE _).trans hji22
    replace H := ifn_ H;obtain ⟨c23, H⟩ := H
    have c23b0 := decide_eq_true c23
    clear c23
    replace H := ifn_ H;obtain ⟨c24, H⟩ := H
    have c24b0 := decide_eq_true c24
    clear c24
    replace H := ifn_ H;obtain ⟨c25, H⟩ := H
    have c25b0 := decide_eq_true c25
    clear c25
    replace H := ifn_ H;obtain ⟨c26, H⟩ := H
    have c26b0 := decide_eq_true c26
    clear c26
    replace H := ifn_ H;obtain ⟨c27, H⟩ := H
    have c27b0 := decide_eq_true c27
    clear c27
    obtain ⟨y752, hy_⟩ : ∃ y_ : List Int, y_ = (x10_1.set (x12_1 : Int).toNat (wrap64 ((rd x10_1 (ji22)) + (rd t730 (ji22))))) := ⟨_, rfl⟩
    replace H : (churnref13_Order.l0 k1 a1 a2 y752 y747 (wrap64 (x12_1 + 1)) t730 t733 t736 t739) = some (r1, r2) := hyw_
    have Ny752 := am_ hy_
    clear hy_
    have H' := am_ H
    clear H
    try go_wp2
    have n_ := P8_ (jr HO_10.out) (jr HO_11.out) (jr HO_744000.out) (jr HO_744001.out) (jr HO_744002.out) (Je HO_744003.out) (jl BK743.out) (jM HB.out)
    clear HO_10 HO_11 HO_744000 HO_744001 HO_744002 HO_744003 BK743 HB
    obtain ⟨HO_10, HO_11, HO_744000, HO_744001, HO_744002, HO_744003, BK743, HB⟩ := n_
    obtain ⟨Ao30, co30, eo30⟩ := jp HO_10.out
    (first | subst eo30 | (injection eo30 with f1_ f2_ f3_; have f4_ := f1_.symm; have f5_ := f3_.symm; clear f1_ f2_ f3_; subst f4_; subst f5_))
    obtain ⟨ad750, e750, hx750_0, p750, q750⟩ := ai_ (jg HO_10.out).2.2 (ji22)
    cases e750
    obtain ⟨ad751, e751, hx751_0, p751, q751⟩ := ai_ (jg HO_744000.out).2.2 (ji22)
    cases e751
    have p28 : 0 ≤ (x12_1 : Int) := od_
    have q28 : (x12_1 : Int) < ((x10_1.length : Int) : Int) := od_
    obtain ⟨go28, co28, eo28, gb28, gl28, cl28, HG28⟩ := Kd.R_form HO_10.out T2_
    (first | cases eo28 | (injection eo28 with ea_ en_ ec_; (first | subst ea_ | (injection ea_ with ea_; subst ea_)); subst ec_; clear en_))
    have GB28 := am_ gb28
    have GG28 := am_ HG28
    clear gb28 gl28 HG28
    (first | simp only [Jg] at hx750_0 | skip)
    obtain ⟨hx28_0, hf28_0⟩ := jL 0 HO_10.out (x12_1 : Int) p28 q28
    replace p28 := eq_true p28
    replace q28 := eq_true q28
    have HP31 := Kd.R_putn HO_10.out (x12_1 : Int) (wrap64 ((rd x10_1 (ji22)) + (rd t730 (ji22))))
    rw [← Ny752.out] at HP31
    have HQ31 := am_ HP31
    clear HP31
    refine start_ (n := 16) (S := fun w' => w'.cell? ⟨gb743, 0, none⟩ = some (.slice (some ad751) t730.length co12) ∧ w'.cell? ⟨gb743, 1, none⟩ = some (.slice Ao14 t733.length co14) ∧ w'.cell? ⟨gb743, 2, none⟩ = some (.slice Ao15 t736.length co15) ∧ w'.cell? ⟨gb743, 3, none⟩ = some (.slice Ao16 t739.length co16) ∧ w'.cell? ⟨go28, ((ji22)).toNat, none⟩ = some (.int .i64 (rd x10_1 (ji22))) ∧ w'.cell? (ad751.add ((ji22)).toNat) = some (.int .i64 (rd t730 (ji22)))) (ds := [15]) #[false, false, false, false, false, false, false, false, false, false, false, false, false, false, false, false] T4_ rfl rfl ⟨bc_ BK743.out 0, bc_ BK743.out 1, bc_ BK743.out 2, bc_ BK743.out 3, hx750_0, hx751_0⟩ (fun hHeld => ?_); refine with_tabW churnref13_Order.tab11 churnref13_Order.bits11 (fun HT_ HW_ => ?_)
    generalize wr.drew = w29 at HO_10 HO_11 HO_744000 HO_744001 HO_744002 HO_744003 BK743 HB GG28 HQ31 hf28_0 hx28_0 hx750_0 hx751_0 hHeld ⊢
    refine pz_ 0 (some 38) ?_
    refine pz_ 1 (some 39) ?_
    refine pz_ 2 (some 40) ?_
    refine pz_ 3 (some 41) ?_
    refine pz_ 4 (some 42) ?_
    refine pz_ 5 (some 43) ?_
    refine pz_ 7 (some 45) ?_
    refine pz_ 9 (some 47) ?_
    refine pz_ 10 (some 48) ?_
    refine tz6_ 6 (some 44) hHeld ?_
    refine tz6_ 8 (some 46) hHeld ?_
    refine pz_ 11 (some 49) ?_
    refine tz6_ 12 (some 50) hHeld ?_
    refine pz_ 13 (some 51) ?_
    refine pz_ 14 (some 52) ?_
    refine last_ (i := 15) (N := none) #[true, true, true, true, true, true, true, true, true, true, true, true, true, true, true, true] rfl rfl (one_of HT_.out T4_) T3_ (fun K hK => ?_)
    refine skip_ (w1 := ?_) T0_ rfl ?_ ?_
    rotate_left
    ·go_simp
     rfl
    refine hK.out _ _ ?_
    clear hK K
    refine done_ (done_of HT_.out T4_) ?_
    try go_wp2
    go_roundg k1
    case measure => have := HK1.out; omega
    case rel => exact ⟨(y752), (wrap64 (x12_1 + 1)), T10_, H', ⟨T7_⟩, ⟨(by (with_reducible repeat (first | apply Kd.R_alloc | apply Kd.R_drewN | apply jr)); exact HQ31.out)⟩, ⟨ru_ (jc (jd (p := ⟨go28, (x12_1 : Int).toNat, none⟩) (jc HO_11.out (fun k_ hk => (⟨hk, fun e_ => hk.1 T5_⟩ : _ ∧ k_ ≠ go28))) (fun _ hk => hk.2) (.int .i64 (wrap64 ((rd x10_1 (ji22)) + (rd t730 (ji22)))))) (fun _ hk => ⟨hk.1.1, ⟨hk.1.2.1, ⟨hk.1.2.2.1, hk.1.2.2.2⟩⟩⟩))⟩, ⟨ru_ (jc (jd (p := ⟨go28, (x12_1 : Int).toNat, none⟩) (jc HO_744000.out (fun k_ hk => (⟨hk, fun e_ => hk.1 T5_⟩ : _ ∧ k_ ≠ go28))) (fun _ hk => hk.2) (.int .i64 (wrap64 ((rd x10_1 (ji22)) + (rd t730 (ji22)))))) (fun _ hk => ⟨hk.1.1, ⟨hk.1.2.1, ⟨hk.1.2.2.1, hk.1.2.2.2⟩⟩⟩))⟩, ⟨ru_ (jc (jd (p := ⟨go28, (x12_1 : Int).toNat, none⟩) (jc HO_744001.out (fun k_ hk => (⟨hk, fun e_ => hk.1 T5_⟩ : _ ∧ k_ ≠ go28))) (fun _ hk => hk.2) (.int .i64 (wrap64 ((rd x10_1 (ji22)) + (rd t730 (ji22)))))) (fun _ hk => ⟨hk.1.1, ⟨hk.1.2.1, ⟨hk.1.2.2.1, hk.1.2.2.2⟩⟩⟩))⟩, ⟨ru_ (jc (jd (p := ⟨go28, (x12_1 : Int).toNat, none⟩) (jc HO_744002.out (fun k_ hk => (⟨hk, fun e_ => hk.1 T5_⟩ : _ ∧ k_ ≠ go28))) (fun _ hk => hk.2) (.int .i64 (wrap64 ((rd x10_1 (ji22)) + (rd t730 (ji22)))))) (fun _ hk => ⟨hk.1.1, ⟨hk.1.2.1, ⟨hk.1.2.2.1, hk.1.2.2.2⟩⟩⟩))⟩, ⟨su_ (jz (jA (p := ⟨go28, (x12_1 : Int).toNat, none⟩) (jz HO_744003.out (fun k_ hk => (⟨hk, fun e_ => hk.1 T5_⟩ : _ ∧ k_ ≠ go28))) (fun _ hk => hk.2) (.int .i64 (wrap64 ((rd x10_1 (ji22)) + (rd t730 (ji22)))))) (fun _ hk => ⟨hk.1.1, ⟨hk.1.2.1, ⟨hk.1.2.2.1, ⟨hk.1.2.2.2.1, hk.1.2.2.2.2⟩⟩⟩⟩))⟩, ⟨(by (with_reducible repeat (first | refine jn ?_ _ | refine jl ?_ | refine jm ?_ _)); refine jY ?_ (by have h_ := Kd.R_ne HO_10.out BK743.out T3_; intro e_; exact h_ T5_) _; exact bu_ BK743.out)⟩, ⟨(by repeat (first | (with_reducible first | exact HB.out | apply below_alloc | apply Jh | apply jM | refine jR ?_ GB28.out | refine jR ?_ GE743.out) | exact HB.out))⟩⟩
   rw [if_neg c21] at H
   have c21b0 := decide_eq_false c21
   clear c21
   replace H := ifn_ H;obtain ⟨c32, H⟩ := H
   have c32b0 := eq_true c32
   have c32b1 : decide (0 ≤ a1) = true := decide_eq_true c32
   clear c32
   replace H := ifn_ H;obtain ⟨c33, H⟩ := H
   have c33b0 := eq_true c33
   have c33b1 : decide ((a1 : Int).toNat ≤ 35184372088832) = true := decide_eq_true c33
   clear c33
   obtain ⟨y753, hy_⟩ : ∃ y_ : List Int, y_ = (([] : List Int)) := ⟨_, rfl⟩
   replace H : (churnref13_Order.l1 k1 a1 x10_1 y747 y753 0 t730 t733 t736 t739) = some (r1, r2) := hyw_
   have Ny753 := am_ hy_
   clear hy_
   have H' := am_ H
   clear H
   go_wp2_with (first | ((with_reducible refine jx (N := 54) rfl ?_); refine Kd.R_make0 (jb .i64) _ 3 rfl (N := 54) rfl 24 _ _ rfl a1 rfl rfl Try.underlying24 (.int .i64 0) 8 info3 rfl T3_ T2_ 0 (ok := fun _ => True) (okp := fun _ => True) rfl (fun _ hk => hk) trivial (od_) (Nat.le_trans (Nat.mul_le_mul_right _ (od_ : a1.toNat ≤ 35184372088832)) T2_) (Below.refl _ _) (Nat.le_refl _) ?_; intro v754 w34 ho35 hb hg_ hnew_; clear hg_ hnew_; (first | rw [← Ny753.out] at ho35 | (simp only [Int.reduceToNat] at ho35; rw [← Ny753.out] at ho35)); have n_ := P9_ (ji (ru_ HO_10.out) (jf ho35) hb) (ji (ru_ HO_11.out) (jf ho35) hb) (ji (ru_ HO_744000.out) (jf ho35) hb) (ji (ru_ HO_744001.out) (jf ho35) hb) (ji (ru_ HO_744002.out) (jf ho35) hb) (jN (su_ HO_744003.out) (jf ho35) hb) (jo (jk (jk (jk (jk (jk ho35 (jj (ru_ HO_10.out))) (jj (ru_ HO_11.out))) (jj (ru_ HO_744000.out))) (jj (ru_ HO_744001.out))) (jj (ru_ HO_744002.out))) (ja T34_)) (jq (g := gb743) (o := .cells #[.slice Ao12 t730.length co12, .slice Ao14 t733.length co14, .slice Ao15 t736.length co15, .slice Ao16 t739.length co16] 63 (0, 0)) (bu_ BK743.out) hb) (jh T34_ hb); clear HO_10 HO_11 HO_744000 HO_744001 HO_744002 HO_744003 BK743 HB; obtain ⟨HO_10, HO_11, HO_744000, HO_744001, HO_744002, HO_744003, HO755, BK743, HB⟩ := n_; clear hb ho35))
   go_loopg [13, 14] k1 (fun kq v13 v14 w' => ∃ (x11_2 : List Int) (x13_2 : List Int) (x14_2 : Int), v14 = .int .i64 x14_2 ∧ Aside0 (churnref13_Order.l1 kq a1 x10_1 x11_2 x13_2 x14_2 t730 t733 t736 t739 = some (r1, r2)) ∧ Aside0 (kq ≤ k1) ∧ Aside0 (ju (jb .i64) 3 w' w.heap.size (fun k_ => some k_ ≠ (v748 : Value).ownBlock ∧ some k_ ≠ (v13 : Value).ownBlock ∧ some k_ ≠ ((.slice Ao12 t730.length co12) : Value).ownBlock ∧ some k_ ≠ ((.slice Ao14 t733.length co14) : Value).ownBlock ∧ some k_ ≠ ((.slice Ao15 t736.length co15) : Value).ownBlock) v745 x10_1) ∧ Aside0 (ju (jb .i64) 3 w' w.heap.size (fun k_ => some k_ ≠ (v745 : Value).ownBlock ∧ some k_ ≠ (v13 : Value).ownBlock ∧ some k_ ≠ ((.slice Ao12 t730.length co12) : Value).ownBlock ∧ some k_ ≠ ((.slice Ao14 t733.length co14) : Value).ownBlock ∧ some k_ ≠ ((.slice Ao15 t736.length co15) : Value).ownBlock) v748 x11_2) ∧ Aside0 (ju (jb .i64) 3 w' w.heap.size (fun k_ => some k_ ≠ (v745 : Value).ownBlock ∧ some k_ ≠ (v748 : Value).ownBlock ∧ some k_ ≠ ((.slice Ao12 t730.length co12) : Value).ownBlock ∧ some k_ ≠ ((.slice Ao14 t733.length co14) : Value).ownBlock ∧ some k_ ≠ ((.slice Ao15 t736.length co15) : Value).ownBlock) v13 x13_2) ∧ Aside0 (ju (jb .i64) 3 w' w.heap.size (fun k_ => some k_ ≠ (v745 : Value).ownBlock ∧ some k_ ≠ (v748 : Value).ownBlock ∧ some k_ ≠ (v13 : Value).ownBlock ∧ some k_ ≠ ((.slice Ao14 t733.length co14) : Value).ownBlock ∧ some k_ ≠ ((.slice Ao15 t736.length co15) : Value).ownBlock) (.slice Ao12 t730.length co12) t730) ∧ Aside0 (ju (jb .i64) 3 w' w.heap.size (fun k_ => some k_ ≠ (v745 : Value).ownBlock ∧ some k_ ≠ (v748 : Value).ownBlock ∧ some k_ ≠ (v13 : Value).ownBlock ∧ some k_ ≠ ((.slice Ao12 t730.length co12) : Value).ownBlock ∧ some k_ ≠ ((.slice Ao15 t736.length co15) : Value).ownBlock) (.slice Ao14 t733.length co14) t733) ∧ Aside0 (ju (jb .i64) 3 w' w.heap.size (fun k_ => some k_ ≠ (v745 : Value).ownBlock ∧ some k_ ≠ (v748 : Value).ownBlock ∧ some k_ ≠ (v13 : Value).ownBlock ∧ some k_ ≠ ((.slice Ao12 t730.length co12) : Value).ownBlock ∧ some k_ ≠ ((.slice Ao14 t733.length co14) : Value).ownBlock) (.slice Ao15 t736.length co15) t736) ∧ Aside0 (Kd.S (jy 3 (jb .i64)) 24 w' w.heap.size (fun k_ => some k_ ≠ (v745 : Value).ownBlock ∧ some k_ ≠ (v748 : Value).ownBlock ∧ some k_ ≠ (v13 : Value).ownBlock ∧ some k_ ≠ ((.slice Ao12 t730.length co12) : Value).ownBlock ∧ some k_ ≠ ((.slice Ao14 t733.length co14) : Value).ownBlock ∧ some k_ ≠ ((.slice Ao15 t736.length co15) : Value).ownBlock) (.slice Ao16 t739.length co16) t739) ∧ Aside0 (w'.heap[gb743]? = some (.cells #[(.slice Ao12 t730.length co12), (.slice Ao14 t733.length co14), (.slice Ao15 t736.length co15), (.slice Ao16 t739.length co16)] 63 (0, 0))) ∧ Aside0 (Below w.heap.size w w'))
   case atStart => exact ⟨(y747), (y753), (0), T10_, H', ⟨Nat.le_refl _⟩, ⟨ru_ (jc HO_10.out (fun _ hk => ⟨hk.1.1, ⟨hk.2, ⟨hk.1.2.1, ⟨hk.1.2.2.1, hk.1.2.2.2⟩⟩⟩⟩))⟩, ⟨ru_ (jc HO_11.out (fun _ hk => ⟨hk.1.1, ⟨hk.2, ⟨hk.1.2.1, ⟨hk.1.2.2.1, hk.1.2.2.2⟩⟩⟩⟩))⟩, ⟨ru_ (jc HO755.out (fun _ hk => ⟨hk.1.1.1.1.2, ⟨hk.1.1.1.2, ⟨hk.1.1.2, ⟨hk.1.2, hk.2⟩⟩⟩⟩))⟩, ⟨ru_ (jc HO_744000.out (fun _ hk => ⟨hk.1.1, ⟨hk.1.2.1, ⟨hk.2, ⟨hk.1.2.2.1, hk.1.2.2.2⟩⟩⟩⟩))⟩, ⟨ru_ (jc HO_744001.out (fun _ hk => ⟨hk.1.1, ⟨hk.1.2.1, ⟨hk.2, ⟨hk.1.2.2.1, hk.1.2.2.2⟩⟩⟩⟩))⟩, ⟨ru_ (jc HO_744002.out (fun _ hk => ⟨hk.1.1, ⟨hk.1.2.1, ⟨hk.2, ⟨hk.1.2.2.1, hk.1.2.2.2⟩⟩⟩⟩))⟩, ⟨su_ (jz HO_744003.out (fun _ hk => ⟨hk.1.1, ⟨hk.1.2.1, ⟨hk.2, ⟨hk.1.2.2.1, ⟨hk.1.2.2.2.1, hk.1.2.2.2.2⟩⟩⟩⟩⟩))⟩, ⟨bu_ BK743.out⟩, ⟨T34_⟩⟩
   case round =>
    clear H'
    (try clear c1);(try clear c2);(try clear p2 q2 p2);(try clear hx2);(try clear c3);(try clear c5);(try clear p6);(try clear c7);(try clear p7 q7);(try clear hx7);(try clear c8);(try clear c8b0 c8b1);(try clear c9);(try clear c9b0 c9b1);(try clear c13);(try clear c21);(try clear c21b0);(try clear c22);(try clear c23);(try clear c23b0);(try clear c24);(try clear c24b0);(try clear c25);(try clear c25b0);(try clear c26);(try clear c26b0);(try clear c27);(try clear c27b0);(try clear p28 q28 p28 q28);(try clear hx28 hx28_0);(try clear hf28);(try clear c32);(try clear c32b0 c32b1);(try clear c33);(try clear c33b0 c33b1);(try clear hcz13_0 hcz13_1 hcz13_2 hcz13_3 hfz13_0 hfz13_1 hfz13_2 hfz13_3);(try clear hx750_0);(try clear hx751_0);(try clear p750 q750);(try clear p751 q751);(try clear BK743)
    obtain ⟨x11_2, x13_2, x14_2, rfl, HA, HK2, HO_10, HO_11, HO_13, HO_744000, HO_744001, HO_744002, HO_744003, BK743, HB⟩ := hrel
    cases gk with
    | zero => exact absurd HA.out (by simp [churnref13_Order.l1])
    | succ k2 =>
     have H := HA.out
     clear HA
     simp only [churnref13_Order.l1] at H
     by_cases c36 : x14_2 < a1
     rotate_left
     ·rw [if_neg c36] at H
      have c36b0 := decide_eq_false c36
      clear c36
      simp only [Option.some.injEq, Prod.mk.injEq] at H
      obtain ⟨rfl, rfl⟩ := H
      go_wp2
      go_ret2
      exact ⟨_, T16_, ru_ (jc HO_13.out (fun _ hk => trivial)), T34_⟩
     rw [if_pos c36] at H
     have c36b0 := decide_eq_true c36
     clear c36
     replace H := ifn_ H;obtain ⟨c37, H⟩ := H
     have c37b0 := decide_eq_true c37
     clear c37
     replace H := ifn_ H;obtain ⟨c38, H⟩ := H
     have c38b0 := decide_eq_true c38
     clear c38
     replace H := ifn_ H;obtain ⟨c39, H⟩ := H
     have c39b0 := decide_eq_true c39
     clear c39
     replace H := ifn_ H;obtain ⟨c40, H⟩ := H
     have c40b0 := decide_eq_true c40
     clear c40
     replace H := ifn_ H;obtain ⟨c41, H⟩ := H
     have c41b0 := decide_eq_true c41
     clear c41
     replace H := ifn_ H;obtain ⟨c42, H⟩ := H
     have c42b0 := decide_eq_true c42
     clear c42
     replace H := ifn_ H;obtain ⟨c43, H⟩ := H
     have c43b0 := decide_eq_true c43
     clear c43
     replace H := ifn_ H;obtain ⟨c44, H⟩ := H
     have c44b0 := decide_eq_true c44
     clear c44
     replace H := ifa_ H;obtain ⟨LMc45, H⟩ := H
     obtain ⟨y761, hy_⟩ : ∃ y_ : List Int, y_ = (x13_2 ++ [wrap64 ((rd x10_1 (rd t733 x14_2)) + (rd (rd_L3 t739 (rd t733 x14_2)) (rd x11_2 (rd t733 x14_2))))]) := ⟨_, rfl⟩
     replace H : (churnref13_Order.l1 k2 a1 x10_1 (x11_2.set ((rd t733 x14_2) : Int).toNat (wrap64 ((rd x11_2 (rd t733 x14_2)) + 1))) y761 (wrap64 (x14_2 + 1)) t730 t733 t736 t739) = some (r1, r2) := hyw_
     have Ny761 := am_ hy_
     clear hy_
     obtain ⟨y765, hy_⟩ : ∃ y_ : List Int, y_ = (x11_2.set ((rd t733 x14_2) : Int).toNat (wrap64 ((rd x11_2 (rd t733 x14_2)) + 1))) := ⟨_, rfl⟩
     replace H : (churnref13_Order.l1 k2 a1 x10_1 y765 y761 (wrap64 (x14_2 + 1)) t730 t733 t736 t739) = some (r1, r2) := hyw_
     have Ny765 := am_ hy_
     clear hy_
     have H' := am_ H
     clear H
     obtain ⟨hcz47_0, hcz47_1, hcz47_2, hcz47_3, hfz47_0, hfz47_1, hfz47_2, hfz47_3⟩ := cz4_ BK743.out
     obtain ⟨ad756, e756, hx756_0, p756, q756⟩ := ai_ (jg HO_744001.out).2.2 x14_2
     cases e756
     try go_wp2
     have n_ := P9_ (jr HO_10.out) (jr HO_11.out) (jr HO_13.out) (jr HO_744000.out) (jr HO_744001.out) (jr HO_744002.out) (Je HO_744003.out) (jl BK743.out) (jM HB.out)
     clear HO_10 HO_11 HO_13 HO_744000 HO_744001 HO_744002 HO_744003 BK743 HB
     obtain ⟨HO_10, HO_11, HO_13, HO_744000, HO_744001, HO_744002, HO_744003, BK743, HB⟩ := n_
     obtain ⟨Ao49, co49, eo49⟩ := jp HO_10.out
     (first | subst eo49 | (injection eo49 with f1_ f2_ f3_; have f4_ := f1_.symm; have f5_ := f3_.symm; clear f1_ f2_ f3_; subst f4_; subst f5_))
     obtain ⟨ad757, e757, hx757_0, p757, q757⟩ := ai_ (jg HO_10.out).2.2 (rd t733 x14_2)
     cases e757
     have p758 : 0 ≤ ((rd t733 x14_2) : Int) := od_
     have q758 : (rd t733 x14_2) < (t739.length : Int) := od_
     obtain ⟨ad758, A758_0, c758_0, e758, hx758_0, hl758_0, hi758_0⟩ := at_L3 (jQ HO_744003.out).2.2 (rd t733 x14_2) p758 q758
     cases e758
     obtain ⟨ce758, hce758, hMe758, hcc758⟩ := Kd.S_get HO_744003.out [] (rd t733 x14_2) p758 (by first | exact q758 | exact od_ | (have e_ := (jQ HO_744003.out).1; omega))
     obtain ⟨ve758_0, rfl, ge758_0⟩ := hMe758
     have hv758_0 := hcc758 0 _ rfl
     rw [Nat.add_zero, show ((jy 3 (jb .i64))).sz = 1 from rfl, Nat.mul_one] at hv758_0
     replace hv758_0 := Option.some.inj (hv758_0.symm.trans hx758_0)
     rw [hv758_0] at ge758_0
     have HL758_0 := am_ (show ju (jb .i64) 3 _ _ _ _ (rd_L3 t739 (rd t733 x14_2)) from ge758_0)
     clear hv758_0 ge758_0 hcc758 hce758
     have HR758_0 := am_ hi758_0
     have HC758_0 := am_ hl758_0
     clear hi758_0 hl758_0
     replace p758 := eq_true p758
     replace q758 := eq_true q758
     obtain ⟨Ao50, co50, eo50⟩ := jp HO_11.out
     (first | subst eo50 | (injection eo50 with f1_ f2_ f3_; have f4_ := f1_.symm; have f5_ := f3_.symm; clear f1_ f2_ f3_; subst f4_; subst f5_))
     obtain ⟨ad759, e759, hx759_0, p759, q759⟩ := ai_ (jg HO_11.out).2.2 (rd t733 x14_2)
     cases e759
     obtain ⟨ad760, e760, hx760_0, p760, q760⟩ := ai_ HR758_0.out (rd x11_2 (rd t733 x14_2))
     cases e760
     refine start_ (n := 20) (S := fun w' => w'.cell? ⟨gb743, 0, none⟩ = some (.slice Ao12 t730.length co12) ∧ w'.cell? ⟨gb743, 1, none⟩ = some (.slice (some ad756) t733.length co14) ∧ w'.cell? ⟨gb743, 2, none⟩ = some (.slice Ao15 t736.length co15) ∧ w'.cell? ⟨gb743, 3, none⟩ = some (.slice (some ad758) t739.length co16) ∧ w'.cell? (ad757.add ((rd t733 x14_2)).toNat) = some (.int .i64 (rd x10_1 (rd t733 x14_2))) ∧ w'.cell? (ad758.add ((rd t733 x14_2)).toNat) = some (.slice (some ad760) (rd_L3 t739 (rd t733 x14_2)).length c758_0) ∧ w'.cell? (ad759.add ((rd t733 x14_2)).toNat) = some (.int .i64 (rd x11_2 (rd t733 x14_2))) ∧ w'.cell? (ad760.add ((rd x11_2 (rd t733 x14_2))).toNat) = some (.int .i64 (rd (rd_L3 t739 (rd t733 x14_2)) (rd x11_2 (rd t733 x14_2))))) (ds := [17, 18]) #[false, false, false, false, false, false, false, false, false, false, false, false, false, false, false, false, false, false, false, false] T4_ rfl rfl ⟨bc_ BK743.out 0, bc_ BK743.out 1, bc_ BK743.out 2, bc_ BK743.out 3, hx757_0, hx758_0, hx759_0, hx760_0⟩ (fun hHeld => ?_); refine with_tabW churnref13_Order.tab17 churnref13_Order.bits17 (fun HT_ HW_ => ?_)
     generalize wr.drew = w48 at HO_10 HO_11 HO_13 HO_744000 HO_744001 HO_744002 HO_744003 BK743 HB HL758_0 HR758_0 hx757_0 hx758_0 hx759_0 hx760_0 hHeld ⊢
     refine pz_ 0 (some 65) ?_
     refine pz_ 1 (some 66) ?_
     refine pz_ 2 (some 67) ?_
     refine pz_ 3 (some 68) ?_
     refine pz_ 5 (some 70) ?_
     refine pz_ 7 (some 72) ?_
     refine pz_ 10 (some 75) ?_
     refine pz_ 11 (some 76) ?_
     refine pz_ 12 (some 77) ?_
     refine tz8_ 4 (some 69) hHeld ?_
     refine tz8_ 6 (some 71) hHeld ?_
     refine pz_ 8 (some 73) ?_
     refine tz8_ 9 (some 74) hHeld ?_
     refine tz8_ 13 (some 78) hHeld ?_
     refine pz_ 14 (some 79) ?_
     refine tz8_ 15 (some 80) hHeld ?_
     refine pz_ 16 (some 81) ?_
     refine last_ (i := 17) (N := some 82) #[true, true, true, true, true, true, true, true, true, true, true, true, true, true, true, true, true, true, false, false] rfl rfl (one_of HT_.out T4_) T3_ (fun K hK => ?_)
     refine value_ (w1 := ?_) (v := ?_) T0_ rfl ?_ ?_
     rotate_left 2
     ·go_simp
      constructor
      ·rfl
      rfl
     refine hK.out _ _ ?_
     clear hK K
     refine norm_ (a' := ?_) ?_ ?_
     rotate_left
     ·show Act.put _ (some 82) _ = _
      simp only [Act.put, List.setIfInBounds_toArray, List.set_cons_zero, List.set_cons_succ, jE, jG]
      rfl
     refine last_ (i := 18) (N := some 83) #[true, true, true, true, true, true, true, true, true, true, true, true, true, true, true, true, true, true, true, false] rfl rfl (one_of HT_.out T4_) T3_ (fun K hK => ?_)
     refine Kd.R_append_step (jb .i64) (w0 := w) w.heap.size T0_ (.tmp 65) (.tmp 82) 24 3 (.int .i64 0) 8 rfl Try.underlying24 info3 rfl T3_ T2_ u13 x13_2 (wrap64 ((rd x10_1 (rd t733 x14_2)) + (rd (rd_L3 t739 (rd t733 x14_2)) (rd x11_2 (rd t733 x14_2))))) [.int .i64 (wrap64 ((rd x10_1 (rd t733 x14_2)) + (rd (rd_L3 t739 (rd t733 x14_2)) (rd x11_2 (rd t733 x14_2)))))] (fun k_ => some k_ ≠ (.slice (some ad757) x10_1.length co49 : Value).ownBlock ∧ some k_ ≠ (.slice (some ad759) x11_2.length co50 : Value).ownBlock ∧ some k_ ≠ (.slice Ao12 t730.length co12 : Value).ownBlock ∧ some k_ ≠ (.slice (some ad756) t733.length co14 : Value).ownBlock ∧ some k_ ≠ (.slice Ao15 t736.length co15 : Value).ownBlock) (fun _ => False) rfl rfl ?aP (fun _ hk => hk.elim) ?aF ?aO ?aB ?aS ?aL ?_
     (case aP => exact rfl)
     (case aB => exact T34_)
     (case aF => exact (fun k_ hk => ⟨jI (jj (ru_ HO_10.out)) k_ hk, jI (jj (ru_ HO_11.out)) k_ hk, jI (jj (ru_ HO_744000.out)) k_ hk, jI (jj (ru_ HO_744001.out)) k_ hk, jI (jj (ru_ HO_744002.out)) k_ hk⟩))
     (case aO => exact (ru_ HO_13.out))
     (case aS => exact (ja T34_))
     (case aL => have := LMc45.out; omega)
     intro v762 w51 ho hb hg hat
     rw [← Ny761.out] at ho
     have n_ := P10_ (jC (ok := (fun k_ => some k_ ≠ (.slice (some ad759) x11_2.length co50 : Value).ownBlock ∧ some k_ ≠ (.slice Ao12 t730.length co12 : Value).ownBlock ∧ some k_ ≠ (.slice (some ad756) t733.length co14 : Value).ownBlock ∧ some k_ ≠ (.slice Ao15 t736.length co15 : Value).ownBlock)) (ru_ (jc HO_10.out (fun _ hk => ⟨⟨hk.1, ⟨hk.2.2.1, ⟨hk.2.2.2.1, hk.2.2.2.2⟩⟩⟩, hk.2.1⟩))) hg hat) (jC (ok := (fun k_ => some k_ ≠ (.slice (some ad757) x10_1.length co49 : Value).ownBlock ∧ some k_ ≠ (.slice Ao12 t730.length co12 : Value).ownBlock ∧ some k_ ≠ (.slice (some ad756) t733.length co14 : Value).ownBlock ∧ some k_ ≠ (.slice Ao15 t736.length co15 : Value).ownBlock)) (ru_ (jc HO_11.out (fun _ hk => ⟨⟨hk.1, ⟨hk.2.2.1, ⟨hk.2.2.2.1, hk.2.2.2.2⟩⟩⟩, hk.2.1⟩))) hg hat) (jC (ok := (fun k_ => some k_ ≠ (.slice (some ad757) x10_1.length co49 : Value).ownBlock ∧ some k_ ≠ (.slice (some ad759) x11_2.length co50 : Value).ownBlock ∧ some k_ ≠ (.slice (some ad756) t733.length co14 : Value).ownBlock ∧ some k_ ≠ (.slice Ao15 t736.length co15 : Value).ownBlock)) (ru_ (jc HO_744000.out (fun _ hk => ⟨⟨hk.1, ⟨hk.2.1, ⟨hk.2.2.2.1, hk.2.2.2.2⟩⟩⟩, hk.2.2.1⟩))) hg hat) (jC (ok := (fun k_ => some k_ ≠ (.slice (some ad757) x10_1.length co49 : Value).ownBlock ∧ some k_ ≠ (.slice (some ad759) x11_2.length co50 : Value).ownBlock ∧ some k_ ≠ (.slice Ao12 t730.length co12 : Value).ownBlock ∧ some k_ ≠ (.slice Ao15 t736.length co15 : Value).ownBlock)) (ru_ (jc HO_744001.out (fun _ hk => ⟨⟨hk.1, ⟨hk.2.1, ⟨hk.2.2.2.1, hk.2.2.2.2⟩⟩⟩, hk.2.2.1⟩))) hg hat) (jC (ok := (fun k_ => some k_ ≠ (.slice (some ad757) x10_1.length co49 : Value).ownBlock ∧ some k_ ≠ (.slice (some ad759) x11_2.length co50 : Value).ownBlock ∧ some k_ ≠ (.slice Ao12 t730.length co12 : Value).ownBlock ∧ some k_ ≠ (.slice (some ad756) t733.length co14 : Value).ownBlock)) (ru_ (jc HO_744002.out (fun _ hk => ⟨⟨hk.1, ⟨hk.2.1, ⟨hk.2.2.2.1, hk.2.2.2.2⟩⟩⟩, hk.2.2.1⟩))) hg hat) (Kd.S_after (ok := (fun k_ => some k_ ≠ (.slice (some ad757) x10_1.length co49 : Value).ownBlock ∧ some k_ ≠ (.slice (some ad759) x11_2.length co50 : Value).ownBlock ∧ some k_ ≠ (.slice Ao12 t730.length co12 : Value).ownBlock ∧ some k_ ≠ (.slice (some ad756) t733.length co14 : Value).ownBlock ∧ some k_ ≠ (.slice Ao15 t736.length co15 : Value).ownBlock)) (su_ (jz HO_744003.out (fun _ hk => ⟨⟨hk.1, ⟨hk.2.1, ⟨hk.2.2.2.1, ⟨hk.2.2.2.2.1, hk.2.2.2.2.2⟩⟩⟩⟩, hk.2.2.1⟩))) hg hat) (blk_grown (g := gb743) (o := .cells #[.slice Ao12 t730.length co12, .slice (some ad756) t733.length co14, .slice Ao15 t736.length co15, .slice (some ad758) t739.length co16] 63 (0, 0)) (bu_ BK743.out) hg (Kd.R_ne HO_13.out BK743.out T3_)) (jC (ok := (fun k_ => some k_ ≠ (.slice (some ad757) x10_1.length co49 : Value).ownBlock ∧ some k_ ≠ (.slice (some ad759) x11_2.length co50 : Value).ownBlock ∧ some k_ ≠ (.slice Ao12 t730.length co12 : Value).ownBlock ∧ some k_ ≠ (.slice (some ad756) t733.length co14 : Value).ownBlock ∧ some k_ ≠ (.slice Ao15 t736.length co15 : Value).ownBlock ∧ some k_ ≠ (.slice (some ad758) t739.length co16 : Value).ownBlock)) (ru_ (jc HL758_0.out (fun _ hk => ⟨⟨hk.1.1, ⟨hk.1.2.1, ⟨hk.1.2.2.2.1, ⟨hk.1.2.2.2.2.1, ⟨hk.1.2.2.2.2.2, hk.2⟩⟩⟩⟩⟩, hk.1.2.2.1⟩))) hg hat) (hb) (ho)
     clear HO_10 HO_11 HO_744000 HO_744001 HO_744002 HO_744003 BK743 HL758_0 HB HO_13
     obtain ⟨HO_10, HO_11, HO_744000, HO_744001, HO_744002, HO_744003, BK743, HL758_0, HB, HO763⟩ := n_
     clear ho hb hg hat
     refine hK.out _ _ ?_
     clear hK K
     refine norm_ (a' := ?_) ?_ ?_
     rotate_left
     ·show Act.put _ (some 83) _ = _
      simp only [Act.put, List.setIfInBounds_toArray, List.set_cons_zero, List.set_cons_succ, jE, jG]
      rfl
     refine pz_ 19 (some 13) ?_
     refine done_ (done_of HT_.out T4_) ?_
     have p764 : 0 ≤ ((rd t733 x14_2) : Int) := od_
     have q764 : (rd t733 x14_2) < (x11_2.length : Int) := od_
     obtain ⟨ad764, e764, hx764_0⟩ := jH (jg HO_11.out).2.2 (rd t733 x14_2) p764 q764
     obtain rfl : ad759 = ad764 := (by injection e764)
     replace p764 := eq_true p764
     replace q764 := eq_true q764
     have p46 : 0 ≤ ((rd t733 x14_2) : Int) := od_
     have q46 : ((rd t733 x14_2) : Int) < ((x11_2.length : Int) : Int) := od_
     obtain ⟨go46, co46, eo46, gb46, gl46, cl46, HG46⟩ := Kd.R_form HO_11.out T2_
     (first | cases eo46 | (injection eo46 with ea_ en_ ec_; (first | subst ea_ | (injection ea_ with ea_; subst ea_)); subst ec_; clear en_))
     have GB46 := am_ gb46
     have GG46 := am_ HG46
     clear gb46 gl46 HG46
     (first | simp only [Jg] at hx759_0 | skip)
     (first | simp only [Jg] at hx764_0 | skip)
     obtain ⟨hx46_0, hf46_0⟩ := jL 0 HO_11.out ((rd t733 x14_2) : Int) p46 q46
     replace p46 := eq_true p46
     replace q46 := eq_true q46
     have n_ := am_ (jc (ok' := (fun k_ => some k_ ≠ (.slice (some ad757) x10_1.length co49 : Value).ownBlock ∧ some k_ ≠ (.slice Ao12 t730.length co12 : Value).ownBlock ∧ some k_ ≠ (.slice (some ad756) t733.length co14 : Value).ownBlock ∧ some k_ ≠ (.slice Ao15 t736.length co15 : Value).ownBlock ∧ some k_ ≠ (v762 : Value).ownBlock)) HO_11.out (fun k_ hk => ⟨hk.1.1, ⟨hk.1.2.1, ⟨hk.1.2.2.1, ⟨hk.1.2.2.2, hk.2⟩⟩⟩⟩))
     clear HO_11
     have HO_11 := n_
     clear n_
     obtain ⟨hy52_, hz52_⟩ := jL 0 HO_11.out ((rd t733 x14_2) : Int) (od_) (od_)
     have HP52 := Kd.R_putg HO_11.out ((rd t733 x14_2) : Int) (wrap64 ((rd x11_2 (rd t733 x14_2)) + 1))
     try go_wp2_with (first | ((with_reducible refine gate_store (t := 3) (p := 89) rfl ?_); refine store_event (t := 3) (p := 89) (v := ?vo_w53) (w1 := (w51.setCell ⟨go46, ((rd t733 x14_2) : Int).toNat, none⟩ (.int .i64 (wrap64 ((rd x11_2 (rd t733 x14_2)) + 1))))) ?hg ?ho ?hn ?hr ?_; (case ho => rfl); (case hg => rfl); (case hn => rfl); (case hr => first | (go_simp; done) | (go_simp; rfl)); intro w53 hw; have hg : w51.grownBy w53 (some go46) := (by rw [hw]; exact HP52.2); have hp_ : ju (jb .i64) 3 w53 w.heap.size (fun k_ => some k_ ≠ (.slice (some ad757) x10_1.length co49 : Value).ownBlock ∧ some k_ ≠ (.slice Ao12 t730.length co12 : Value).ownBlock ∧ some k_ ≠ (.slice (some ad756) t733.length co14 : Value).ownBlock ∧ some k_ ≠ (.slice Ao15 t736.length co15 : Value).ownBlock ∧ some k_ ≠ (v762 : Value).ownBlock) (.slice (some ⟨go46, 0, none⟩) x11_2.length co50) y765 := (by rw [hw, Ny765.out]; exact HP52.1); clear HP52; have n_ := P10_ (jC (v := (.slice (some ⟨go46, 0, none⟩) x11_2.length co50)) (v1 := (.slice (some ⟨go46, 0, none⟩) x11_2.length co50)) (ok := (fun k_ => some k_ ≠ (.slice Ao12 t730.length co12 : Value).ownBlock ∧ some k_ ≠ (.slice (some ad756) t733.length co14 : Value).ownBlock ∧ some k_ ≠ (.slice Ao15 t736.length co15 : Value).ownBlock ∧ some k_ ≠ (v762 : Value).ownBlock)) (ru_ (jc HO_10.out (fun _ hk => ⟨⟨hk.1.2.1, ⟨hk.1.2.2.1, ⟨hk.1.2.2.2, hk.2⟩⟩⟩, hk.1.1⟩))) hg (.inl rfl)) (hp_) (jC (v := (.slice (some ⟨go46, 0, none⟩) x11_2.length co50)) (v1 := (.slice (some ⟨go46, 0, none⟩) x11_2.length co50)) (ok := (fun k_ => some k_ ≠ (.slice (some ad757) x10_1.length co49 : Value).ownBlock ∧ some k_ ≠ (.slice (some ad756) t733.length co14 : Value).ownBlock ∧ some k_ ≠ (.slice Ao15 t736.length co15 : Value).ownBlock ∧ some k_ ≠ (v762 : Value).ownBlock)) (ru_ (jc HO_744000.out (fun _ hk => ⟨⟨hk.1.1, ⟨hk.1.2.2.1, ⟨hk.1.2.2.2, hk.2⟩⟩⟩, hk.1.2.1⟩))) hg (.inl rfl)) (jC (v := (.slice (some ⟨go46, 0, none⟩) x11_2.length co50)) (v1 := (.slice (some ⟨go46, 0, none⟩) x11_2.length co50)) (ok := (fun k_ => some k_ ≠ (.slice (some ad757) x10_1.length co49 : Value).ownBlock ∧ some k_ ≠ (.slice Ao12 t730.length co12 : Value).ownBlock ∧ some k_ ≠ (.slice Ao15 t736.length co15 : Value).ownBlock ∧ some k_ ≠ (v762 : Value).ownBlock)) (ru_ (jc HO_744001.out (fun _ hk => ⟨⟨hk.1.1, ⟨hk.1.2.2.1, ⟨hk.1.2.2.2, hk.2⟩⟩⟩, hk.1.2.1⟩))) hg (.inl rfl)) (jC (v := (.slice (some ⟨go46, 0, none⟩) x11_2.length co50)) (v1 := (.slice (some ⟨go46, 0, none⟩) x11_2.length co50)) (ok := (fun k_ => some k_ ≠ (.slice (some ad757) x10_1.length co49 : Value).ownBlock ∧ some k_ ≠ (.slice Ao12 t730.length co12 : Value).ownBlock ∧ some k_ ≠ (.slice (some ad756) t733.length co14 : Value).ownBlock ∧ some k_ ≠ (v762 : Value).ownBlock)) (ru_ (jc HO_744002.out (fun _ hk => ⟨⟨hk.1.1, ⟨hk.1.2.2.1, ⟨hk.1.2.2.2, hk.2⟩⟩⟩, hk.1.2.1⟩))) hg (.inl rfl)) (Kd.S_after (v := (.slice (some ⟨go46, 0, none⟩) x11_2.length co50)) (v1 := (.slice (some ⟨go46, 0, none⟩) x11_2.length co50)) (ok := (fun k_ => some k_ ≠ (.slice (some ad757) x10_1.length co49 : Value).ownBlock ∧ some k_ ≠ (.slice Ao12 t730.length co12 : Value).ownBlock ∧ some k_ ≠ (.slice (some ad756) t733.length co14 : Value).ownBlock ∧ some k_ ≠ (.slice Ao15 t736.length co15 : Value).ownBlock ∧ some k_ ≠ (v762 : Value).ownBlock)) (su_ (jz HO_744003.out (fun _ hk => ⟨⟨hk.1.1, ⟨hk.1.2.2.1, ⟨hk.1.2.2.2.1, ⟨hk.1.2.2.2.2, hk.2⟩⟩⟩⟩, hk.1.2.1⟩))) hg (.inl rfl)) (blk_grown (g := gb743) (o := .cells #[.slice Ao12 t730.length co12, .slice (some ad756) t733.length co14, .slice Ao15 t736.length co15, .slice (some ad758) t739.length co16] 63 (0, 0)) (bu_ BK743.out) hg (Kd.R_ne HO_11.out BK743.out T3_)) (jC (v := (.slice (some ⟨go46, 0, none⟩) x11_2.length co50)) (v1 := (.slice (some ⟨go46, 0, none⟩) x11_2.length co50)) (ok := (fun k_ => some k_ ≠ (.slice (some ad757) x10_1.length co49 : Value).ownBlock ∧ some k_ ≠ (.slice Ao12 t730.length co12 : Value).ownBlock ∧ some k_ ≠ (.slice (some ad756) t733.length co14 : Value).ownBlock ∧ some k_ ≠ (.slice Ao15 t736.length co15 : Value).ownBlock ∧ some k_ ≠ (.slice (some ad758) t739.length co16 : Value).ownBlock ∧ some k_ ≠ (v762 : Value).ownBlock)) (ru_ (jc HL758_0.out (fun _ hk => ⟨⟨hk.1.1, ⟨hk.1.2.2.1, ⟨hk.1.2.2.2.1, ⟨hk.1.2.2.2.2.1, ⟨hk.1.2.2.2.2.2, hk.2⟩⟩⟩⟩⟩, hk.1.2.1⟩))) hg (.inl rfl)) (jC (v := (.slice (some ⟨go46, 0, none⟩) x11_2.length co50)) (v1 := (.slice (some ⟨go46, 0, none⟩) x11_2.length co50)) (ok := (fun k_ => some k_ ≠ (.slice (some ad757) x10_1.length co49 : Value).ownBlock ∧ some k_ ≠ (.slice Ao12 t730.length co12 : Value).ownBlock ∧ some k_ ≠ (.slice (some ad756) t733.length co14 : Value).ownBlock ∧ some k_ ≠ (.slice Ao15 t736.length co15 : Value).ownBlock)) (ru_ (jc HO763.out (fun _ hk => ⟨⟨hk.1, ⟨hk.2.2.1, ⟨hk.2.2.2.1, hk.2.2.2.2⟩⟩⟩, hk.2.1⟩))) hg (.inl rfl)) ((by rw [hw]; exact jR (HB.out) GB46.out : Below w.heap.size w w53)); clear HO_10 HO_11 HO_744000 HO_744001 HO_744002 HO_744003 BK743 HL758_0 HO763 HB; obtain ⟨HO_10, HO_11, HO_744000, HO_744001, HO_744002, HO_744003, BK743, HL758_0, HO763, HB⟩ := n_; clear hg hw hp_))
     go_roundg k2
     case measure => have := HK1.out; have := HK2.out; omega
     case rel => exact ⟨(y765), (y761), (wrap64 (x14_2 + 1)), T10_, H', ⟨(by have := HK1.out; have := HK2.out; omega)⟩, ⟨ru_ (jc HO_10.out (fun _ hk => ⟨hk.2, ⟨hk.1.2.2.2, ⟨hk.1.1, ⟨hk.1.2.1, hk.1.2.2.1⟩⟩⟩⟩))⟩, ⟨ru_ (jc HO_11.out (fun _ hk => ⟨hk.1, ⟨hk.2.2.2.2, ⟨hk.2.1, ⟨hk.2.2.1, hk.2.2.2.1⟩⟩⟩⟩))⟩, ⟨ru_ (jc HO763.out (fun _ hk => ⟨hk.1.1, ⟨hk.2, ⟨hk.1.2.1, ⟨hk.1.2.2.1, hk.1.2.2.2⟩⟩⟩⟩))⟩, ⟨ru_ (jc HO_744000.out (fun _ hk => ⟨hk.1.1, ⟨hk.2, ⟨hk.1.2.2.2, ⟨hk.1.2.1, hk.1.2.2.1⟩⟩⟩⟩))⟩, ⟨ru_ (jc HO_744001.out (fun _ hk => ⟨hk.1.1, ⟨hk.2, ⟨hk.1.2.2.2, ⟨hk.1.2.1, hk.1.2.2.1⟩⟩⟩⟩))⟩, ⟨ru_ (jc HO_744002.out (fun _ hk => ⟨hk.1.1, ⟨hk.2, ⟨hk.1.2.2.2, ⟨hk.1.2.1, hk.1.2.2.1⟩⟩⟩⟩))⟩, ⟨su_ (jz HO_744003.out (fun _ hk => ⟨hk.1.1, ⟨hk.2, ⟨hk.1.2.2.2.2, ⟨hk.1.2.1, ⟨hk.1.2.2.1, hk.1.2.2.2.1⟩⟩⟩⟩⟩))⟩, ⟨bu_ BK743.out⟩, ⟨T34_⟩⟩
def churnlaw13_same.l0 : Nat → List Int → List Int → Int → Option (Bool)
 | 0, _, _, _ => none
 | k + 1, x0, x1, x5 => if x5 < (x0.length : Int) then (if 0 ≤ x5 then (if x5 < (x1.length : Int) then (if (rd x0 x5) = (rd x1 x5) then (churnlaw13_same.l0 k x0 x1 (wrap64 (x5 + 1))) else (some false)) else (none)) else (none)) else (some true)
def churnlaw13_same.f (k : Nat) (l0 : List Int) (l1 : List Int) : Option (Bool) := if (l0.length : Int) = (l1.length : Int) then (churnlaw13_same.l0 k l0 l1 0) else (some false)
set_option maxHeartbeats 8000000 in
set_option maxRecDepth 100000 in
theorem churnlaw13_same.calls (k : Nat) (A0 : Option Addr) (c0 : Nat) (l0 : List Int) (A1 : Option Addr) (c1 : Nat) (l1 : List Int) (r : Bool) (w : World) (hr0 : Jf (jb .i64) w A0 l0.length l0) (hc0 : l0.length ≤ c0) (hr1 : Jf (jb .i64) w A1 l1.length l1) (hc1 : l1.length ≤ c1) (h : churnlaw13_same.f k l0 l1 = some r) :
  Calls Try.prog 14 #[.slice A0 l0.length c0, .slice A1 l1.length c1] w fun e w' => e = .returned (.bool r) ∧ Drawn0 w w' := by
 have HR0 := am_ hr0
 have HC0 := am_ hc0
 clear hr0 hc0
 have HR1 := am_ hr1
 have HC1 := am_ hc1
 clear hr1 hc1
 have H : (if (l0.length : Int) = (l1.length : Int) then (churnlaw13_same.l0 k l0 l1 0) else (some false)) = some r := h
 clear h
 by_cases c3 : (l0.length : Int) = (l1.length : Int)
 rotate_left
 ·rw [if_neg c3] at H
  have c3b0 : ((l0.length : Int) == (l1.length : Int)) = false := beq_eq_false_iff_ne.mpr c3
  have c3b1 : ((l0.length : Int) != (l1.length : Int)) = true := bne_iff_ne.mpr c3
  have c3b2 : (l0.length == l1.length) = false := by first | simpa using c3 | (simp at c3 ⊢; omega)
  obtain rfl := Option.some.inj H
  simp only [Option.some.injEq, Prod.mk.injEq] at H
  obtain ⟨rfl⟩ := H
  go_enter Try.func14, Try.ntmps14
  go_wp2
  repeat (go_quiet (fail); try go_wp2)
  go_ret
  exact ⟨T10_, T11_⟩
 rw [if_pos c3] at H
 have c3b0 : ((l0.length : Int) == (l1.length : Int)) = true := beq_iff_eq.mpr c3
 have c3b1 : ((l0.length : Int) != (l1.length : Int)) = false := bne_eq_false_iff_eq.mpr c3
 have c3b2 : (l0.length == l1.length) = true := by first | simpa using c3 | (simp at c3 ⊢; omega)
 clear c3
 have H' := am_ H
 clear H
 go_enter Try.func14, Try.ntmps14
 go_wp2
 repeat (go_quiet (fail); try go_wp2)
 go_loopg [5] k (fun kq v5 w' => ∃ (x5_1 : Int), v5 = .int .i64 x5_1 ∧ Aside0 (churnlaw13_same.l0 kq l0 l1 x5_1 = some r) ∧ Aside0 (kq ≤ k) ∧ Drawn0 w w')
 case atStart => exact ⟨(0), T10_, H', ⟨Nat.le_refl _⟩, T11_⟩
 case round =>
  clear H'
  (try clear c1);(try clear p2);(try clear c3);(try clear c3b0 c3b1 c3b2)
  obtain ⟨x5_1, rfl, HA, HK1, ⟨m1, rfl⟩⟩ := hrel
  cases gk with
  | zero => exact absurd HA.out (by simp [churnlaw13_same.l0])
  | succ k1 =>
   have H := HA.out
   clear HA
   simp only [churnlaw13_same.l0] at H
   by_cases c4 : x5_1 < (l0.length : Int)
   rotate_left
   ·rw [if_neg c4] at H
    have c4b0 := decide_eq_false c4
    clear c4
    obtain rfl := Option.some.inj H
    simp only [Option.some.injEq, Prod.mk.injEq] at H
    obtain ⟨rfl⟩ := H
    go_wp2
    repeat (go_quiet (fail); try go_wp2)
    go_ret
    exact ⟨T10_, T11_⟩
   rw [if_pos c4] at H
   have c4b0 := decide_eq_true c4
   clear c4
   replace H := ifn_ H;obtain ⟨c5, H⟩ := H
   have c5b0 := decide_eq_true c5
   clear c5
   replace H := ifn_ H;obtain ⟨c6, H⟩ := H
   have c6b0 := decide_eq_true c6
   clear c6
   by_cases c7 : (rd l0 x5_1) = (rd l1 x5_1)
   rotate_left
   ·rw [if_neg c7] at H
    have c7b0 : ((rd l0 x5_1) == (rd l1 x5_1)) = false := beq_eq_false_iff_ne.mpr c7
    have c7b1 : ((rd l0 x5_1) != (rd l1 x5_1)) = true := bne_iff_ne.mpr c7
    obtain rfl := Option.some.inj H
    simp only [Option.some.injEq, Prod.mk.injEq] at H
    obtain ⟨rfl⟩ := H
    obtain ⟨ad766, e766, hx766_0, p766, q766⟩ := ai_ HR0.out x5_1
    cases e766
    obtain ⟨ad767, e767, hx767_0, p767, q767⟩ := ai_ HR1.out x5_1
    cases e767
    go_wp2
    repeat (go_quiet (fail); try go_wp2)
    go_ret
    exact ⟨T10_, T11_⟩
   rw [if_pos c7] at H
   have c7b0 : ((rd l0 x5_1) == (rd l1 x5_1)) = true := beq_iff_eq.mpr c7
   have c7b1 : ((rd l0 x5_1) != (rd l1 x5_1)) = false := bne_eq_false_iff_eq.mpr c7
   clear c7
   have H' := am_ H
   clear H
   obtain ⟨ad766, e766, hx766_0, p766, q766⟩ := ai_ HR0.out x5_1
   cases e766
   obtain ⟨ad767, e767, hx767_0, p767, q767⟩ := ai_ HR1.out x5_1
   cases e767
   go_wp2
   repeat (go_quiet (fail); try go_wp2)
   go_roundg k1
   case measure => have := HK1.out; omega
   case rel => exact ⟨(wrap64 (x5_1 + 1)), T10_, H', ⟨T7_⟩, T11_⟩
mutual
def churnlaw13_RiffleOrders.j0 : Nat → List Int → Int → Int → List Int → Int → Bool → Option (Bool)
 | 0, _, _, _, _, _, _ => none
 | k + 1, x0, x1, x2, x7, x8, x39 => if x39 = true then (some false) else (if x1 < 0 then (churnlaw13_RiffleOrders.j1 k x0 x1 x2 x7 x8 true) else (churnlaw13_RiffleOrders.j1 k x0 x1 x2 x7 x8 (decide (x1 > 300))))
def churnlaw13_RiffleOrders.j1 : Nat → List Int → Int → Int → List Int → Int → Bool → Option (Bool)
 | 0, _, _, _, _, _, _ => none
 | k + 1, x0, x1, x2, x7, x8, x45 => if x45 = true then (some true) else (if 0 ≤ x1 then (if (x1 : Int).toNat ≤ 17592186044416 then (churnlaw13_RiffleOrders.l0 k x0 x1 x2 x7 x8 (([] : List ByteArray)) 0) else (none)) else (none))
def churnlaw13_RiffleOrders.l0 : Nat → List Int → Int → Int → List Int → Int → List ByteArray → Int → Option (Bool)
 | 0, _, _, _, _, _, _, _ => none
 | k + 1, x0, x1, x2, x7, x8, x11, x12 => if x12 < x1 then (if x11.length < 8796093022208 then (churnlaw13_RiffleOrders.l0 k x0 x1 x2 x7 x8 (x11 ++ [strOfNums (([(x12) % 256, (x12 / 256) % 256] : List Int))]) (wrap64 (x12 + 1))) else (none)) else ((riffle_Shuffle_string.f k x0 x2 x11).bind fun bt787 => (if bt787.2 = x8 then (churnlaw13_RiffleOrders.j3 k x7 x11 bt787.1 ((bt787.1.length : Int) != (x7.length : Int))) else (churnlaw13_RiffleOrders.j3 k x7 x11 bt787.1 true)))
def churnlaw13_RiffleOrders.j3 : Nat → List Int → List ByteArray → List ByteArray → Bool → Option (Bool)
 | 0, _, _, _, _ => none
 | k + 1, x7, x11, x13, x79 => if x79 = true then (some false) else (churnlaw13_RiffleOrders.l1 k x7 x11 x13 0)
def churnlaw13_RiffleOrders.l1 : Nat → List Int → List ByteArray → List ByteArray → Int → Option (Bool)
 | 0, _, _, _, _ => none
 | k + 1, x7, x11, x13, x14 => if x14 < (x7.length : Int) then (if 0 ≤ x14 then (if x14 < (x13.length : Int) then (if 0 ≤ (rd x7 x14) then (if (rd x7 x14) < (x11.length : Int) then (if (rdOf ByteArray.empty x13 x14).toList = (rdOf ByteArray.empty x11 (rd x7 x14)).toList then (churnlaw13_RiffleOrders.l1 k x7 x11 x13 (wrap64 (x14 + 1))) else (some false)) else (none)) else (none)) else (none)) else (none)) else (some true)
end
def churnlaw13_RiffleOrders.f (k : Nat) (l0 : List Int) (a1 : Int) (a2 : Int) : Option (Bool) := (churnlaw13_alive.f k).bind fun t768 => (if t768 = true then ((churnref13_Order.f k l0 a1 a2).bind fun bt769 => ((riffle_Order.f k l0 a1 a2).bind fun bt773 => (if bt773.2 = bt769.2 then ((churnlaw13_same.f k bt773.1 bt769.1).bind fun t777 => (churnlaw13_RiffleOrders.j0 k l0 a1 a2 bt769.1 bt769.2 (!t777))) else (churnlaw13_RiffleOrders.j0 k l0 a1 a2 bt769.1 bt769.2 true)))) else (some false))
set_option maxHeartbeats 8000000 in
set_option maxRecDepth 100000 in
theorem churnlaw13_RiffleOrders.calls (k : Nat) (A0 : Option Addr) (c0 : Nat) (l0 : List Int) (a1 : Int) (a2 : Int) (r : Bool) (w : World) (hr0 : Jf (jb .u8) w A0 l0.length l0) (hc0 : l0.length ≤ c0) (hr_ : r = true) (h : churnlaw13_RiffleOrders.f k l0 a1 a2 = some r) :
  Calls Try.prog 4 #[.slice A0 l0.length c0, .int .i64 a1, .int .i64 a2] w fun e w' => e = .returned (.bool r) ∧ Below w.heap.size w w' := by
 have HR_ := am_ hr_
 clear hr_
 have HR0 := am_ hr0
 have HC0 := am_ hc0
 clear hr0 hc0
 have HB := am_ (Below.refl w.heap.size w)
 have H : ((churnlaw13_alive.f k).bind fun t768 => (if t768 = true then ((churnref13_Order.f k l0 a1 a2).bind fun bt769 => ((riffle_Order.f k l0 a1 a2).bind fun bt773 => (if bt773.2 = bt769.2 then ((churnlaw13_same.f k bt773.1 bt769.1).bind fun t777 => (churnlaw13_RiffleOrders.j0 k l0 a1 a2 bt769.1 bt769.2 (!t777))) else (churnlaw13_RiffleOrders.j0 k l0 a1 a2 bt769.1 bt769.2 true)))) else (some false))) = some r := h
 clear h
 replace H := Option.bind_eq_some_iff.mp H
 obtain ⟨t768, A40, H⟩ := H
 try dsimp only at H
 have A4 := am_ A40
 clear A40
 by_cases c5 : t768 = true
 rotate_left
 ·replace c5 := Bool.eq_false_iff.mpr c5
  subst c5
  have H1 : (some false) = some r := by rw [if_neg (show ¬ (false = true) by decide)] at H; exact H
  clear H
  have H := H1
  clear H1
  obtain rfl := Option.some.inj H
  exact absurd HR_.out T3_
 subst c5
 have H1 : ((churnref13_Order.f k l0 a1 a2).bind fun bt769 => ((riffle_Order.f k l0 a1 a2).bind fun bt773 => (if bt773.2 = bt769.2 then ((churnlaw13_same.f k bt773.1 bt769.1).bind fun t777 => (churnlaw13_RiffleOrders.j0 k l0 a1 a2 bt769.1 bt769.2 (!t777))) else (churnlaw13_RiffleOrders.j0 k l0 a1 a2 bt769.1 bt769.2 true)))) = some r := by rw [if_pos rfl] at H; exact H
 clear H
 have H := H1
 clear H1
 replace H := Option.bind_eq_some_iff.mp H
 obtain ⟨⟨t769, t770⟩, A60, H⟩ := H
 try dsimp only at H
 have A6 := am_ A60
 clear A60
 replace H := Option.bind_eq_some_iff.mp H
 obtain ⟨⟨t773, t774⟩, A70, H⟩ := H
 try dsimp only at H
 have A7 := am_ A70
 clear A70
 have HC8 := am_ H
 clear H
 go_enter Try.func4, Try.ntmps4
 go_upto_region 5 with (first | (go_at_call 10; (with_reducible refine (churnlaw13_alive.calls k  true _ rfl A4.out).mono ?_); rintro e w9 ⟨rfl, hb⟩; have n0_ := am_ (jh T18_ hb); clear HB; have HB := n0_; clear n0_; clear hb) | (go_at_call 13; (with_reducible refine (churnref13_Order.calls k _ _ l0 a1 a2 t769 t770 _ ?side1 ?side2 A6.out).mono ?_); (case side1 => exact cu_ (jw HR0.out HB.out)); (case side2 => exact HC0.out); rintro e w10 ⟨v771, rfl, ho0, hb⟩; have n_ := P2_ (jo ho0 (ja T18_)) (jh T18_ hb); clear HB; obtain ⟨HO772, HB⟩ := n_; clear hb ho0) | (go_at_call 11; (with_reducible refine (riffle_Order.calls k _ _ l0 a1 a2 t773 t774 _ ?side1 ?side2 A7.out).mono ?_); (case side1 => exact cu_ (jw HR0.out HB.out)); (case side2 => exact HC0.out); rintro e w11 ⟨v775, rfl, ho0, hb⟩; have n_ := P3_ (ji (ru_ HO772.out) (jf ho0) hb) (jo (jk ho0 (jj (ru_ HO772.out))) (ja T18_)) (jh T18_ hb); clear HO772 HB; obtain ⟨HO772, HO776, HB⟩ := n_; clear hb ho0))
 repeat (go_quiet (first | (go_at_call 10; (with_reducible refine (churnlaw13_alive.calls k  true _ rfl A4.out).mono ?_); rintro e w9 ⟨rfl, hb⟩; have n0_ := am_ (jh T18_ hb); clear HB; have HB := n0_; clear n0_; clear hb) | (go_at_call 13; (with_reducible refine (churnref13_Order.calls k _ _ l0 a1 a2 t769 t770 _ ?side1 ?side2 A6.out).mono ?_); (case side1 => exact cu_ (jw HR0.out HB.out)); (case side2 => exact HC0.out); rintro e w10 ⟨v771, rfl, ho0, hb⟩; have n_ := P2_ (jo ho0 (ja T18_)) (jh T18_ hb); clear HB; obtain ⟨HO772, HB⟩ := n_; clear hb ho0) | (go_at_call 11; (with_reducible refine (riffle_Order.calls k _ _ l0 a1 a2 t773 t774 _ ?side1 ?side2 A7.out).mono ?_); (case side1 => exact cu_ (jw HR0.out HB.out)); (case side2 => exact HC0.out); rintro e w11 ⟨v775, rfl, ho0, hb⟩; have n_ := P3_ (ji (ru_ HO772.out) (jf ho0) hb) (jo (jk ho0 (jj (ru_ HO772.out))) (ja T18_)) (jh T18_ hb); clear HO772 HB; obtain ⟨HO772, HO776, HB⟩ := n_; clear hb ho0)); go_upto_region 5 with (first | (go_at_call 10; (with_reducible refine (churnlaw13_alive.calls k  true _ rfl A4.out).mono ?_); rintro e w9 ⟨rfl, hb⟩; have n0_ := am_ (jh T18_ hb); clear HB; have HB := n0_; clear n0_; clear hb) | (go_at_call 13; (with_reducible refine (churnref13_Order.calls k _ _ l0 a1 a2 t769 t770 _ ?side1 ?side2 A6.out).mono ?_); (case side1 => exact cu_ (jw HR0.out HB.out)); (case side2 => exact HC0.out); rintro e w10 ⟨v771, rfl, ho0, hb⟩; have n_ := P2_ (jo ho0 (ja T18_)) (jh T18_ hb); clear HB; obtain ⟨HO772, HB⟩ := n_; clear hb ho0) | (go_at_call 11; (with_reducible refine (riffle_Order.calls k _ _ l0 a1 a2 t773 t774 _ ?side1 ?side2 A7.out).mono ?_); (case side1 => exact cu_ (jw HR0.out HB.out)); (case side2 => exact HC0.out); rintro e w11 ⟨v775, rfl, ho0, hb⟩; have n_ := P3_ (ji (ru_ HO772.out) (jf ho0) hb) (jo (jk ho0 (jj (ru_ HO772.out))) (ja T18_)) (jh T18_ hb); clear HO772 HB; obtain ⟨HO772, HO776, HB⟩ := n_; clear hb ho0)))
 (try simp only [Act.put, List.setIfInBounds_toArray, List.set_cons_zero, List.set_cons_succ])
 go_cut [39] (fun v39 wc => ∃ (kq : Nat) (x39_7 : Bool), v39 = .bool x39_7 ∧ Aside0 (churnlaw13_RiffleOrders.j0 kq l0 a1 a2 t769 t770 x39_7 = some r) ∧ Aside0 (kq ≤ k) ∧ Aside0 (ju (jb .i64) 3 wc w.heap.size (fun _ => True) v771 t769) ∧ Aside0 (Below w.heap.size w wc))
 case first =>
  have H := HC8.out
  clear HC8
  by_cases c12 : t774 = t770
  rotate_left
  ·rw [if_neg c12] at H
   have c12b0 : (t774 == t770) = false := beq_eq_false_iff_ne.mpr c12
   have c12b1 : (t774 != t770) = true := bne_iff_ne.mpr c12
   (first | rw [c12b0] | (simp only [jE, jG]; rw [c12b0]) | skip)
   have H' := am_ H
   clear H
   go_wp2
   repeat (go_quiet (fail); try go_wp2)
   go_meet
   case rel => exact ⟨_, (true), T10_, H', ⟨T8_⟩, ⟨ru_ (jc HO772.out (fun _ hk => trivial))⟩, ⟨T18_⟩⟩
  rw [if_pos c12] at H
  have c12b0 : (t774 == t770) = true := beq_iff_eq.mpr c12
  have c12b1 : (t774 != t770) = false := bne_eq_false_iff_eq.mpr c12
  clear c12
  (first | rw [c12b0] | (simp only [jE, jG]; rw [c12b0]) | skip)
  replace H := Option.bind_eq_some_iff.mp H
  obtain ⟨t777, A130, H⟩ := H
  try dsimp only at H
  have A13 := am_ A130
  clear A130
  have H' := am_ H
  clear H
  obtain ⟨Ao14, co14, eo14⟩ := jp HO776.out
  subst eo14
  obtain ⟨Ao15, co15, eo15⟩ := jp HO772.out
  subst eo15
  go_wp2_with (first | (go_at_call 14; (with_reducible refine (churnlaw13_same.calls k _ _ t773 _ _ t769 t777 _ ?side1 ?side2 ?side3 ?side4 A13.out).mono ?_); (case side1 => exact cu_ ((jg HO776.out).2.2)); (case side2 => exact (jg HO776.out).2.1); (case side3 => exact cu_ ((jg HO772.out).2.2)); (case side4 => exact (jg HO772.out).2.1); rintro e w' ⟨rfl, ⟨nd, rfl⟩⟩; (try first | exact ⟨rfl, _, World.drewN_drewN _ _ _⟩ | exact ⟨rfl, _, Eq.trans (World.drewN_drewN _ _ _) (congrArg (World.drewN _) (Nat.add_assoc _ _ _))⟩)))
  repeat (go_quiet (first | (go_at_call 14; (with_reducible refine (churnlaw13_same.calls k _ _ t773 _ _ t769 t777 _ ?side1 ?side2 ?side3 ?side4 A13.out).mono ?_); (case side1 => exact cu_ ((jg HO776.out).2.2)); (case side2 => exact (jg HO776.out).2.1); (case side3 => exact cu_ ((jg HO772.out).2.2)); (case side4 => exact (jg HO772.out).2.1); rintro e w' ⟨rfl, ⟨nd, rfl⟩⟩; (try first | exact ⟨rfl, _, World.drewN_drewN _ _ _⟩ | exact ⟨rfl, _, Eq.trans (World.drewN_drewN _ _ _) (congrArg (World.drewN _) (Nat.add_assoc _ _ _))⟩))); try go_wp2_with (first | (go_at_call 14; (with_reducible refine (churnlaw13_same.calls k _ _ t773 _ _ t769 t777 _ ?side1 ?side2 ?side3 ?side4 A13.out).mono ?_); (case side1 => exact cu_ ((jg HO776.out).2.2)); (case side2 => exact (jg HO776.out).2.1); (case side3 => exact cu_ ((jg HO772.out).2.2)); (case side4 => exact (jg HO772.out).2.1); rintro e w' ⟨rfl, ⟨nd, rfl⟩⟩; (try first | exact ⟨rfl, _, World.drewN_drewN _ _ _⟩ | exact ⟨rfl, _, Eq.trans (World.drewN_drewN _ _ _) (congrArg (World.drewN _) (Nat.add_assoc _ _ _))⟩))))
  go_meet
  case rel => exact ⟨_, (!t777), T10_, H', ⟨T8_⟩, ⟨ru_ (jc HO772.out (fun _ hk => trivial))⟩, ⟨T18_⟩⟩
 case rest =>
  clear HC8
  (try clear c1);(try clear p2);(try clear c4);(try clear c5);(try clear c12);(try clear c12b0 c12b1)
  obtain ⟨kq, x39_7, rfl, HA, HJ7, HO_7, HB⟩ := hcut
  cases kq with
  | zero => exact absurd HA.out (by simp [churnlaw13_RiffleOrders.j0])
  | succ kj7 =>
   have H := HA.out
   clear HA
   simp only [churnlaw13_RiffleOrders.j0] at H
   by_cases c16 : x39_7 = true
   ·subst c16
    have H1 : (some false) = some r := by rw [if_pos rfl] at H; exact H
    clear H
    have H := H1
    clear H1
    obtain rfl := Option.some.inj H
    exact absurd HR_.out T3_
   replace c16 := Bool.eq_false_iff.mpr c16
   subst c16
   have H1 : (if a1 < 0 then (churnlaw13_RiffleOrders.j1 kj7 l0 a1 a2 t769 t770 true) else (churnlaw13_RiffleOrders.j1 kj7 l0 a1 a2 t769 t770 (decide (a1 > 300)))) = some r := by rw [if_neg (show ¬ (false = true) by decide)] at H; exact H
   clear H
   have H := H1
   clear H1
   have HC17 := am_ H
   clear H
   go_upto_region 7 with (fail)
   repeat (go_quiet (fail); go_upto_region 7 with (fail))
   go_cut [45] (fun v45 wc => ∃ (kq : Nat) (x45_16 : Bool), v45 = .bool x45_16 ∧ Aside0 (churnlaw13_RiffleOrders.j1 kq l0 a1 a2 t769 t770 x45_16 = some r) ∧ Aside0 (kq ≤ kj7) ∧ Aside0 (ju (jb .i64) 3 wc w.heap.size (fun _ => True) v771 t769) ∧ Aside0 (Below w.heap.size w wc))
   case first =>
    have H := HC17.out
    clear HC17
    by_cases c18 : a1 < 0
    ·rw [if_pos c18] at H
     have c18b0 := decide_eq_true c18
     clear c18
     (first | rw [c18b0] | (simp only [jE, jG]; rw [c18b0]) | skip)
     have H' := am_ H
     clear H
     go_wp2
     repeat (go_quiet (fail); try go_wp2)
     go_meet
     case rel => exact ⟨_, (true), T10_, H', ⟨(by have := HJ7.out; first | omega | exact Nat.le_refl _)⟩, ⟨ru_ HO_7.out⟩, ⟨T18_⟩⟩
    rw [if_neg c18] at H
    have c18b0 := decide_eq_false c18
    clear c18
    (first | rw [c18b0] | (simp only [jE, jG]; rw [c18b0]) | skip)
    have H' := am_ H
    clear H
    go_wp2
    repeat (go_quiet (fail); try go_wp2)
    go_meet
    case rel => exact ⟨_, (decide (a1 > 300)), T10_, H', ⟨(by have := HJ7.out; first | omega | exact Nat.le_refl _)⟩, ⟨ru_ HO_7.out⟩, ⟨T18_⟩⟩
   case rest =>
    clear HC17
    (try clear c1);(try clear p2 p2);(try clear c4);(try clear c5);(try clear c12);(try clear c12b0 c12b1);(try clear c16);(try clear c18);(try clear c18b0)
    obtain ⟨kq, x45_16, rfl, HA, HJ16, HO_7, HB⟩ := hcut
    cases kq with
    | zero => exact absurd HA.out (by simp [churnlaw13_RiffleOrders.j1])
    | succ kj16 =>
     have H := HA.out
     clear HA
     simp only [churnlaw13_RiffleOrders.j1] at H
     by_cases c19 : x45_16 = true
     ·subst c19
      have H1 : (some true) = some r := by rw [if_pos rfl] at H; exact H
      clear H
      have H := H1
      clear H1
      obtain rfl := Option.some.inj H
      simp only [Option.some.injEq, Prod.mk.injEq] at H
      obtain ⟨rfl⟩ := H
      go_wp2
      repeat (go_quiet (fail); try go_wp2)
      go_ret
      exact ⟨T16_, T18_⟩
     replace c19 := Bool.eq_false_iff.mpr c19
     subst c19
     have H1 : (if 0 ≤ a1 then (if (a1 : Int).toNat ≤ 17592186044416 then (churnlaw13_RiffleOrders.l0 kj16 l0 a1 a2 t769 t770 (([] : List ByteArray)) 0) else (none)) else (none)) = some r := by rw [if_neg (show ¬ (false = true) by decide)] at H; exact H
     clear H
     have H := H1
     clear H1
     replace H := ifn_ H;obtain ⟨c20, H⟩ := H
     have c20b0 := eq_true c20
     have c20b1 : decide (0 ≤ a1) = true := decide_eq_true c20
     clear c20
     replace H := ifn_ H;obtain ⟨c21, H⟩ := H
     have c21b0 := eq_true c21
     have c21b1 : decide ((a1 : Int).toNat ≤ 17592186044416) = true := decide_eq_true c21
     clear c21
     obtain ⟨y778, hy_⟩ : ∃ y_ : List ByteArray, y_ = (([] : List ByteArray)) := ⟨_, rfl⟩
     replace H : (churnlaw13_RiffleOrders.l0 kj16 l0 a1 a2 t769 t770 y778 0) = some r := hyw_
     have Ny778 := am_ hy_
     clear hy_
     have H' := am_ H
     clear H
     go_wp2_with (first | ((with_reducible refine jx (N := 47) rfl ?_); (try (refine jW T0_ ?_; dsimp only)); refine Kd.R_make0 Kd.string _ 9 rfl (N := 47) rfl 32 _ _ rfl a1 rfl rfl Try.underlying32 (.string ⟨#[]⟩) 16 info9 rfl T3_ T2_ (⟨#[]⟩ : ByteArray) (ok := fun _ => True) (okp := fun _ => True) rfl (fun _ hk => hk) trivial (od_) (Nat.le_trans (Nat.mul_le_mul_right _ (od_ : a1.toNat ≤ 17592186044416)) T2_) (Below.refl _ _) (Nat.le_refl _) ?_; intro v779 w22 ho23 hb hg_ hnew_; clear hg_ hnew_; (first | rw [← Ny778.out] at ho23 | (simp only [Int.reduceToNat] at ho23; rw [← Ny778.out] at ho23)); have n_ := P3_ (je (ru_ HO_7.out) hb) (jo ho23 (ja T18_)) (jh T18_ hb); clear HO_7 HB; obtain ⟨HO_7, HO780, HB⟩ := n_; clear hb ho23))
     repeat (go_quiet (first | ((with_reducible refine jx (N := 47) rfl ?_); (try (refine jW T0_ ?_; dsimp only)); refine Kd.R_make0 Kd.string _ 9 rfl (N := 47) rfl 32 _ _ rfl a1 rfl rfl Try.underlying32 (.string ⟨#[]⟩) 16 info9 rfl T3_ T2_ (⟨#[]⟩ : ByteArray) (ok := fun _ => True) (okp := fun _ => True) rfl (fun _ hk => hk) trivial (od_) (Nat.le_trans (Nat.mul_le_mul_right _ (od_ : a1.toNat ≤ 17592186044416)) T2_) (Below.refl _ _) (Nat.le_refl _) ?_; intro v779 w22 ho23 hb hg_ hnew_; clear hg_ hnew_; (first | rw [← Ny778.out] at ho23 | (simp only [Int.reduceToNat] at ho23; rw [← Ny778.out] at ho23)); have n_ := P3_ (je (ru_ HO_7.out) hb) (jo ho23 (ja T18_)) (jh T18_ hb); clear HO_7 HB; obtain ⟨HO_7, HO780, HB⟩ := n_; clear hb ho23)); try go_wp2_with (first | ((with_reducible refine jx (N := 47) rfl ?_); (try (refine jW T0_ ?_; dsimp only)); refine Kd.R_make0 Kd.string _ 9 rfl (N := 47) rfl 32 _ _ rfl a1 rfl rfl Try.underlying32 (.string ⟨#[]⟩) 16 info9 rfl T3_ T2_ (⟨#[]⟩ : ByteArray) (ok := fun _ => True) (okp := fun _ => True) rfl (fun _ hk => hk) trivial (od_) (Nat.le_trans (Nat.mul_le_mul_right _ (od_ : a1.toNat ≤ 17592186044416)) T2_) (Below.refl _ _) (Nat.le_refl _) ?_; intro v779 w22 ho23 hb hg_ hnew_; clear hg_ hnew_; (first | rw [← Ny778.out] at ho23 | (simp only [Int.reduceToNat] at ho23; rw [← Ny778.out] at ho23)); have n_ := P3_ (je (ru_ HO_7.out) hb) (jo ho23 (ja T18_)) (jh T18_ hb); clear HO_7 HB; obtain ⟨HO_7, HO780, HB⟩ := n_; clear hb ho23)))
     go_loopg [11, 12] kj16 (fun kq v11 v12 w' => ∃ (x11_3 : List ByteArray) (x12_3 : Int), v12 = .int .i64 x12_3 ∧ Aside0 (churnlaw13_RiffleOrders.l0 kq l0 a1 a2 t769 t770 x11_3 x12_3 = some r) ∧ Aside0 (kq ≤ kj16) ∧ Aside0 (ju (jb .i64) 3 w' w.heap.size (fun _ => True) v771 t769) ∧ Aside0 (ju Kd.string 9 w' w.heap.size (fun _ => True) v11 x11_3) ∧ Aside0 (Below w.heap.size w w'))
     case atStart => exact ⟨(y778), (0), T10_, H', ⟨Nat.le_refl _⟩, ⟨ru_ HO_7.out⟩, ⟨ru_ HO780.out⟩, ⟨T18_⟩⟩
     case round =>
      clear H'
      (try clear c1);(try clear c2);(try clear p2 p2);(try clear c4);(try clear c5);(try clear c12);(try clear c12b0 c12b1);(try clear c16);(try clear c18);(try clear c18b0);(try clear c19);(try clear c20);(try clear c20b0 c20b1);(try clear c21);(try clear c21b0 c21b1)
      obtain ⟨x11_3, x12_3, rfl, HA, HK3, HO_7, HO_11, HB⟩ := hrel
      cases gk with
      | zero => exact absurd HA.out (by simp [churnlaw13_RiffleOrders.l0])
      | succ k3 =>
       have H := HA.out
       clear HA
       simp only [churnlaw13_RiffleOrders.l0] at H
       by_cases c24 : x12_3 < a1
       ·rw [if_pos c24] at H
        have c24b0 := decide_eq_true c24
        clear c24
        obtain ⟨y781, hy_⟩ : ∃ y_ : List Int, y_ = (([(x12_3) % 256, (x12_3 / 256) % 256] : List Int)) := ⟨_, rfl⟩
        replace H : (if x11_3.length < 8796093022208 then (churnlaw13_RiffleOrders.l0 k3 l0 a1 a2 t769 t770 (x11_3 ++ [strOfNums y781]) (wrap64 (x12_3 + 1))) else (none)) = some r := hyw_
        have Ny781 := am_ hy_
        clear hy_
        replace H := ifa_ H;obtain ⟨LMc25, H⟩ := H
        obtain ⟨y784, hy_⟩ : ∃ y_ : List ByteArray, y_ = (x11_3 ++ [strOfNums y781]) := ⟨_, rfl⟩
        replace H : (churnlaw13_RiffleOrders.l0 k3 l0 a1 a2 t769 t770 y784 (wrap64 (x12_3 + 1))) = some r := hyw_
        have Ny784 := am_ hy_
        clear hy_
        have H' := am_ H
        clear H
        go_wp2_with (first | ((with_reducible refine jx (N := 59) rfl ?_); (try (refine jW T0_ ?_; dsimp only)); refine Kd.R_lit (jb .u8) _ 5 ?hg (N := 59) ?hd (xs := ([(x12_3) % 256, (x12_3 / 256) % 256] : List Int)) (inner := [.int .u8 ((x12_3) % 256), .int .u8 ((x12_3 / 256) % 256)]) (ok := fun _ => True) (okp := fun _ => True) ?hr ?hp (fun _ hk => hk) trivial (Below.refl _ _) (Nat.le_refl _) T1_ ?_; (case hd => rfl); (case hg => rfl); (case hr => first | (go_simp; done) | (go_simp; rfl)); (case hp => exact (Reps.one (show Kd.M (jb .u8) _ _ _ ((x12_3) % 256) [.int .u8 ((x12_3) % 256)] from rfl) (Reps.one (show Kd.M (jb .u8) _ _ _ ((x12_3 / 256) % 256) [.int .u8 ((x12_3 / 256) % 256)] from rfl) (Reps.none _ _)))); intro v782 w26 ho27 hb hg_ hnew_; clear hg_ hnew_; (first | rw [← Ny781.out] at ho27 | (simp only [Int.reduceToNat] at ho27; rw [← Ny781.out] at ho27)); have n_ := P4_ (je (ru_ HO_7.out) hb) (je (ru_ HO_11.out) hb) (jo ho27 (ja T18_)) (jh T18_ hb); clear HO_7 HO_11 HB; obtain ⟨HO_7, HO_11, HO783, HB⟩ := n_; clear hb ho27; have hcv28 := own_string (P := Try.prog) Try.underlying23 Try.underlying5 Try.underlying9 (Kd.own_of_R HO783.out)) | ((with_reducible refine jK (b := .append) (xs := #[.tmp 53, .tmp 61]) rfl ?_); (try (refine jW T0_ ?_; dsimp only)); at_builtin; refine Ji Kd.string (w0 := w) w.heap.size rfl (.tmp 53) (.tmp 61) 32 9 (.string ⟨#[]⟩) 16 rfl Try.underlying32 info9 rfl T3_ T2_ u11 x11_3 (strOfNums y781) [.string (strOfNums y781)] (fun _ => True) (fun _ => False) rfl rfl ?aP (fun _ hk => hk.elim) ?aF ?aO ?aB ?aS ?aL ?_; (case aP => exact rfl); (case aB => exact T18_); (case aF => exact (fun _ _ => trivial)); (case aO => exact (ru_ HO_11.out)); (case aS => exact (ja T18_)); (case aL => have := LMc25.out; omega); intro v785 w29 ho hb hg hat; rw [← Ny784.out] at ho; have n_ := P4_ (jB (ru_ HO_7.out) (jF (ru_ HO_11.out)) T3_ hg) (jB (ru_ HO783.out) (jF (ru_ HO_11.out)) T3_ hg) (hb) (ho); clear HO_7 HO783 HB HO_11; obtain ⟨HO_7, HO783, HB, HO786⟩ := n_; clear ho hb hg hat))
        repeat (go_quiet (first | ((with_reducible refine jx (N := 59) rfl ?_); (try (refine jW T0_ ?_; dsimp only)); refine Kd.R_lit (jb .u8) _ 5 ?hg (N := 59) ?hd (xs := ([(x12_3) % 256, (x12_3 / 256) % 256] : List Int)) (inner := [.int .u8 ((x12_3) % 256), .int .u8 ((x12_3 / 256) % 256)]) (ok := fun _ => True) (okp := fun _ => True) ?hr ?hp (fun _ hk => hk) trivial (Below.refl _ _) (Nat.le_refl _) T1_ ?_; (case hd => rfl); (case hg => rfl); (case hr => first | (go_simp; done) | (go_simp; rfl)); (case hp => exact (Reps.one (show Kd.M (jb .u8) _ _ _ ((x12_3) % 256) [.int .u8 ((x12_3) % 256)] from rfl) (Reps.one (show Kd.M (jb .u8) _ _ _ ((x12_3 / 256) % 256) [.int .u8 ((x12_3 / 256) % 256)] from rfl) (Reps.none _ _)))); intro v782 w26 ho27 hb hg_ hnew_; clear hg_ hnew_; (first | rw [← Ny781.out] at ho27 | (simp only [Int.reduceToNat] at ho27; rw [← Ny781.out] at ho27)); have n_ := P4_ (je (ru_ HO_7.out) hb) (je (ru_ HO_11.out) hb) (jo ho27 (ja T18_)) (jh T18_ hb); clear HO_7 HO_11 HB; obtain ⟨HO_7, HO_11, HO783, HB⟩ := n_; clear hb ho27; have hcv28 := own_string (P := Try.prog) Try.underlying23 Try.underlying5 Try.underlying9 (Kd.own_of_R HO783.out)) | ((with_reducible refine jK (b := .append) (xs := #[.tmp 53, .tmp 61]) rfl ?_); (try (refine jW T0_ ?_; dsimp only)); at_builtin; refine Ji Kd.string (w0 := w) w.heap.size rfl (.tmp 53) (.tmp 61) 32 9 (.string ⟨#[]⟩) 16 rfl Try.underlying32 info9 rfl T3_ T2_ u11 x11_3 (strOfNums y781) [.string (strOfNums y781)] (fun _ => True) (fun _ => False) rfl rfl ?aP (fun _ hk => hk.elim) ?aF ?aO ?aB ?aS ?aL ?_; (case aP => exact rfl); (case aB => exact T18_); (case aF => exact (fun _ _ => trivial)); (case aO => exact (ru_ HO_11.out)); (case aS => exact (ja T18_)); (case aL => have := LMc25.out; omega); intro v785 w29 ho hb hg hat; rw [← Ny784.out] at ho; have n_ := P4_ (jB (ru_ HO_7.out) (jF (ru_ HO_11.out)) T3_ hg) (jB (ru_ HO783.out) (jF (ru_ HO_11.out)) T3_ hg) (hb) (ho); clear HO_7 HO783 HB HO_11; obtain ⟨HO_7, HO783, HB, HO786⟩ := n_; clear ho hb hg hat)); try go_wp2_with (first | ((with_reducible refine jx (N := 59) rfl ?_); (try (refine jW T0_ ?_; dsimp only)); refine Kd.R_lit (jb .u8) _ 5 ?hg (N := 59) ?hd (xs := ([(x12_3) % 256, (x12_3 / 256) % 256] : List Int)) (inner := [.int .u8 ((x12_3) % 256), .int .u8 ((x12_3 / 256) % 256)]) (ok := fun _ => True) (okp := fun _ => True) ?hr ?hp (fun _ hk => hk) trivial (Below.refl _ _) (Nat.le_refl _) T1_ ?_; (case hd => rfl); (case hg => rfl); (case hr => first | (go_simp; done) | (go_simp; rfl)); (case hp => exact (Reps.one (show Kd.M (jb .u8) _ _ _ ((x12_3) % 256) [.int .u8 ((x12_3) % 256)] from rfl) (Reps.one (show Kd.M (jb .u8) _ _ _ ((x12_3 / 256) % 256) [.int .u8 ((x12_3 / 256) % 256)] from rfl) (Reps.none _ _)))); intro v782 w26 ho27 hb hg_ hnew_; clear hg_ hnew_; (first | rw [← Ny781.out] at ho27 | (simp only [Int.reduceToNat] at ho27; rw [← Ny781.out] at ho27)); have n_ := P4_ (je (ru_ HO_7.out) hb) (je (ru_ HO_11.out) hb) (jo ho27 (ja T18_)) (jh T18_ hb); clear HO_7 HO_11 HB; obtain ⟨HO_7, HO_11, HO783, HB⟩ := n_; clear hb ho27; have hcv28 := own_string (P := Try.prog) Try.underlying23 Try.underlying5 Try.underlying9 (Kd.own_of_R HO783.out)) | ((with_reducible refine jK (b := .append) (xs := #[.tmp 53, .tmp 61]) rfl ?_); (try (refine jW T0_ ?_; dsimp only)); at_builtin; refine Ji Kd.string (w0 := w) w.heap.size rfl (.tmp 53) (.tmp 61) 32 9 (.string ⟨#[]⟩) 16 rfl Try.underlying32 info9 rfl T3_ T2_ u11 x11_3 (strOfNums y781) [.string (strOfNums y781)] (fun _ => True) (fun _ => False) rfl rfl ?aP (fun _ hk => hk.elim) ?aF ?aO ?aB ?aS ?aL ?_; (case aP => exact rfl); (case aB => exact T18_); (case aF => exact (fun _ _ => trivial)); (case aO => exact (ru_ HO_11.out)); (case aS => exact (ja T18_)); (case aL => have := LMc25.out; omega); intro v785 w29 ho hb hg hat; rw [← Ny784.out] at ho; have n_ := P4_ (jB (ru_ HO_7.out) (jF (ru_ HO_11.out)) T3_ hg) (jB (ru_ HO783.out) (jF (ru_ HO_11.out)) T3_ hg) (hb) (ho); clear HO_7 HO783 HB HO_11; obtain ⟨HO_7, HO783, HB, HO786⟩ := n_; clear ho hb hg hat)))
        go_roundg k3
        case measure => have := HJ7.out; have := HJ16.out; have := HK3.out; omega
        case rel => exact ⟨(y784), (wrap64 (x12_3 + 1)), T10_, H', ⟨(by have := HJ7.out; have := HJ16.out; have := HK3.out; omega)⟩, ⟨ru_ HO_7.out⟩, ⟨ru_ HO786.out⟩, ⟨T18_⟩⟩
       rw [if_neg c24] at H
       have c24b0 := decide_eq_false c24
       clear c24
       replace H := Option.bind_eq_some_iff.mp H
       obtain ⟨⟨t787, t788⟩, A300, H⟩ := H
       try dsimp only at H
       have A30 := am_ A300
       clear A300
       have HC31 := am_ H
       clear H
       obtain ⟨Ao32, co32, eo32⟩ := jp HO_11.out
       subst eo32
       go_upto_region 15 with (first | (go_at_call 15; (with_reducible refine (riffle_Shuffle_string.calls k3 _ _ l0 a2 _ _ x11_3 t787 t788 _ ?side1 ?side2 ?side3 ?side4 A30.out).mono ?_); (case side1 => exact cu_ (jw HR0.out HB.out)); (case side2 => exact HC0.out); (case side3 => exact cu_ ((jg HO_11.out).2.2)); (case side4 => exact (jg HO_11.out).2.1); rintro e w33 ⟨v789, rfl, ho0, hb⟩; have n_ := P4_ (je (ru_ HO_7.out) hb) (ji (ru_ HO_11.out) (jf ho0) hb) (jo (jk ho0 (jj (ru_ HO_11.out))) (ja T18_)) (jh T18_ hb); clear HO_7 HO_11 HB; obtain ⟨HO_7, HO_11, HO790, HB⟩ := n_; clear hb ho0))
       repeat (go_quiet (first | (go_at_call 15; (with_reducible refine (riffle_Shuffle_string.calls k3 _ _ l0 a2 _ _ x11_3 t787 t788 _ ?side1 ?side2 ?side3 ?side4 A30.out).mono ?_); (case side1 => exact cu_ (jw HR0.out HB.out)); (case side2 => exact HC0.out); (case side3 => exact cu_ ((jg HO_11.out).2.2)); (case side4 => exact (jg HO_11.out).2.1); rintro e w33 ⟨v789, rfl, ho0, hb⟩; have n_ := P4_ (je (ru_ HO_7.out) hb) (ji (ru_ HO_11.out) (jf ho0) hb) (jo (jk ho0 (jj (ru_ HO_11.out))) (ja T18_)) (jh T18_ hb); clear HO_7 HO_11 HB; obtain ⟨HO_7, HO_11, HO790, HB⟩ := n_; clear hb ho0)); go_upto_region 15 with (first | (go_at_call 15; (with_reducible refine (riffle_Shuffle_string.calls k3 _ _ l0 a2 _ _ x11_3 t787 t788 _ ?side1 ?side2 ?side3 ?side4 A30.out).mono ?_); (case side1 => exact cu_ (jw HR0.out HB.out)); (case side2 => exact HC0.out); (case side3 => exact cu_ ((jg HO_11.out).2.2)); (case side4 => exact (jg HO_11.out).2.1); rintro e w33 ⟨v789, rfl, ho0, hb⟩; have n_ := P4_ (je (ru_ HO_7.out) hb) (ji (ru_ HO_11.out) (jf ho0) hb) (jo (jk ho0 (jj (ru_ HO_11.out))) (ja T18_)) (jh T18_ hb); clear HO_7 HO_11 HB; obtain ⟨HO_7, HO_11, HO790, HB⟩ := n_; clear hb ho0)))
       (try simp only [Act.put, List.setIfInBounds_toArray, List.set_cons_zero, List.set_cons_succ])
       go_cut [79] (fun v79 wc => ∃ (kq : Nat) (x79_30 : Bool), v79 = .bool x79_30 ∧ Aside0 (churnlaw13_RiffleOrders.j3 kq t769 x11_3 t787 x79_30 = some r) ∧ Aside0 (kq ≤ k3) ∧ Aside0 (ju (jb .i64) 3 wc w.heap.size (fun _ => True) v771 t769) ∧ Aside0 (ju Kd.string 9 wc w.heap.size (fun k_ => some k_ ≠ (v789 : Value).ownBlock) (.slice Ao32 x11_3.length co32) x11_3) ∧ Aside0 (ju Kd.string 9 wc w.heap.size (fun k_ => some k_ ≠ ((.slice Ao32 x11_3.length co32) : Value).ownBlock) v789 t787) ∧ Aside0 (Below w.heap.size w wc))
       case first =>
        have H := HC31.out
        clear HC31
        by_cases c34 : t788 = t770
        rotate_left
        ·rw [if_neg c34] at H
         have c34b0 : (t788 == t770) = false := beq_eq_false_iff_ne.mpr c34
         have c34b1 : (t788 != t770) = true := bne_iff_ne.mpr c34
         (first | rw [c34b0] | (simp only [jE, jG]; rw [c34b0]) | skip)
         have H' := am_ H
         clear H
         go_wp2
         repeat (go_quiet (fail); try go_wp2)
         go_meet
         case rel => exact ⟨_, (true), T10_, H', ⟨(by have := HJ7.out; have := HJ16.out; have := HK3.out; first | omega | exact Nat.le_refl _)⟩, ⟨ru_ HO_7.out⟩, ⟨ru_ (jc HO_11.out (fun _ hk => hk.2))⟩, ⟨ru_ (jc HO790.out (fun _ hk => hk.2))⟩, ⟨T18_⟩⟩
        rw [if_pos c34] at H
        have c34b0 : (t788 == t770) = true := beq_iff_eq.mpr c34
        have c34b1 : (t788 != t770) = false := bne_eq_false_iff_eq.mpr c34
        clear c34
        (first | rw [c34b0] | (simp only [jE, jG]; rw [c34b0]) | skip)
        have H' := am_ H
        clear H
        obtain ⟨Ao35, co35, eo35⟩ := jp HO790.out
        subst eo35
        obtain ⟨Ao36, co36, eo36⟩ := jp HO_7.out
        subst eo36
        go_wp2
        repeat (go_quiet (fail); try go_wp2)
        go_meet
        case rel => exact ⟨_, (((t787.length : Int) != (t769.length : Int))), T10_, H', ⟨(by have := HJ7.out; have := HJ16.out; have := HK3.out; first | omega | exact Nat.le_refl _)⟩, ⟨ru_ HO_7.out⟩, ⟨ru_ (jc HO_11.out (fun _ hk => hk.2))⟩, ⟨ru_ (jc HO790.out (fun _ hk => hk.2))⟩, ⟨T18_⟩⟩
       case rest =>
        clear HC31
        (try clear c1);(try clear c2);(try clear p2 p2);(try clear hcv2);(try clear c3);(try clear c4);(try clear c5);(try clear p6);(try clear c12);(try clear c12b0 c12b1);(try clear c16);(try clear c18);(try clear c18b0);(try clear c19);(try clear c20);(try clear c20b0 c20b1);(try clear c21);(try clear c21b0 c21b1);(try clear c24);(try clear c24b0);(try clear c25);(try clear hcv28);(try clear c34);(try clear c34b0 c34b1)
        obtain ⟨kq, x79_30, rfl, HA, HJ30, HO_7, HO_11, HO_13, HB⟩ := hcut
        cases kq with
        | zero => exact absurd HA.out (by simp [churnlaw13_RiffleOrders.j3])
        | succ kj30 =>
         have H := HA.out
         clear HA
         simp only [churnlaw13_RiffleOrders.j3] at H
         by_cases c37 : x79_30 = true
         ·subst c37
          have H1 : (some false) = some r := by rw [if_pos rfl] at H; exact H
          clear H
          have H := H1
          clear H1
          obtain rfl := Option.some.inj H
          exact absurd HR_.out T3_
         replace c37 := Bool.eq_false_iff.mpr c37
         subst c37
         have H1 : (churnlaw13_RiffleOrders.l1 kj30 t769 x11_3 t787 0) = some r := by rw [if_neg (show ¬ (false = true) by decide)] at H; exact H
         clear H
         have H := H1
         clear H1
         have H' := am_ H
         clear H
         go_wp2
         repeat (go_quiet (fail); try go_wp2)
         go_loopg [14] kj30 (fun kq v14 w' => ∃ (x14_5 : Int), v14 = .int .i64 x14_5 ∧ Aside0 (churnlaw13_RiffleOrders.l1 kq t769 x11_3 t787 x14_5 = some r) ∧ Aside0 (kq ≤ kj30) ∧ Aside0 (ju (jb .i64) 3 w' w.heap.size (fun _ => True) v771 t769) ∧ Aside0 (ju Kd.string 9 w' w.heap.size (fun k_ => some k_ ≠ (v789 : Value).ownBlock) (.slice Ao32 x11_3.length co32) x11_3) ∧ Aside0 (ju Kd.string 9 w' w.heap.size (fun k_ => some k_ ≠ ((.slice Ao32 x11_3.length co32) : Value).ownBlock) v789 t787) ∧ Aside0 (Below w.heap.size w w'))
         case atStart => exact ⟨(0), T10_, H', ⟨Nat.le_refl _⟩, ⟨ru_ HO_7.out⟩, ⟨ru_ HO_11.out⟩, ⟨ru_ HO_13.out⟩, ⟨T18_⟩⟩
         case round =>
          clear H'
          (try clear c1);(try clear c2);(try clear p2 p2);(try clear hcv2);(try clear c3);(try clear c4);(try clear c5);(try clear p6 p6);(try clear c12);(try clear c12b0 c12b1);(try clear c16);(try clear c18);(try clear c18b0);(try clear c19);(try clear c20);(try clear c20b0 c20b1);(try clear c21);(try clear c21b0 c21b1);(try clear c24);(try clear c24b0);(try clear c25);(try clear hcv28);(try clear c34);(try clear c34b0 c34b1);(try clear c37)
          obtain ⟨x14_5, rfl, HA, HK5, HO_7, HO_11, HO_13, HB⟩ := hrel
          cases gk with
          | zero => exact absurd HA.out (by simp [churnlaw13_RiffleOrders.l1])
          | succ k5 =>
           have H := HA.out
           clear HA
           simp only [churnlaw13_RiffleOrders.l1] at H
           by_cases c38 : x14_5 < (t769.length : Int)
           rotate_left
           ·rw [if_neg c38] at H
            have c38b0 := decide_eq_false c38
            clear c38
            obtain rfl := Option.some.inj H
            simp only [Option.some.injEq, Prod.mk.injEq] at H
            obtain ⟨rfl⟩ := H
            obtain ⟨Ao46, co46, eo46⟩ := jp HO_7.out
            subst eo46
            go_wp2
            repeat (go_quiet (fail); try go_wp2)
            go_ret
            exact ⟨T16_, T18_⟩
           rw [if_pos c38] at H
           have c38b0 := decide_eq_true c38
           clear c38
           replace H := ifn_ H;obtain ⟨c39, H⟩ := H
           have c39b0 := decide_eq_true c39
           clear c39
           replace H := ifn_ H;obtain ⟨c40, H⟩ := H
           have c40b0 := decide_eq_true c40
           clear c40
           replace H := ifn_ H;obtain ⟨c41, H⟩ := H
           have c41b0 := decide_eq_true c41
           clear c41
           replace H := ifn_ H;obtain ⟨c42, H⟩ := H
           have c42b0 := decide_eq_true c42
           clear c42
           by_cases c43 : (rdOf ByteArray.empty t787 x14_5).toList = (rdOf ByteArray.empty x11_3 (rd t769 x14_5)).toList
           rotate_left
           ·rw [if_neg c43] at H
            have c43b0 : ((rdOf ByteArray.empty t787 x14_5).toList == (rdOf ByteArray.empty x11_3 (rd t769 x14_5)).toList) = false := beq_eq_false_iff_ne.mpr c43
            have c43b1 : ((rdOf ByteArray.empty t787 x14_5).toList != (rdOf ByteArray.empty x11_3 (rd t769 x14_5)).toList) = true := bne_iff_ne.mpr c43
            obtain rfl := Option.some.inj H
            exact absurd HR_.out T3_
           rw [if_pos c43] at H
           have c43b0 : ((rdOf ByteArray.empty t787 x14_5).toList == (rdOf ByteArray.empty x11_3 (rd t769 x14_5)).toList) = true := beq_iff_eq.mpr c43
           have c43b1 : ((rdOf ByteArray.empty t787 x14_5).toList != (rdOf ByteArray.empty x11_3 (rd t769 x14_5)).toList) = false := bne_eq_false_iff_eq.mpr c43
           clear c43
           have H' := am_ H
           clear H
           obtain ⟨Ao44, co44, eo44⟩ := jp HO_7.out
           subst eo44
           obtain ⟨Ao45, co45, eo45⟩ := jp HO_13.out
           subst eo45
           obtain ⟨ad791, e791, hx791_0, p791, q791⟩ := as_ (jg HO_13.out).2.2 x14_5
           cases e791
           obtain ⟨ad792, e792, hx792_0, p792, q792⟩ := ai_ (jg HO_7.out).2.2 x14_5
           cases e792
           obtain ⟨ad793, e793, hx793_0, p793, q793⟩ := as_ (jg HO_11.out).2.2 (rd t769 x14_5)
           cases e793
           go_wp2
           repeat (go_quiet (fail); try go_wp2)
           go_roundg k5
           case measure => have := HJ7.out; have := HJ16.out; have := HK3.out; have := HJ30.out; have := HK5.out; omega
           case rel => exact ⟨(wrap64 (x14_5 + 1)), T10_, H', ⟨(by have := HJ7.out; have := HJ16.out; have := HK3.out; have := HJ30.out; have := HK5.out; omega)⟩, ⟨ru_ HO_7.out⟩, ⟨ru_ HO_11.out⟩, ⟨ru_ HO_13.out⟩, ⟨T18_⟩⟩
def churnlaw13_RiffleOrders.Pure : Prop := ∀ (l0 : List Int) (a1 : Int) (a2 : Int), l0.length ≤ maxLen → l0.length * 1 ≤ 140737488351232 → (∀ x ∈ l0, (Lit.int .u8 x).wf = true) → (Lit.int .i64 a1).wf = true → (Lit.int .i64 a2).wf = true → ∃ k, churnlaw13_RiffleOrders.f k l0 a1 a2 = some true
theorem churnlaw13_RiffleOrders.walk (P : churnlaw13_RiffleOrders.Pure) (a0 : Option Addr) (len0 cap0 : Nat) (z0 : List Int) (a1 : Int) (a2 : Int) (w : World) (w0 : (a0 = none ∧ len0 = 0 ∧ cap0 = 0 ∧ z0 = []) ∨ ∃ x, a0 = some x ∧ len0 ≤ cap0 ∧ cap0 ≤ maxLen ∧ z0.length = cap0 ∧ (∀ i, i < z0.length → w.cell? (x.add i) = some (.int .u8 (z0.getD i 0))) ∧ ∀ n ∈ z0, (Lit.int .u8 n).wf = true) (y0 : len0 * 1 ≤ 140737488351232) (w1 : (Lit.int .i64 a1).wf = true) (w2 : (Lit.int .i64 a2).wf = true) :
  Calls Try.prog 4 #[.slice a0 len0 cap0, .int .i64 a1, .int .i64 a2] w fun e w' => e = .returned (.bool true) ∧ Below w.heap.size w w' := by
 obtain ⟨l0, rfl, hr0, hm0, hw0, hc0⟩ := ReadsInt.ofRowC w0
 obtain ⟨k, h⟩ := P l0 a1 a2 hm0 y0 hw0 w1 w2
 refine (churnlaw13_RiffleOrders.calls k _ _ l0 a1 a2 true w (Kd.C_of_reads (d := (0 : Int)) (h1 := fun _ => rfl) hr0) hc0 rfl h).mono ?_
 rintro e w' ⟨rfl, hd⟩
 exact ⟨rfl, hd⟩
end Go.Proofs.Ytbnifpfnjhdenaa.Q
end
section
set_option linter.unusedVariables false
set_option linter.unusedSimpArgs false
namespace Go.Proofs.Ytbnifpfnjhdenaa.Pl
open Go.RowKit Go.Proofs.YtbnifpfnjhdenaaW.PrintWords Go.Proofs.YtbnifpfnjhdenaaW.PrintLast
theorem w64 {x : Int} (h0 : -9223372036854775808 ≤ x) (h1 : x ≤ 9223372036854775807) : wrap64 x = x := by
 unfold wrap64
 omega
theorem w64n {x : Nat} (h1 : x ≤ 9223372036854775807) : wrap64 (x : Int) = x := w64 (by omega) (by omega)
section
variable {α β : Type} {g f : Nat → Option α} {r : α}
theorem ev_pos {c : Prop} [Decidable c] {a b : Nat → Option α} (h : c) (k : Ev a r) : Ev (fun n => if c then a n else b n) r :=
 Ev.congr (fun _ => if_pos h) k
theorem ev_neg {c : Prop} [Decidable c] {a b : Nat → Option α} (h : ¬ c) (k : Ev b r) : Ev (fun n => if c then a n else b n) r :=
 Ev.congr (fun _ => if_neg h) k
theorem ev_some {x r : α} (h : x = r) : Ev (fun _ => some x) r := h ▸ Ev.now x
theorem ev_bind {a : α} {s : β} {g : Nat → Option α} {f : Nat → α → Option β} (h : Ev g a) (k : Ev (fun n => f n a) s) : Ev (fun n => (g n).bind (f n)) s := Ev.bind h k
theorem ev_bind0 {a : α} {s : β} {g : Option α} {f : Nat → α → Option β} (h : g = some a) (k : Ev (fun n => f n a) s) : Ev (fun n => g.bind (f n)) s := by
 subst h
 exact Ev.congr (fun _ => rfl) k
theorem ev_to {g : Nat → Option α} {r s : α} (h : Ev g r) (e : r = s) : Ev g s := e ▸ h
end
theorem rd_nat (xs : List Int) (i : Nat) : rd xs (i : Int) = xs.getD i 0 := by simp [rd]
theorem rd_lt (xs : List Int) (i : Nat) (h : i < xs.length) : rd xs (i : Int) = xs[i] := by simp [rd, h]
theorem rd_mem (xs : List Int) (i : Int) (h : i.toNat < xs.length) : rd xs i ∈ xs := by
 unfold rd
 rw [List.getD_eq_getElem?_getD, List.getElem?_eq_getElem h]
 exact List.getElem_mem h
theorem drop_rd (xs : List Int) (i : Nat) (h : i < xs.length) : xs.drop i = rd xs (i : Int) :: xs.drop (i + 1) := by
 rw [rd_lt xs i h]
 exact List.drop_eq_getElem_cons h
theorem take_rd (xs : List Int) (i : Nat) (h : i < xs.length) : xs.take (i + 1) = xs.take i ++ [rd xs (i : Int)] := by
 rw [rd_lt xs i h, List.take_succ_eq_append_getElem h]
theorem wf_i64 {x : Int} (h : (Lit.int .i64 x).wf = true) : -9223372036854775808 ≤ x ∧ x ≤ 9223372036854775807 := by
 have a : IntKind.i64.min = -9223372036854775808 := by rfl
 have b : IntKind.i64.max = 9223372036854775807 := by rfl
 simp [Lit.wf, a, b] at h
 omega
theorem wf_u8 {x : Int} (h : (Lit.int .u8 x).wf = true) : 0 ≤ x ∧ x ≤ 255 := by
 have a : IntKind.u8.min = 0 := by rfl
 have b : IntKind.u8.max = 255 := by rfl
 simp [Lit.wf, a, b] at h
 omega
end Go.Proofs.Ytbnifpfnjhdenaa.Pl
end
section
set_option linter.unusedVariables false
set_option linter.unusedSimpArgs false
namespace Go.Proofs.Ytbnifpfnjhdenaa.Pl
open Go.RowKit Go.Proofs.Ytbnifpfnjhdenaa.Q Go.Proofs.YtbnifpfnjhdenaaW.PrintWords Go.Proofs.YtbnifpfnjhdenaaW.PrintLast
def taken (p : List Int) (b : Int) (u : Nat) : Prop := rd p (u : Int) < 256 - 256 % b
instance (p : List Int) (b : Int) (u : Nat) : Decidable (taken p b u) := inferInstanceAs (Decidable (_ < _))
def below (p : List Int) (b : Int) : Nat → Nat → Int × Int × Int
 | 0, _ => (0, 0, 3)
 | d + 1, u => if taken p b u then (Int.tmod (rd p (u : Int)) b, ((u + 1 : Nat) : Int), 0) else below p b d (u + 1)
theorem quot_lt (v b : Int) (hv : 0 ≤ v) (h1 : 1 ≤ b) (h2 : b ≤ 256) : Int.tdiv v b < Int.tdiv 256 b ↔ v < 256 - 256 % b := by
 rw [Int.tdiv_eq_ediv_of_nonneg hv, Int.tdiv_eq_ediv_of_nonneg (by omega)]
 have h3 := Int.mul_ediv_add_emod 256 b
 have e : 256 - 256 % b = 256 / b * b := by rw [Int.mul_comm]; omega
 rw [e]
 exact Int.ediv_lt_iff_lt_mul (by omega)
theorem ref_below (p : List Int) (b : Int) (h1 : 1 ≤ b) (h2 : b ≤ 256) (hp : ∀ x ∈ p, 0 ≤ x ∧ x ≤ 255) (hl : p.length ≤ 9223372036854775000) : ∀ (d u k : Nat), u + d = p.length → d + 1 ≤ k → churnref10_Below.l0 k p (u : Int) b = some (below p b d u) := by
 intro d
 induction d with
 | zero =>
  intro u k hu hk
  obtain ⟨k, rfl⟩ : ∃ m, k = m + 1 := ⟨k - 1, by omega⟩
  rw [churnref10_Below.l0, if_neg (by omega)]
  rfl
 | succ d ih =>
  intro u k hu hk
  obtain ⟨k, rfl⟩ : ∃ m, k = m + 1 := ⟨k - 1, by omega⟩
  have hb := hp _ (rd_mem p (u : Int) (by simp; omega))
  have q1 : Int.tdiv (rd p (u : Int)) b = rd p (u : Int) / b := Int.tdiv_eq_ediv_of_nonneg hb.1
  have q2 : Int.tdiv 256 b = 256 / b := Int.tdiv_eq_ediv_of_nonneg (by omega)
  have q3 := quot_lt (rd p (u : Int)) b hb.1 h1 h2
  have q4 : 0 ≤ rd p (u : Int) / b := Int.ediv_nonneg hb.1 (by omega)
  have q5 : rd p (u : Int) / b ≤ rd p (u : Int) := Int.ediv_le_self _ hb.1
  have q6 : 0 ≤ (256 : Int) / b := Int.ediv_nonneg (by omega) (by omega)
  have q7 : (256 : Int) / b ≤ 256 := Int.ediv_le_self _ (by omega)
  rw [q1, q2] at q3
  rw [churnref10_Below.l0, if_pos (by omega), if_pos (by omega), if_neg (by omega), w64 (x := rd p (u : Int)) (by omega) (by omega), q1, q2, w64 (x := rd p (u : Int) / b) (by omega) (by omega), w64 (x := (256 : Int) / b) (by omega) (by omega), w64 (x := (u : Int) + 1) (by omega) (by omega)]
  unfold below
  by_cases ht : taken p b u
  ·rw [if_pos (q3.2 ht), if_pos ht]
   rfl
  ·rw [if_neg (fun h => ht (q3.1 h)), if_neg ht]
   exact ih (u + 1) k (by omega) (by omega)
theorem bt_nums (p : List Int) (hp : ∀ x ∈ p, 0 ≤ x ∧ x ≤ 255) (u : Nat) (hu : u < p.length) : bt (strOfNums p) (u : Int) = rd p (u : Int) := by
 have hb := hp _ (rd_mem p (u : Int) (by simpa using hu))
 have hr : rd p (u : Int) = p[u] := rd_lt p u hu
 rw [hr] at hb ⊢
 have hs : (u : Int).toNat < (strOfNums p).size := by rw [strOfNums_size]; simpa using hu
 rw [← bt_at (strOfNums p) (u : Int) hs]
 show (((strOfNums p).data[(u : Int).toNat]'hs).toNat : Int) = p[u]
 simp [strOfNums, UInt8.toNat_ofNat]
 omega
def lift (p : List Int) (q : Int × Int × Int) : Int × ByteArray × Int × Int := if q.2.2 = 0 then (q.1, strOfNums p, q.2.1, 0) else (0, ⟨#[]⟩, 0, q.2.2)
theorem draw_below (p : List Int) (b : Int) (h1 : 1 ≤ b) (h2 : b ≤ 256) (hp : ∀ x ∈ p, 0 ≤ x ∧ x ≤ 255) (hl : p.length ≤ 9223372036854775000) : ∀ (d u k : Nat), u + d = p.length → d + 1 ≤ k → draw_Below.l0 k b (strOfNums p) (u : Int) = some (lift p (below p b d u)) := by
 intro d
 induction d with
 | zero =>
  intro u k hu hk
  obtain ⟨k, rfl⟩ : ∃ m, k = m + 1 := ⟨k - 1, by omega⟩
  have hw : wrap64 (((strOfNums p).size : Int) - (u : Int)) = 0 := by rw [strOfNums_size, w64 (by omega) (by omega)]; omega
  have hB : tape_Tape_Byte.f (strOfNums p) (u : Int) = some (0, ⟨#[]⟩, 0, 3) := by
   unfold tape_Tape_Byte.f tape_Tape_Left.f
   rw [Option.bind_some, if_pos hw]
  rw [draw_Below.l0, hB, Option.bind_some, if_neg (by decide)]
  rfl
 | succ d ih =>
  intro u k hu hk
  obtain ⟨k, rfl⟩ : ∃ m, k = m + 1 := ⟨k - 1, by omega⟩
  have hb := hp _ (rd_mem p (u : Int) (by simp; omega))
  have hw : ¬ wrap64 (((strOfNums p).size : Int) - (u : Int)) = 0 := by rw [strOfNums_size, w64 (by omega) (by omega)]; omega
  have hB : tape_Tape_Byte.f (strOfNums p) (u : Int) = some (rd p (u : Int), strOfNums p, ((u + 1 : Nat) : Int), 0) := by
   unfold tape_Tape_Byte.f tape_Tape_Left.f
   rw [Option.bind_some, if_neg hw, if_pos (by omega), if_pos (by rw [strOfNums_size]; omega), bt_nums p hp u (by omega), w64 (by omega) (by omega)]
   rfl
  have q0 : 0 ≤ (256 : Int) % b := Int.emod_nonneg _ (by omega)
  have q1 : (256 : Int) % b < b := Int.emod_lt_of_pos _ (by omega)
  rw [draw_Below.l0, hB, Option.bind_some, if_pos rfl, if_neg (by omega)]
  simp only
  rw [w64 (x := rd p (u : Int)) (by omega) (by omega), w64 (x := 256 - (256 : Int) % b) (by omega) (by omega)]
  unfold below
  by_cases ht : taken p b u
  ·rw [if_pos ht, if_pos (show rd p (u : Int) < 256 - 256 % b from ht)]
   rfl
  ·rw [if_neg ht, if_neg (show ¬ rd p (u : Int) < 256 - 256 % b from ht)]
   exact ih (u + 1) k (by omega) (by omega)
end Go.Proofs.Ytbnifpfnjhdenaa.Pl
end
section
set_option linter.unusedVariables false
set_option linter.unusedSimpArgs false
namespace Go.Proofs.Ytbnifpfnjhdenaa.Pl
open Go.RowKit Go.Proofs.Ytbnifpfnjhdenaa.Q Go.Proofs.YtbnifpfnjhdenaaW.PrintWords Go.Proofs.YtbnifpfnjhdenaaW.PrintLast
def scan (p : List Int) (b : Int) : Nat → Nat → Option Nat
 | 0, _ => none
 | d + 1, u => if taken p b u then some u else scan p b d (u + 1)
theorem scan_some (p : List Int) (b : Int) : ∀ (d u j : Nat), scan p b d u = some j → u ≤ j ∧ j < u + d ∧ taken p b j := by
 intro d
 induction d with
 | zero => intro u j h; exact absurd h (by simp [scan])
 | succ d ih =>
  intro u j h
  unfold scan at h
  by_cases ht : taken p b u
  ·rw [if_pos ht] at h
   obtain rfl := Option.some.inj h
   exact ⟨Nat.le_refl _, by omega, ht⟩
  ·rw [if_neg ht] at h
   have := ih (u + 1) j h
   exact ⟨by omega, by omega, this.2.2⟩
theorem below_scan (p : List Int) (b : Int) : ∀ (d u : Nat), below p b d u = match scan p b d u with
  | some j => (Int.tmod (rd p (j : Int)) b, ((j + 1 : Nat) : Int), 0)
  | none => (0, 0, 3) := by
 intro d
 induction d with
 | zero => intro u; rfl
 | succ d ih =>
  intro u
  unfold below scan
  by_cases ht : taken p b u
  ·rw [if_pos ht, if_pos ht]
  ·rw [if_neg ht, if_neg ht]; exact ih (u + 1)
def draw1 (p : List Int) (b : Int) (u : Nat) : Option (Int × Nat) := if b = 1 then some (0, u) else (scan p b (p.length - u) u).map fun j : Nat => (Int.tmod (rd p (j : Int)) b, j + 1)
theorem draw1_le (p : List Int) (b : Int) (u : Nat) (hu : u ≤ p.length) {v : Int} {n : Nat} (h : draw1 p b u = some (v, n)) : u ≤ n ∧ n ≤ p.length ∧ (b ≠ 1 → u < n) := by
 unfold draw1 at h
 by_cases hb : b = 1
 ·rw [if_pos hb] at h
  simp only [Option.some.injEq, Prod.mk.injEq] at h
  obtain ⟨rfl, rfl⟩ := h
  exact ⟨Nat.le_refl _, hu, fun h => absurd hb h⟩
 ·rw [if_neg hb] at h
  obtain ⟨j, hj, h⟩ := Option.map_eq_some_iff.1 h
  simp only [Prod.mk.injEq] at h
  obtain ⟨rfl, rfl⟩ := h
  have := scan_some p b _ u j hj
  exact ⟨by omega, by omega, fun _ => by omega⟩
theorem ref1 (p : List Int) (b : Int) (h1 : 1 ≤ b) (h2 : b ≤ 256) (hp : ∀ x ∈ p, 0 ≤ x ∧ x ≤ 255) (hl : p.length ≤ 9223372036854775000) (u k : Nat) (hu : u ≤ p.length) (hk : p.length - u + 2 ≤ k) :
  churnref10_Below.f k p (u : Int) b = some (match draw1 p b u with | some (v, n) => (v, (n : Int), 0) | none => (0, 0, 3)) := by
 obtain ⟨k, rfl⟩ : ∃ m, k = m + 1 := ⟨k - 1, by omega⟩
 unfold churnref10_Below.f
 rw [if_neg (by omega), churnref10_Below.j0, if_neg (by simp; omega)]
 unfold draw1
 by_cases hb : b = 1
 ·rw [if_pos hb, if_pos hb]
 ·rw [if_neg hb, if_neg hb, ref_below p b h1 h2 hp hl (p.length - u) u k (by omega) (by omega), below_scan]
  cases scan p b (p.length - u) u <;> rfl
theorem okBound_of (b : Int) (h1 : 1 ≤ b) (h2 : b ≤ 256) : okBound b = true := by unfold okBound; simp; omega
theorem drw1 (p : List Int) (b : Int) (h1 : 1 ≤ b) (h2 : b ≤ 256) (hp : ∀ x ∈ p, 0 ≤ x ∧ x ≤ 255) (hl : p.length ≤ 9223372036854775000) (u k : Nat) (hu : u ≤ p.length) (hk : p.length - u + 1 ≤ k) :
  draw_Below.f k (strOfNums p) (u : Int) b = some (match draw1 p b u with | some (v, n) => (v, strOfNums p, (n : Int), 0) | none => (0, ⟨#[]⟩, 0, 3)) := by
 unfold draw_Below.f
 rw [isBound_f, Option.bind_some, if_pos (okBound_of b h1 h2)]
 unfold draw1
 by_cases hb : b = 1
 ·rw [if_pos hb, if_pos hb]
 ·rw [if_neg hb, if_neg hb, draw_below p b h1 h2 hp hl (p.length - u) u k (by omega) (by omega), below_scan]
  cases scan p b (p.length - u) u <;> rfl
def run (p : List Int) : List Int → Nat → List (Int × Int) → List (Int × Int) × Int × Int
 | [], u, L => (L, (u : Int), 0)
 | b :: bs, u, L => match draw1 p b u with
  | some (v, n) => run p bs n (L ++ [(v, (n : Int) - 1)])
  | none => (L, 0, 3)
end Go.Proofs.Ytbnifpfnjhdenaa.Pl
end
section
set_option linter.unusedVariables false
set_option linter.unusedSimpArgs false
namespace Go.Proofs.Ytbnifpfnjhdenaa.Pl
open Go.RowKit Go.Proofs.Ytbnifpfnjhdenaa.Q Go.Proofs.YtbnifpfnjhdenaaW.PrintWords Go.Proofs.YtbnifpfnjhdenaaW.PrintLast
def AllOk (bs : List Int) : Prop := ∀ b ∈ bs, 1 ≤ b ∧ b ≤ 256
theorem allOk_at {bs : List Int} (h : AllOk bs) (i : Nat) (hi : i < bs.length) : 1 ≤ rd bs (i : Int) ∧ rd bs (i : Int) ≤ 256 := h _ (rd_mem bs (i : Int) (by simpa using hi))
def allR (q : List (Int × Int) × Int × Int) : List Int × Int × Int := if q.2.2 = 0 then (q.1.map (·.1), q.2.1, 0) else ([], 0, q.2.2)
theorem ref_all (p bs : List Int) (hb : AllOk bs) (hp : ∀ x ∈ p, 0 ≤ x ∧ x ≤ 255) (hl : p.length ≤ 9223372036854775000) (hbl : bs.length ≤ 17592186044000) :
  ∀ (rem i u k : Nat) (L : List (Int × Int)), i + rem = bs.length → L.length = i → u ≤ p.length → p.length + rem + 3 ≤ k → churnref10_All.l0 k p bs (L.map (·.1)) (u : Int) (i : Int) = some (allR (run p (bs.drop i) u L)) := by
 intro rem
 induction rem with
 | zero =>
  intro i u k L hi hL hu hk
  obtain ⟨k, rfl⟩ : ∃ m, k = m + 1 := ⟨k - 1, by omega⟩
  rw [churnref10_All.l0, if_neg (by omega), List.drop_eq_nil_of_le (by omega)]
  rfl
 | succ rem ih =>
  intro i u k L hi hL hu hk
  obtain ⟨k, rfl⟩ : ∃ m, k = m + 1 := ⟨k - 1, by omega⟩
  obtain ⟨b1, b2⟩ := allOk_at hb i (by omega)
  rw [churnref10_All.l0, if_pos (by omega), if_pos (by omega), ref1 p _ b1 b2 hp hl u k hu (by omega), Option.bind_some, drop_rd bs i (by omega), run]
  cases hd : draw1 p (rd bs (i : Int)) u with
  | none => rfl
  | some q =>
   obtain ⟨v, n⟩ := q
   have hn := draw1_le p _ u hu hd
   simp only
   rw [if_pos trivial, if_pos (by simp; omega), w64 (by omega) (by omega)]
   have := ih (i + 1) n k (L ++ [(v, (n : Int) - 1)]) (by omega) (by simp; omega) hn.2.1 (by omega)
   rw [List.map_append] at this
   exact this
theorem drw_all (G : Nat → Int → Int → Bool) (p bs : List Int) (hb : AllOk bs) (hp : ∀ x ∈ p, 0 ≤ x ∧ x ≤ 255) (hl : p.length ≤ 9223372036854775000)
  (hG : ∀ (i u n : Nat) (v : Int), i < bs.length → u ≤ p.length → draw1 p (rd bs (i : Int)) u = some (v, n) → G i ((n : Int) - 1) v = true) :
  ∀ (rem i u k : Nat) (L : List (Int × Int)), i + rem = bs.length → L.length = i → u ≤ p.length → p.length + rem + 3 ≤ k → eachl G k bs (strOfNums p) (u : Int) L = some (run p (bs.drop i) u L) := by
 intro rem
 induction rem with
 | zero =>
  intro i u k L hi hL hu hk
  obtain ⟨k, rfl⟩ : ∃ m, k = m + 1 := ⟨k - 1, by omega⟩
  rw [eachl, if_neg (by omega), List.drop_eq_nil_of_le (by omega)]
  rfl
 | succ rem ih =>
  intro i u k L hi hL hu hk
  obtain ⟨k, rfl⟩ : ∃ m, k = m + 1 := ⟨k - 1, by omega⟩
  obtain ⟨b1, b2⟩ := allOk_at hb i (by omega)
  have hrd : bs.getD L.length 0 = rd bs (i : Int) := by rw [hL, rd_nat]
  rw [eachl, if_pos (by omega), hrd, drw1 p _ b1 b2 hp hl u k hu (by omega), Option.bind_some, drop_rd bs i (by omega), run]
  cases hd : draw1 p (rd bs (i : Int)) u with
  | none => rfl
  | some q =>
   obtain ⟨v, n⟩ := q
   have hn := draw1_le p _ u hu hd
   simp only
   rw [if_pos trivial, w64 (x := (n : Int) - 1) (by omega) (by omega), if_pos (by rw [hL]; exact hG i u n v (by omega) hu hd)]
   exact ih (i + 1) n k (L ++ [(v, (n : Int) - 1)]) (by omega) (by simp; omega) hn.2.1 (by omega)
theorem run_len (p : List Int) : ∀ (bs : List Int) (u : Nat) (L : List (Int × Int)), (run p bs u L).2.2 = 0 → (run p bs u L).1.length = L.length + bs.length := by
 intro bs
 induction bs with
 | nil => intro u L h; rfl
 | cons b bs ih =>
  intro u L h
  rw [run] at h ⊢
  cases hd : draw1 p b u with
  | none => rw [hd] at h; exact absurd (show (3 : Int) = 0 from h) (by decide)
  | some q =>
   obtain ⟨v, n⟩ := q
   rw [hd] at h
   simp only at h ⊢
   rw [ih n _ h]
   simp
   omega
theorem wrong_ev (bs : List Int) (hl : bs.length ≤ 9223372036854775000) : Ev (fun k => churnref10_wrong.f k bs) (bs.any fun b => !okBound b) := by
 have key : ∀ (d i : Nat), i + d = bs.length → Ev (fun k => churnref10_wrong.l0 k bs (i : Int)) ((bs.drop i).any fun b => !okBound b) := by
  intro d
  induction d with
  | zero =>
   intro i hi
   rw [List.drop_eq_nil_of_le (by omega)]
   exact Ev.step (f := fun _ => some false) (fun k => by rw [churnref10_wrong.l0, if_neg (by omega)]) (Ev.now _)
  | succ d ih =>
   intro i hi
   rw [drop_rd bs i (by omega), List.any_cons]
   by_cases h1 : rd bs (i : Int) < 1
   ·have : okBound (rd bs (i : Int)) = false := by unfold okBound; simp; omega
    rw [this]
    exact Ev.step (f := fun _ => some true) (fun k => by rw [churnref10_wrong.l0, if_pos (by omega), if_pos (by omega), if_pos h1]) (Ev.now _)
   ·by_cases h2 : rd bs (i : Int) > 256
    ·have : okBound (rd bs (i : Int)) = false := by unfold okBound; simp; omega
     rw [this]
     exact Ev.step (f := fun _ => some true) (fun k => by rw [churnref10_wrong.l0, if_pos (by omega), if_pos (by omega), if_neg h1, if_pos h2]) (Ev.now _)
    ·have : okBound (rd bs (i : Int)) = true := okBound_of _ (by omega) (by omega)
     rw [this]
     exact Ev.step (fun k => by rw [churnref10_wrong.l0, if_pos (by omega), if_pos (by omega), if_neg h1, if_neg h2, w64 (by omega) (by omega)]; rfl) (ih (i + 1) (by omega))
 exact key bs.length 0 (by omega)
theorem allOk_of {bs : List Int} (h : (bs.any fun b => !okBound b) = false) : AllOk bs := by
 intro b hb
 have := (List.any_eq_false.1 h) b hb
 simp [okBound] at this
 omega
end Go.Proofs.Ytbnifpfnjhdenaa.Pl
end
section
set_option linter.unusedVariables false
set_option linter.unusedSimpArgs false
namespace Go.Proofs.Ytbnifpfnjhdenaa.Pl
open Go.RowKit Go.Proofs.Ytbnifpfnjhdenaa.Q Go.Proofs.YtbnifpfnjhdenaaW.PrintWords Go.Proofs.YtbnifpfnjhdenaaW.PrintLast
def allA (p bs : List Int) : List Int × Int × Int := if (bs.any fun b => !okBound b) = true then ([], 0, 2) else allR (run p bs 0 [])
theorem ref_all_ev (p bs : List Int) (hp : ∀ x ∈ p, 0 ≤ x ∧ x ≤ 255) (hl : p.length ≤ 140737488351232) (hbl : bs.length ≤ 17592186043904) : Ev (fun k => churnref10_All.f k p bs) (allA p bs) := by
 unfold churnref10_All.f allA
 refine ev_bind (wrong_ev bs (by omega)) ?_
 by_cases h : (bs.any fun b => !okBound b) = true
 ·refine ev_pos h (ev_some ?_)
  rw [if_pos h]
 ·refine ev_neg h (ev_pos (by omega) (ev_pos (by omega) ?_))
  rw [if_neg h]
  exact ⟨p.length + bs.length + 3, fun k hk => ref_all p bs (allOk_of (by simpa using h)) hp (by omega) (by omega) bs.length 0 0 k [] (by omega) rfl (by omega) (by omega)⟩
theorem drw_all_f (p bs : List Int) (hp : ∀ x ∈ p, 0 ≤ x ∧ x ≤ 255) (hl : p.length ≤ 140737488351232) (hbl : bs.length ≤ 17592186043904) : draw_All.f p bs = some (allA p bs) := by
 unfold draw_All.f allA eachf
 rw [if_pos (by omega)]
 by_cases h : (bs.any fun b => !okBound b) = true
 ·rw [if_pos h, if_pos h]
  rfl
 ·have hd : eachl (fun _ _ _ => true) (p.length + bs.length + 5) bs (strOfNums p) 0 [] = some (run p bs 0 []) := drw_all _ p bs (allOk_of (by simpa using h)) hp (by omega) (fun _ _ _ _ _ _ _ => rfl) bs.length 0 0 _ [] (by omega) rfl (by omega) (by omega)
  rw [if_neg h, if_neg h, hd, Option.bind_some]
  unfold allR
  by_cases e : (run p bs 0 []).2.2 = 0
  ·rw [if_pos e, if_pos e]
   have := run_len p bs 0 [] e
   unfold filled
   rw [this]
   simp
  ·rw [if_neg e, if_neg e]
end Go.Proofs.Ytbnifpfnjhdenaa.Pl
end
section
set_option linter.unusedVariables false
set_option linter.unusedSimpArgs false
namespace Go.Proofs.Ytbnifpfnjhdenaa.Pl
open Go.RowKit Go.Proofs.Ytbnifpfnjhdenaa.Q Go.Proofs.YtbnifpfnjhdenaaW.PrintWords Go.Proofs.YtbnifpfnjhdenaaW.PrintLast
theorem draw1_one (p : List Int) (u : Nat) : draw1 p 1 u = some (0, u) := rfl
end Go.Proofs.Ytbnifpfnjhdenaa.Pl
end
section
set_option linter.unusedVariables false
set_option linter.unusedSimpArgs false
namespace Go.Proofs.Ytbnifpfnjhdenaa.Pl
open Go.RowKit Go.Proofs.Ytbnifpfnjhdenaa.Q Go.Proofs.YtbnifpfnjhdenaaW.PrintWords Go.Proofs.YtbnifpfnjhdenaaW.PrintLast
def dr (p : List Int) : List Int → Nat → Option (List Int × Nat)
 | [], u => some ([], u)
 | b :: bs, u => (draw1 p b u).bind fun q => (dr p bs q.2).map fun r => (q.1 :: r.1, r.2)
theorem run_dr (p : List Int) : ∀ (bs : List Int) (u : Nat) (L : List (Int × Int)),
  match dr p bs u with
  | some r => (run p bs u L).2.2 = 0 ∧ (run p bs u L).2.1 = (r.2 : Int) ∧ (run p bs u L).1.map (·.1) = L.map (·.1) ++ r.1
  | none => (run p bs u L).2.2 = 3 := by
 intro bs
 induction bs with
 | nil => intro u L; exact ⟨rfl, rfl, by simp [run]⟩
 | cons b bs ih =>
  intro u L
  rw [dr, run]
  cases draw1 p b u with
  | none => rfl
  | some q =>
   obtain ⟨v, n⟩ := q
   have := ih n (L ++ [(v, (n : Int) - 1)])
   simp only [Option.bind_some]
   cases h : dr p bs n with
   | none => rw [h] at this; exact this
   | some r =>
    rw [h] at this
    simp only [Option.map_some]
    exact ⟨this.1, this.2.1, by rw [this.2.2]; simp⟩
def drA (p bs : List Int) : List Int × Int × Int := if (bs.any fun b => !okBound b) = true then ([], 0, 2) else match dr p bs 0 with | some r => (r.1, (r.2 : Int), 0) | none => ([], 0, 3)
theorem allA_dr (p bs : List Int) : allA p bs = drA p bs := by
 unfold allA drA allR
 split
 ·rfl
 ·have := run_dr p bs 0 []
  cases h : dr p bs 0 with
  | none => rw [h] at this; simp only at this; rw [this]; rfl
  | some r =>
   rw [h] at this
   simp only at this
   rw [this.1, if_pos rfl, this.2.1, this.2.2]
   rfl
theorem scan_iff (p : List Int) (b : Int) : ∀ (d u j : Nat), scan p b d u = some j ↔ u ≤ j ∧ j < u + d ∧ taken p b j ∧ ∀ i, u ≤ i → i < j → ¬ taken p b i := by
 intro d
 induction d with
 | zero => intro u j; simp [scan]; omega
 | succ d ih =>
  intro u j
  unfold scan
  by_cases ht : taken p b u
  ·rw [if_pos ht]
   constructor
   ·intro h
    obtain rfl := Option.some.inj h
    exact ⟨Nat.le_refl _, by omega, ht, fun i h1 h2 => by omega⟩
   ·rintro ⟨h1, h2, h3, h4⟩
    by_cases e : u = j
    ·rw [e]
    ·exact absurd ht (h4 u (Nat.le_refl _) (by omega))
  ·rw [if_neg ht, ih]
   constructor
   ·rintro ⟨h1, h2, h3, h4⟩
    refine ⟨by omega, by omega, h3, fun i h5 h6 => ?_⟩
    by_cases e : i = u
    ·rw [e]; exact ht
    ·exact h4 i (by omega) h6
   ·rintro ⟨h1, h2, h3, h4⟩
    refine ⟨?_, by omega, h3, fun i h5 h6 => h4 i (by omega) h6⟩
    by_cases e : u = j
    ·rw [← e] at h3; exact absurd h3 ht
    ·omega
theorem draw1_iff (p : List Int) (b : Int) (hb : b ≠ 1) (u : Nat) (hu : u ≤ p.length) (v : Int) (n : Nat) : draw1 p b u = some (v, n) ↔ u < n ∧ n ≤ p.length ∧ taken p b (n - 1) ∧ (∀ i, u ≤ i → i < n - 1 → ¬ taken p b i) ∧ v = Int.tmod (rd p ((n - 1 : Nat) : Int)) b := by
 unfold draw1
 rw [if_neg hb, Option.map_eq_some_iff]
 constructor
 ·rintro ⟨j, hj, h⟩
  rw [scan_iff] at hj
  simp only [Prod.mk.injEq] at h
  obtain ⟨rfl, rfl⟩ := h
  exact ⟨by omega, by omega, hj.2.2.1, fun i h1 h2 => hj.2.2.2 i h1 (by omega), rfl⟩
 ·rintro ⟨h1, h2, h3, h4, rfl⟩
  exact ⟨n - 1, (scan_iff p b _ _ _).2 ⟨by omega, by omega, h3, h4⟩, by simp; omega⟩
end Go.Proofs.Ytbnifpfnjhdenaa.Pl
end
section
set_option linter.unusedVariables false
set_option linter.unusedSimpArgs false
namespace Go.Proofs.Ytbnifpfnjhdenaa.Pl
open Go.RowKit Go.Proofs.Ytbnifpfnjhdenaa.Q Go.Proofs.YtbnifpfnjhdenaaW.PrintWords Go.Proofs.YtbnifpfnjhdenaaW.PrintLast
def Tn (p q : List Int) : List Int → List Int → List Int → Nat → Nat → Prop
 | [], [], [], u, n => n = u
 | b :: bs, v :: vs, w :: ws, u, n => ∃ m, draw1 p b u = some (v, m) ∧ u ≤ m ∧ (∀ i, u ≤ i → i + 1 < m → rd q (i : Int) = rd p (i : Int)) ∧ (b ≠ 1 → rd q ((m - 1 : Nat) : Int) = rd p ((m - 1 : Nat) : Int) - v + w) ∧ Tn p q bs vs ws m n
 | _, _, _, _, _ => False
def Bytes (p : List Int) : Prop := ∀ x ∈ p, 0 ≤ x ∧ x ≤ 255
theorem bytes_rd {p : List Int} (h : Bytes p) (i : Nat) : 0 ≤ rd p (i : Int) ∧ rd p (i : Int) ≤ 255 := by
 by_cases hi : i < p.length
 ·exact h _ (rd_mem p (i : Int) (by simpa using hi))
 ·rw [rd_nat, List.getD_eq_getElem?_getD, List.getElem?_eq_none (by omega)]
  exact ⟨by decide, by decide⟩
theorem turn_one (x b w : Int) (hx : 0 ≤ x) (h1 : 1 ≤ b) (h2 : b ≤ 256) (ht : x < 256 - 256 % b) (hw0 : 0 ≤ w) (hw : w < b) :
  0 ≤ x - Int.tmod x b + w ∧ x - Int.tmod x b + w ≤ 255 ∧ x - Int.tmod x b + w < 256 - 256 % b ∧ Int.tmod (x - Int.tmod x b + w) b = w := by
 rw [Int.tmod_eq_emod_of_nonneg hx]
 have e1 := Int.mul_ediv_add_emod x b
 have e2 := Int.mul_ediv_add_emod 256 b
 have m1 := Int.emod_nonneg x (show b ≠ 0 by omega)
 have m2 := Int.emod_lt_of_pos x (show 0 < b by omega)
 have q0 := Int.ediv_nonneg hx (show 0 ≤ b by omega)
 have m3 := Int.emod_nonneg 256 (show b ≠ 0 by omega)
 have hq : x / b < 256 / b := by
  have : x < 256 / b * b := by rw [Int.mul_comm]; omega
  exact Int.ediv_lt_of_lt_mul (by omega) this
 have hmul : b * (x / b) + b ≤ b * (256 / b) := by
  have h := Int.mul_le_mul_of_nonneg_left (show x / b + 1 ≤ 256 / b by omega) (show 0 ≤ b by omega)
  rw [Int.mul_add, Int.mul_one] at h
  exact h
 have hnn : 0 ≤ b * (x / b) := Int.mul_nonneg (by omega) q0
 have ey : x - x % b + w = b * (x / b) + w := by omega
 rw [ey]
 refine ⟨by omega, by omega, by omega, ?_⟩
 rw [Int.tmod_eq_emod_of_nonneg (by omega), Int.mul_add_emod_self_left]
 exact Int.emod_eq_of_lt hw0 hw
def Valid : List Int → List Int → Prop
 | [], [] => True
 | b :: bs, w :: ws => 0 ≤ w ∧ w < b ∧ Valid bs ws
 | _, _ => False
theorem draw1_valid (p : List Int) (hp : Bytes p) (b : Int) (h1 : 1 ≤ b) (u : Nat) (hu : u ≤ p.length) (v : Int) (m : Nat) (h : draw1 p b u = some (v, m)) : 0 ≤ v ∧ v < b := by
 by_cases hb : b = 1
 ·subst hb
  rw [draw1_one] at h
  simp only [Option.some.injEq, Prod.mk.injEq] at h
  omega
 ·rw [draw1_iff p b hb u hu] at h
  obtain ⟨_, _, _, _, rfl⟩ := h
  have hx := bytes_rd hp (m - 1)
  rw [Int.tmod_eq_emod_of_nonneg hx.1]
  exact ⟨Int.emod_nonneg _ (by omega), Int.emod_lt_of_pos _ (by omega)⟩
theorem dr_valid (p : List Int) (hp : Bytes p) : ∀ (bs : List Int) (u : Nat), AllOk bs → u ≤ p.length → ∀ r, dr p bs u = some r → Valid bs r.1 := by
 intro bs
 induction bs with
 | nil => intro u _ hu r h; obtain rfl := Option.some.inj h; trivial
 | cons b bs ih =>
  intro u hb hu r h
  rw [dr] at h
  obtain ⟨⟨v, n⟩, h1, h2⟩ := Option.bind_eq_some_iff.1 h
  obtain ⟨s, h3, rfl⟩ := Option.map_eq_some_iff.1 h2
  have a := draw1_le p b u hu h1
  have hv := draw1_valid p hp b (hb b List.mem_cons_self).1 u hu v n h1
  exact ⟨hv.1, hv.2, ih n (fun x hx => hb x (List.mem_cons_of_mem _ hx)) a.2.1 s h3⟩
theorem Tn.dr {p q : List Int} : ∀ {bs vs ws : List Int} {u n : Nat}, Tn p q bs vs ws u n → dr p bs u = some (vs, n)
 | [], [], [], u, n, h => by rw [Pl.dr]; rw [show n = u from h]
 | b :: bs, v :: vs, w :: ws, u, n, h => by
  obtain ⟨m, h1, _, _, _, h5⟩ := h
  rw [Pl.dr, h1, Option.bind_some, Tn.dr h5]
  rfl
 | [], _ :: _, _, _, _, h => h.elim
 | [], [], _ :: _, _, _, h => h.elim
 | _ :: _, [], _, _, _, h => h.elim
 | _ :: _, _ :: _, [], _, _, h => h.elim
theorem back_one {p q : List Int} (hp : Bytes p) (hl : q.length = p.length) (b v w : Int) (u m : Nat) (ob : 1 ≤ b ∧ b ≤ 256) (hv : 0 ≤ w ∧ w < b) (hu : u ≤ p.length) (h1 : draw1 p b u = some (v, m))
  (h3 : ∀ i, u ≤ i → i + 1 < m → rd q (i : Int) = rd p (i : Int)) (h4 : b ≠ 1 → rd q ((m - 1 : Nat) : Int) = rd p ((m - 1 : Nat) : Int) - v + w) : draw1 q b u = some (w, m) := by
 by_cases hb1 : b = 1
 ·subst hb1
  have hw : w = 0 := by omega
  rw [draw1_one] at h1 ⊢
  simp only [Option.some.injEq, Prod.mk.injEq] at h1 ⊢
  exact ⟨hw.symm, h1.2⟩
 ·rw [draw1_iff p b hb1 u hu] at h1
  obtain ⟨k1, k2, k3, k4, k5⟩ := h1
  have hx := bytes_rd hp (m - 1)
  have ht := turn_one _ b w hx.1 ob.1 ob.2 k3 hv.1 hv.2
  have e := h4 hb1
  rw [k5] at e
  rw [← e] at ht
  rw [draw1_iff q b hb1 u (by omega)]
  refine ⟨k1, by omega, ht.2.2.1, fun i h6 h7 => ?_, ht.2.2.2.symm⟩
  unfold taken
  rw [h3 i h6 (by omega)]
  exact k4 i h6 h7
theorem Tn.back {p q : List Int} (hp : Bytes p) (hl : q.length = p.length) : ∀ {bs vs ws : List Int} {u n : Nat}, AllOk bs → Valid bs ws → u ≤ p.length → Tn p q bs vs ws u n → Tn q p bs ws vs u n
 | [], [], [], u, n, _, _, _, h => h
 | b :: bs, v :: vs, w :: ws, u, n, hb, hv, hu, h => by
  obtain ⟨m, h1, h2, h3, h4, h5⟩ := h
  have a := draw1_le p b u hu h1
  have ob := hb b List.mem_cons_self
  exact ⟨m, back_one hp hl b v w u m ob ⟨hv.1, hv.2.1⟩ hu h1 h3 h4, h2, fun i h6 h7 => (h3 i h6 h7).symm, fun hb1 => by rw [h4 hb1]; omega, Tn.back hp hl (fun x hx => hb x (List.mem_cons_of_mem _ hx)) hv.2.2 a.2.1 h5⟩
 | [], _ :: _, _, _, _, _, _, _, h => h.elim
 | [], [], _ :: _, _, _, _, _, _, h => h.elim
 | _ :: _, [], _, _, _, _, _, _, h => h.elim
 | _ :: _, _ :: _, [], _, _, _, _, _, h => h.elim
theorem Tn.on {p r q : List Int} (hp : Bytes p) (hl : r.length = p.length) : ∀ {bs vs zs ws : List Int} {u n n' : Nat}, AllOk bs → Valid bs zs → u ≤ p.length → Tn p r bs vs zs u n → Tn r q bs zs ws u n' → Tn p q bs vs ws u n
 | [], [], [], [], u, n, n', _, _, _, h, _ => h
 | b :: bs, v :: vs, z :: zs, w :: ws, u, n, n', hb, hv, hu, h, h' => by
  obtain ⟨m, h1, h2, h3, h4, h5⟩ := h
  obtain ⟨m', k1, k2, k3, k4, k5⟩ := h'
  have a := draw1_le p b u hu h1
  have ob := hb b List.mem_cons_self
  have e := back_one hp hl b v z u m ob ⟨hv.1, hv.2.1⟩ hu h1 h3 h4
  have e1 : m' = m := by
   rw [e] at k1
   simp only [Option.some.injEq, Prod.mk.injEq] at k1
   exact k1.2.symm
  subst e1
  refine ⟨m', h1, h2, fun i h6 h7 => by rw [k3 i h6 h7, h3 i h6 h7], fun hb1 => by rw [k4 hb1, h4 hb1]; omega, Tn.on hp hl (fun x hx => hb x (List.mem_cons_of_mem _ hx)) hv.2.2 a.2.1 h5 k5⟩
 | [], _ :: _, _, _, _, _, _, _, _, _, h, _ => h.elim
 | [], [], _ :: _, _, _, _, _, _, _, _, h, _ => h.elim
 | _ :: _, [], _, _, _, _, _, _, _, _, h, _ => h.elim
 | _ :: _, _ :: _, [], _, _, _, _, _, _, _, h, _ => h.elim
 | [], [], [], _ :: _, _, _, _, _, _, _, _, h => h.elim
 | _ :: _, _ :: _, _ :: _, [], _, _, _, _, _, _, _, h => h.elim
theorem Tn.same {p q r : List Int} : ∀ {bs vs ws : List Int} {u n n' : Nat}, u ≤ p.length → Tn p q bs vs ws u n → Tn p r bs vs ws u n' → ∀ i, u ≤ i → i < n → rd q (i : Int) = rd r (i : Int)
 | [], [], [], u, n, n', _, h, _, i, h1, h2 => by
  have : n = u := h
  omega
 | b :: bs, v :: vs, w :: ws, u, n, n', hu, h, g, i, i1, i2 => by
  obtain ⟨m, h1, h2, h3, h4, h5⟩ := h
  obtain ⟨m', g1, g2, g3, g4, g5⟩ := g
  have e1 : m' = m := by
   rw [h1] at g1
   simp only [Option.some.injEq, Prod.mk.injEq] at g1
   exact g1.2.symm
  subst e1
  have a := draw1_le p b u hu h1
  by_cases c : m' ≤ i
  ·exact Tn.same a.2.1 h5 g5 i c i2
  ·by_cases c2 : i + 1 < m'
   ·rw [h3 i i1 c2, g3 i i1 c2]
   ·have hb : b ≠ 1 := by
     intro hb
     subst hb
     rw [draw1_one] at h1
     simp only [Option.some.injEq, Prod.mk.injEq] at h1
     omega
    have : i = m' - 1 := by omega
    rw [this, h4 hb, g4 hb]
 | [], _ :: _, _, _, _, _, _, h, _, _, _, _ => h.elim
 | [], [], _ :: _, _, _, _, _, h, _, _, _, _ => h.elim
 | _ :: _, [], _, _, _, _, _, h, _, _, _, _ => h.elim
 | _ :: _, _ :: _, [], _, _, _, _, h, _, _, _, _ => h.elim
end Go.Proofs.Ytbnifpfnjhdenaa.Pl
end
section
namespace Go.Proofs.Ytbnifpfnjhdenaa.Q
open Go.RowKit Go.Proofs.YtbnifpfnjhdenaaW.PrintWords Go.Proofs.YtbnifpfnjhdenaaW.PrintLast Go.Proofs.YtbnifpfnjhdenaaW.PrintMore
open Go.Proofs.YtbnifpfnjhdenaaW.PrintLast renaming i64_w → jE, i32_w → jG
open Go.Proofs.YtbnifpfnjhdenaaW.PrintMore renaming max_three → jO, min_three → jP, max2_int → jS, min2_int → jT, max_four → jU, min_four → jV, max_two → Ja, min_two → Jb
open Go.Proofs.YtbnifpfnjhdenaaW.PrintWords renaming below_size → ja, below_step → jh, blk_drew → jl, blk_alloc → jm, blk_drewN → jn, blk_below → jq, blk_put → jt, gate_callee → jv, gate_dst → jx, box_event → jJ, gate_builtin → jK, below_drew1 → jM, below_set → jR, gate_guard → jW, blk_lt → jX, blk_far → jY, add_plain → Jg, pw_below_drewN → Jh
open Go.Proofs.YtbnifpfnjhdenaaW.PrintWords.Kd renaming int → jb, R_mono → jc, R_far → jd, R_below → je, R_base → jf, R_reads' → jg, R_elder' → ji, R_lt → jj, R_new' → jk, R_lower → jo, R_slice → jp, R_drew → jr, R_types → js, R → ju, C_below → jw, slice → jy, S_mono → jz, S_far → jA, R_over' → jB, R_after → jC, S_below → jD, R_typed → jF, at_int → jH, fresh' → jI, R_celln → jL, S_elder' → jN, S_reads' → jQ, S_slice → jZ, S_typed → Jc, S_types → Jd, S_drew → Je, C → Jf, R_append → Ji
attribute [local go_sem] jS jT Ja Jb jO jP jU jV
set_option linter.unusedVariables false
set_option linter.unusedSimpArgs false
def churnref11_Check.l0 : Nat → List Int → List Bool → Int → Option (Int)
 | 0, _, _, _ => none
 | k + 1, x0, x3, x4 => if x4 < (x0.length : Int) then (if 0 ≤ x4 then (if (rd x0 x4) < 0 then (some 110) else (if (rd x0 x4) ≥ (x0.length : Int) then (some 110) else (if 0 ≤ (rd x0 x4) then (if (rd x0 x4) < (x3.length : Int) then (if rdOf false x3 (rd x0 x4) = true then (some 110) else (churnref11_Check.l0 k x0 (x3.set ((rd x0 x4) : Int).toNat true) (wrap64 (x4 + 1)))) else (none)) else (none)))) else (none)) else (some 0)
end Go.Proofs.Ytbnifpfnjhdenaa.Q
end
section
set_option linter.unusedVariables false
set_option linter.unusedSimpArgs false
namespace Go.Proofs.Ytbnifpfnjhdenaa.Pl
open Go.RowKit Go.Proofs.Ytbnifpfnjhdenaa.Q Go.Proofs.YtbnifpfnjhdenaaW.PrintWords Go.Proofs.YtbnifpfnjhdenaaW.PrintLast
def Fits (l : List Int) : Prop := (∀ x ∈ l, 0 ≤ x ∧ x < (l.length : Int)) ∧ l.Nodup
instance (l : List Int) : Decidable (Fits l) := by unfold Fits; infer_instance
def Seen (n : Nat) (seen : List Bool) (met : List Int) : Prop := seen.length = n ∧ ∀ v : Nat, v < n → (seen.getD v false = true ↔ (v : Int) ∈ met)
theorem Seen.start (n : Nat) : Seen n (List.replicate n false) [] := by
 refine ⟨by simp, fun v hv => ?_⟩
 simp [List.getD_eq_getElem?_getD, List.getElem?_replicate, hv]
theorem Seen.next {n : Nat} {seen : List Bool} {met : List Int} (h : Seen n seen met) (x : Int) (h0 : 0 ≤ x) (hx : x < n) : Seen n (seen.set x.toNat true) (met ++ [x]) := by
 refine ⟨by rw [List.length_set]; exact h.1, fun v hv => ?_⟩
 have hl := h.1
 rw [List.getD_eq_getElem?_getD, List.getElem?_set]
 by_cases e : x.toNat = v
 ·have : (v : Int) = x := by omega
  simp [e, this, hl, hv]
 ·have h1 := h.2 v hv
  rw [List.getD_eq_getElem?_getD] at h1
  simp only [e, if_false, h1, List.mem_append, List.mem_singleton]
  constructor
  ·exact Or.inl
  ·rintro (h2 | h2)
   ·exact h2
   ·omega
theorem Seen.at_ {n : Nat} {seen : List Bool} {met : List Int} (h : Seen n seen met) (x : Int) (h0 : 0 ≤ x) (hx : x < n) : (rdOf false seen x = true ↔ x ∈ met) := by
 have := h.2 x.toNat (by omega)
 rw [show ((x.toNat : Nat) : Int) = x from by omega] at this
 exact this
theorem fits_split (l : List Int) (i : Nat) (h : i < l.length) (hp : ∀ x ∈ l.take i, 0 ≤ x ∧ x < (l.length : Int)) (hn : (l.take i).Nodup) :
  (Fits l → 0 ≤ rd l (i : Int) ∧ rd l (i : Int) < (l.length : Int) ∧ rd l (i : Int) ∉ l.take i) := by
 intro hf
 have hm : rd l (i : Int) ∈ l := rd_mem l _ (by simpa using h)
 refine ⟨(hf.1 _ hm).1, (hf.1 _ hm).2, fun hc => ?_⟩
 have h2 : (l.take (i + 1)).Nodup := (List.take_sublist _ _).nodup hf.2
 rw [take_rd l i h, List.nodup_append] at h2
 exact h2.2.2 _ hc _ (List.mem_singleton.2 rfl) rfl
theorem fits_loops (l : List Int) (hl : l.length ≤ 9223372036854775000) (d : Nat) : ∀ (i : Nat) (seen : List Bool), i + d = l.length → Seen l.length seen (l.take i) →
  (∀ x ∈ l.take i, 0 ≤ x ∧ x < (l.length : Int)) → (l.take i).Nodup →
  Ev (fun k => perm_fits.l0 k l seen l (l.length : Int) (i : Int)) (decide (Fits l)) ∧ Ev (fun k => churnref11_Check.l0 k l seen (i : Int)) (if Fits l then 0 else 110) := by
 induction d with
 | zero =>
  intro i seen hi hs hp hn
  have hf : Fits l := by
   have h1 : l.take i = l := List.take_of_length_le (by omega)
   rw [h1] at hp hn
   exact ⟨hp, hn⟩
  rw [if_pos hf, decide_eq_true hf]
  exact ⟨Ev.step (f := fun _ => some true) (fun k => by rw [perm_fits.l0, if_neg (by omega)]) (ev_some rfl), Ev.step (f := fun _ => some 0) (fun k => by rw [churnref11_Check.l0, if_neg (by omega)]) (ev_some rfl)⟩
 | succ d ih =>
  intro i seen hi hs hp hn
  have hsp := fits_split l i (by omega) hp hn
  have hlen := hs.1
  by_cases h1 : rd l (i : Int) < 0
  ·have hf : ¬ Fits l := fun h => by have := (hsp h).1; omega
   rw [if_neg hf, decide_eq_false hf]
   exact ⟨Ev.step (f := fun _ => some false) (fun k => by rw [perm_fits.l0, if_pos (by omega), if_pos (by omega), if_pos (by omega), if_pos h1]) (ev_some rfl),
    Ev.step (f := fun _ => some 110) (fun k => by rw [churnref11_Check.l0, if_pos (by omega), if_pos (by omega), if_pos h1]) (ev_some rfl)⟩
  ·by_cases h2 : rd l (i : Int) ≥ (l.length : Int)
   ·have hf : ¬ Fits l := fun h => by have := (hsp h).2.1; omega
    rw [if_neg hf, decide_eq_false hf]
    exact ⟨Ev.step (f := fun _ => some false) (fun k => by rw [perm_fits.l0, if_pos (by omega), if_pos (by omega), if_pos (by omega), if_neg h1, if_pos h2]) (ev_some rfl),
     Ev.step (f := fun _ => some 110) (fun k => by rw [churnref11_Check.l0, if_pos (by omega), if_pos (by omega), if_neg h1, if_pos h2]) (ev_some rfl)⟩
   ·have hat := hs.at_ (rd l (i : Int)) (by omega) (by omega)
    by_cases h3 : rdOf false seen (rd l (i : Int)) = true
    ·have hf : ¬ Fits l := fun h => (hsp h).2.2 (hat.1 h3)
     rw [if_neg hf, decide_eq_false hf]
     exact ⟨Ev.step (f := fun _ => some false) (fun k => by rw [perm_fits.l0, if_pos (by omega), if_pos (by omega), if_pos (by omega), if_neg h1, if_neg h2, if_pos (by omega), if_pos (by omega), if_pos h3]) (ev_some rfl),
      Ev.step (f := fun _ => some 110) (fun k => by rw [churnref11_Check.l0, if_pos (by omega), if_pos (by omega), if_neg h1, if_neg h2, if_pos (by omega), if_pos (by omega), if_pos h3]) (ev_some rfl)⟩
    ·have hnx := hs.next (rd l (i : Int)) (by omega) (by omega)
     rw [← take_rd l i (by omega)] at hnx
     obtain ⟨e1, e2⟩ := ih (i + 1) _ (by omega) hnx (by
      rw [take_rd l i (by omega)]
      intro x hx
      rcases List.mem_append.1 hx with hx | hx
      ·exact hp x hx
      ·have := List.mem_singleton.1 hx
       subst this
       exact ⟨by omega, by omega⟩) (by
      rw [take_rd l i (by omega), List.nodup_append]
      refine ⟨hn, by simp, fun a ha b hb hab => ?_⟩
      have := List.mem_singleton.1 hb
      subst this
      subst hab
      exact h3 (hat.2 ha))
     refine ⟨Ev.step (fun k => ?_) e1, Ev.step (fun k => ?_) e2⟩
     ·rw [perm_fits.l0, if_pos (by omega), if_pos (by omega), if_pos (by omega), if_neg h1, if_neg h2, if_pos (by omega), if_pos (by omega), if_neg h3, w64 (by omega) (by omega)]
      rfl
     ·rw [churnref11_Check.l0, if_pos (by omega), if_pos (by omega), if_neg h1, if_neg h2, if_pos (by omega), if_pos (by omega), if_neg h3, w64 (by omega) (by omega)]
      rfl
theorem fits_ev (l : List Int) (hl : l.length ≤ 281474976710656) : Ev (fun k => perm_fits.f k l) (decide (Fits l)) := by
 unfold perm_fits.f
 refine ev_pos (by omega) (ev_pos (by omega) ?_)
 exact (fits_loops l (by omega) l.length 0 _ (by omega) (by simpa using Seen.start l.length) (by simp) (by simp)).1
def pick (p q : List Int) : List Int := p.map fun i => rd q i
end Go.Proofs.Ytbnifpfnjhdenaa.Pl
end
