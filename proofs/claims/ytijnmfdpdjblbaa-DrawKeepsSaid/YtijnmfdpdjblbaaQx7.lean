/- Functions of the program as plain Lean functions, each with a proof that its call comes to just these answers, or the row that joins them to the given statement; no condition beside the statement's own. Written for this claim by pf.py, this session's program over the kit's print. -/
import Derived.Test.YtijnmfdpdjblbaaQx0
import Derived.Test.YtijnmfdpdjblbaaQx1
import Derived.Test.YtijnmfdpdjblbaaQx5
import Derived.Test.YtijnmfdpdjblbaaQx6
namespace Go.Proofs.Ytijnmfdpdjblbaa.Q
open Go.RowKit Go.Proofs.YtijnmfdpdjblbaaW.PrintWords Go.Proofs.YtijnmfdpdjblbaaW.PrintLast Go.Proofs.YtijnmfdpdjblbaaW.PrintMore
attribute [local go_sem] max2_int min2_int max_two min_two max_three min_three max_four min_four   -- for this text's walks alone
set_option linter.unusedVariables false
set_option linter.unusedSimpArgs false

/-! ### draw_Turn: function 15 -/
def turnByte (x d w : Int) : Int := IntKind.u8.wrap (wrap64 (wrap64 (wrap64 x - d) + w))
def turnStep (p bs ws acc : List Int) (i : Nat) (d a : Int) : List Int := if 1 < bs.getD i 0 then acc.set a.toNat (turnByte (p.getD a.toNat 0) d (ws.getD i 0)) else acc
def turned (p bs ws : List Int) (L : List (Int × Int)) : List Int := L.zipIdx.foldl (fun acc x => turnStep p bs ws acc x.2 x.1.1 x.1.2) p
theorem turned_snoc (p bs ws : List Int) (L : List (Int × Int)) (d a : Int) : turned p bs ws (L ++ [(d, a)]) = turnStep p bs ws (turned p bs ws L) L.length d a := by
  unfold turned
  rw [List.zipIdx_append, List.foldl_append]
  simp
theorem turned_len (p bs ws : List Int) (L : List (Int × Int)) : (turned p bs ws L).length = p.length := by
  unfold turned
  suffices h : ∀ (M : List ((Int × Int) × Nat)) (acc : List Int), (M.foldl (fun acc x => turnStep p bs ws acc x.2 x.1.1 x.1.2) acc).length = acc.length from h _ _
  intro M
  induction M with
  | nil => intro acc; rfl
  | cons x M ih =>
    intro acc
    rw [List.foldl_cons, ih]
    unfold turnStep
    split
    · simp
    · rfl
def TurnG (p bs : List Int) (i : Nat) (a d : Int) : Bool := decide (1 < bs.getD i 0 → 0 ≤ a ∧ a < (p.length : Int))
def InvT (gp gb gw go B : Nat) (vp vb vw vo : Value) (p bs ws : List Int) (L : List (Int × Int)) (W : World) : Prop :=
  W.heap[gp]? = some (.cells #[vp] 22 (0, 0)) ∧ W.heap[gb]? = some (.cells #[vb] 23 (0, 0)) ∧ W.heap[gw]? = some (.cells #[vw] 23 (0, 0)) ∧ W.heap[go]? = some (.cells #[vo] 22 (0, 0)) ∧
  (Kd.int .u8).R 5 W B (fun k => k < go) vo (turned p bs ws L)
theorem invT_far {gp gb gw go B b : Nat} {vp vb vw vo : Value} {p bs ws : List Int} {L : List (Int × Int)} {W W' : World} (h1 : gp < b) (h2 : gb < b) (h3 : gw < b) (h4 : go < b) (hI : InvT gp gb gw go B vp vb vw vo p bs ws L W) (hb : Below b W W') : InvT gp gb gw go B vp vb vw vo p bs ws L W' :=
  ⟨(hb.block _ h1).trans hI.1, (hb.block _ h2).trans hI.2.1, (hb.block _ h3).trans hI.2.2.1, (hb.block _ h4).trans hI.2.2.2.1, Kd.R_step hI.2.2.2.2 (fun k hk _ => hb.block k (by omega))⟩
theorem cell_of {k : IntKind} {w : World} {A : Option Addr} {xs : List Int} (h : (Kd.int k).C w A xs.length xs) (i : Nat) (hi : i < xs.length) : ∃ ad, A = some ad ∧ w.cell? (ad.add i) = some (.int k (xs.getD i 0)) := by
  obtain ⟨ad, e, hc⟩ := (reads_C h).2.2 (by omega)
  exact ⟨ad, e, hc i hi⟩
set_option maxRecDepth 100000 in
set_option maxHeartbeats 4000000 in
theorem turn_cb (gp gb gw go : Nat) (A0 : Option Addr) (c0 : Nat) (l0 : List Int) (A1 : Option Addr) (c1 : Nat) (l1 : List Int) (A2 : Option Addr) (c2 : Nat) (l2 : List Int) (vo : Value) (w0 w : World) (L : List (Int × Int)) (d a : Int) (W : World)
    (hr0 : (Kd.int .u8).C w0 A0 l0.length l0) (hr1 : (Kd.int .i64).C w0 A1 l1.length l1) (hr2 : (Kd.int .i64).C w0 A2 l2.length l2) (hlen : l2.length = l1.length)
    (h4 : go < w.heap.size) (hL : L.length < l1.length) (hG : TurnG l0 l1 L.length a d = true)
    (hI : InvT gp gb gw go w0.heap.size (.slice A0 l0.length c0) (.slice A1 l1.length c1) (.slice A2 l2.length c2) vo l0 l1 l2 L W) (hB : Below w0.heap.size w0 W) :
    Calls Try.prog 27 (#[.int .i64 (L.length : Int), .int .i64 a, .int .i64 d] ++ #[.pointer (some ⟨gb, 0, none⟩), .pointer (some ⟨gp, 0, none⟩), .pointer (some ⟨gw, 0, none⟩), .pointer (some ⟨go, 0, none⟩)]) W fun e W' => e = .returned (.tuple #[]) ∧
      InvT gp gb gw go w0.heap.size (.slice A0 l0.length c0) (.slice A1 l1.length c1) (.slice A2 l2.length c2) vo l0 l1 l2 (L ++ [(d, a)]) W' ∧ Below w0.heap.size w0 W' ∧ Kept W W' (fun k => k < w.heap.size) := by
  obtain ⟨i1, i2, i3, i4, hR⟩ := hI
  obtain ⟨ad1, rfl, hc1⟩ := cell_of hr1 L.length hL
  have hc1' : W.cell? (ad1.add L.length) = some (.int .i64 (l1.getD L.length 0)) := (hB.cell (World.block_lt_of_cell? _ _ hc1)).trans hc1
  have hz1 : W.cell? ⟨gb, 0, none⟩ = some (.slice (some ad1) l1.length c1) := (blk_cell i2 0).trans rfl
  have hz0 : W.cell? ⟨gp, 0, none⟩ = some (.slice A0 l0.length c0) := (blk_cell i1 0).trans rfl
  have hz2 : W.cell? ⟨gw, 0, none⟩ = some (.slice A2 l2.length c2) := (blk_cell i3 0).trans rfl
  have hz3 : W.cell? ⟨go, 0, none⟩ = some vo := (blk_cell i4 0).trans rfl
  have hltz : (L.length : Int) < (l1.length : Int) := by omega
  have hl0 : 0 ≤ (L.length : Int) := by omega
  unfold TurnG at hG
  have hG' := of_decide_eq_true hG
  clear hG hc1
  obtain ⟨b, hb⟩ : ∃ b, l1.getD L.length 0 = b := ⟨_, rfl⟩
  rw [hb] at hc1' hG'
  by_cases hb1 : 1 < b
  · obtain ⟨a0, a1⟩ := hG' hb1
    obtain ⟨t, rfl⟩ := Int.eq_ofNat_of_zero_le a0
    have ht : t < l0.length := by omega
    obtain ⟨ad0, rfl, hc0⟩ := cell_of hr0 t ht
    have hc0' : W.cell? (ad0.add t) = some (.int .u8 (l0.getD t 0)) := (hB.cell (World.block_lt_of_cell? _ _ hc0)).trans hc0
    obtain ⟨ad2, rfl, hc2⟩ := cell_of hr2 L.length (by omega)
    have hc2' : W.cell? (ad2.add L.length) = some (.int .i64 (l2.getD L.length 0)) := (hB.cell (World.block_lt_of_cell? _ _ hc2)).trans hc2
    have htl := turned_len l0 l1 l2 L
    obtain ⟨g, cap, hv, hbg, hgW, cells, hcl⟩ := Kd.R_form hR (by omega)
    rw [htl] at hv
    subst hv
    have hgo : g < go := hR.1 g (by simp [Value.ownBlock])
    have hgp : g ≠ gp := by rintro rfl; rw [hcl] at i1; injection i1 with i1; injection i1 with _ i1; exact absurd i1 (by decide)
    have hgb : g ≠ gb := by rintro rfl; rw [hcl] at i2; injection i2 with i2; injection i2 with _ i2; exact absurd i2 (by decide)
    have hgw : g ≠ gw := by rintro rfl; rw [hcl] at i3; injection i3 with i3; injection i3 with _ i3; exact absurd i3 (by decide)
    obtain ⟨c, hcs, _, hcc, hff⟩ := Kd.R_elem hR (0 : Int) (t : Int) (by omega) (by omega)
    have hcell : ∃ u, W.cell? ⟨g, t, none⟩ = some u := by
      have h1 : c.length = 1 := hcs
      obtain ⟨u, hu⟩ : ∃ u, c[0]? = some u := ⟨c[0], List.getElem?_eq_getElem (by omega)⟩
      have := hcc 0 u hu
      rw [show (t : Int).toNat * (Kd.int .u8).sz + 0 = t from by rw [Int.toNat_natCast]; exact Nat.mul_one _] at this
      exact ⟨u, this⟩
    obtain ⟨u, hu⟩ := hcell
    have hfz : W.frozen? ⟨g, t, none⟩ = false := by
      have := hff 0
      rwa [show (t : Int).toNat * (Kd.int .u8).sz + 0 = t from by rw [Int.toNat_natCast]; exact Nat.mul_one _] at this
    obtain ⟨x, hx⟩ : ∃ x, l0.getD t 0 = x := ⟨_, rfl⟩
    obtain ⟨y, hy⟩ : ∃ y, l2.getD L.length 0 = y := ⟨_, rfl⟩
    rw [hx] at hc0'
    rw [hy] at hc2'
    have hR' := Kd.R_putn hR (t : Int) (turnByte x d y)
    rw [Int.toNat_natCast] at hR'
    have est : (turned l0 l1 l2 L).set t (turnByte x d y) = turned l0 l1 l2 (L ++ [(d, (t : Int))]) := by
      rw [turned_snoc]
      unfold turnStep
      rw [hb, if_pos hb1, Int.toNat_natCast, hx, hy]
    rw [est] at hR'
    replace hR' := Kd.R_drew hR'
    have F := Aside0.mk (show InvT gp gb gw go w0.heap.size (.slice (some ad0) l0.length c0) (.slice (some ad1) l1.length c1) (.slice (some ad2) l2.length c2) (.slice (some ⟨g, 0, none⟩) l0.length cap) l0 l1 l2 (L ++ [(d, (t : Int))]) ((W.setCell ⟨g, t, none⟩ (.int .u8 (turnByte x d y))).drew) ∧ Below w0.heap.size w0 ((W.setCell ⟨g, t, none⟩ (.int .u8 (turnByte x d y))).drew) ∧ Kept W ((W.setCell ⟨g, t, none⟩ (.int .u8 (turnByte x d y))).drew) (fun k => k < w.heap.size) from
      ⟨⟨blk_drew (blk_far i1 (Ne.symm hgp) _), blk_drew (blk_far i2 (Ne.symm hgb) _), blk_drew (blk_far i3 (Ne.symm hgw) _), blk_drew (blk_far i4 (by show go ≠ g; omega) _), hR'⟩, below_drew (below_set hB hbg), Kept.drew (Kept.setCell (Kept.refl _ _) (Or.inl (show g < w.heap.size by omega)) _)⟩)
    have hn0 : (ad0.add t).block ≠ g := by have := World.block_lt_of_cell? _ _ hc0; omega
    have hn2 : (ad2.add L.length).block ≠ g := by have := World.block_lt_of_cell? _ _ hc2; omega
    have hn3 : go ≠ g := by omega
    have HN := Aside0.mk (And.intro hn0 (And.intro hn2 (And.intro hn3 (And.intro hgp (And.intro hgw hgb)))))
    clear hn0 hn2 hn3 hgp hgw hgb hc0 hc2
    have htz : (t : Int) < (l0.length : Int) := by omega
    have hlz2 : (L.length : Int) < (l2.length : Int) := by omega
    have hdb : decide (b > 1) = true := decide_eq_true hb1
    clear hR hR' est hcl hcs hcc hff htl hG' i1 i2 i3 i4 hB hr0 hr1 hr2 hb hx hy hlen
    show Calls Try.prog 27 #[.int .i64 (L.length : Int), .int .i64 (t : Int), .int .i64 d, .pointer (some ⟨gb, 0, none⟩), .pointer (some ⟨gp, 0, none⟩), .pointer (some ⟨gw, 0, none⟩), .pointer (some ⟨go, 0, none⟩)] W _
    go_enter Try.func27, Try.ntmps27
    go_wp2
    refine start_ (n := 17) (S := fun w' => w'.cell? ⟨gp, 0, none⟩ = some (.slice (some ad0) l0.length c0) ∧ w'.cell? ⟨gw, 0, none⟩ = some (.slice (some ad2) l2.length c2) ∧ w'.cell? ⟨go, 0, none⟩ = some (.slice (some ⟨g, 0, none⟩) l0.length cap) ∧ w'.cell? (ad0.add t) = some (.int .u8 x) ∧ w'.cell? (ad2.add L.length) = some (.int .i64 y)) (ds := []) #[false, false, false, false, false, false, false, false, false, false, false, false, false, false, false, false, false] (by kernel_rfl) rfl rfl ⟨hz0, hz2, hz3, hc0', hc2'⟩ (fun hHeld => ?_)
    refine take_ (i := 0) (N := some 15) (v := ?_) (a' := ?_) #[true, false, false, false, false, false, false, false, false, false, false, false, false, false, false, false, false] rfl rfl (by kernel_rfl) (fun _ _ _ h => h) (Or.inl ⟨by rfl, ?_⟩) hHeld ?_ ?_
    rotate_left
    · rintro w' ⟨s0, s1, s2, s3, s4⟩
      go_simp
      with_reducible rfl
    rotate_left
    · simp only [Act.put, List.setIfInBounds_toArray, List.set_cons_zero, List.set_cons_succ, i64_w, i32_w]
      rfl
    refine pure_ (i := 1) (N := some 16) (v := ?_) (a' := ?_) #[true, true, false, false, false, false, false, false, false, false, false, false, false, false, false, false, false] rfl rfl (by kernel_rfl) (fun _ _ _ h => h) (Or.inl ⟨by rfl, ?_⟩) ?_ ?_
    rotate_left
    · intro w'
      go_simp
      with_reducible rfl
    rotate_left
    · simp only [Act.put, List.setIfInBounds_toArray, List.set_cons_zero, List.set_cons_succ, i64_w, i32_w]
      rfl
    refine take_ (i := 2) (N := some 17) (v := ?_) (a' := ?_) #[true, true, true, false, false, false, false, false, false, false, false, false, false, false, false, false, false] rfl rfl (by kernel_rfl) (fun _ _ _ h => h) (Or.inl ⟨by rfl, ?_⟩) hHeld ?_ ?_
    rotate_left
    · rintro w' ⟨s0, s1, s2, s3, s4⟩
      go_simp
      with_reducible rfl
    rotate_left
    · simp only [Act.put, List.setIfInBounds_toArray, List.set_cons_zero, List.set_cons_succ, i64_w, i32_w]
      rfl
    refine pure_ (i := 3) (N := some 18) (v := ?_) (a' := ?_) #[true, true, true, true, false, false, false, false, false, false, false, false, false, false, false, false, false] rfl rfl (by kernel_rfl) (fun _ _ _ h => h) (Or.inl ⟨by rfl, ?_⟩) ?_ ?_
    rotate_left
    · intro w'
      go_simp
      with_reducible rfl
    rotate_left
    · simp only [Act.put, List.setIfInBounds_toArray, List.set_cons_zero, List.set_cons_succ, i64_w, i32_w]
      rfl
    refine pure_ (i := 4) (N := some 19) (v := ?_) (a' := ?_) #[true, true, true, true, true, false, false, false, false, false, false, false, false, false, false, false, false] rfl rfl (by kernel_rfl) (fun _ _ _ h => h) (Or.inl ⟨by rfl, ?_⟩) ?_ ?_
    rotate_left
    · intro w'
      go_simp
      with_reducible rfl
    rotate_left
    · simp only [Act.put, List.setIfInBounds_toArray, List.set_cons_zero, List.set_cons_succ, i64_w, i32_w]
      rfl
    refine take_ (i := 5) (N := some 20) (v := ?_) (a' := ?_) #[true, true, true, true, true, true, false, false, false, false, false, false, false, false, false, false, false] rfl rfl (by kernel_rfl) (fun _ _ _ h => h) (Or.inl ⟨by rfl, ?_⟩) hHeld ?_ ?_
    rotate_left
    · rintro w' ⟨s0, s1, s2, s3, s4⟩
      go_simp
      with_reducible rfl
    rotate_left
    · simp only [Act.put, List.setIfInBounds_toArray, List.set_cons_zero, List.set_cons_succ, i64_w, i32_w]
      rfl
    refine pure_ (i := 6) (N := some 21) (v := ?_) (a' := ?_) #[true, true, true, true, true, true, true, false, false, false, false, false, false, false, false, false, false] rfl rfl (by kernel_rfl) (fun _ _ _ h => h) (Or.inl ⟨by rfl, ?_⟩) ?_ ?_
    rotate_left
    · intro w'
      go_simp
      with_reducible rfl
    rotate_left
    · simp only [Act.put, List.setIfInBounds_toArray, List.set_cons_zero, List.set_cons_succ, i64_w, i32_w]
      rfl
    refine pure_ (i := 7) (N := some 22) (v := ?_) (a' := ?_) #[true, true, true, true, true, true, true, true, false, false, false, false, false, false, false, false, false] rfl rfl (by kernel_rfl) (fun _ _ _ h => h) (Or.inl ⟨by rfl, ?_⟩) ?_ ?_
    rotate_left
    · intro w'
      go_simp
      with_reducible rfl
    rotate_left
    · simp only [Act.put, List.setIfInBounds_toArray, List.set_cons_zero, List.set_cons_succ, i64_w, i32_w]
      rfl
    refine pure_ (i := 8) (N := some 23) (v := ?_) (a' := ?_) #[true, true, true, true, true, true, true, true, true, false, false, false, false, false, false, false, false] rfl rfl (by kernel_rfl) (fun _ _ _ h => h) (Or.inl ⟨by rfl, ?_⟩) ?_ ?_
    rotate_left
    · intro w'
      go_simp
      with_reducible rfl
    rotate_left
    · simp only [Act.put, List.setIfInBounds_toArray, List.set_cons_zero, List.set_cons_succ, i64_w, i32_w]
      rfl
    refine take_ (i := 9) (N := some 24) (v := ?_) (a' := ?_) #[true, true, true, true, true, true, true, true, true, true, false, false, false, false, false, false, false] rfl rfl (by kernel_rfl) (fun _ _ _ h => h) (Or.inl ⟨by rfl, ?_⟩) hHeld ?_ ?_
    rotate_left
    · rintro w' ⟨s0, s1, s2, s3, s4⟩
      go_simp
      with_reducible rfl
    rotate_left
    · simp only [Act.put, List.setIfInBounds_toArray, List.set_cons_zero, List.set_cons_succ, i64_w, i32_w]
      rfl
    refine pure_ (i := 10) (N := some 25) (v := ?_) (a' := ?_) #[true, true, true, true, true, true, true, true, true, true, true, false, false, false, false, false, false] rfl rfl (by kernel_rfl) (fun _ _ _ h => h) (Or.inl ⟨by rfl, ?_⟩) ?_ ?_
    rotate_left
    · intro w'
      go_simp
      with_reducible rfl
    rotate_left
    · simp only [Act.put, List.setIfInBounds_toArray, List.set_cons_zero, List.set_cons_succ, i64_w, i32_w]
      rfl
    refine pure_ (i := 11) (N := some 26) (v := ?_) (a' := ?_) #[true, true, true, true, true, true, true, true, true, true, true, true, false, false, false, false, false] rfl rfl (by kernel_rfl) (fun _ _ _ h => h) (Or.inl ⟨by rfl, ?_⟩) ?_ ?_
    rotate_left
    · intro w'
      go_simp
      with_reducible rfl
    rotate_left
    · simp only [Act.put, List.setIfInBounds_toArray, List.set_cons_zero, List.set_cons_succ, i64_w, i32_w]
      rfl
    refine take_ (i := 12) (N := some 27) (v := ?_) (a' := ?_) #[true, true, true, true, true, true, true, true, true, true, true, true, true, false, false, false, false] rfl rfl (by kernel_rfl) (fun _ _ _ h => h) (Or.inl ⟨by rfl, ?_⟩) hHeld ?_ ?_
    rotate_left
    · rintro w' ⟨s0, s1, s2, s3, s4⟩
      go_simp
      with_reducible rfl
    rotate_left
    · simp only [Act.put, List.setIfInBounds_toArray, List.set_cons_zero, List.set_cons_succ, i64_w, i32_w]
      rfl
    refine pure_ (i := 13) (N := some 28) (v := ?_) (a' := ?_) #[true, true, true, true, true, true, true, true, true, true, true, true, true, true, false, false, false] rfl rfl (by kernel_rfl) (fun _ _ _ h => h) (Or.inl ⟨by rfl, ?_⟩) ?_ ?_
    rotate_left
    · intro w'
      go_simp
      with_reducible rfl
    rotate_left
    · simp only [Act.put, List.setIfInBounds_toArray, List.set_cons_zero, List.set_cons_succ, i64_w, i32_w]
      rfl
    refine pure_ (i := 14) (N := some 29) (v := ?_) (a' := ?_) #[true, true, true, true, true, true, true, true, true, true, true, true, true, true, true, false, false] rfl rfl (by kernel_rfl) (fun _ _ _ h => h) (Or.inl ⟨by rfl, ?_⟩) ?_ ?_
    rotate_left
    · intro w'
      go_simp
      with_reducible rfl
    rotate_left
    · simp only [Act.put, List.setIfInBounds_toArray, List.set_cons_zero, List.set_cons_succ, i64_w, i32_w]
      rfl
    refine pure_ (i := 15) (N := some 30) (v := ?_) (a' := ?_) #[true, true, true, true, true, true, true, true, true, true, true, true, true, true, true, true, false] rfl rfl (by kernel_rfl) (fun _ _ _ h => h) (Or.inl ⟨by rfl, ?_⟩) ?_ ?_
    rotate_left
    · intro w'
      go_simp
      with_reducible rfl
    rotate_left
    · simp only [Act.put, List.setIfInBounds_toArray, List.set_cons_zero, List.set_cons_succ, i64_w, i32_w]
      rfl
    refine one_ (i := 16) (N := none) #[true, true, true, true, true, true, true, true, true, true, true, true, true, true, true, true, true] rfl rfl (by kernel_rfl) (by decide) (fun K hK => ?_)
    refine skip_ (w1 := ?_) (by rfl) rfl ?_ ?_
    rotate_left
    · go_simp
      rfl
    obtain ⟨n0, n2, n3, n4, n5, n6⟩ := HN.out
    obtain ⟨s0, s1, s2, s3, s4⟩ := hHeld
    refine hK.out _ _ ⟨(cell_far (p := ⟨g, _, none⟩) (Ne.symm n4) _).trans s0, (cell_far (p := ⟨g, _, none⟩) (Ne.symm n5) _).trans s1, (cell_far (p := ⟨g, _, none⟩) n3 _).trans s2, (cell_far (p := ⟨g, _, none⟩) n0 _).trans s3, (cell_far (p := ⟨g, _, none⟩) n2 _).trans s4⟩ (fun hHeld2 => ?_)
    refine done_ (by kernel_rfl) ?_
    go_end0
    exact ⟨rfl, F.out⟩
  · have F := Aside0.mk (show InvT gp gb gw go w0.heap.size (.slice A0 l0.length c0) (.slice (some ad1) l1.length c1) (.slice A2 l2.length c2) vo l0 l1 l2 (L ++ [(d, a)]) W from ⟨i1, i2, i3, i4, by
      rw [turned_snoc]
      unfold turnStep
      rw [hb, if_neg hb1]
      exact hR⟩)
    have HB := Aside0.mk hB
    have hdb : decide (b > 1) = false := decide_eq_false hb1
    clear hR i1 i2 i3 i4 hr0 hr1 hr2 hb hG' hB hlen
    show Calls Try.prog 27 #[.int .i64 (L.length : Int), .int .i64 a, .int .i64 d, .pointer (some ⟨gb, 0, none⟩), .pointer (some ⟨gp, 0, none⟩), .pointer (some ⟨gw, 0, none⟩), .pointer (some ⟨go, 0, none⟩)] W _
    go_enter Try.func27, Try.ntmps27
    go_wp2
    go_end0
    exact ⟨rfl, F.out, HB.out, Kept.refl _ _⟩
def badAt (bs ws : List Int) (i : Nat) : Bool := !okBound (bs.getD i 0) || decide (ws.getD i 0 < 0) || decide (ws.getD i 0 ≥ bs.getD i 0)
def badT (bs ws : List Int) : Bool := (List.range bs.length).any (badAt bs ws)
def draw_Turn.f (l0 : List Int) (l1 : List Int) (l2 : List Int) : Option (List Int × Int) :=
  if l2.length = l1.length then (if badT l1 l2 = true then some ([], 2) else (slices_Clone_byte_byte.f l0).bind fun _ => (eachf (TurnG l0 l1) (l0.length + l1.length + 5) l0 l1).bind fun q => (if q.2.2 = 0 then some (turned l0 l1 l2 q.1, 0) else some ([], q.2.2))) else some ([], 2)
set_option maxHeartbeats 8000000 in
set_option maxRecDepth 100000 in
theorem draw_Turn.calls (A0 : Option Addr) (c0 : Nat) (l0 : List Int) (A1 : Option Addr) (c1 : Nat) (l1 : List Int) (A2 : Option Addr) (c2 : Nat) (l2 : List Int) (r1 : List Int) (r2 : Int) (w : World) (hr0 : Kd.C (Kd.int .u8) w A0 l0.length l0) (hc0 : l0.length ≤ c0) (hr1 : Kd.C (Kd.int .i64) w A1 l1.length l1) (hc1 : l1.length ≤ c1) (hr2 : Kd.C (Kd.int .i64) w A2 l2.length l2) (hc2 : l2.length ≤ c2) (h : draw_Turn.f l0 l1 l2 = some (r1, r2)) :
    Calls Try.prog 15 #[.slice A0 l0.length c0, .slice A1 l1.length c1, .slice A2 l2.length c2] w fun e w' => ∃ v0_ : Value, e = .returned (.tuple #[v0_, .int .i64 r2]) ∧ Kd.R (Kd.int .u8) 5 w' w.heap.size (fun _ => True) v0_ r1 ∧ Below w.heap.size w w' := by
  have HR0 := Aside0.mk hr0
  have HR1 := Aside0.mk hr1
  have HR2 := Aside0.mk hr2
  have HC0 := Aside0.mk hc0
  have HC1 := Aside0.mk hc1
  have HC2 := Aside0.mk hc2
  have hmf : ∀ (fn : Fn) (first cap : Array Value) (w : World), (Instr.makeFunc fn first cap).run Try.prog w = .ok (.func fn first cap) w := fun _ _ _ _ => rfl
  have hlen1 := (reads_C hr1).2.1
  clear hr0 hr1 hr2 hc0 hc1 hc2
  unfold draw_Turn.f at h
  have HB0 := Aside0.mk (Below.refl w.heap.size w)
  by_cases hl : l2.length = l1.length
  · rw [if_pos hl] at h
    have hlb : ((l2.length : Int) != (l1.length : Int)) = false := bne_eq_false_iff_eq.mpr (by omega)
    have HL := Aside0.mk hl
    have H := Aside0.mk h
    have hlz : (l2.length : Int) = (l1.length : Int) := by omega
    clear hl h hlz
    go_enter Try.func15, Try.ntmps15
    go_wp2_with (first
      | ((with_reducible refine gate_dst (N := 3) rfl ?_); refine box_event ?hg (N := 3) ?hd (cs := #[.slice A0 l0.length c0]) (t := 22) ?hr ?_; (case hd => rfl); (case hg => rfl); (case hr => first | (go_simp; done) | (go_simp; rfl)); intro gp hg w1 hbox hb; have BP := Aside0.mk hbox; have GP := Aside0.mk (show w.heap.size ≤ gp by omega); have HB1 := Aside0.mk (show Below w.heap.size w w1 from hb); clear hbox hg hb HB0)
      | ((with_reducible refine gate_dst (N := 4) rfl ?_); refine box_event ?hg (N := 4) ?hd (cs := #[.slice A1 l1.length c1]) (t := 23) ?hr ?_; (case hd => rfl); (case hg => rfl); (case hr => first | (go_simp; done) | (go_simp; rfl)); intro gb hg w2 hbox hb; have BP2 := Aside0.mk (blk_below BP.out hb); have BB2 := Aside0.mk hbox; have GB := Aside0.mk (show w1.heap.size ≤ gb by omega); have HB2 := Aside0.mk (show Below w.heap.size w w2 from below_step HB1.out hb); clear hbox hg hb)
      | ((with_reducible refine gate_dst (N := 5) rfl ?_); refine box_event ?hg (N := 5) ?hd (cs := #[.slice A2 l2.length c2]) (t := 23) ?hr ?_; (case hd => rfl); (case hg => rfl); (case hr => first | (go_simp; done) | (go_simp; rfl)); intro gw hg w3 hbox hb; have BP3 := Aside0.mk (blk_below BP2.out hb); have BB3 := Aside0.mk (blk_below BB2.out hb); have BW3 := Aside0.mk hbox; have GW := Aside0.mk (show w2.heap.size ≤ gw by omega); have HB3 := Aside0.mk (show Below w.heap.size w w3 from below_step HB2.out hb); clear hbox hg hb BP BP2 BB2; have hz0 : w3.cell? ⟨gp, 0, none⟩ = some (.slice A0 l0.length c0) := (blk_cell BP3.out 0).trans rfl; have hz1 : w3.cell? ⟨gb, 0, none⟩ = some (.slice A1 l1.length c1) := (blk_cell BB3.out 0).trans rfl; have hz2 : w3.cell? ⟨gw, 0, none⟩ = some (.slice A2 l2.length c2) := (blk_cell BW3.out 0).trans rfl))
    go_loopg [20] l1.length (fun gg v20 wr => ∃ kk q : Nat, kk ≤ l1.length ∧ l1.length - kk ≤ gg ∧ v20 = .int .i64 kk ∧ wr = w3.drewN q ∧ Aside0 (∀ j, j < kk → badAt l1 l2 j = false))
    case atStart => exact ⟨0, 0, Nat.zero_le _, by omega, rfl, rfl, ⟨fun j hj => absurd hj (Nat.not_lt_zero _)⟩⟩
    case round =>
      obtain ⟨kk, q, hkk, hg, rfl, rfl, A⟩ := hrel
      by_cases hlt : kk < l1.length
      · have hltz : (kk : Int) < (l1.length : Int) := by omega
        have hltz2 : (kk : Int) < (l2.length : Int) := by have := HL.out; omega
        obtain ⟨ad1, rfl, hx1⟩ := cell_of HR1.out kk hlt
        obtain ⟨ad2, rfl, hx2⟩ := cell_of HR2.out kk (by omega)
        have hx1' : w3.cell? (ad1.add kk) = some (.int .i64 (l1.getD kk 0)) := (HB3.out.cell (World.block_lt_of_cell? _ _ hx1)).trans hx1
        have hx2' : w3.cell? (ad2.add kk) = some (.int .i64 (l2.getD kk 0)) := (HB3.out.cell (World.block_lt_of_cell? _ _ hx2)).trans hx2
        obtain ⟨b, hb⟩ : ∃ b, l1.getD kk 0 = b := ⟨_, rfl⟩
        obtain ⟨y, hy⟩ : ∃ y, l2.getD kk 0 = y := ⟨_, rfl⟩
        rw [hb] at hx1'
        rw [hy] at hx2'
        have hbad : badAt l1 l2 kk = (!okBound b || decide (y < 0) || decide (y ≥ b)) := by unfold badAt; rw [hb, hy]
        have BAD := Aside0.mk hbad
        clear hx1 hx2 hb hy hbad
        have hcall := fun W => draw_isBound.calls b (okBound b) W (isBound_f b)
        cases h1 : okBound b with
        | false =>
          rw [h1] at hcall
          go_wp2_with (go_at_call 25; refine (hcall _).mono ?_; rintro e w' ⟨rfl, ⟨q', rfl⟩⟩)
          have hbt : badT l1 l2 = true := List.any_eq_true.2 ⟨kk, List.mem_range.2 hlt, by rw [BAD.out]; simp [h1]⟩
          have H' := H.out
          rw [if_pos hbt] at H'
          simp only [Option.some.injEq, Prod.mk.injEq] at H'
          obtain ⟨rfl, rfl⟩ := H'
          try rw [Exit.noGoto_ret]
          go_ret2
          exact ⟨_, rfl, Kd.R_nil _ _ _ _ _, pw_below_drewN HB3.out _⟩
        | true =>
          rw [h1] at hcall
          by_cases h2 : y < 0
          · have h2d : decide (y < 0) = true := decide_eq_true h2
            go_wp2_with (go_at_call 25; refine (hcall _).mono ?_; rintro e w' ⟨rfl, ⟨q', rfl⟩⟩)
            have hbt : badT l1 l2 = true := List.any_eq_true.2 ⟨kk, List.mem_range.2 hlt, by rw [BAD.out]; simp [h1, h2]⟩
            have H' := H.out
            rw [if_pos hbt] at H'
            simp only [Option.some.injEq, Prod.mk.injEq] at H'
            obtain ⟨rfl, rfl⟩ := H'
            try rw [Exit.noGoto_ret]
            go_ret2
            exact ⟨_, rfl, Kd.R_nil _ _ _ _ _, pw_below_drewN HB3.out _⟩
          · by_cases h3 : y ≥ b
            · have h2d : decide (y < 0) = false := decide_eq_false h2
              have h3d : decide (y ≥ b) = true := decide_eq_true h3
              go_wp2_with (go_at_call 25; refine (hcall _).mono ?_; rintro e w' ⟨rfl, ⟨q', rfl⟩⟩)
              have hbt : badT l1 l2 = true := List.any_eq_true.2 ⟨kk, List.mem_range.2 hlt, by rw [BAD.out]; simp [h1, h2, h3]⟩
              have H' := H.out
              rw [if_pos hbt] at H'
              simp only [Option.some.injEq, Prod.mk.injEq] at H'
              obtain ⟨rfl, rfl⟩ := H'
              try rw [Exit.noGoto_ret]
              go_ret2
              exact ⟨_, rfl, Kd.R_nil _ _ _ _ _, pw_below_drewN HB3.out _⟩
            · have h2d : decide (y < 0) = false := decide_eq_false h2
              have h3d : decide (y ≥ b) = false := decide_eq_false h3
              go_wp2_with (go_at_call 25; refine (hcall _).mono ?_; rintro e w' ⟨rfl, ⟨q', rfl⟩⟩)
              go_roundg (l1.length - (kk + 1))
              case measure => omega
              case rel =>
                refine ⟨kk + 1, _, by omega, by omega, by go_num, rfl, ⟨fun j hj => ?_⟩⟩
                by_cases e : j = kk
                · subst e
                  rw [BAD.out, h1, h2d, h3d]; rfl
                · exact A.out j (by omega)
      · have hltz : ¬ (kk : Int) < (l1.length : Int) := by omega
        have hbt : badT l1 l2 = false := by
          unfold badT
          rw [List.any_eq_false]
          intro j hj
          have := A.out j (by have := List.mem_range.1 hj; omega)
          simp [this]
        have H' := H.out
        rw [if_neg (by simp [hbt])] at H'
        obtain ⟨o, ho, H'⟩ := Option.bind_eq_some_iff.1 H'
        obtain ⟨⟨Lr, n, er⟩, he, H'⟩ := Option.bind_eq_some_iff.1 H'
        simp only at H'
        have ho2 : o = l0 := by
          unfold slices_Clone_byte_byte.f at ho
          split at ho
          · exact (Option.some.inj ho).symm
          · exact absurd ho (by simp)
        subst ho2
        have CL := Aside0.mk ho
        have E := Aside0.mk he
        have HH := Aside0.mk H'
        clear H ho he H' hbt hkk hg A
        go_wp2_with (first
          | (go_at_call 26; refine (slices_Clone_byte_byte.calls A0 c0 o o _ (Kd.C_below HR0.out (pw_below_drewN HB3.out _)) HC0.out CL.out).mono ?_; rintro e w4 ⟨v0, rfl, hv0, hb4⟩; obtain ⟨A9, c9, hv1⟩ := Kd.R_slice hv0; subst hv1; have HO := Aside0.mk hv0; have HB4 := Aside0.mk (show Below w3.heap.size w3 w4 from below_step (pw_below_drewN (Below.refl _ w3) _) hb4); clear hv0 hb4)
          | ((with_reducible refine gate_dst (N := 10) rfl ?_); refine box_event ?hg (N := 10) ?hd (cs := #[.slice none 0 0]) (t := 22) ?hr ?_; (case hd => rfl); (case hg => rfl); (case hr => first | (go_simp; done) | (go_simp; rfl)); intro go hg w5 hbox hb; have BO := Aside0.mk hbox; have GO := Aside0.mk (show w4.heap.size ≤ go by omega); have HB5 := Aside0.mk (show Below w4.heap.size w4 w5 from hb); have HB35 := Aside0.mk (show Below w3.heap.size w3 w5 from below_step HB4.out hb); clear hbox hg hb; have hz3 : w5.cell? ⟨go, 0, none⟩ = some (.slice none 0 0) := (blk_cell BO.out 0).trans rfl; have hf3 := blk_frozen BO.out 0; clear hz0 hz1 hz2; have hgp := (show gp ≠ go by have := blk_lt BP3.out; have := HB4.out.size; have := GO.out; omega); have hgb := (show gb ≠ go by have := blk_lt BB3.out; have := HB4.out.size; have := GO.out; omega); have hgw := (show gw ≠ go by have := blk_lt BW3.out; have := HB4.out.size; have := GO.out; omega); have hz0 : w5.cell? ⟨gp, 0, none⟩ = some (.slice A0 o.length c0) := (blk_cell (blk_below BP3.out HB35.out) 0).trans rfl; have hz1 : w5.cell? ⟨gb, 0, none⟩ = some (.slice A1 l1.length c1) := (blk_cell (blk_below BB3.out HB35.out) 0).trans rfl; have hz2 : w5.cell? ⟨gw, 0, none⟩ = some (.slice A2 l2.length c2) := (blk_cell (blk_below BW3.out HB35.out) 0).trans rfl))
        have eF : ∀ args w, (callFunc 27 args).run Try.prog w = .ok (.enter 27 args) w := enters_of Try.func27 (by kernel_rfl) rfl
        have B45 := below_step HB3.out HB35.out
        have BW : Below w.heap.size w (w5.setCell ⟨go, 0, none⟩ (.slice A9 o.length c9)) := below_set B45 (Nat.le_trans (Nat.le_trans HB3.out.size HB4.out.size) GO.out)
        have HGW : go < (w5.setCell ⟨go, 0, none⟩ (.slice A9 o.length c9)).heap.size := by have := blk_lt BO.out; simpa using this
        have lp : gp < w3.heap.size := blk_lt BP3.out
        have lb : gb < w3.heap.size := blk_lt BB3.out
        have lw : gw < w3.heap.size := blk_lt BW3.out
        have lo : w3.heap.size ≤ go := Nat.le_trans HB4.out.size GO.out
        have ST : InvT gp gb gw go w.heap.size (.slice A0 o.length c0) (.slice A1 l1.length c1) (.slice A2 l2.length c2) (.slice A9 o.length c9) o l1 l2 [] (w5.setCell ⟨go, 0, none⟩ (.slice A9 o.length c9)) := by
          refine ⟨blk_far (blk_below BP3.out HB35.out) hgp _, blk_far (blk_below BB3.out HB35.out) hgb _, blk_far (blk_below BW3.out HB35.out) hgw _, blk_put (cs := #[.slice none 0 0]) BO.out 0 _ rfl, ?_⟩
          have h1 : (Kd.int .u8).R 5 w4 w.heap.size (fun k => k < go) (.slice A9 o.length c9) (turned o l1 l2 []) :=
            Kd.R_lower (Kd.R_mono (Kd.R_bound HO.out) (fun k hk => by have := hk.2.2.1; have := GO.out; omega)) (by simpa using HB3.out.size)
          exact Kd.R_far (p := ⟨go, 0, none⟩) (Kd.R_below h1 HB5.out) (fun k hk => by show k ≠ go; omega) _
        have HE := each_calls (TurnG o l1) 27 #[.pointer (some ⟨gb, 0, none⟩), .pointer (some ⟨gp, 0, none⟩), .pointer (some ⟨gw, 0, none⟩), .pointer (some ⟨go, 0, none⟩)] eF (o.length + l1.length + 5) A0 c0 o A1 c1 l1 w (w5.setCell ⟨go, 0, none⟩ (.slice A9 o.length c9)) (Kd.C_below HR0.out BW) HC0.out HR1.out HC1.out BW
          (InvT gp gb gw go w.heap.size (.slice A0 o.length c0) (.slice A1 l1.length c1) (.slice A2 l2.length c2) (.slice A9 o.length c9) o l1 l2) ST
          (fun L W W' hI hb => invT_far (by omega) (by omega) (by omega) HGW hI hb)
          (fun L d at_ W hL hG hI hB hS => turn_cb gp gb gw go A0 c0 o A1 c1 l1 A2 c2 l2 _ w _ L d at_ W HR0.out HR1.out HR2.out HL.out HGW hL hG hI hB) Lr n er E.out
        generalize (w5.setCell ⟨go, 0, none⟩ (.slice A9 o.length c9)) = w6 at HE BW HGW ST ⊢
        clear hz0 hz1 hz2 hz3 hf3 BO HB5 HB4 HB35 B45 HO GO ST BW eF E BP3 BB3 BW3 CL HL hlb
        by_cases c4 : er = 0
        · subst c4
          have H2 := HH.out
          rw [if_pos rfl] at H2
          simp only [Option.some.injEq, Prod.mk.injEq] at H2
          obtain ⟨rfl, rfl⟩ := H2
          clear HH
          go_wp2_with (go_at_call 23; refine HE.mono ?_; rintro e w7 ⟨rfl, hI, hb7⟩; have HI7 := Aside0.mk hI; have HB7 := Aside0.mk hb7; have hz3 : w7.cell? ⟨go, 0, none⟩ = some (.slice A9 o.length c9) := (blk_cell hI.2.2.2.1 0).trans rfl; clear HE hI hb7)
          go_ret2
          exact ⟨_, rfl, Kd.R_mono HI7.out.2.2.2.2 (fun _ _ => trivial), HB7.out⟩
        · have H2 := HH.out
          rw [if_neg c4] at H2
          simp only [Option.some.injEq, Prod.mk.injEq] at H2
          obtain ⟨rfl, rfl⟩ := H2
          clear HH
          have c4b1 : (er != 0) = true := bne_iff_ne.mpr c4
          go_wp2_with (go_at_call 23; refine HE.mono ?_; rintro e w7 ⟨rfl, hI, hb7⟩; have HB7 := Aside0.mk hb7; clear HE hI hb7)
          go_ret2
          exact ⟨_, rfl, Kd.R_nil _ _ _ _ _, HB7.out⟩
  · rw [if_neg hl] at h
    have hlb : ((l2.length : Int) != (l1.length : Int)) = true := bne_iff_ne.mpr (by omega)
    simp only [Option.some.injEq, Prod.mk.injEq] at h
    obtain ⟨rfl, rfl⟩ := h
    clear hl
    go_enter Try.func15, Try.ntmps15
    go_wp2_with (first
      | ((with_reducible refine gate_dst (N := 3) rfl ?_); refine box_event ?hg (N := 3) ?hd (cs := #[.slice A0 l0.length c0]) (t := 22) ?hr ?_; (case hd => rfl); (case hg => rfl); (case hr => first | (go_simp; done) | (go_simp; rfl)); intro gp hg w1 hbox hb; have HB1 := Aside0.mk (show Below w.heap.size w w1 from hb); clear hbox hg hb HB0)
      | ((with_reducible refine gate_dst (N := 4) rfl ?_); refine box_event ?hg (N := 4) ?hd (cs := #[.slice A1 l1.length c1]) (t := 23) ?hr ?_; (case hd => rfl); (case hg => rfl); (case hr => first | (go_simp; done) | (go_simp; rfl)); intro gb hg w2 hbox hb; have BB2 := Aside0.mk hbox; have HB2 := Aside0.mk (show Below w.heap.size w w2 from below_step HB1.out hb); clear hbox hg hb)
      | ((with_reducible refine gate_dst (N := 5) rfl ?_); refine box_event ?hg (N := 5) ?hd (cs := #[.slice A2 l2.length c2]) (t := 23) ?hr ?_; (case hd => rfl); (case hg => rfl); (case hr => first | (go_simp; done) | (go_simp; rfl)); intro gw hg w3 hbox hb; have BB3 := Aside0.mk (blk_below BB2.out hb); have BW3 := Aside0.mk hbox; have HB3 := Aside0.mk (show Below w.heap.size w w3 from below_step HB2.out hb); clear hbox hg hb BB2; have hz1 : w3.cell? ⟨gb, 0, none⟩ = some (.slice A1 l1.length c1) := (blk_cell BB3.out 0).trans rfl; have hz2 : w3.cell? ⟨gw, 0, none⟩ = some (.slice A2 l2.length c2) := (blk_cell BW3.out 0).trans rfl))
    go_ret2
    exact ⟨_, rfl, Kd.R_nil _ _ _ _ _, HB3.out⟩

end Go.Proofs.Ytijnmfdpdjblbaa.Q
