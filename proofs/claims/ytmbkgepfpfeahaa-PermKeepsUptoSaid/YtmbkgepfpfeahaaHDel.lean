/- slices.Delete at []int as the print's rows know it: the row stays the call's own, cut. -/
import Derived.Test.YtmbkgepfpfeahaaHShelf
import Derived.Test.YtmbkgepfpfeahaaHWords
set_option linter.unusedVariables false
set_option linter.unusedSimpArgs false
namespace Go.Proofs.YtmbkgepfpfeahaaW.PrintWords
open Go.RowKit
theorem blk_setCells {g : Nat} {t : TypeId} : ∀ (vs : List Value) (o : Nat) (W : World) (cur : Array Value), W.heap[g]? = some (.cells cur t (0, 0)) → o + vs.length ≤ cur.size → ∃ cur', (W.setCells g o vs).heap[g]? = some (.cells cur' t (0, 0)) ∧ cur'.size = cur.size ∧ cur'.toList = cur.toList.take o ++ vs ++ cur.toList.drop (o + vs.length)
  | [], o, W, cur, h, _ => ⟨cur, h, rfl, by simp⟩
  | v :: r, o, W, cur, h, hl => by
    simp only [List.length_cons] at hl
    obtain ⟨c', h1, h2, h3⟩ := blk_setCells r (o + 1) (W.setCell ⟨g, o, none⟩ v) (cur.setIfInBounds o v) (blk_put h o v rfl) (by simp; omega)
    refine ⟨c', h1, by simpa using h2, ?_⟩
    have hlen : (cur.toList.take o).length = o := by simp; omega
    have e1 : (cur.setIfInBounds o v).toList = cur.toList.take o ++ v :: cur.toList.drop (o + 1) := by
      rw [Array.toList_setIfInBounds, List.set_eq_take_append_cons_drop, if_pos (by simp; omega)]
    rw [h3, e1]
    have e2 : (cur.toList.take o ++ v :: cur.toList.drop (o + 1)).take (o + 1) = cur.toList.take o ++ [v] := by
      rw [List.take_append, hlen, show o + 1 - o = 1 by omega, List.take_of_length_le (by omega)]
      rfl
    have e3 : (cur.toList.take o ++ v :: cur.toList.drop (o + 1)).drop (o + 1 + r.length) = cur.toList.drop (o + (v :: r).length) := by
      rw [List.drop_append, hlen, List.drop_eq_nil_of_le (by omega), List.nil_append, show o + 1 + r.length - o = r.length + 1 by omega, List.drop_succ_cons, List.drop_drop]
      congr 1
      simp
      omega
    rw [e2, e3]
    simp
theorem kept_setCells {g : Nat} {S : Nat → Prop} {w : World} (hg : S g ∨ w.heap.size ≤ g) : ∀ (vs : List Value) (o : Nat) (W : World), Kept w W S → Kept w (W.setCells g o vs) S
  | [], _, _, h => h
  | v :: r, o, W, h => kept_setCells hg r (o + 1) _ (h.setCell hg v)
theorem below_setCells_own {B g : Nat} {a : World} (hb : B ≤ g) : ∀ (vs : List Value) (o : Nat) (w : World), Below B a w → Below B a (w.setCells g o vs)
  | [], _, _, h => h
  | v :: r, o, w, h => below_setCells_own hb r (o + 1) _ (h.setCell (by exact hb) v)
theorem reps_nums {k : IntKind} {w : World} {base : Nat} {ok : Nat → Prop} {xs : List Int} {cs : List Value} (h : Reps ((Kd.int k).M w base ok) (Kd.int k).sz xs cs) : cs = nums k xs := by
  have hl : cs.length = xs.length := h.1.trans (Nat.mul_one _)
  apply List.ext_getElem?
  intro j
  rcases Nat.lt_or_ge j xs.length with hj | hj
  · have h1 : (cs.drop (j * 1)).take 1 = [Value.int k xs[j]] := h.2 j _ (List.getElem?_eq_getElem hj)
    have h2 : ((cs.drop (j * 1)).take 1)[0]? = some (Value.int k xs[j]) := by rw [h1]; rfl
    rw [List.getElem?_take, if_pos (by omega), List.getElem?_drop] at h2
    simp only [Nat.mul_one, Nat.add_zero] at h2
    rw [h2]
    simp [nums, hj]
  · rw [List.getElem?_eq_none (by omega), List.getElem?_eq_none (by simp [nums]; omega)]
theorem nums_reps (k : IntKind) (w : World) (base : Nat) (ok : Nat → Prop) (xs : List Int) : Reps ((Kd.int k).M w base ok) (Kd.int k).sz xs (nums k xs) := by
  refine ⟨by simp [nums, Kd.int, Kd.scalar], fun j p hj => ?_⟩
  show ((nums k xs).drop (j * 1)).take 1 = [Value.int k p]
  have hjl := (List.getElem?_eq_some_iff.1 hj).1
  apply List.ext_getElem?
  intro i
  cases i with
  | zero =>
    rw [List.getElem?_take, if_pos (by omega), List.getElem?_drop]
    simp [nums, hj]
  | succ i =>
    rw [List.getElem?_take, if_neg (by omega)]
    rfl
theorem delete_calls (P0_ : Nat → Prop) (u : Value) (l0 : List Int) (i j : Nat) (w0 w : World) (hB : Below w0.heap.size w0 w) (ho0 : Kd.R (Kd.int .i64) 3 w w0.heap.size P0_ u l0) (hij : i ≤ j) (hj : j ≤ l0.length) :
    Calls Try.prog 39 #[u, .int .i64 (i : Int), .int .i64 (j : Int)] w fun e w' => ∃ v0_ : Value, e = .returned (v0_) ∧ Kd.R (Kd.int .i64) 3 w' w0.heap.size (fun k_ => (P0_ k_ ∨ w.heap.size ≤ k_)) v0_ (l0.take i ++ l0.drop j) ∧ Below w0.heap.size w0 w' ∧ Kept w w' (fun k_ => P0_ k_) := by
  rcases Nat.eq_zero_or_pos l0.length with hz | hz
  · obtain rfl : l0 = [] := List.eq_nil_of_length_eq_zero hz
    obtain rfl : j = 0 := by simpa using hj
    obtain rfl : i = 0 := by omega
    obtain ⟨A, c, rfl⟩ := Kd.R_slice ho0
    refine (Try.slices_Delete_int_empty A c w).mono ?_
    rintro e w' ⟨rfl, rfl⟩
    exact ⟨_, rfl, Kd.R_mono ho0 (fun k hk => .inl hk), hB, Kept.refl _ _⟩
  · obtain ⟨hok, inner, hown, hreps⟩ := ho0
    have hin := reps_nums hreps
    subst hin
    rcases hown.2 with ⟨_, h0⟩ | ⟨g, cap, cur, rfl, hb, hg, hnc, hcm, hsz, htk⟩
    · omega
    have hcells := World.ownsRow.cells hown (g := g) rfl
    have hP : P0_ g := hok g rfl
    have hsz1 : cur.size = cap := by rw [hsz]; exact Nat.mul_one _
    have hfz : ∀ m, w.frozen? ⟨g, 0 + m, none⟩ = false := fun m => blk_frozen hg (0 + m)
    refine (Try.slices_Delete_int_cells g 0 l0.length cap i j l0 w (Nat.le_refl _) hnc (by simp only [maxLen] at hcm; omega) hij hj (fun m hm => ?_) (fun m _ => hfz m)).mono ?_
    · have := hcells m (.int .i64 (l0.getD m 0)) (by simp [nums, hm, List.getD_eq_getElem?_getD])
      rw [add_plain] at this
      rw [Nat.zero_add]
      exact this
    · rintro e w' ⟨rfl, q, rfl⟩
      rw [List.take_length]
      have hvl : ((l0.take i ++ l0.drop j ++ List.replicate (j - i) 0).map (Value.int .i64)).length = l0.length := by simp; omega
      obtain ⟨cur', h1, h2, h3⟩ := blk_setCells (g := g) (t := 3) ((l0.take i ++ l0.drop j ++ List.replicate (j - i) 0).map (Value.int .i64)) 0 (w.drewN q) cur hg (by rw [hvl]; omega)
      have hrl : (l0.take i ++ l0.drop j).length = l0.length - (j - i) := by simp; omega
      refine ⟨_, rfl, ⟨fun k hk => ?_, nums .i64 (l0.take i ++ l0.drop j), ⟨?_, .inr ⟨g, cap, cur', by rw [hrl], hb, h1, by omega, hcm, by rw [h2, hsz], ?_⟩⟩, nums_reps _ _ _ _ _⟩, below_setCells_own hb _ _ _ (pw_below_drewN hB q), kept_setCells (.inl hP) _ _ _ ((Kept.refl _ _).drewN q)⟩
      · have : g = k := by simpa [Value.ownBlock] using hk
        subst this
        exact .inl hP
      · rw [nums_length]; exact (Nat.mul_one _).symm
      · rw [h3]
        show List.take ((l0.take i ++ l0.drop j).length * 1) _ = _
        rw [Nat.mul_one, List.take_zero, List.nil_append, List.map_append, List.append_assoc, List.take_append_of_le_length (by simp), List.take_of_length_le (by simp)]
        rfl
end Go.Proofs.YtmbkgepfpfeahaaW.PrintWords
