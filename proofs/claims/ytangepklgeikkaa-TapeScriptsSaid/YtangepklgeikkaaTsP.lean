/- TapeScripts: a tape's answers are the document's; plain lemmas. -/
import Derived.Test.YtangepklgeikkaaTsR
import Derived.Test.YtangepklgeikkaaQx6
import Derived.Test.YtangepklgeikkaaQx4
import Derived.Test.YtangepklgeikkaaQx1
import Derived.Test.YtangepklgeikkaaQx5
set_option linter.unusedVariables false
set_option linter.unusedSimpArgs false
namespace Go.Proofs.Ytangepklgeikkaa.Q
open Go.RowKit Go.Proofs.YtangepklgeikkaaW.PrintWords Go.Proofs.YtangepklgeikkaaW.PrintLast Go.Proofs.YtangepklgeikkaaW.PrintMore Go.Proofs.Ytangepklgeikkaa.Pl
theorem ts_bt (p : List Int) (hp : ∀ x ∈ p, 0 ≤ x ∧ x ≤ 255) (u : Nat) (hu : u < p.length) : bt (strOfNums p) (u : Int) = rd p (u : Int) := by
  have hb := hp _ (rd_mem p (u : Int) (by simpa using hu))
  have hr : rd p (u : Int) = p[u] := rd_lt p u hu
  rw [hr] at hb ⊢
  have hs : (u : Int).toNat < (strOfNums p).size := by rw [strOfNums_size]; simpa using hu
  rw [← bt_at (strOfNums p) (u : Int) hs]
  show (((strOfNums p).data[(u : Int).toNat]'hs).toNat : Int) = p[u]
  simp [strOfNums, UInt8.toNat_ofNat]
  omega
theorem ts_back (p : List Int) (hp : ∀ x ∈ p, 0 ≤ x ∧ x ≤ 255) : bytesOf (strOfNums p) = p := by
  apply List.ext_getElem
  · rw [bytesOf_length, strOfNums_size]
  · intro i h1 h2
    rw [← rd_lt _ i h1, rd_bytesOf, ts_bt p hp i h2, rd_lt p i h2]
theorem ts_part (p : List Int) (hp : ∀ x ∈ p, 0 ≤ x ∧ x ≤ 255) (a b : Nat) : bytesOf ((strOfNums p).extract a b) = (p.take b).drop a := by rw [bytes_take, ts_back p hp]
section
variable {w : World} {b : Bk} {n : Int}
theorem ts_left (h : BkOk w b) : tape_Tape_Left.f (strOfNums b.p) b.at_ = some ((b.p.length : Int) - b.at_) := by
  have h1 := h.le
  have h2 := h.big
  unfold tape_Tape_Left.f
  rw [strOfNums_size, show wrap64 ((b.p.length : Int) - b.at_) = (b.p.length : Int) - b.at_ from w64 (by omega) (by omega)]
theorem ts_byte_end (h : BkOk w b) (ha : ¬ b.at_ < b.p.length) : tape_Tape_Byte.f (strOfNums b.p) b.at_ = some (0, ⟨#[]⟩, 0, 3) ∧ churnref09_Byte.f b.p b.at_ = some (0, 0, 3) := by
  have h1 := h.le
  constructor
  · unfold tape_Tape_Byte.f
    rw [ts_left h, Option.bind_some, if_pos (by omega)]
  · unfold churnref09_Byte.f
    rw [if_pos (by omega)]
theorem ts_byte_mid (h : BkOk w b) (ha : b.at_ < b.p.length) : tape_Tape_Byte.f (strOfNums b.p) b.at_ = some (rd b.p b.at_, strOfNums b.p, ((b.at_ + 1 : Nat) : Int), 0) ∧ churnref09_Byte.f b.p b.at_ = some (rd b.p b.at_, ((b.at_ + 1 : Nat) : Int), 0) := by
  have h1 := h.le
  have h2 := h.big
  have e : wrap64 ((b.at_ : Int) + 1) = ((b.at_ + 1 : Nat) : Int) := by rw [w64 (by omega) (by omega)]; rfl
  constructor
  · unfold tape_Tape_Byte.f
    rw [ts_left h, Option.bind_some, if_neg (by omega), if_pos (by omega), strOfNums_size, if_pos (by omega), ts_bt b.p h.byt b.at_ ha, e]
  · unfold churnref09_Byte.f
    rw [if_neg (by omega), if_pos (by omega), if_pos (by omega), e]
theorem ts_take_neg (hn : n < 0) : tape_Tape_Take.f (strOfNums b.p) b.at_ n = some ([], ⟨#[]⟩, 0, 2) ∧ churnref09_Take.f b.p b.at_ n = some ([], 0, 2) := by
  unfold tape_Tape_Take.f churnref09_Take.f
  exact ⟨by rw [if_pos hn], by rw [if_pos hn]⟩
theorem ts_take_much (h : BkOk w b) (h0 : ¬ n < 0) (hn : (b.p.length : Int) - b.at_ < n) : tape_Tape_Take.f (strOfNums b.p) b.at_ n = some ([], ⟨#[]⟩, 0, 3) ∧ churnref09_Take.f b.p b.at_ n = some ([], 0, 3) := by
  have h1 := h.le
  have h2 := h.big
  have e : wrap64 ((b.p.length : Int) - b.at_) = (b.p.length : Int) - b.at_ := w64 (by omega) (by omega)
  unfold tape_Tape_Take.f churnref09_Take.f
  exact ⟨by rw [if_neg h0, strOfNums_size, e, if_pos (by omega)], by rw [if_neg h0, e, if_pos (by omega)]⟩
theorem ts_take_ok (h : BkOk w b) {m : Nat} (hn : b.at_ + m ≤ b.p.length) : churnref09_Take.f b.p b.at_ (m : Int) = some ((b.p.take (b.at_ + m)).drop b.at_, ((b.at_ + m : Nat) : Int), 0) := by
  have h1 := h.le
  have h2 := h.big
  have e : wrap64 ((b.p.length : Int) - b.at_) = (b.p.length : Int) - b.at_ := w64 (by omega) (by omega)
  have e2 : wrap64 ((b.at_ : Int) + m) = ((b.at_ + m : Nat) : Int) := by rw [w64 (by omega) (by omega)]; rfl
  unfold churnref09_Take.f
  rw [if_neg (by omega), e, if_neg (by omega), if_pos (by omega), e2, if_pos (by omega), if_pos (by omega), Option.bind_some, if_pos (by simp; omega)]
  simp
  rw [show ((b.at_ : Int) + m).toNat = b.at_ + m by omega]
/-- Take's answer, where there are as many bytes. -/
theorem ts_take_mark (h : BkOk w b) {m : Nat} (hn : b.at_ + m ≤ b.p.length) (W : World) :
    Calls Try.prog 13 #[.agg #[.string (strOfNums b.p), .int .i64 b.at_], .int .i64 m] W fun e w' => ∃ (g c : Nat), e = .returned (.tuple #[.slice (some ⟨g, 0, none⟩) ((b.p.take (b.at_ + m)).drop b.at_).length c, .agg #[.string (strOfNums b.p), .int .i64 ((b.at_ + m : Nat) : Int)], .int .i64 0]) ∧ Mkd w' W.heap.size g ((b.p.take (b.at_ + m)).drop b.at_).length c ((b.p.take (b.at_ + m)).drop b.at_) ∧ Below W.heap.size W w' := by
  have h1 := h.le
  have h2 := h.big
  have e : wrap64 (((strOfNums b.p).size : Int) - b.at_) = (b.p.length : Int) - b.at_ := by rw [strOfNums_size]; exact w64 (by omega) (by omega)
  have e2 : wrap64 ((b.at_ : Int) + m) = ((b.at_ + m : Nat) : Int) := by rw [w64 (by omega) (by omega)]; rfl
  have := take_mark (strOfNums b.p) b.at_ m W (by omega) (by rw [e]; omega) (by omega) (by rw [e2]; omega) (by rw [e2, strOfNums_size]; omega)
  rw [e2] at this
  simp only [Int.toNat_natCast, ts_part b.p h.byt] at this
  exact this
end
end Go.Proofs.Ytangepklgeikkaa.Q
