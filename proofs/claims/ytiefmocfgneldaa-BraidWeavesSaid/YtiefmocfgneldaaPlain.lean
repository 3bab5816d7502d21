/- Plain lemmas on rounds, numbers and lists, without any program: used by this session's proofs of the printed statements. -/
import Derived.Test.YtiefmocfgneldaaWWords
import Derived.Test.YtiefmocfgneldaaWLast
set_option linter.unusedVariables false
set_option linter.unusedSimpArgs false
namespace Go.Proofs.Ytiefmocfgneldaa.Pl
open Go.RowKit Go.Proofs.YtiefmocfgneldaaW.PrintWords Go.Proofs.YtiefmocfgneldaaW.PrintLast

theorem w64 {x : Int} (h0 : -9223372036854775808 ≤ x) (h1 : x ≤ 9223372036854775807) : wrap64 x = x := by
  unfold wrap64
  omega
theorem w64n {x : Nat} (h1 : x ≤ 9223372036854775807) : wrap64 (x : Int) = x := w64 (by omega) (by omega)

section
variable {α β : Type} {g f : Nat → Option α} {r : α}
theorem ev_pos {c : Prop} [Decidable c] {a b : Nat → Option α} (h : c) (k : Ev a r) : Ev (fun n => if c then a n else b n) r :=
  Ev.congr (fun _ => if_pos h) k
theorem ev_neg {c : Prop} [Decidable c] {a b : Nat → Option α} (h : ¬ c) (k : Ev b r) : Ev (fun n => if c then a n else b n) r :=
  Ev.congr (fun _ => if_neg h) k
theorem ev_some {x r : α} (h : x = r) : Ev (fun _ => some x) r := h ▸ Ev.now x
theorem ev_bind {a : α} {s : β} {g : Nat → Option α} {f : Nat → α → Option β} (h : Ev g a) (k : Ev (fun n => f n a) s) : Ev (fun n => (g n).bind (f n)) s := Ev.bind h k
theorem ev_bind0 {a : α} {s : β} {g : Option α} {f : Nat → α → Option β} (h : g = some a) (k : Ev (fun n => f n a) s) : Ev (fun n => g.bind (f n)) s := by
  subst h
  exact Ev.congr (fun _ => rfl) k
theorem ev_to {g : Nat → Option α} {r s : α} (h : Ev g r) (e : r = s) : Ev g s := e ▸ h
end

theorem rd_nat (xs : List Int) (i : Nat) : rd xs (i : Int) = xs.getD i 0 := by simp [rd]
theorem rd_lt (xs : List Int) (i : Nat) (h : i < xs.length) : rd xs (i : Int) = xs[i] := by simp [rd, h]
theorem rd_toNat (xs : List Int) (i : Int) : rd xs i = xs.getD i.toNat 0 := rfl
theorem rd_mem (xs : List Int) (i : Int) (h : i.toNat < xs.length) : rd xs i ∈ xs := by
  unfold rd
  rw [List.getD_eq_getElem?_getD, List.getElem?_eq_getElem h]
  exact List.getElem_mem h
theorem drop_rd (xs : List Int) (i : Nat) (h : i < xs.length) : xs.drop i = rd xs (i : Int) :: xs.drop (i + 1) := by
  rw [rd_lt xs i h]
  exact List.drop_eq_getElem_cons h
theorem take_rd (xs : List Int) (i : Nat) (h : i < xs.length) : xs.take (i + 1) = xs.take i ++ [rd xs (i : Int)] := by
  rw [rd_lt xs i h, List.take_succ_eq_append_getElem h]
theorem rdOfB_lt (xs : List Bool) (i : Nat) (h : i < xs.length) : rdOf false xs (i : Int) = xs[i] := by simp [rdOf, h]
theorem wf_i64 {x : Int} (h : (Lit.int .i64 x).wf = true) : -9223372036854775808 ≤ x ∧ x ≤ 9223372036854775807 := by
  have a : IntKind.i64.min = -9223372036854775808 := by rfl
  have b : IntKind.i64.max = 9223372036854775807 := by rfl
  simp [Lit.wf, a, b] at h
  omega
theorem wf_u8 {x : Int} (h : (Lit.int .u8 x).wf = true) : 0 ≤ x ∧ x ≤ 255 := by
  have a : IntKind.u8.min = 0 := by rfl
  have b : IntKind.u8.max = 255 := by rfl
  simp [Lit.wf, a, b] at h
  omega
end Go.Proofs.Ytiefmocfgneldaa.Pl
