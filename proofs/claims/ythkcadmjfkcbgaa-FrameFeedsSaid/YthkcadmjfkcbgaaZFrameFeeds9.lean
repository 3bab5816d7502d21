/- Functions of the program as plain Lean functions, each with a proof that its call comes to just these answers, and the row that joins them to the given statement; no condition beside the statement's own. Written for this claim by this session's programs (pf.py, pack.py) over the kit's print. -/
import Derived.SizedLaws
import Derived.ChangeSlices
import Derived.Deep.Slices
import Derived.ChangeArms
import Derived.DataReads
import Derived.Test.YthkcadmjfkcbgaaZFrameFeeds0
import Derived.Test.YthkcadmjfkcbgaaZFrameFeeds1
section
set_option linter.unusedVariables false
set_option linter.unusedSimpArgs false
namespace Go.Proofs.Ythkcadmjfkcbgaa.Op
open Go.RowKit Go.ChangeShapes Go.WideShapes Go.Deep Go.Proofs.YthkcadmjfkcbgaaW.PrintWords
def Opens (P : Program) (T : TypeId) {α : Type} (d : Kd α) (ok : α → Prop) : Prop :=
  P.cellsOf T = d.sz ∧ ∀ {H : Type} (enc : TypeId × Value → H) (w : World) (base : Nat) (spare : Nat → Bool) (held : Bool) (fuel : Nat) (cs : List Value) (x : DataW H × List MemPlace),
    DataW.trod enc P w base spare held fuel T cs = some x → (∀ n ∈ x.1.weights P T, n ≤ reachBytes) → ∃ y : α, d.K w y cs ∧ ok y
theorem opens_int {P : Program} {T : TypeId} {k : IntKind} (h : P.underlying T = some (.int k)) (hc : P.cellsOf T = 1) : Opens P T (Kd.int k) (fun x => (Lit.int k x).wf = true) := by
  refine ⟨hc, fun enc w base spare held fuel cs x ht _ => ?_⟩
  obtain ⟨n, rfl, _, hw⟩ := DataW.trod_int h ht
  exact ⟨n, rfl, hw⟩
theorem weights_slice {H : Type} {P : Program} {T e : TypeId} (h : P.underlying T = some (.slice e)) (elems spare : List (DataW H)) : (DataW.slice elems spare).weights P T = (elems.length + spare.length) * P.bytesOf e :: (DataW.weightsAll P e elems ++ DataW.weightsAll P e spare) := by
  simp [DataW.weights, h]
theorem weightsAll_mem {H : Type} {P : Program} {e : TypeId} {d : DataW H} : ∀ {ds : List (DataW H)}, d ∈ ds → ∀ n ∈ d.weights P e, n ∈ DataW.weightsAll P e ds
  | d0 :: ds, hd, n, hn => by
    simp only [DataW.weightsAll, List.mem_append]
    rcases List.mem_cons.1 hd with rfl | hd
    · exact .inl hn
    · exact .inr (weightsAll_mem hd n hn)
theorem opens_slice {P : Program} {T e : TypeId} {α : Type} {d : Kd α} {ok : α → Prop} {B : Nat} (h : P.underlying T = some (.slice e)) (hc : P.cellsOf T = 1) (hB : P.bytesOf e = B) (ho : Opens P e d ok) :
    Opens P T (Kd.slice e d) (fun xs => xs.length ≤ maxLen ∧ xs.length * B ≤ 140737488351232 ∧ ∀ x ∈ xs, ok x) := by
  refine ⟨hc, fun {H} enc w base spare held fuel cs x ht hw => ?_⟩
  rcases open_slice h ht with ⟨rfl, rfl⟩ | ⟨a, len, cap, m, n, D, Pl, rfl, hb, hl, hm, hmm, rfl, hi⟩
  · exact ⟨[], ⟨none, 0, rfl, Nat.le_refl _, by simp, by simp, fun hp => absurd hp (by simp)⟩, by simp, by simp, by simp⟩
  · have hlm : len ≤ m := by rw [hmm]; split <;> omega
    rw [weights_slice h] at hw
    have hsz := hw ((((List.range len).map D).length + ((List.range (m - len)).map fun j => D (len + j)).length) * P.bytesOf e) (by simp)
    simp only [List.length_map, List.length_range, hB, reachBytes] at hsz
    have hel : ∀ i : Fin len, ∃ y : α, (∃ cs', w.cells? base (a.add (i.1 * d.sz)) d.sz = some cs' ∧ d.K w y cs') ∧ ok y := by
      intro i
      obtain ⟨cs', h1, h2⟩ := hi i.1 (by omega)
      rw [ho.1] at h1
      obtain ⟨y, hk, hy⟩ := ho.2 enc w base spare held n cs' _ h2 (fun q hq => hw q (by
        refine List.mem_cons_of_mem _ (List.mem_append.2 (.inl (weightsAll_mem (d := D i.1) ?_ q hq)))
        exact List.mem_map.2 ⟨i.1, List.mem_range.2 i.2, rfl⟩))
      exact ⟨y, ⟨cs', h1, hk⟩, hy⟩
    obtain ⟨f, hf⟩ := Classical.axiomOfChoice hel
    refine ⟨List.ofFn f, ⟨some a, cap, by simp, by simpa using hl, by simp, ?_, fun _ => ⟨a, rfl, fun j p hp => ?_⟩⟩, by simp; omega, ?_, ?_⟩
    · have := hm
      simp only [maxLen] at this
      simp
      omega
    · have hj : j < len := by
        have := (List.getElem?_eq_some_iff.1 hp).1
        simpa using this
      have hpf : p = f ⟨j, hj⟩ := by
        have := (List.getElem?_eq_some_iff.1 hp).2
        rw [← this]
        simp
      obtain ⟨⟨cs', h1, h2⟩, _⟩ := hf ⟨j, hj⟩
      obtain ⟨_, hcl, hat⟩ := World.cells?_some h1
      refine ⟨cs', hcl, by rw [hpf]; exact h2, fun i u hu => ?_⟩
      have hil : i < d.sz := by
        have := (List.getElem?_eq_some_iff.1 hu).1
        omega
      have := hat i hil
      rw [← Go.Deep.add_add, this, hu]
    · simp only [List.length_ofFn]
      have := Nat.mul_le_mul_right B hlm
      have h9 : (len + (m - len)) * B = m * B := by rw [show len + (m - len) = m from by omega]
      omega
    · intro x hx
      obtain ⟨i, rfl⟩ := List.mem_ofFn.1 hx
      exact (hf i).2
theorem opened {P : Program} {T : TypeId} {α : Type} {d : Kd α} {ok : α → Prop} (ho : Opens P T d ok) {H : Type} {enc : TypeId × Value → H} {w : World} {base : Nat} {spare : Nat → Bool} {held : Bool} {v : Value} {x : DataW H} {p : List MemPlace} {ts : List TypeId} {ds : List (DataW H)} {j : Nat}
    (hsz : (DataW.weightsEach P ts ds).all (· ≤ reachBytes) = true) (ht : ts[j]? = some T) (hd : ds[j]? = some x) (h : DataW.Trod enc P w base spare held T v x p) : ∃ y : α, d.K w y v.cells.toList ∧ ok y := by
  obtain ⟨fuel, hf⟩ := h
  exact ho.2 enc w base spare held fuel _ _ hf (fun n hn => by simpa using List.all_eq_true.1 hsz _ (DataW.weights_mem_each ht hd n hn))
end Go.Proofs.Ythkcadmjfkcbgaa.Op
end
