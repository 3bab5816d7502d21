/- Arguments opened to what the printed contracts read: whole numbers, bools, strings, structs, slices of any of these, with the bounds that the form's own reach gives. -/
import Derived.Test.YtangepklgeikkaaWWords
import Derived.Test.YtangepklgeikkaaWLast
import Derived.SizedLaws
import Derived.ChangeSlices
import Derived.Deep.Slices
import Derived.ChangeArms
import Derived.DataReads
set_option linter.unusedVariables false
set_option linter.unusedSimpArgs false
namespace Go.Proofs.Ytangepklgeikkaa.Op
open Go.RowKit Go.ChangeShapes Go.WideShapes Go.Deep Go.Proofs.YtangepklgeikkaaW.PrintWords

/-- What is read of type T is a value of kind d, and has these bounds. -/
def Opens (P : Program) (T : TypeId) {α : Type} (d : Kd α) (ok : α → Prop) : Prop :=
  P.cellsOf T = d.sz ∧ ∀ {H : Type} (enc : TypeId × Value → H) (w : World) (base : Nat) (spare : Nat → Bool) (held : Bool) (fuel : Nat) (cs : List Value) (x : DataW H × List MemPlace),
    DataW.trod enc P w base spare held fuel T cs = some x → (∀ n ∈ x.1.weights P T, n ≤ reachBytes) → ∃ y : α, d.K w y cs ∧ ok y

theorem opens_int {P : Program} {T : TypeId} {k : IntKind} (h : P.underlying T = some (.int k)) (hc : P.cellsOf T = 1) : Opens P T (Kd.int k) (fun x => (Lit.int k x).wf = true) := by
  refine ⟨hc, fun enc w base spare held fuel cs x ht _ => ?_⟩
  obtain ⟨n, rfl, _, hw⟩ := DataW.trod_int h ht
  exact ⟨n, rfl, hw⟩
theorem opens_bool {P : Program} {T : TypeId} (h : P.underlying T = some .bool) (hc : P.cellsOf T = 1) : Opens P T Kd.bool (fun _ => True) := by
  refine ⟨hc, fun enc w base spare held fuel cs x ht _ => ?_⟩
  obtain ⟨n, rfl, _⟩ := DataW.trod_bool h ht
  exact ⟨n, rfl, trivial⟩
theorem opens_string {P : Program} {T : TypeId} (h : P.underlying T = some .string) (hc : P.cellsOf T = 1) : Opens P T Kd.string (fun s => s.size ≤ 140737488351232) := by
  refine ⟨hc, fun enc w base spare held fuel cs x ht hw => ?_⟩
  obtain ⟨s, rfl, rfl, hs⟩ := DataW.trod_string h ht
  refine ⟨s, rfl, ?_⟩
  have := hw s.data.toList.length (by simp [DataW.weights])
  simp [reachBytes] at this
  exact this
theorem weights_slice {H : Type} {P : Program} {T e : TypeId} (h : P.underlying T = some (.slice e)) (elems spare : List (DataW H)) : (DataW.slice elems spare).weights P T = (elems.length + spare.length) * P.bytesOf e :: (DataW.weightsAll P e elems ++ DataW.weightsAll P e spare) := by
  simp [DataW.weights, h]
theorem weightsAll_mem {H : Type} {P : Program} {e : TypeId} {d : DataW H} : ∀ {ds : List (DataW H)}, d ∈ ds → ∀ n ∈ d.weights P e, n ∈ DataW.weightsAll P e ds
  | d0 :: ds, hd, n, hn => by
    simp only [DataW.weightsAll, List.mem_append]
    rcases List.mem_cons.1 hd with rfl | hd
    · exact .inl hn
    · exact .inr (weightsAll_mem hd n hn)
theorem opens_slice {P : Program} {T e : TypeId} {α : Type} {d : Kd α} {ok : α → Prop} {B : Nat} (h : P.underlying T = some (.slice e)) (hc : P.cellsOf T = 1) (hB : P.bytesOf e = B) (ho : Opens P e d ok) :
    Opens P T (Kd.slice e d) (fun xs => xs.length ≤ maxLen ∧ xs.length * B ≤ 140737488351232 ∧ ∀ x ∈ xs, ok x) := by
  refine ⟨hc, fun {H} enc w base spare held fuel cs x ht hw => ?_⟩
  rcases open_slice h ht with ⟨rfl, rfl⟩ | ⟨a, len, cap, m, n, D, Pl, rfl, hb, hl, hm, hmm, rfl, hi⟩
  · exact ⟨[], ⟨none, 0, rfl, Nat.le_refl _, by simp, by simp, fun hp => absurd hp (by simp)⟩, by simp, by simp, by simp⟩
  · have hlm : len ≤ m := by rw [hmm]; split <;> omega
    rw [weights_slice h] at hw
    have hsz := hw ((((List.range len).map D).length + ((List.range (m - len)).map fun j => D (len + j)).length) * P.bytesOf e) (by simp)
    simp only [List.length_map, List.length_range, hB, reachBytes] at hsz
    have hel : ∀ i : Fin len, ∃ y : α, (∃ cs', w.cells? base (a.add (i.1 * d.sz)) d.sz = some cs' ∧ d.K w y cs') ∧ ok y := by
      intro i
      obtain ⟨cs', h1, h2⟩ := hi i.1 (by omega)
      rw [ho.1] at h1
      obtain ⟨y, hk, hy⟩ := ho.2 enc w base spare held n cs' _ h2 (fun q hq => hw q (by
        refine List.mem_cons_of_mem _ (List.mem_append.2 (.inl (weightsAll_mem (d := D i.1) ?_ q hq)))
        exact List.mem_map.2 ⟨i.1, List.mem_range.2 i.2, rfl⟩))
      exact ⟨y, ⟨cs', h1, hk⟩, hy⟩
    obtain ⟨f, hf⟩ := Classical.axiomOfChoice hel
    refine ⟨List.ofFn f, ⟨some a, cap, by simp, by simpa using hl, by simp, ?_, fun _ => ⟨a, rfl, fun j p hp => ?_⟩⟩, by simp; omega, ?_, ?_⟩
    · have := hm
      simp only [maxLen] at this
      simp
      omega
    · have hj : j < len := by
        have := (List.getElem?_eq_some_iff.1 hp).1
        simpa using this
      have hpf : p = f ⟨j, hj⟩ := by
        have := (List.getElem?_eq_some_iff.1 hp).2
        rw [← this]
        simp
      obtain ⟨⟨cs', h1, h2⟩, _⟩ := hf ⟨j, hj⟩
      obtain ⟨_, hcl, hat⟩ := World.cells?_some h1
      refine ⟨cs', hcl, by rw [hpf]; exact h2, fun i u hu => ?_⟩
      have hil : i < d.sz := by
        have := (List.getElem?_eq_some_iff.1 hu).1
        omega
      have := hat i hil
      rw [← Go.Deep.add_add, this, hu]
    · simp only [List.length_ofFn]
      have := Nat.mul_le_mul_right B hlm
      have h9 : (len + (m - len)) * B = m * B := by rw [show len + (m - len) = m from by omega]
      omega
    · intro x hx
      obtain ⟨i, rfl⟩ := List.mem_ofFn.1 hx
      exact (hf i).2

/-- The fields of a struct, one behind the other. -/
def sumCells (P : Program) : List TypeId → Nat
  | [] => 0
  | t :: ts => P.cellsOf t + sumCells P ts
def OpensL (P : Program) (ts : List TypeId) {α : Type} (d : Kd α) (ok : α → Prop) : Prop :=
  sumCells P ts = d.sz ∧ ∀ {H : Type} (enc : TypeId × Value → H) (w : World) (base : Nat) (spare : Nat → Bool) (held : Bool) (fuel : Nat) (cs : List Value) (xs : List (DataW H × List MemPlace)),
    cs.length = sumCells P ts → xs.length = ts.length → (∀ (i : Nat) (t : TypeId), ts[i]? = some t → DataW.trod enc P w base spare held fuel t ((cs.drop (sumCells P (ts.take i))).take (P.cellsOf t)) = xs[i]?) →
    (∀ n ∈ DataW.weightsEach P ts (xs.map (·.1)), n ≤ reachBytes) → ∃ y : α, d.K w y cs ∧ ok y
theorem opensL_one {P : Program} {t : TypeId} {α : Type} {d : Kd α} {ok : α → Prop} (h : Opens P t d ok) : OpensL P [t] d ok := by
  refine ⟨by simp [sumCells, h.1], fun enc w base spare held fuel cs xs hl hx ht hw => ?_⟩
  match xs, hx with
  | [x], _ =>
    have h0 := ht 0 t rfl
    simp only [sumCells, Nat.add_zero] at hl
    have e : (cs.drop (sumCells P ([t].take 0))).take (P.cellsOf t) = cs := by
      simp only [List.take_zero, sumCells, List.drop_zero]
      exact List.take_of_length_le (by omega)
    rw [e] at h0
    exact h.2 enc w base spare held fuel cs x (by simpa using h0) (fun n hn => hw n (by simpa [DataW.weightsEach] using hn))
theorem opensL_cons {P : Program} {t : TypeId} {ts : List TypeId} {α β : Type} {d : Kd α} {d' : Kd β} {ok : α → Prop} {ok' : β → Prop} (h : Opens P t d ok) (h' : OpensL P ts d' ok') : OpensL P (t :: ts) (Kd.pair d d') (fun y => ok y.1 ∧ ok' y.2) := by
  refine ⟨by simp only [sumCells, h.1, h'.1]; rfl, fun enc w base spare held fuel cs xs hl hx ht hw => ?_⟩
  match xs, hx with
  | x :: xs, hx =>
    have h0 := ht 0 t rfl
    simp only [List.take_zero, sumCells, List.drop_zero] at h0
    simp only [sumCells] at hl
    obtain ⟨y, k1, o1⟩ := h.2 enc w base spare held fuel _ x (by simpa using h0) (fun n hn => hw n (by
      simp only [List.map_cons, DataW.weightsEach, List.mem_append]
      exact .inl hn))
    obtain ⟨z, k2, o2⟩ := h'.2 enc w base spare held fuel (cs.drop (P.cellsOf t)) xs (by rw [List.length_drop]; omega) (by simpa using hx) (fun i u hu => by
      have := ht (i + 1) u (by simpa using hu)
      simp only [List.take_succ_cons, sumCells, List.getElem?_cons_succ] at this
      rw [List.drop_drop]
      exact this) (fun n hn => hw n (by
      simp only [List.map_cons, DataW.weightsEach, List.mem_append]
      exact .inr hn))
    exact ⟨(y, z), ⟨_, _, (List.take_append_drop _ _).symm, k1, k2⟩, o1, o2⟩
def offsOk (P : Program) (fs : Array Field) (ts : List TypeId) : Bool := (List.range fs.size).all fun i => (fs[i]?.map (·.offset)) == some (sumCells P (ts.take i))
theorem offsOk_of {P : Program} {fs : Array Field} {ts : List TypeId} (h : offsOk P fs ts = true) : ∀ (i : Nat) (f : Field), fs[i]? = some f → f.offset = sumCells P (ts.take i) := by
  intro i f hf
  have hi : i < fs.size := (Array.getElem?_eq_some_iff.1 hf).1
  have := List.all_eq_true.1 h i (List.mem_range.2 hi)
  rw [hf] at this
  simpa using this
theorem opens_struct {P : Program} {T : TypeId} {fs : Array Field} {ts : List TypeId} {α : Type} {d : Kd α} {ok : α → Prop} (h : P.underlying T = some (.struct fs)) (hts : fs.toList.map (·.type) = ts) (hc : P.cellsOf T = sumCells P ts)
    (hof : offsOk P fs ts = true) (ho : OpensL P ts d ok) : Opens P T d ok := by
  have hoff := offsOk_of hof
  refine ⟨hc.trans ho.1, fun enc w base spare held fuel cs x ht hw => ?_⟩
  obtain ⟨xs, n, _, rfl, hl, hx, hf⟩ := DataW.trod_struct h ht
  refine ho.2 enc w base spare held n cs xs (by omega) (by rw [hx, ← hts]; simp) (fun i t hi => ?_) (fun q hq => hw q (by simp only [DataW.weights, h, hts]; exact hq))
  rw [← hts, List.getElem?_map] at hi
  obtain ⟨f, hf1, rfl⟩ := Option.map_eq_some_iff.1 hi
  have hf2 : fs[i]? = some f := by simpa using hf1
  have := hf i f hf2
  rw [hoff i f hf2] at this
  exact this
theorem opens_iso {P : Program} {T : TypeId} {α β : Type} {d : Kd α} {ok : α → Prop} (f : β → α) (g : α → β) (hg : ∀ x, f (g x) = x) (h : Opens P T d ok) : Opens P T (Kd.iso d f) (fun y => ok (f y)) :=
  ⟨h.1, fun enc w base spare held fuel cs x ht hw => by
    obtain ⟨y, k, o⟩ := h.2 enc w base spare held fuel cs x ht hw
    exact ⟨g y, by show d.K w (f (g y)) cs; rw [hg]; exact k, by show ok (f (g y)); rw [hg]; exact o⟩⟩

/-- An argument's reading, opened. -/
theorem opened {P : Program} {T : TypeId} {α : Type} {d : Kd α} {ok : α → Prop} (ho : Opens P T d ok) {H : Type} {enc : TypeId × Value → H} {w : World} {base : Nat} {spare : Nat → Bool} {held : Bool} {v : Value} {x : DataW H} {p : List MemPlace} {ts : List TypeId} {ds : List (DataW H)} {j : Nat}
    (hsz : (DataW.weightsEach P ts ds).all (· ≤ reachBytes) = true) (ht : ts[j]? = some T) (hd : ds[j]? = some x) (h : DataW.Trod enc P w base spare held T v x p) : ∃ y : α, d.K w y v.cells.toList ∧ ok y := by
  obtain ⟨fuel, hf⟩ := h
  exact ho.2 enc w base spare held fuel _ _ hf (fun n hn => by simpa using List.all_eq_true.1 hsz _ (DataW.weights_mem_each ht hd n hn))
end Go.Proofs.Ytangepklgeikkaa.Op
