/- Functions of the program as plain Lean functions, each with a proof that its call comes to just these answers, and the row that joins them to the given statement; no condition beside the statement's own. Written for this claim by this session's programs (pf.py, pack.py) over the kit's print. -/
import Derived.Lib.SliceRun
import Derived.Laws.CopyOwn
import Derived.BigRegion
import Derived.RegionTactic
import Derived.Test.YthkcadmjfkcbgaaZFrameFeeds0
import Derived.Test.YthkcadmjfkcbgaaZFrameFeeds1
section
set_option linter.unusedVariables false
namespace Go.Proofs.YthkcadmjfkcbgaaW.PrintWords
open Go.RowKit
namespace Kd
section
variable {P : Program} {ops : Array Oper} {rest : List Oper} {o : Oper} {a : Act} {Q : Exit → Act → World → Prop} {Kc : Act → World → Prop}
variable {α : Type}
theorem own_empty (W : World) (base e size : Nat) (cs : Array Value) (n : Nat) (hb : base ≤ W.heap.size) (hm : n ≤ maxLen) (hs : cs.size = n * size) :
    (W.alloc (.cells cs e)).ownsRow base e size (.slice (some ⟨W.heap.size, 0, none⟩) 0 n) 0 [] :=
  ⟨by simp, .inr ⟨W.heap.size, n, cs, rfl, hb, heap_alloc_new W _, Nat.zero_le _, hm, hs, by simp⟩⟩
theorem R_empty_run (d : Kd α) {W : World} (base e : Nat) {ok : Nat → Prop} (cs : Array Value) (n : Nat) (hb : base ≤ W.heap.size) (hm : n ≤ maxLen) (hs : cs.size = n * d.sz) (hfresh : ok W.heap.size) :
    d.R e (W.alloc (.cells cs e)) base ok (.slice (some ⟨W.heap.size, 0, none⟩) 0 n) [] := by
  refine ⟨fun k hk => ?_, [], ?_, ?_⟩
  · have : W.heap.size = k := by simpa [Value.ownBlock] using hk
    subst this
    exact hfresh
  · exact own_empty W base e d.sz cs n hb hm hs
  · exact Reps.none _ _
theorem run_make0 (d : Kd α) {W : World} (e : Nat) (t : TypeId) (x y : Operand) (ho : o.op = .makeSlice t x y) (n : Int) (hx : a.eval x = .int .i64 0) (hy : a.eval y = .int .i64 n)
    (ht : P.underlying t = some (.slice e)) (z : Value) (bytes : Nat) (hinfo : (P.info? e).map (fun i => (i.zero, i.size, i.bytes)) = some (some z, d.sz, bytes)) (hb0 : 0 < bytes) (h0 : 0 ≤ n) (hl : n.toNat * bytes ≤ 281474976710656) :
    (execOp a.eval o).run P W = .ok (.value (.slice (some ⟨W.heap.size, 0, none⟩) 0 n.toNat)) (W.alloc (.cells (madeCells z.cells (n.toNat * d.sz)) e)) := by
  obtain ⟨m, rfl⟩ := Int.eq_ofNat_of_zero_le h0
  simp only [Int.toNat_natCast] at hl ⊢
  obtain ⟨i0, hi, hzz⟩ := Option.map_eq_some_iff.1 hinfo
  simp only [Prod.mk.injEq] at hzz
  obtain ⟨hz0, hz1, hz2⟩ := hzz
  have hm : m ≤ 281474976710656 := Nat.le_trans (Nat.le_mul_of_pos_right _ hb0) hl
  have hr := run_make (P := P) W t e i0 z ht hi hz0 .i64 .i64 (0 : Int) (m : Int) (by omega) (by omega)
    (by
      have h3 : ((i0.bytes * m : Nat) : Int) ≤ 281474976710656 := by rw [hz2, Nat.mul_comm]; omega
      rwa [Int.natCast_mul] at h3) (by omega)
  simp only [Int.toNat_natCast, Int.toNat_zero] at hr
  rw [hz1] at hr
  simp [execOp, ho, hx, hy, hr]
theorem R_make0 (d : Kd α) {w0 W : World} (base e : Nat) (hgd : o.guard = none) {N : Tmp} (hd : o.dst = some N) (t : TypeId) (x y : Operand) (ho : o.op = .makeSlice t x y) (n : Int) (hx : a.eval x = .int .i64 0) (hy : a.eval y = .int .i64 n)
    (ht : P.underlying t = some (.slice e)) (z : Value) (bytes : Nat) (hinfo : (P.info? e).map (fun i => (i.zero, i.size, i.bytes)) = some (some z, d.sz, bytes)) (hz : z.cells.size = d.sz) (hs0 : 0 < d.sz) (hb0 : 0 < bytes)
    (z0 : α) {ok okp : Nat → Prop} (hzero : d.M W base okp z0 z.cells.toList) (hok : ∀ k, okp k → ok k) (hfresh : ok W.heap.size) (h0 : 0 ≤ n) (hl : n.toNat * bytes ≤ 281474976710656) (HB : Below base w0 W) (hbase : base ≤ W.heap.size)
    (h : ∀ v1 w1, d.R e w1 base ok v1 ([] : List α) → Below base w0 w1 → W.grownBy w1 none → (∃ b, v1.ownBlock = some b ∧ W.heap.size ≤ b) → wpList P ops Q rest (a.put o.dst v1) w1) : wpList P ops Q (o :: rest) a W := by
  have hm : n.toNat ≤ 281474976710656 := Nat.le_trans (Nat.le_mul_of_pos_right _ hb0) hl
  refine event_run hgd (run_make0 d e t x y ho n hx hy ht z bytes hinfo hb0 h0 hl) (h _ _ (R_empty_run d base e _ _ hbase (by simp only [maxLen]; omega) (by simp [size_madeCells]) hfresh) (HB.alloc hbase _) (World.grownBy_alloc W _ none) ⟨W.heap.size, by simp [Value.ownBlock], Nat.le_refl _⟩)
end
section
variable {P : Program} {ops : Array Oper} {rest : List Oper} {o : Oper} {a : Act} {Q : Exit → Act → World → Prop}
end
end Kd
end Go.Proofs.YthkcadmjfkcbgaaW.PrintWords
end
section
set_option linter.unusedVariables false
set_option linter.unusedSimpArgs false
namespace Go.Proofs.Ythkcadmjfkcbgaa.Pl
open Go.RowKit Go.Proofs.YthkcadmjfkcbgaaW.PrintWords Go.Proofs.YthkcadmjfkcbgaaW.PrintLast
theorem w64 {x : Int} (h0 : -9223372036854775808 ≤ x) (h1 : x ≤ 9223372036854775807) : wrap64 x = x := by
  unfold wrap64
  omega
theorem w64n {x : Nat} (h1 : x ≤ 9223372036854775807) : wrap64 (x : Int) = x := w64 (by omega) (by omega)
section
variable {α β : Type} {g f : Nat → Option α} {r : α}
theorem ev_pos {c : Prop} [Decidable c] {a b : Nat → Option α} (h : c) (k : Ev a r) : Ev (fun n => if c then a n else b n) r :=
  Ev.congr (fun _ => if_pos h) k
theorem ev_neg {c : Prop} [Decidable c] {a b : Nat → Option α} (h : ¬ c) (k : Ev b r) : Ev (fun n => if c then a n else b n) r :=
  Ev.congr (fun _ => if_neg h) k
theorem ev_some {x r : α} (h : x = r) : Ev (fun _ => some x) r := h ▸ Ev.now x
theorem ev_bind {a : α} {s : β} {g : Nat → Option α} {f : Nat → α → Option β} (h : Ev g a) (k : Ev (fun n => f n a) s) : Ev (fun n => (g n).bind (f n)) s := Ev.bind h k
theorem ev_bind0 {a : α} {s : β} {g : Option α} {f : Nat → α → Option β} (h : g = some a) (k : Ev (fun n => f n a) s) : Ev (fun n => g.bind (f n)) s := by
  subst h
  exact Ev.congr (fun _ => rfl) k
end
theorem rd_lt (xs : List Int) (i : Nat) (h : i < xs.length) : rd xs (i : Int) = xs[i] := by simp [rd, h]
theorem rd_mem (xs : List Int) (i : Int) (h : i.toNat < xs.length) : rd xs i ∈ xs := by
  unfold rd
  rw [List.getD_eq_getElem?_getD, List.getElem?_eq_getElem h]
  exact List.getElem_mem h
theorem drop_rd (xs : List Int) (i : Nat) (h : i < xs.length) : xs.drop i = rd xs (i : Int) :: xs.drop (i + 1) := by
  rw [rd_lt xs i h]
  exact List.drop_eq_getElem_cons h
theorem wf_u8 {x : Int} (h : (Lit.int .u8 x).wf = true) : 0 ≤ x ∧ x ≤ 255 := by
  have a : IntKind.u8.min = 0 := by rfl
  have b : IntKind.u8.max = 255 := by rfl
  simp [Lit.wf, a, b] at h
  omega
end Go.Proofs.Ythkcadmjfkcbgaa.Pl
end
