/- Rows of numbers and of bytes, by the stretch of blocks that they lie in; an array's slice; plain lemmas. -/
import Derived.Test.YtiefmocfgneldaaQx0
import Derived.Test.YtiefmocfgneldaaHApp
set_option linter.unusedVariables false
set_option linter.unusedSimpArgs false
namespace Go.Proofs.Ytiefmocfgneldaa.Q
open Go.RowKit Go.Proofs.YtiefmocfgneldaaW.PrintWords Go.Proofs.YtiefmocfgneldaaW.PrintLast Go.Proofs.YtiefmocfgneldaaW.PrintMore Go.Proofs.Ytiefmocfgneldaa.Pl
/-- A literal's cells. -/
theorem C_lit (k : IntKind) (W : World) (xs : List Int) (e : Nat) (hm : xs.length ≤ 9223372036854775807) : (Kd.int k).C (W.alloc (.cells (xs.map (Value.int k)).toArray e)) (some ⟨W.heap.size, 0, none⟩) xs.length xs := by
  refine Kd.C_of_reads (d := (0 : Int)) ⟨rfl, hm, fun _ => ⟨_, rfl, fun j hj => ?_⟩⟩
  have h := blk_cell (blk_new W (.cells (xs.map (Value.int k)).toArray e)) j
  rw [show ((⟨W.heap.size, 0, none⟩ : Addr).add j) = ⟨W.heap.size, j, none⟩ from by simp [Addr.add]; omega]
  rw [h]
  simp [List.getD_eq_getElem?_getD, List.getElem?_eq_getElem hj]
/-- A row whose block lies from lo on, ahead of hi. -/
def RK (k : IntKind) (T : Nat) (W : World) (lo hi : Nat) (v : Value) (xs : List Int) : Prop := Kd.R (Kd.int k) T W lo (fun b => lo ≤ b ∧ b < hi) v xs
section
variable {k : IntKind} {T : Nat} {w w' W W1 : World} {lo hi : Nat} {v : Value} {xs : List Int} {ok : Nat → Prop}
theorem RK.of (h : Kd.R (Kd.int k) T w' w.heap.size ok v xs) : RK k T w' w.heap.size w'.heap.size v xs := Kd.R_mono (Kd.R_bound h) (fun b hb => ⟨hb.2.1, hb.2.2.1⟩)
theorem RK.below (h : RK k T W lo hi v xs) (hb : Below W.heap.size W W1) : RK k T W1 lo hi v xs := Kd.R_step h (fun b _ hlt => hb.block b hlt)
theorem RK.off {r : Option Nat} (h : RK k T W lo hi v xs) (hg : W.grownBy W1 r) (hn : ∀ g, r = some g → ¬ (lo ≤ g ∧ g < hi)) : RK k T W1 lo hi v xs := Kd.R_step h (fun b hb hlt => hg.block b hlt (fun e => hn b e.symm hb))
theorem RK.lit (h : RK k T W lo hi v xs) : ∃ A c, v = .slice A xs.length c := by
  obtain ⟨A, c, rfl, -⟩ := Kd.R_reads h
  exact ⟨_, _, rfl⟩
theorem RK.reads {A : Option Addr} {n c : Nat} (h : RK k T W lo hi (.slice A n c) xs) : Kd.C (Kd.int k) W A xs.length xs ∧ xs.length ≤ c := by
  obtain ⟨rfl, a, b⟩ := Kd.R_reads' h
  exact ⟨b, a⟩
theorem RK.put {g n c : Nat} (h : RK k T W lo hi (.slice (some ⟨g, 0, none⟩) n c) xs) (hn : xs.length = n) (j : Nat) (hj : j < n) (z : Int) :
    RK k T (W.setCell ⟨g, j, none⟩ (.int k z)) lo hi (.slice (some ⟨g, 0, none⟩) n c) (xs.set j z) ∧ W.grownBy (W.setCell ⟨g, j, none⟩ (.int k z)) (some g) ∧ lo ≤ g ∧ g < hi ∧ W.cell? ⟨g, j, none⟩ = some (.int k (xs.getD j 0)) ∧ W.frozen? ⟨g, j, none⟩ = false := by
  obtain ⟨hp, hg⟩ := Kd.R_putg h (j : Int) z
  simp only [Int.toNat_natCast] at hp hg
  have h2 := Kd.R_celln (0 : Int) h (j : Int) (by omega) (by omega)
  simp only [Int.toNat_natCast, rdOf] at h2
  exact ⟨hp, hg, (h.1 g rfl).1, (h.1 g rfl).2, h2.1, h2.2⟩
theorem RK.head {n c : Nat} {A : Option Addr} (h : RK k T W lo hi (.slice A n c) xs) (hn : 0 < n) : ∃ g, A = some ⟨g, 0, none⟩ := by
  have h2 := Kd.R_reads' h
  obtain ⟨ad, rfl, -⟩ := Kd.at_int h2.2.2 0 (by omega) (by omega)
  obtain ⟨p, rfl⟩ := Kd.R_head h
  exact ⟨p, rfl⟩
end
/-- A bag of rows. -/
structure Rw where
  k : IntKind
  T : Nat
  lo : Nat
  hi : Nat
  v : Value
  xs : List Int
def Bag (W : World) (L : List Rw) : Prop := ∀ r ∈ L, RK r.k r.T W r.lo r.hi r.v r.xs
section
variable {k : IntKind} {T : Nat} {W W1 : World} {L : List Rw} {lo hi : Nat} {v : Value} {xs : List Int}
theorem Bag.nil (W : World) : Bag W [] := fun r hr => by simp at hr
theorem Bag.at_ {r : Rw} (h : Bag W L) (hr : r ∈ L) : RK r.k r.T W r.lo r.hi r.v r.xs := h r hr
theorem Bag.next (h : Bag W L) (hb : Below W.heap.size W W1) : Bag W1 L := fun r hr => (h r hr).below hb
theorem Bag.off {g : Option Nat} (h : Bag W L) (hg : W.grownBy W1 g) (hn : ∀ r ∈ L, ∀ b, g = some b → ¬ (r.lo ≤ b ∧ b < r.hi)) : Bag W1 L := fun r hr => (h r hr).off hg (hn r hr)
theorem Bag.add (h : Bag W L) (r : RK k T W lo hi v xs) : Bag W (⟨k, T, lo, hi, v, xs⟩ :: L) := by
  intro x hx
  rcases List.mem_cons.1 hx with rfl | hx
  · exact r
  · exact h x hx
end
/-- Bytes. -/
def Byt (xs : List Int) : Prop := ∀ x ∈ xs, 0 ≤ x ∧ x ≤ 255
theorem Byt.set {xs : List Int} (h : Byt xs) (j : Nat) (z : Int) (hz : 0 ≤ z ∧ z ≤ 255) : Byt (xs.set j z) := by
  intro x hx
  rcases List.mem_or_eq_of_mem_set hx with h1 | rfl
  · exact h x h1
  · exact hz
theorem rc_slice {P : Program} {t e : TypeId} {n : Nat} (ht : P.underlying t = some (.array n e)) (hi : (P.info? e).map (·.size) = some 1) (W : World) (g : Nat) :
    (Instr.sliceAt t (.pointer (some ⟨g, 0, none⟩)) none none none).run P W = .ok (.slice (some ⟨g, 0, none⟩) n n) W := by
  obtain ⟨i, hi, hs⟩ := Option.map_eq_some_iff.1 hi
  have ha : P.arrayLen t = n := by simp [Program.arrayLen, ht]
  have he : P.elem t = e := by simp [Program.elem, ht]
  rw [run_sliceAt_array_all]
  · simp [he, ha, sizeOf, typeInfo, hi, hs, slicedAt, Addr.add]
  all_goals simp_all
end Go.Proofs.Ytiefmocfgneldaa.Q
