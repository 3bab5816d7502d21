/- BraidWeaves: the calls of the statement, as it has them; plain lemmas. -/
import Derived.Test.YtiefmocfgneldaaBvG
import Derived.Test.YtiefmocfgneldaaBwL0
import Derived.Test.YtiefmocfgneldaaBwR
import Derived.Test.YtiefmocfgneldaaBwC
import Derived.Test.YtiefmocfgneldaaBwT
import Derived.Test.YtiefmocfgneldaaBwU
import Derived.Stop.BytesEq
import Derived.ChangeKeysEq
set_option linter.unusedVariables false
set_option linter.unusedSimpArgs false
namespace Go.Proofs.Ytiefmocfgneldaa.Q
open Go.RowKit Go.Proofs.YtiefmocfgneldaaW.PrintWords Go.Proofs.YtiefmocfgneldaaW.PrintLast Go.Proofs.YtiefmocfgneldaaW.PrintMore Go.Proofs.Ytiefmocfgneldaa.Pl
theorem arrThing : Try.prog.underlying 40 = some (.array 2 3) := by kernel_rfl
theorem intInt : Try.prog.underlying 3 = some (.int .i64) := by kernel_rfl
theorem guardThing : Try.prog.eqGuardType Try.prog.depth 40 = false := by kernel_rfl
theorem cells1 : Try.prog.cellsOf 3 = 1 := by kernel_rfl
theorem size1 (W : World) : (sizeOf 3).run Try.prog W = .ok 1 W := by
  obtain ⟨i, hi, -⟩ := Option.map_eq_some_iff.1 info3
  rw [run_sizeOf W hi, cells1]
theorem eq_thing (W : World) (x y : Int) : (Op.equalIn 10000 40 (.agg #[.int .i64 x, .int .i64 y]) (.agg #[.int .i64 x, .int .i64 y])).run Try.prog W = .ok true W := by
  rw [show (10000 : Nat) = 9998 + 1 + 1 from rfl, Op.equalIn]
  simp only [Sem.run_bind, run_underlying arrThing, Result.andThen_ok, size1, Std.Legacy.Range.forIn_eq_forIn_range', Std.Legacy.Range.size, Nat.sub_zero, Nat.add_sub_cancel, Nat.div_one]
  rw [show List.range' 0 2 1 = [0, 1] from rfl]
  have px : (part 3 #[.int .i64 x, .int .i64 y] 0).run Try.prog W = .ok (.int .i64 x) W := by simp [part, isAgg, run_underlying intInt]
  have py : (part 3 #[.int .i64 x, .int .i64 y] 1).run Try.prog W = .ok (.int .i64 y) W := by simp [part, isAgg, run_underlying intInt]
  have pe : ∀ a : Int, (Op.equalIn 9999 3 (.int .i64 a) (.int .i64 a)).run Try.prog W = .ok true W := fun a => by
    rw [show (9999 : Nat) = 9998 + 1 from rfl, run_equalIn_int W 9998 _ _ _ _ _ intInt]
    simp
  simp [px, py, pe]
def SS (j k : Nat) : ByteArray := if j = 0 then (if k = 0 then ⟨#[97]⟩ else ⟨#[98]⟩) else ⟨#[99]⟩
theorem str_wvA : wvA [1, 0, 0] [2, 1] = ([(1, 0), (0, 0), (0, 1)], 0) :=
  wvA_eq (fun j hj => by
    simp only [List.mem_cons, List.not_mem_nil, or_false] at hj
    rcases hj with rfl | rfl | rfl <;> simp) (by decide)
/-- The closed call: [a b] and [c] woven by 1 0 0. -/
theorem str_calls (w : World) : ∃ W0, (((w.alloc (.cells #[.int .i64 1, .int .i64 0, .int .i64 0] 3)).alloc (.cells #[.string ⟨#[97]⟩, .string ⟨#[98]⟩] 9)).alloc (.cells #[.string ⟨#[99]⟩] 9)).alloc
      (.cells #[.slice (some ⟨w.heap.size + 1, 0, none⟩) 2 2, .slice (some ⟨w.heap.size + 1 + 1, 0, none⟩) 1 1] 23) = W0 ∧ Below w.heap.size w W0 ∧
    Calls Try.prog 9 #[.slice (some ⟨w.heap.size, 0, none⟩) 3 3, .slice (some ⟨w.heap.size + 1 + 1 + 1, 0, none⟩) 2 2] W0 fun e w' => ∃ g c, e = .returned (.tuple #[.slice (some ⟨g, 0, none⟩) 3 c, .int .i64 0]) ∧
      w'.cell? ⟨g, 0, none⟩ = some (.string ⟨#[99]⟩) ∧ w'.cell? ⟨g, 1, none⟩ = some (.string ⟨#[97]⟩) ∧ w'.cell? ⟨g, 2, none⟩ = some (.string ⟨#[98]⟩) ∧ Below W0.heap.size W0 w' := by
  obtain ⟨W1, h1⟩ : ∃ W1, w.alloc (.cells #[.int .i64 1, .int .i64 0, .int .i64 0] 3) = W1 := ⟨_, rfl⟩
  have b1 : Below w.heap.size w W1 := by subst h1; exact below_alloc (Below.refl _ _) _
  have s1 : W1.heap.size = w.heap.size + 1 := by subst h1; simp
  have c1 : Kd.C (Kd.int .i64) W1 (some ⟨w.heap.size, 0, none⟩) 3 [1, 0, 0] := by subst h1; exact C_lit .i64 w [1, 0, 0] 3 (by simp)
  rw [h1]
  obtain ⟨W2, h2⟩ : ∃ W2, W1.alloc (.cells #[.string ⟨#[97]⟩, .string ⟨#[98]⟩] 9) = W2 := ⟨_, rfl⟩
  have b2 : Below W1.heap.size W1 W2 := by subst h2; exact below_alloc (Below.refl _ _) _
  have s2 : W2.heap.size = w.heap.size + 1 + 1 := by subst h2; simp [s1]
  have c2 : ∀ j u, [Value.string ⟨#[97]⟩, .string ⟨#[98]⟩][j]? = some u → W2.cell? ⟨w.heap.size + 1, j, none⟩ = some u := by rw [← s1]; subst h2; exact fun j u hu => lit_cells _ _ _ j u hu
  rw [h2]
  obtain ⟨W3, h3⟩ : ∃ W3, W2.alloc (.cells #[.string ⟨#[99]⟩] 9) = W3 := ⟨_, rfl⟩
  have b3 : Below W2.heap.size W2 W3 := by subst h3; exact below_alloc (Below.refl _ _) _
  have s3 : W3.heap.size = w.heap.size + 1 + 1 + 1 := by subst h3; simp [s2]
  have c3 : ∀ j u, [Value.string ⟨#[99]⟩][j]? = some u → W3.cell? ⟨w.heap.size + 1 + 1, j, none⟩ = some u := by rw [← s2]; subst h3; exact fun j u hu => lit_cells _ _ _ j u hu
  rw [h3]
  obtain ⟨W4, h4⟩ : ∃ W4, W3.alloc (.cells #[.slice (some ⟨w.heap.size + 1, 0, none⟩) 2 2, .slice (some ⟨w.heap.size + 1 + 1, 0, none⟩) 1 1] 23) = W4 := ⟨_, rfl⟩
  have b4 : Below W3.heap.size W3 W4 := by subst h4; exact below_alloc (Below.refl _ _) _
  have s4 : W4.heap.size = w.heap.size + 1 + 1 + 1 + 1 := by subst h4; simp [s3]
  have c4 : ∀ j u, [Value.slice (some ⟨w.heap.size + 1, 0, none⟩) 2 2, .slice (some ⟨w.heap.size + 1 + 1, 0, none⟩) 1 1][j]? = some u → W4.cell? ⟨w.heap.size + 1 + 1 + 1, j, none⟩ = some u := by rw [← s3]; subst h4; exact fun j u hu => lit_cells _ _ _ j u hu
  clear h1 h2 h3
  refine ⟨W4, h4, below_step b1 (below_step b2 (below_step b3 b4)), ?_⟩
  have b24 := below_step b3 b4
  have C4 := Kd.C_below c1 (below_step b2 b24)
  have c2' : ∀ j u, [Value.string ⟨#[97]⟩, .string ⟨#[98]⟩][j]? = some u → W4.cell? ⟨w.heap.size + 1, j, none⟩ = some u := fun j u hu => (b24.cell (p := ⟨w.heap.size + 1, j, none⟩) (by rw [s2]; show w.heap.size + 1 < _; omega)).trans (c2 j u hu)
  have c3' : ∀ j u, [Value.string ⟨#[99]⟩][j]? = some u → W4.cell? ⟨w.heap.size + 1 + 1, j, none⟩ = some u := fun j u hu => (b4.cell (p := ⟨w.heap.size + 1 + 1, j, none⟩) (by rw [s3]; show w.heap.size + 1 + 1 < _; omega)).trans (c3 j u hu)
  have hw : WR 1 W4 (some ⟨w.heap.size + 1 + 1 + 1, 0, none⟩) [2, 1] (fun j k => [.string (SS j k)]) := by
    refine ⟨fun j k => rfl, fun j k u hu => by rw [List.mem_singleton.1 hu]; rfl, fun j hj => ?_⟩
    have hj2 : j = 0 ∨ j = 1 := by simp at hj; omega
    rcases hj2 with rfl | rfl
    · refine ⟨_, w.heap.size + 1, 2, 2, rfl, by omega, rfl, c4 0 _ rfl, Nat.le_refl _, by omega, fun k hk t u hu => ?_⟩
      have ht : t = 0 := by have := (List.getElem?_eq_some_iff.1 hu).1; simp at this; omega
      subst ht
      have hk2 : k = 0 ∨ k = 1 := by omega
      rcases hk2 with rfl | rfl
      · exact c2' 0 u hu
      · exact c2' 1 u hu
    · refine ⟨_, w.heap.size + 1 + 1, 1, 1, rfl, by omega, rfl, c4 1 _ rfl, Nat.le_refl _, by omega, fun k hk t u hu => ?_⟩
      have ht : t = 0 := by have := (List.getElem?_eq_some_iff.1 hu).1; simp at this; omega
      subst ht
      obtain rfl : k = 0 := by omega
      exact c3' 0 u hu
  refine (weave_str_calls SS _ 3 [1, 0, 0] _ 2 [2, 1] W4 C4 (by simp) hw (by simp) (by simp) (by simp) (by simp) (by decide)).mono ?_
  rintro e w' ⟨v, rfl, ho, hb⟩
  rw [str_wvA] at ho
  rw [str_wvA]
  obtain ⟨A, c, rfl, -, -, hc⟩ := many_cells ho
  obtain ⟨g, rfl, p0, -⟩ := hc 0 (.string ⟨#[99]⟩) rfl
  obtain ⟨g1, e1, p1, -⟩ := hc 1 (.string ⟨#[97]⟩) rfl
  obtain ⟨g2, e2, p2, -⟩ := hc 2 (.string ⟨#[98]⟩) rfl
  injection e1 with e1
  injection e1 with e1
  injection e2 with e2
  injection e2 with e2
  subst e1
  subst e2
  exact ⟨g, c, rfl, p0, p1, p2, hb⟩
theorem pair_cells2 {W : World} {base T n c i : Nat} {A : Option Addr} {ps : List (Int × Int)} {x y : Int} (h : W.ownsRow base T 2 (.slice A n c) n (pcells ps)) (hx : ps[i]? = some (x, y)) :
    ∃ g, A = some ⟨g, 0, none⟩ ∧ W.cell? ⟨g, i * 2, none⟩ = some (.int .i64 x) ∧ W.cell? ⟨g, i * 2 + 1, none⟩ = some (.int .i64 y) ∧ W.frozen? ⟨g, i * 2, none⟩ = false ∧ W.frozen? ⟨g, i * 2 + 1, none⟩ = false := by
  obtain ⟨A', c', e, -, -, hc⟩ := many_cells h
  injection e with e1 e2 e3
  subst e1
  obtain ⟨g1, g2⟩ := pcells_get ps i (x, y) hx
  obtain ⟨g, rfl, q0, z0⟩ := hc _ _ g1
  obtain ⟨g', e, q1, z1⟩ := hc _ _ g2
  injection e with e
  injection e with e
  subst e
  exact ⟨g, rfl, q0, q1, z0, z1⟩
/-- Both cells of one thing written. -/
theorem row_put2 {W : World} {base T n c g k : Nat} {ps : List (Int × Int)} (h : W.ownsRow base T 2 (.slice (some ⟨g, 0, none⟩) n c) n (pcells ps)) (hl : ps.length = n) (hk : k < n) (a b : Int) :
    ((W.setCell ⟨g, k * 2, none⟩ (.int .i64 a)).setCell ⟨g, k * 2 + 1, none⟩ (.int .i64 b)).ownsRow base T 2 (.slice (some ⟨g, 0, none⟩) n c) n (pcells (ps.set k (a, b))) := by
  have o1 := (many_put h (k := k * 2) (by omega) (.int .i64 a)).1
  have o2 := (many_put o1 (k := k * 2 + 1) (by omega) (.int .i64 b)).1
  rw [← pcells_set ps k (a, b) (by omega)]
  exact o2
theorem set2_other {W : World} {g i j : Nat} {u v : Value} {b : Nat} (hb : b ≠ g) : ((W.setCell ⟨g, i, none⟩ u).setCell ⟨g, j, none⟩ v).heap[b]? = W.heap[b]? :=
  (Below.heap_setCell _ ⟨g, j, none⟩ _ b hb).trans (Below.heap_setCell _ ⟨g, i, none⟩ _ b hb)
theorem set2_below {W0 W : World} {B g i j : Nat} {u v : Value} (h : Below B W0 W) (hg : B ≤ g) : Below B W0 ((W.setCell ⟨g, i, none⟩ u).setCell ⟨g, j, none⟩ v) := (h.setCell hg _).setCell hg _
theorem over_set {ps : List (Int × Int)} {i : Nat} {z : Int × Int} (hi : i < ps.length) : (List.replicate i z ++ ps.drop i).set i z = List.replicate (i + 1) z ++ ps.drop (i + 1) := by
  rw [List.set_append_right _ _ (by simp), List.length_replicate, Nat.sub_self, List.drop_eq_getElem_cons hi, List.set_cons_zero, List.replicate_succ', List.append_assoc]
  rfl
theorem over_len {ps : List (Int × Int)} {i : Nat} {z : Int × Int} (hi : i ≤ ps.length) : (List.replicate i z ++ ps.drop i).length = ps.length := by simp; omega
theorem six_one : ∀ u ∈ [Value.int .i64 (-6), .int .i64 (-6), .int .i64 (-6), .int .i64 (-6)], u.oneCell' = true := by simp [Value.oneCell']
theorem CK.cell {W : World} {lo hi n c j : Nat} {A : Option Addr} {L : List Ck} {cs : List (List (Int × Int))} {x : Ck} (h : CK W lo hi (.slice A n c) L cs) (hx : L[j]? = some x) : ∃ g, A = some ⟨g, 0, none⟩ ∧ W.cell? ⟨g, j, none⟩ = some (.slice (some ⟨x.g, 0, none⟩) x.n x.c) := by
  obtain ⟨A', c', e, -, -, hc⟩ := many_cells h.out
  injection e with e1 e2 e3
  subst e1
  obtain ⟨g, rfl, q, -⟩ := hc j (ckv x) (by simp [hx])
  exact ⟨g, rfl, q⟩
theorem CK.room {W : World} {lo hi j : Nat} {v : Value} {L : List Ck} {cs : List (List (Int × Int))} {x : Ck} (h : CK W lo hi v L cs) (hx : L[j]? = some x) : x.n + 1 ≤ x.c ∧ lo ≤ x.g ∧ x.g < hi := by
  obtain ⟨p, hp, hpl, a, b, -, hown⟩ := h.has hx
  obtain ⟨A2, c2, e, hnc, -, -⟩ := many_cells hown
  injection e with e1 e2 e3
  exact ⟨by omega, a, b⟩
theorem len_at {L : List Ck} {lens : List Int} {j : Nat} (hL : L.map (fun x => (x.n : Int)) = lens) (hj : j < lens.length) : ∃ x, L[j]? = some x ∧ rd lens (j : Int) = ((x.n : Nat) : Int) := by
  subst hL
  rw [List.length_map] at hj
  exact ⟨L[j], List.getElem?_eq_getElem hj, by simp [rd, hj]⟩
theorem cut_room (g n c : Nat) (h : n + 1 ≤ c) (hw : n ≤ 65536) : ∀ W : World, (Instr.slice 36 (.slice (some ⟨g, 0, none⟩) n c) none (some (.int .i64 (wrap64 ((n : Int) + 1)))) none).run Try.prog W = .ok (.slice (some ⟨g, 0, none⟩) (n + 1) c) W := by
  intro W
  rw [w64 (by omega) (by omega)]
  obtain ⟨i, hi, hz⟩ := Option.map_eq_some_iff.1 infoThing
  have hel : Try.prog.elem 36 = 40 := by simp [Program.elem, underThings]
  have hu : Try.prog.underlying 36 = some (.slice (Try.prog.elem 36)) := by rw [hel]; exact underThings
  have hj : ((n : Int) + 1).toNat = n + 1 := by omega
  rw [run_slice_h W _ _ n c hu .i64 ((n : Int) + 1) (by omega) (by omega), hel]
  simp [sizeOf, typeInfo, hi, sliced, Result.andThen, hj, Addr.add]
theorem CK.thing {W : World} {lo hi j k : Nat} {v : Value} {L : List Ck} {cs : List (List (Int × Int))} {x : Ck} {p : List (Int × Int)} {a b : Int} (h : CK W lo hi v L cs) (hx : L[j]? = some x) (hp : cs[j]? = some p) (hk : p[k]? = some (a, b)) :
    W.cell? ⟨x.g, k * 2, none⟩ = some (.int .i64 a) ∧ W.cell? ⟨x.g, k * 2 + 1, none⟩ = some (.int .i64 b) ∧ W.frozen? ⟨x.g, k * 2, none⟩ = false ∧ W.frozen? ⟨x.g, k * 2 + 1, none⟩ = false := by
  obtain ⟨-, -, hown⟩ := h.own j x p hx hp
  obtain ⟨g, e, q0, q1, z0, z1⟩ := pair_cells2 hown hk
  injection e with e
  injection e with e
  subst e
  exact ⟨q0, q1, z0, z1⟩
theorem chk_at {j n k : Nat} (hk : k < n + 1) : (k < n ∧ (chk j n ++ [((-1 : Int), (-1 : Int))])[k]? = some ((j : Int), (k : Int))) ∨ (k = n ∧ (chk j n ++ [((-1 : Int), (-1 : Int))])[k]? = some ((-1 : Int), (-1 : Int))) := by
  by_cases h : k < n
  · exact .inl ⟨h, by rw [List.getElem?_append_left (by rw [chk_len]; exact h), chk_get h]⟩
  · obtain rfl : k = n := by omega
    refine .inr ⟨rfl, ?_⟩
    rw [List.getElem?_append_right (by rw [chk_len]; exact Nat.le_refl _), chk_len, Nat.sub_self]
    rfl
theorem chk_lt {j n k : Nat} (h : k < n) : (chk j n ++ [((-1 : Int), (-1 : Int))])[k]? = some ((j : Int), (k : Int)) := by
  rw [List.getElem?_append_left (by rw [chk_len]; exact h), chk_get h]
theorem chk_eq {j n : Nat} : (chk j n ++ [((-1 : Int), (-1 : Int))])[n]? = some ((-1 : Int), (-1 : Int)) := by
  rw [List.getElem?_append_right (by rw [chk_len]; exact Nat.le_refl _), chk_len, Nat.sub_self]
  rfl
theorem wvA_len {chunk lens : List Int} {ps : List (Int × Int)} {er : Int} (hP : wvA chunk lens = (ps, er)) (hs : sumZ lens ≤ 1048576) (hn : ∀ x ∈ lens, 0 ≤ x) : ps.length ≤ 1048576 := by
  unfold wvA at hP
  split at hP
  · rename_i h
    have h1 := wv_len hn h.1 h.2
    injection hP with h2 h3
    rw [← h2, prs_len]
    omega
  · injection hP with h2 h3
    rw [← h2]
    simp
section
variable {chunk lens : List Int} {ps : List (Int × Int)} {er : Int} {W : World}
/-- The document's answer. -/
theorem ref_at (hP : wvA chunk lens = (ps, er)) (A0 : Option Addr) (c0 : Nat) (A1 : Option Addr) (c1 : Nat) (hr0 : Kd.C (Kd.int .i64) W A0 chunk.length chunk) (hc0 : chunk.length ≤ c0) (hr1 : Kd.C (Kd.int .i64) W A1 lens.length lens) (hc1 : lens.length ≤ c1)
    (h0 : chunk.length ≤ 17592186044000) (hg : (∀ x ∈ lens, 0 ≤ x ∧ x ≤ 65536) ∧ lens.length ≤ 1048576 ∧ sumZ lens ≤ 1048576) :
    Calls Try.prog 13 #[.slice A0 chunk.length c0, .slice A1 lens.length c1] W fun e w' => ∃ A c, e = .returned (.tuple #[.slice A ps.length c, .int .i64 er]) ∧ w'.ownsRow W.heap.size 39 2 (.slice A ps.length c) ps.length (pcells ps) ∧ Below W.heap.size W w' := by
  refine (refw_calls A0 c0 chunk A1 c1 lens W hr0 hc0 hr1 hc1 h0 (by omega) (fun x hx => by have := (hg.1 x hx).2; omega) (fun x hx => (hg.1 x hx).1) hg.2.2).mono ?_
  rintro e w' ⟨v, rfl, ho, hb⟩
  rw [hP] at ho
  rw [hP]
  obtain ⟨A, c, rfl, -, -, -⟩ := many_cells ho
  exact ⟨A, c, rfl, ho, hb⟩
/-- The program's answer. -/
theorem weave_at (hP : wvA chunk lens = (ps, er)) (A0 : Option Addr) (c0 : Nat) (hr0 : Kd.C (Kd.int .i64) W A0 chunk.length chunk ∧ chunk.length ≤ c0) {lo hi : Nat} {L : List Ck} {cs : List (List (Int × Int))} {A1 : Option Addr} {c1 : Nat} (hk : CK W lo hi (.slice A1 L.length c1) L cs) (hs : Chs L cs) (hL : L.map (fun x => (x.n : Int)) = lens)
    (h0 : chunk.length ≤ 17592186044000) (hg : (∀ x ∈ lens, 0 ≤ x ∧ x ≤ 65536) ∧ lens.length ≤ 1048576 ∧ sumZ lens ≤ 1048576) :
    Calls Try.prog 14 #[.slice A0 chunk.length c0, .slice A1 L.length c1] W fun e w' => ∃ A c, e = .returned (.tuple #[.slice A ps.length c, .int .i64 er]) ∧ w'.ownsRow W.heap.size 40 2 (.slice A ps.length c) ps.length (pcells ps) ∧ Below W.heap.size W w' := by
  have hl : L.length = lens.length := by rw [← hL, List.length_map]
  have hw := CK.wr hk hs rfl
  rw [hL] at hw
  obtain ⟨A', c', e, hcc, -, -⟩ := many_cells hk.out
  injection e with e1 e2 e3
  subst e3
  have hc := weave_thing_calls A0 c0 chunk A1 c1 lens W hr0.1 hr0.2 hw (by omega) h0 hg.2.1 (fun x hx => (hg.1 x hx).1) hg.2.2
  rw [← hl] at hc
  refine hc.mono ?_
  rintro e w' ⟨v, rfl, ho, hb⟩
  rw [ecells_things wvA_nn, hP] at ho
  rw [hP]
  obtain ⟨A, c, rfl, -, -, -⟩ := many_cells ho
  exact ⟨A, c, rfl, ho, hb⟩
end
end Go.Proofs.Ytiefmocfgneldaa.Q
