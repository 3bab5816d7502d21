/- Functions of the program as plain Lean functions, each with a proof that its call comes to just these answers, or the row that joins them to the given statement; no condition beside the statement's own. Written for this claim by pf.py, this session's program over the kit's print. -/
import Derived.Test.YthkcadmjfkcbgaaQx0
import Derived.Test.YthkcadmjfkcbgaaQx4
import Derived.Test.YthkcadmjfkcbgaaQx7
namespace Go.Proofs.Ythkcadmjfkcbgaa.Q
open Go.RowKit Go.Proofs.YthkcadmjfkcbgaaW.PrintWords Go.Proofs.YthkcadmjfkcbgaaW.PrintLast Go.Proofs.YthkcadmjfkcbgaaW.PrintMore
attribute [local go_sem] max2_int min2_int max_two min_two max_three min_three max_four min_four   -- for this text's walks alone
set_option linter.unusedVariables false
set_option linter.unusedSimpArgs false

/-! ### frame_Read: function 18 -/
section
open Go.Proofs.Ythkcadmjfkcbgaa.Pl
def fsz (t : Int) : Int := if t = 0 then 4 else if t = 1 then 1 else if t = 2 then 1 else if t = 3 then 2 else if t = 4 then 8 else if t = 5 then 8 else if t = 6 then 2 else if t = 7 then 320 else if t = 8 then 4 else 1
theorem fsz_pos (t : Int) : 1 ≤ fsz t ∧ fsz t ≤ 320 := by unfold fsz; repeat' split
                                                          all_goals omega
/-- The Feed's fields. -/
structure FS where
  (fd : List Int) (pos st left R E L a b er pl : Int)
def sumL : Int → Int → List Int → Int × Int
  | a, b, [] => (a, b)
  | a, b, c :: l => sumL ((a + c) % 65521) ((b + (a + c) % 65521) % 65521) l
def numL (l : List Int) : Int := l.foldl (fun v c => v * 256 + c) 0
def FS.nxt (s : FS) : FS := { s with st := if s.st = 5 ∨ s.st = 7 then (if s.left = 0 then 8 else 6) else s.st + 1 }
/-- The field that is whole: the state and the error. -/
def FS.jud (s : FS) : FS × Int :=
  if s.st = 8 then (if numL s.fd = s.b * 65536 + s.a then ({ s with st := 9 }, 0) else (s, 65)) else
  let p := sumL s.a s.b s.fd
  let s := { s with a := p.1, b := p.2 }
  if s.st = 0 then (if s.fd = [67, 72, 82, 78] then (s.nxt, 0) else (s, 60)) else
  if s.st = 1 then (if rd s.fd 0 = 1 then (s.nxt, 0) else (s, 61)) else
  if s.st = 2 then (if rd s.fd 0 > 8 then ({ s with L := rd s.fd 0 }, 62) else ({ s with L := rd s.fd 0 }.nxt, 0)) else
  if s.st = 3 then (if numL s.fd > 256 then ({ s with left := numL s.fd }, 63) else ({ s with left := numL s.fd }.nxt, 0)) else
  if s.st = 4 then (if numL s.fd > 4611686018427387903 then ({ s with R := wrap64 (numL s.fd) }, 62) else ({ s with R := wrap64 (numL s.fd) }.nxt, 0)) else
  if s.st = 5 then (if numL s.fd > 4611686018427387904 then ({ s with E := wrap64 (numL s.fd) }, 62) else ({ s with E := wrap64 (numL s.fd) }.nxt, 0)) else
  if s.st = 6 then (if numL s.fd = 320 then (s.nxt, 0) else (s, 64)) else
  if s.st = 7 then ({ s with left := s.left - 1 }.nxt, 0) else (s, 66)
def FS.fill (s : FS) (l : List Int) : FS := { s with fd := s.fd ++ l, pos := s.pos + l.length }
/-- A whole field is judged: then the next one, or the place of the fault. -/
def FS.fin (s : FS) : FS := if s.jud.2 = 0 then { s.jud.1 with er := 0, fd := [] } else { s.jud.1 with er := s.jud.2, pl := s.jud.1.pos - s.jud.1.fd.length }
def FS.byte (s : FS) (c : Int) : FS × List (List Int) :=
  if s.er ≠ 0 then (s, []) else
  if ((s.fill [c]).fd.length : Int) < fsz s.st then (s.fill [c], []) else ((s.fill [c]).fin, if s.st = 7 then [(s.fill [c]).fd] else [])
def FS.run (s : FS) : List Int → FS × List (List Int)
  | [] => (s, [])
  | c :: l => (((s.byte c).1.run l).1, (s.byte c).2 ++ ((s.byte c).1.run l).2)
def FS.init : FS := ⟨[], 0, 0, 0, 0, 0, 0, 1, 0, 0, 0⟩
theorem FS.run_append (l m : List Int) : ∀ s : FS, s.run (l ++ m) = (((s.run l).1.run m).1, (s.run l).2 ++ ((s.run l).1.run m).2) := by
  induction l with
  | nil => intro s; simp [FS.run]
  | cons c l ih => intro s; simp [FS.run, ih]
theorem FS.run_err (l : List Int) : ∀ s : FS, s.er ≠ 0 → s.run l = (s, []) := by
  induction l with
  | nil => intro s _; rfl
  | cons c l ih =>
    intro s h
    have hb : s.byte c = (s, []) := by unfold FS.byte; rw [if_pos h]
    simp [FS.run, hb, ih s h]
theorem FS.fill_nil (s : FS) : s.fill [] = s := by simp [FS.fill]
theorem FS.fill_fill (s : FS) (l m : List Int) : (s.fill l).fill m = s.fill (l ++ m) := by
  simp [FS.fill, Int.add_assoc]
theorem FS.fill_fd (s : FS) (l : List Int) : (s.fill l).fd = s.fd ++ l := rfl
theorem FS.fill_st (s : FS) (l : List Int) : (s.fill l).st = s.st := rfl
theorem FS.fill_er (s : FS) (l : List Int) : (s.fill l).er = s.er := rfl
/-- Bytes that leave the field short are only laid by. -/
theorem FS.run_short (l : List Int) : ∀ s : FS, s.er = 0 → (s.fd.length : Int) + l.length < fsz s.st → s.run l = (s.fill l, []) := by
  induction l with
  | nil => intro s _ _; simp [FS.run, FS.fill_nil]
  | cons c l ih =>
    intro s h0 h1
    have hb : s.byte c = (s.fill [c], []) := by
      unfold FS.byte
      rw [if_neg (by simp [h0]), if_pos (by simp only [FS.fill_fd, List.length_append, List.length_cons, List.length_nil] at h1 ⊢; omega)]
    have := ih (s.fill [c]) h0 (by simp only [FS.fill_fd, FS.fill_st, List.length_append, List.length_cons, List.length_nil] at h1 ⊢; omega)
    simp only [FS.run, hb, this, FS.fill_fill, List.nil_append]
    rfl
/-- Bytes that make the field whole. -/
theorem FS.run_whole (l : List Int) (s : FS) (h0 : s.er = 0) (h1 : (s.fd.length : Int) + l.length = fsz s.st) (hl : l ≠ []) : s.run l = ((s.fill l).fin, if s.st = 7 then [s.fd ++ l] else []) := by
  obtain ⟨m, c, rfl⟩ : ∃ m c, l = m ++ [c] := ⟨l.dropLast, l.getLast hl, (List.dropLast_concat_getLast hl).symm⟩
  rw [FS.run_append, FS.run_short m s h0 (by simp only [List.length_append, List.length_cons, List.length_nil] at h1; omega)]
  have hb : (s.fill m).byte c = ((s.fill (m ++ [c])).fin, if s.st = 7 then [s.fd ++ (m ++ [c])] else []) := by
    unfold FS.byte
    rw [if_neg (by simp [FS.fill_er, h0]), FS.fill_fill, if_neg (by simp only [FS.fill_fd, FS.fill_st, List.length_append, List.length_cons, List.length_nil] at h1 ⊢; omega)]
    rfl
  simp [FS.run, hb]
theorem hu_sizes : Try.prog.underlying 84 = some (.array 10 3) := by first | exact Try.underlying84 | kernel_rfl
theorem ix_sizes (t : Int) (h0 : 0 ≤ t) (h1 : t ≤ 9) (w : World) : (Instr.index 84 (.agg #[.int .i64 4, .int .i64 1, .int .i64 1, .int .i64 2, .int .i64 8, .int .i64 8, .int .i64 2, .int .i64 320, .int .i64 4, .int .i64 1]) (.int .i64 t)).run Try.prog w = .ok (.int .i64 (fsz t)) w := by
  rcases (by omega : t = 0 ∨ t = 1 ∨ t = 2 ∨ t = 3 ∨ t = 4 ∨ t = 5 ∨ t = 6 ∨ t = 7 ∨ t = 8 ∨ t = 9) with rfl | rfl | rfl | rfl | rfl | rfl | rfl | rfl | rfl | rfl
  all_goals simp [Instr.index, run_underlying hu_sizes, asIntOf, go_sem, fsz]
theorem size_calls (g : Nat) (v0 v1 v3 v4 v5 v6 v7 v8 v9 v10 : Value) (t : Int) (w : World) (h0 : 0 ≤ t) (h1 : t ≤ 9) (hb : w.heap[g]? = some (.cells #[v0, v1, .int .i64 t, v3, v4, v5, v6, v7, v8, v9, v10] 76 (0, 0))) :
    Calls Try.prog 35 #[.pointer (some ⟨g, 0, none⟩)] w fun e w' => e = .returned (.int .i64 (fsz t)) ∧ w' = w := by
  have hu76 := Try.underlying76
  have z2 : w.cell? ⟨g, 2, none⟩ = some (.int .i64 t) := (blk_cell hb 2).trans rfl
  have X := ix_sizes t h0 h1 w
  clear hb
  go_enter Try.func35, Try.ntmps35
  go_wp2
  go_ret
  exact ⟨rfl, rfl⟩
def FS.cells (s : FS) (v : Value) : Array Value := #[v, .int .i64 s.pos, .int .i64 s.st, .int .i64 s.left, .int .i64 s.R, .int .i64 s.E, .int .i64 s.L, .int .u32 s.a, .int .u32 s.b, .int .i64 s.er, .int .i64 s.pl]
/-- What the Feed's block alone may have turned, and what was made since. -/
def Fed (B g : Nat) (w w' : World) : Prop := Below B w w' ∧ KeepBut w w' g none
theorem Fed.refl (B g : Nat) (w : World) : Fed B g w w := ⟨Below.refl B w, KeepBut.refl w g none⟩
theorem feed_cells {w : World} {g : Nat} {v0 v1 v2 v3 v4 v5 v6 v7 v8 v9 v10 : Value} (hb : w.heap[g]? = some (.cells #[v0, v1, v2, v3, v4, v5, v6, v7, v8, v9, v10] 76 (0, 0))) :
    (w.cell? ⟨g, 0, none⟩ = some v0 ∧ w.cell? ⟨g, 1, none⟩ = some v1 ∧ w.cell? ⟨g, 2, none⟩ = some v2 ∧ w.cell? ⟨g, 3, none⟩ = some v3 ∧ w.cell? ⟨g, 4, none⟩ = some v4 ∧ w.cell? ⟨g, 5, none⟩ = some v5 ∧ w.cell? ⟨g, 6, none⟩ = some v6 ∧ w.cell? ⟨g, 7, none⟩ = some v7 ∧ w.cell? ⟨g, 8, none⟩ = some v8 ∧ w.cell? ⟨g, 9, none⟩ = some v9 ∧ w.cell? ⟨g, 10, none⟩ = some v10) ∧
    (w.frozen? ⟨g, 0, none⟩ = false ∧ w.frozen? ⟨g, 1, none⟩ = false ∧ w.frozen? ⟨g, 2, none⟩ = false ∧ w.frozen? ⟨g, 3, none⟩ = false ∧ w.frozen? ⟨g, 4, none⟩ = false ∧ w.frozen? ⟨g, 5, none⟩ = false ∧ w.frozen? ⟨g, 6, none⟩ = false ∧ w.frozen? ⟨g, 7, none⟩ = false ∧ w.frozen? ⟨g, 8, none⟩ = false ∧ w.frozen? ⟨g, 9, none⟩ = false ∧ w.frozen? ⟨g, 10, none⟩ = false) :=
  ⟨⟨(blk_cell hb 0).trans rfl, (blk_cell hb 1).trans rfl, (blk_cell hb 2).trans rfl, (blk_cell hb 3).trans rfl, (blk_cell hb 4).trans rfl, (blk_cell hb 5).trans rfl, (blk_cell hb 6).trans rfl, (blk_cell hb 7).trans rfl, (blk_cell hb 8).trans rfl, (blk_cell hb 9).trans rfl, (blk_cell hb 10).trans rfl⟩,
   blk_frozen hb 0, blk_frozen hb 1, blk_frozen hb 2, blk_frozen hb 3, blk_frozen hb 4, blk_frozen hb 5, blk_frozen hb 6, blk_frozen hb 7, blk_frozen hb 8, blk_frozen hb 9, blk_frozen hb 10⟩
theorem seth_ {W : World} {g : Nat} {cs cs' : Array Value} (h : W.heap[g]? = some (.cells cs 76 (0, 0))) (e : cs = cs') : W.heap[g]? = some (.cells cs' 76 (0, 0)) := e ▸ h
theorem Fed.set {B g : Nat} {w W : World} (h : Fed B g w W) (hB : B ≤ g) (i : Nat) (u : Value) : Fed B g w (W.setCell ⟨g, i, none⟩ u) := ⟨h.1.setCell (p := ⟨g, i, none⟩) hB u, h.2.set_ i u⟩
theorem Fed.below {B g : Nat} {w W W' : World} (h : Fed B g w W) (hB : B ≤ W.heap.size) (k : Below W.heap.size W W') : Fed B g w W' := ⟨h.1.trans ⟨k.os, k.tape, k.output, k.size, fun i hi => k.block i (Nat.lt_of_lt_of_le hi hB)⟩, h.2.trans (KeepBut.of_below k g none) (.inl rfl)⟩
theorem Fed.drewN {B g : Nat} {w W : World} (h : Fed B g w W) (n : Nat) : Fed B g w (W.drewN n) := ⟨pw_below_drewN h.1 n, keep_drewN h.2 n⟩

theorem set_set (w : World) (g i : Nat) (u v : Value) : (w.setCell ⟨g, i, none⟩ u).setCell ⟨g, i, none⟩ v = w.setCell ⟨g, i, none⟩ v := by
  unfold World.setCell
  simp only [World.mk.injEq, and_true]
  apply Array.ext
  · simp
  · intro j h1 h2
    simp only [Array.getElem_modify]
    by_cases hj : g = j
    · simp only [hj, if_pos]
      cases w.heap[j]'(by simpa using h2) <;> simp
    · simp only [hj, if_false]
theorem jg_mid {B g : Nat} {w W w2 : World} {cs : Array Value} (h : ∃ n, w2 = W.drewN n) (hb : W.heap[g]? = some (.cells cs 76 (0, 0))) (hf : Fed B g w W) : w2.heap[g]? = some (.cells cs 76 (0, 0)) ∧ Fed B g w w2 := by
  obtain ⟨n, rfl⟩ := h
  exact ⟨blk_drewN hb n, hf.drewN n⟩
attribute [local go_sem] set_set

set_option maxHeartbeats 1000000 in
set_option maxRecDepth 100000 in
theorem jg_0a (k g B : Nat) (A : Option Addr) (c : Nat) (fd : List Int) (pos left R E L a b er pl : Int) (w : World) (base : Nat) (hB : B ≤ g)
    (hb : w.heap[g]? = some (.cells #[.slice A fd.length c, .int .i64 pos, .int .i64 0, .int .i64 (left), .int .i64 (R), .int .i64 (E), .int .i64 (L), .int .u32 a, .int .u32 b, .int .i64 er, .int .i64 pl] 76 (0, 0)))
    (hr : Kd.R (Kd.int .u8) 5 w base (fun k => k ≠ g) (.slice A fd.length c) fd) (hl : 0 < fd.length) (a' b' : Int) (hs : frame_sum_add.f k a b fd = some (a', b')) (q : (strOfNums fd).toList = [67, 72, 82, 78]) :
    Calls Try.prog 37 #[.pointer (some ⟨g, 0, none⟩)] w fun e w' => e = .returned (.int .i64 0) ∧ w'.heap[g]? = some (.cells #[.slice A fd.length c, .int .i64 pos, .int .i64 1, .int .i64 (left), .int .i64 (R), .int .i64 (E), .int .i64 (L), .int .u32 a', .int .u32 b', .int .i64 er, .int .i64 pl] 76 (0, 0)) ∧ Fed B g w w' := by
  have hu76 := Try.underlying76
  have hu69 := Try.underlying69
  have hu30 := Try.underlying30
  have hu23 := Try.underlying23
  have hu5 := Try.underlying5
  have BK := Aside0.mk hb
  have HR := Aside0.mk hr
  have hgw : B ≤ w.heap.size := Nat.le_trans hB (Nat.le_of_lt (blk_lt hb))
  obtain ⟨⟨hc0, hc1, hc2, hc3, hc4, hc5, hc6, hc7, hc8, hc9, hc10⟩, -⟩ := feed_cells hb
  clear hb hr
  have q1 := beq_iff_eq.mpr q; clear q
  obtain ⟨ad, rfl, -⟩ := Kd.at_int (Kd.R_reads' HR.out).2.2 0 (by omega) (by omega)
  go_enter Try.func37, Try.ntmps37
  go_wp2_with (first | (go_at_call 32; (with_reducible refine (frame_sum_add.calls k a b _ c fd a' b' _ (Kd.R_reads' HR.out).2.2 (Kd.R_reads' HR.out).2.1 hs).mono ?_); rintro e w1 ⟨rfl, hb1⟩; have B1 := blk_below BK.out hb1; have F1 := (Fed.refl B g w).below hgw hb1; obtain ⟨⟨z0, z1, z2, z3, z4, z5, z6, z7, z8, z9, z10⟩, f0, f1, f2, f3, f4, f5, f6, f7, f8, f9, f10⟩ := feed_cells B1; have R1 := Kd.R_keep (Kd.R_below HR.out hb1) (((KeepBut.refl w1 g none).set_ 7 (.int .u32 a')).set_ 8 (.int .u32 b')) (fun _ hk => hk); have hcv := own_string (P := Try.prog) Try.underlying30 Try.underlying5 Try.underlying9 (Kd.own_of_R R1); have B1_ := Aside0.mk B1; have F1_ := Aside0.mk F1; have R1_ := Aside0.mk R1; clear B1 F1 R1 hb1))
  go_ret
  refine ⟨rfl, ?h, ?f⟩
  case h => (apply seth_; (repeat (first | (with_reducible exact B1_.out) | (with_reducible refine blk_drewN ?_ _) | (with_reducible apply blk_set))); rfl)
  case f => repeat (first | (with_reducible exact F1_.out) | (with_reducible refine Fed.drewN ?_ _) | (with_reducible refine Fed.set ?_ hB _ _))

set_option maxHeartbeats 1000000 in
set_option maxRecDepth 100000 in
theorem jg_0b (k g B : Nat) (A : Option Addr) (c : Nat) (fd : List Int) (pos left R E L a b er pl : Int) (w : World) (base : Nat) (hB : B ≤ g)
    (hb : w.heap[g]? = some (.cells #[.slice A fd.length c, .int .i64 pos, .int .i64 0, .int .i64 (left), .int .i64 (R), .int .i64 (E), .int .i64 (L), .int .u32 a, .int .u32 b, .int .i64 er, .int .i64 pl] 76 (0, 0)))
    (hr : Kd.R (Kd.int .u8) 5 w base (fun k => k ≠ g) (.slice A fd.length c) fd) (hl : 0 < fd.length) (a' b' : Int) (hs : frame_sum_add.f k a b fd = some (a', b')) (q : ¬ (strOfNums fd).toList = [67, 72, 82, 78]) :
    Calls Try.prog 37 #[.pointer (some ⟨g, 0, none⟩)] w fun e w' => e = .returned (.int .i64 60) ∧ w'.heap[g]? = some (.cells #[.slice A fd.length c, .int .i64 pos, .int .i64 0, .int .i64 (left), .int .i64 (R), .int .i64 (E), .int .i64 (L), .int .u32 a', .int .u32 b', .int .i64 er, .int .i64 pl] 76 (0, 0)) ∧ Fed B g w w' := by
  have hu76 := Try.underlying76
  have hu69 := Try.underlying69
  have hu30 := Try.underlying30
  have hu23 := Try.underlying23
  have hu5 := Try.underlying5
  have BK := Aside0.mk hb
  have HR := Aside0.mk hr
  have hgw : B ≤ w.heap.size := Nat.le_trans hB (Nat.le_of_lt (blk_lt hb))
  obtain ⟨⟨hc0, hc1, hc2, hc3, hc4, hc5, hc6, hc7, hc8, hc9, hc10⟩, -⟩ := feed_cells hb
  clear hb hr
  have q1 := beq_eq_false_iff_ne.mpr q; clear q
  obtain ⟨ad, rfl, -⟩ := Kd.at_int (Kd.R_reads' HR.out).2.2 0 (by omega) (by omega)
  go_enter Try.func37, Try.ntmps37
  go_wp2_with (first | (go_at_call 32; (with_reducible refine (frame_sum_add.calls k a b _ c fd a' b' _ (Kd.R_reads' HR.out).2.2 (Kd.R_reads' HR.out).2.1 hs).mono ?_); rintro e w1 ⟨rfl, hb1⟩; have B1 := blk_below BK.out hb1; have F1 := (Fed.refl B g w).below hgw hb1; obtain ⟨⟨z0, z1, z2, z3, z4, z5, z6, z7, z8, z9, z10⟩, f0, f1, f2, f3, f4, f5, f6, f7, f8, f9, f10⟩ := feed_cells B1; have R1 := Kd.R_keep (Kd.R_below HR.out hb1) (((KeepBut.refl w1 g none).set_ 7 (.int .u32 a')).set_ 8 (.int .u32 b')) (fun _ hk => hk); have hcv := own_string (P := Try.prog) Try.underlying30 Try.underlying5 Try.underlying9 (Kd.own_of_R R1); have B1_ := Aside0.mk B1; have F1_ := Aside0.mk F1; have R1_ := Aside0.mk R1; clear B1 F1 R1 hb1))
  go_ret
  refine ⟨rfl, ?h, ?f⟩
  case h => (apply seth_; (repeat (first | (with_reducible exact B1_.out) | (with_reducible refine blk_drewN ?_ _) | (with_reducible apply blk_set))); rfl)
  case f => repeat (first | (with_reducible exact F1_.out) | (with_reducible refine Fed.drewN ?_ _) | (with_reducible refine Fed.set ?_ hB _ _))

set_option maxHeartbeats 1000000 in
set_option maxRecDepth 100000 in
theorem jg_1a (k g B : Nat) (A : Option Addr) (c : Nat) (fd : List Int) (pos left R E L a b er pl : Int) (w : World) (base : Nat) (hB : B ≤ g)
    (hb : w.heap[g]? = some (.cells #[.slice A fd.length c, .int .i64 pos, .int .i64 1, .int .i64 (left), .int .i64 (R), .int .i64 (E), .int .i64 (L), .int .u32 a, .int .u32 b, .int .i64 er, .int .i64 pl] 76 (0, 0)))
    (hr : Kd.R (Kd.int .u8) 5 w base (fun k => k ≠ g) (.slice A fd.length c) fd) (hl : 0 < fd.length) (a' b' : Int) (hs : frame_sum_add.f k a b fd = some (a', b')) (q : rd fd 0 = 1) :
    Calls Try.prog 37 #[.pointer (some ⟨g, 0, none⟩)] w fun e w' => e = .returned (.int .i64 0) ∧ w'.heap[g]? = some (.cells #[.slice A fd.length c, .int .i64 pos, .int .i64 2, .int .i64 (left), .int .i64 (R), .int .i64 (E), .int .i64 (L), .int .u32 a', .int .u32 b', .int .i64 er, .int .i64 pl] 76 (0, 0)) ∧ Fed B g w w' := by
  have hu76 := Try.underlying76
  have hu69 := Try.underlying69
  have hu30 := Try.underlying30
  have hu23 := Try.underlying23
  have hu5 := Try.underlying5
  have BK := Aside0.mk hb
  have HR := Aside0.mk hr
  have hgw : B ≤ w.heap.size := Nat.le_trans hB (Nat.le_of_lt (blk_lt hb))
  obtain ⟨⟨hc0, hc1, hc2, hc3, hc4, hc5, hc6, hc7, hc8, hc9, hc10⟩, -⟩ := feed_cells hb
  clear hb hr
  have q1 := beq_iff_eq.mpr q; have q2 := bne_eq_false_iff_eq.mpr q; clear q
  obtain ⟨ad, rfl, -⟩ := Kd.at_int (Kd.R_reads' HR.out).2.2 0 (by omega) (by omega)
  go_enter Try.func37, Try.ntmps37
  go_wp2_with (first | (go_at_call 32; (with_reducible refine (frame_sum_add.calls k a b _ c fd a' b' _ (Kd.R_reads' HR.out).2.2 (Kd.R_reads' HR.out).2.1 hs).mono ?_); rintro e w1 ⟨rfl, hb1⟩; have B1 := blk_below BK.out hb1; have F1 := (Fed.refl B g w).below hgw hb1; obtain ⟨⟨z0, z1, z2, z3, z4, z5, z6, z7, z8, z9, z10⟩, f0, f1, f2, f3, f4, f5, f6, f7, f8, f9, f10⟩ := feed_cells B1; have R1 := Kd.R_keep (Kd.R_below HR.out hb1) (((KeepBut.refl w1 g none).set_ 7 (.int .u32 a')).set_ 8 (.int .u32 b')) (fun _ hk => hk); obtain ⟨ad', e', hcell⟩ := Kd.at_int (Kd.R_reads' R1).2.2 0 (by omega) (by omega); cases e'; rw [show ad.add (Int.toNat 0) = ad from (by simp [Addr.add])] at hcell; have hl1 : (0 : Int) < (fd.length : Int) := (by omega); have B1_ := Aside0.mk B1; have F1_ := Aside0.mk F1; have R1_ := Aside0.mk R1; clear B1 F1 R1 hb1))
  go_ret
  refine ⟨rfl, ?h, ?f⟩
  case h => (apply seth_; (repeat (first | (with_reducible exact B1_.out) | (with_reducible refine blk_drewN ?_ _) | (with_reducible apply blk_set))); rfl)
  case f => repeat (first | (with_reducible exact F1_.out) | (with_reducible refine Fed.drewN ?_ _) | (with_reducible refine Fed.set ?_ hB _ _))

set_option maxHeartbeats 1000000 in
set_option maxRecDepth 100000 in
theorem jg_1b (k g B : Nat) (A : Option Addr) (c : Nat) (fd : List Int) (pos left R E L a b er pl : Int) (w : World) (base : Nat) (hB : B ≤ g)
    (hb : w.heap[g]? = some (.cells #[.slice A fd.length c, .int .i64 pos, .int .i64 1, .int .i64 (left), .int .i64 (R), .int .i64 (E), .int .i64 (L), .int .u32 a, .int .u32 b, .int .i64 er, .int .i64 pl] 76 (0, 0)))
    (hr : Kd.R (Kd.int .u8) 5 w base (fun k => k ≠ g) (.slice A fd.length c) fd) (hl : 0 < fd.length) (a' b' : Int) (hs : frame_sum_add.f k a b fd = some (a', b')) (q : ¬ rd fd 0 = 1) :
    Calls Try.prog 37 #[.pointer (some ⟨g, 0, none⟩)] w fun e w' => e = .returned (.int .i64 61) ∧ w'.heap[g]? = some (.cells #[.slice A fd.length c, .int .i64 pos, .int .i64 1, .int .i64 (left), .int .i64 (R), .int .i64 (E), .int .i64 (L), .int .u32 a', .int .u32 b', .int .i64 er, .int .i64 pl] 76 (0, 0)) ∧ Fed B g w w' := by
  have hu76 := Try.underlying76
  have hu69 := Try.underlying69
  have hu30 := Try.underlying30
  have hu23 := Try.underlying23
  have hu5 := Try.underlying5
  have BK := Aside0.mk hb
  have HR := Aside0.mk hr
  have hgw : B ≤ w.heap.size := Nat.le_trans hB (Nat.le_of_lt (blk_lt hb))
  obtain ⟨⟨hc0, hc1, hc2, hc3, hc4, hc5, hc6, hc7, hc8, hc9, hc10⟩, -⟩ := feed_cells hb
  clear hb hr
  have q1 := beq_eq_false_iff_ne.mpr q; have q2 := bne_iff_ne.mpr q; clear q
  obtain ⟨ad, rfl, -⟩ := Kd.at_int (Kd.R_reads' HR.out).2.2 0 (by omega) (by omega)
  go_enter Try.func37, Try.ntmps37
  go_wp2_with (first | (go_at_call 32; (with_reducible refine (frame_sum_add.calls k a b _ c fd a' b' _ (Kd.R_reads' HR.out).2.2 (Kd.R_reads' HR.out).2.1 hs).mono ?_); rintro e w1 ⟨rfl, hb1⟩; have B1 := blk_below BK.out hb1; have F1 := (Fed.refl B g w).below hgw hb1; obtain ⟨⟨z0, z1, z2, z3, z4, z5, z6, z7, z8, z9, z10⟩, f0, f1, f2, f3, f4, f5, f6, f7, f8, f9, f10⟩ := feed_cells B1; have R1 := Kd.R_keep (Kd.R_below HR.out hb1) (((KeepBut.refl w1 g none).set_ 7 (.int .u32 a')).set_ 8 (.int .u32 b')) (fun _ hk => hk); obtain ⟨ad', e', hcell⟩ := Kd.at_int (Kd.R_reads' R1).2.2 0 (by omega) (by omega); cases e'; rw [show ad.add (Int.toNat 0) = ad from (by simp [Addr.add])] at hcell; have hl1 : (0 : Int) < (fd.length : Int) := (by omega); have B1_ := Aside0.mk B1; have F1_ := Aside0.mk F1; have R1_ := Aside0.mk R1; clear B1 F1 R1 hb1))
  go_ret
  refine ⟨rfl, ?h, ?f⟩
  case h => (apply seth_; (repeat (first | (with_reducible exact B1_.out) | (with_reducible refine blk_drewN ?_ _) | (with_reducible apply blk_set))); rfl)
  case f => repeat (first | (with_reducible exact F1_.out) | (with_reducible refine Fed.drewN ?_ _) | (with_reducible refine Fed.set ?_ hB _ _))

set_option maxHeartbeats 1000000 in
set_option maxRecDepth 100000 in
theorem jg_2a (k g B : Nat) (A : Option Addr) (c : Nat) (fd : List Int) (pos left R E L a b er pl : Int) (w : World) (base : Nat) (hB : B ≤ g)
    (hb : w.heap[g]? = some (.cells #[.slice A fd.length c, .int .i64 pos, .int .i64 2, .int .i64 (left), .int .i64 (R), .int .i64 (E), .int .i64 (L), .int .u32 a, .int .u32 b, .int .i64 er, .int .i64 pl] 76 (0, 0)))
    (hr : Kd.R (Kd.int .u8) 5 w base (fun k => k ≠ g) (.slice A fd.length c) fd) (hl : 0 < fd.length) (a' b' : Int) (hs : frame_sum_add.f k a b fd = some (a', b')) (q : ¬ wrap64 (rd fd 0) > 8) :
    Calls Try.prog 37 #[.pointer (some ⟨g, 0, none⟩)] w fun e w' => e = .returned (.int .i64 0) ∧ w'.heap[g]? = some (.cells #[.slice A fd.length c, .int .i64 pos, .int .i64 3, .int .i64 (left), .int .i64 (R), .int .i64 (E), .int .i64 (wrap64 (rd fd 0)), .int .u32 a', .int .u32 b', .int .i64 er, .int .i64 pl] 76 (0, 0)) ∧ Fed B g w w' := by
  have hu76 := Try.underlying76
  have hu69 := Try.underlying69
  have hu30 := Try.underlying30
  have hu23 := Try.underlying23
  have hu5 := Try.underlying5
  have BK := Aside0.mk hb
  have HR := Aside0.mk hr
  have hgw : B ≤ w.heap.size := Nat.le_trans hB (Nat.le_of_lt (blk_lt hb))
  obtain ⟨⟨hc0, hc1, hc2, hc3, hc4, hc5, hc6, hc7, hc8, hc9, hc10⟩, -⟩ := feed_cells hb
  clear hb hr
  have q1 := decide_eq_false q; clear q
  obtain ⟨ad, rfl, -⟩ := Kd.at_int (Kd.R_reads' HR.out).2.2 0 (by omega) (by omega)
  go_enter Try.func37, Try.ntmps37
  go_wp2_with (first | (go_at_call 32; (with_reducible refine (frame_sum_add.calls k a b _ c fd a' b' _ (Kd.R_reads' HR.out).2.2 (Kd.R_reads' HR.out).2.1 hs).mono ?_); rintro e w1 ⟨rfl, hb1⟩; have B1 := blk_below BK.out hb1; have F1 := (Fed.refl B g w).below hgw hb1; obtain ⟨⟨z0, z1, z2, z3, z4, z5, z6, z7, z8, z9, z10⟩, f0, f1, f2, f3, f4, f5, f6, f7, f8, f9, f10⟩ := feed_cells B1; have R1 := Kd.R_keep (Kd.R_below HR.out hb1) (((KeepBut.refl w1 g none).set_ 7 (.int .u32 a')).set_ 8 (.int .u32 b')) (fun _ hk => hk); obtain ⟨ad', e', hcell⟩ := Kd.at_int (Kd.R_reads' R1).2.2 0 (by omega) (by omega); cases e'; rw [show ad.add (Int.toNat 0) = ad from (by simp [Addr.add])] at hcell; have hl1 : (0 : Int) < (fd.length : Int) := (by omega); have B1_ := Aside0.mk B1; have F1_ := Aside0.mk F1; have R1_ := Aside0.mk R1; clear B1 F1 R1 hb1))
  go_ret
  refine ⟨rfl, ?h, ?f⟩
  case h => (apply seth_; (repeat (first | (with_reducible exact B1_.out) | (with_reducible refine blk_drewN ?_ _) | (with_reducible apply blk_set))); rfl)
  case f => repeat (first | (with_reducible exact F1_.out) | (with_reducible refine Fed.drewN ?_ _) | (with_reducible refine Fed.set ?_ hB _ _))

set_option maxHeartbeats 1000000 in
set_option maxRecDepth 100000 in
theorem jg_2b (k g B : Nat) (A : Option Addr) (c : Nat) (fd : List Int) (pos left R E L a b er pl : Int) (w : World) (base : Nat) (hB : B ≤ g)
    (hb : w.heap[g]? = some (.cells #[.slice A fd.length c, .int .i64 pos, .int .i64 2, .int .i64 (left), .int .i64 (R), .int .i64 (E), .int .i64 (L), .int .u32 a, .int .u32 b, .int .i64 er, .int .i64 pl] 76 (0, 0)))
    (hr : Kd.R (Kd.int .u8) 5 w base (fun k => k ≠ g) (.slice A fd.length c) fd) (hl : 0 < fd.length) (a' b' : Int) (hs : frame_sum_add.f k a b fd = some (a', b')) (q : wrap64 (rd fd 0) > 8) :
    Calls Try.prog 37 #[.pointer (some ⟨g, 0, none⟩)] w fun e w' => e = .returned (.int .i64 62) ∧ w'.heap[g]? = some (.cells #[.slice A fd.length c, .int .i64 pos, .int .i64 2, .int .i64 (left), .int .i64 (R), .int .i64 (E), .int .i64 (wrap64 (rd fd 0)), .int .u32 a', .int .u32 b', .int .i64 er, .int .i64 pl] 76 (0, 0)) ∧ Fed B g w w' := by
  have hu76 := Try.underlying76
  have hu69 := Try.underlying69
  have hu30 := Try.underlying30
  have hu23 := Try.underlying23
  have hu5 := Try.underlying5
  have BK := Aside0.mk hb
  have HR := Aside0.mk hr
  have hgw : B ≤ w.heap.size := Nat.le_trans hB (Nat.le_of_lt (blk_lt hb))
  obtain ⟨⟨hc0, hc1, hc2, hc3, hc4, hc5, hc6, hc7, hc8, hc9, hc10⟩, -⟩ := feed_cells hb
  clear hb hr
  have q1 := decide_eq_true q; clear q
  obtain ⟨ad, rfl, -⟩ := Kd.at_int (Kd.R_reads' HR.out).2.2 0 (by omega) (by omega)
  go_enter Try.func37, Try.ntmps37
  go_wp2_with (first | (go_at_call 32; (with_reducible refine (frame_sum_add.calls k a b _ c fd a' b' _ (Kd.R_reads' HR.out).2.2 (Kd.R_reads' HR.out).2.1 hs).mono ?_); rintro e w1 ⟨rfl, hb1⟩; have B1 := blk_below BK.out hb1; have F1 := (Fed.refl B g w).below hgw hb1; obtain ⟨⟨z0, z1, z2, z3, z4, z5, z6, z7, z8, z9, z10⟩, f0, f1, f2, f3, f4, f5, f6, f7, f8, f9, f10⟩ := feed_cells B1; have R1 := Kd.R_keep (Kd.R_below HR.out hb1) (((KeepBut.refl w1 g none).set_ 7 (.int .u32 a')).set_ 8 (.int .u32 b')) (fun _ hk => hk); obtain ⟨ad', e', hcell⟩ := Kd.at_int (Kd.R_reads' R1).2.2 0 (by omega) (by omega); cases e'; rw [show ad.add (Int.toNat 0) = ad from (by simp [Addr.add])] at hcell; have hl1 : (0 : Int) < (fd.length : Int) := (by omega); have B1_ := Aside0.mk B1; have F1_ := Aside0.mk F1; have R1_ := Aside0.mk R1; clear B1 F1 R1 hb1))
  go_ret
  refine ⟨rfl, ?h, ?f⟩
  case h => (apply seth_; (repeat (first | (with_reducible exact B1_.out) | (with_reducible refine blk_drewN ?_ _) | (with_reducible apply blk_set))); rfl)
  case f => repeat (first | (with_reducible exact F1_.out) | (with_reducible refine Fed.drewN ?_ _) | (with_reducible refine Fed.set ?_ hB _ _))

set_option maxHeartbeats 1000000 in
set_option maxRecDepth 100000 in
theorem jg_3a (k g B : Nat) (A : Option Addr) (c : Nat) (fd : List Int) (pos left R E L a b er pl : Int) (w : World) (base : Nat) (hB : B ≤ g)
    (hb : w.heap[g]? = some (.cells #[.slice A fd.length c, .int .i64 pos, .int .i64 3, .int .i64 (left), .int .i64 (R), .int .i64 (E), .int .i64 (L), .int .u32 a, .int .u32 b, .int .i64 er, .int .i64 pl] 76 (0, 0)))
    (hr : Kd.R (Kd.int .u8) 5 w base (fun k => k ≠ g) (.slice A fd.length c) fd) (hl : 0 < fd.length) (a' b' : Int) (hs : frame_sum_add.f k a b fd = some (a', b')) (x : Int) (hx : frame_read.f k fd = some x) (q : ¬ wrap64 x > 256) :
    Calls Try.prog 37 #[.pointer (some ⟨g, 0, none⟩)] w fun e w' => e = .returned (.int .i64 0) ∧ w'.heap[g]? = some (.cells #[.slice A fd.length c, .int .i64 pos, .int .i64 4, .int .i64 (wrap64 x), .int .i64 (R), .int .i64 (E), .int .i64 (L), .int .u32 a', .int .u32 b', .int .i64 er, .int .i64 pl] 76 (0, 0)) ∧ Fed B g w w' := by
  have hu76 := Try.underlying76
  have hu69 := Try.underlying69
  have hu30 := Try.underlying30
  have hu23 := Try.underlying23
  have hu5 := Try.underlying5
  have BK := Aside0.mk hb
  have HR := Aside0.mk hr
  have hgw : B ≤ w.heap.size := Nat.le_trans hB (Nat.le_of_lt (blk_lt hb))
  obtain ⟨⟨hc0, hc1, hc2, hc3, hc4, hc5, hc6, hc7, hc8, hc9, hc10⟩, -⟩ := feed_cells hb
  clear hb hr
  have q1 := decide_eq_false q; clear q
  obtain ⟨ad, rfl, -⟩ := Kd.at_int (Kd.R_reads' HR.out).2.2 0 (by omega) (by omega)
  go_enter Try.func37, Try.ntmps37
  go_wp2_with (first | (go_at_call 32; (with_reducible refine (frame_sum_add.calls k a b _ c fd a' b' _ (Kd.R_reads' HR.out).2.2 (Kd.R_reads' HR.out).2.1 hs).mono ?_); rintro e w1 ⟨rfl, hb1⟩; have B1 := blk_below BK.out hb1; have F1 := (Fed.refl B g w).below hgw hb1; obtain ⟨⟨z0, z1, z2, z3, z4, z5, z6, z7, z8, z9, z10⟩, f0, f1, f2, f3, f4, f5, f6, f7, f8, f9, f10⟩ := feed_cells B1; have R1 := Kd.R_keep (Kd.R_below HR.out hb1) (((KeepBut.refl w1 g none).set_ 7 (.int .u32 a')).set_ 8 (.int .u32 b')) (fun _ hk => hk); have B1_ := Aside0.mk B1; have F1_ := Aside0.mk F1; have R1_ := Aside0.mk R1; clear B1 F1 R1 hb1) | (go_at_call 42; (with_reducible refine (frame_read.calls k _ c fd x _ (Kd.R_reads' R1_.out).2.2 (Kd.R_reads' R1_.out).2.1 hx).mono ?_); rintro e w2 ⟨rfl, hq2⟩; have M2 := jg_mid hq2.out (blk_set (blk_set B1_.out 7 (.int .u32 a')) 8 (.int .u32 b')) ((F1_.out.set hB 7 (.int .u32 a')).set hB 8 (.int .u32 b')); obtain ⟨B2, F2⟩ := M2; have B2' := seth_ (cs' := #[.slice (some ad) fd.length c, .int .i64 pos, .int .i64 3, .int .i64 (left), .int .i64 (R), .int .i64 (E), .int .i64 (L), .int .u32 a', .int .u32 b', .int .i64 er, .int .i64 pl]) B2 rfl; clear z0 z1 z2 z3 z4 z5 z6 z7 z8 z9 z10 f0 f1 f2 f3 f4 f5 f6 f7 f8 f9 f10 B2; clear hq2; obtain ⟨⟨z0, z1, z2, z3, z4, z5, z6, z7, z8, z9, z10⟩, f0, f1, f2, f3, f4, f5, f6, f7, f8, f9, f10⟩ := feed_cells B2'; have B2_ := Aside0.mk B2'; have F2_ := Aside0.mk F2; clear B2' F2))
  go_ret
  refine ⟨rfl, ?h, ?f⟩
  case h => (apply seth_; (repeat (first | (with_reducible exact B2_.out) | (with_reducible refine blk_drewN ?_ _) | (with_reducible apply blk_set))); rfl)
  case f => repeat (first | (with_reducible exact F2_.out) | (with_reducible refine Fed.drewN ?_ _) | (with_reducible refine Fed.set ?_ hB _ _))

set_option maxHeartbeats 1000000 in
set_option maxRecDepth 100000 in
theorem jg_3b (k g B : Nat) (A : Option Addr) (c : Nat) (fd : List Int) (pos left R E L a b er pl : Int) (w : World) (base : Nat) (hB : B ≤ g)
    (hb : w.heap[g]? = some (.cells #[.slice A fd.length c, .int .i64 pos, .int .i64 3, .int .i64 (left), .int .i64 (R), .int .i64 (E), .int .i64 (L), .int .u32 a, .int .u32 b, .int .i64 er, .int .i64 pl] 76 (0, 0)))
    (hr : Kd.R (Kd.int .u8) 5 w base (fun k => k ≠ g) (.slice A fd.length c) fd) (hl : 0 < fd.length) (a' b' : Int) (hs : frame_sum_add.f k a b fd = some (a', b')) (x : Int) (hx : frame_read.f k fd = some x) (q : wrap64 x > 256) :
    Calls Try.prog 37 #[.pointer (some ⟨g, 0, none⟩)] w fun e w' => e = .returned (.int .i64 63) ∧ w'.heap[g]? = some (.cells #[.slice A fd.length c, .int .i64 pos, .int .i64 3, .int .i64 (wrap64 x), .int .i64 (R), .int .i64 (E), .int .i64 (L), .int .u32 a', .int .u32 b', .int .i64 er, .int .i64 pl] 76 (0, 0)) ∧ Fed B g w w' := by
  have hu76 := Try.underlying76
  have hu69 := Try.underlying69
  have hu30 := Try.underlying30
  have hu23 := Try.underlying23
  have hu5 := Try.underlying5
  have BK := Aside0.mk hb
  have HR := Aside0.mk hr
  have hgw : B ≤ w.heap.size := Nat.le_trans hB (Nat.le_of_lt (blk_lt hb))
  obtain ⟨⟨hc0, hc1, hc2, hc3, hc4, hc5, hc6, hc7, hc8, hc9, hc10⟩, -⟩ := feed_cells hb
  clear hb hr
  have q1 := decide_eq_true q; clear q
  obtain ⟨ad, rfl, -⟩ := Kd.at_int (Kd.R_reads' HR.out).2.2 0 (by omega) (by omega)
  go_enter Try.func37, Try.ntmps37
  go_wp2_with (first | (go_at_call 32; (with_reducible refine (frame_sum_add.calls k a b _ c fd a' b' _ (Kd.R_reads' HR.out).2.2 (Kd.R_reads' HR.out).2.1 hs).mono ?_); rintro e w1 ⟨rfl, hb1⟩; have B1 := blk_below BK.out hb1; have F1 := (Fed.refl B g w).below hgw hb1; obtain ⟨⟨z0, z1, z2, z3, z4, z5, z6, z7, z8, z9, z10⟩, f0, f1, f2, f3, f4, f5, f6, f7, f8, f9, f10⟩ := feed_cells B1; have R1 := Kd.R_keep (Kd.R_below HR.out hb1) (((KeepBut.refl w1 g none).set_ 7 (.int .u32 a')).set_ 8 (.int .u32 b')) (fun _ hk => hk); have B1_ := Aside0.mk B1; have F1_ := Aside0.mk F1; have R1_ := Aside0.mk R1; clear B1 F1 R1 hb1) | (go_at_call 42; (with_reducible refine (frame_read.calls k _ c fd x _ (Kd.R_reads' R1_.out).2.2 (Kd.R_reads' R1_.out).2.1 hx).mono ?_); rintro e w2 ⟨rfl, hq2⟩; have M2 := jg_mid hq2.out (blk_set (blk_set B1_.out 7 (.int .u32 a')) 8 (.int .u32 b')) ((F1_.out.set hB 7 (.int .u32 a')).set hB 8 (.int .u32 b')); obtain ⟨B2, F2⟩ := M2; have B2' := seth_ (cs' := #[.slice (some ad) fd.length c, .int .i64 pos, .int .i64 3, .int .i64 (left), .int .i64 (R), .int .i64 (E), .int .i64 (L), .int .u32 a', .int .u32 b', .int .i64 er, .int .i64 pl]) B2 rfl; clear z0 z1 z2 z3 z4 z5 z6 z7 z8 z9 z10 f0 f1 f2 f3 f4 f5 f6 f7 f8 f9 f10 B2; clear hq2; obtain ⟨⟨z0, z1, z2, z3, z4, z5, z6, z7, z8, z9, z10⟩, f0, f1, f2, f3, f4, f5, f6, f7, f8, f9, f10⟩ := feed_cells B2'; have B2_ := Aside0.mk B2'; have F2_ := Aside0.mk F2; clear B2' F2))
  go_ret
  refine ⟨rfl, ?h, ?f⟩
  case h => (apply seth_; (repeat (first | (with_reducible exact B2_.out) | (with_reducible refine blk_drewN ?_ _) | (with_reducible apply blk_set))); rfl)
  case f => repeat (first | (with_reducible exact F2_.out) | (with_reducible refine Fed.drewN ?_ _) | (with_reducible refine Fed.set ?_ hB _ _))

set_option maxHeartbeats 1000000 in
set_option maxRecDepth 100000 in
theorem jg_4a (k g B : Nat) (A : Option Addr) (c : Nat) (fd : List Int) (pos left R E L a b er pl : Int) (w : World) (base : Nat) (hB : B ≤ g)
    (hb : w.heap[g]? = some (.cells #[.slice A fd.length c, .int .i64 pos, .int .i64 4, .int .i64 (left), .int .i64 (R), .int .i64 (E), .int .i64 (L), .int .u32 a, .int .u32 b, .int .i64 er, .int .i64 pl] 76 (0, 0)))
    (hr : Kd.R (Kd.int .u8) 5 w base (fun k => k ≠ g) (.slice A fd.length c) fd) (hl : 0 < fd.length) (a' b' : Int) (hs : frame_sum_add.f k a b fd = some (a', b')) (x : Int) (hx : frame_read.f k fd = some x) (q : ¬ x > 4611686018427387903) :
    Calls Try.prog 37 #[.pointer (some ⟨g, 0, none⟩)] w fun e w' => e = .returned (.int .i64 0) ∧ w'.heap[g]? = some (.cells #[.slice A fd.length c, .int .i64 pos, .int .i64 5, .int .i64 (left), .int .i64 (wrap64 x), .int .i64 (E), .int .i64 (L), .int .u32 a', .int .u32 b', .int .i64 er, .int .i64 pl] 76 (0, 0)) ∧ Fed B g w w' := by
  have hu76 := Try.underlying76
  have hu69 := Try.underlying69
  have hu30 := Try.underlying30
  have hu23 := Try.underlying23
  have hu5 := Try.underlying5
  have BK := Aside0.mk hb
  have HR := Aside0.mk hr
  have hgw : B ≤ w.heap.size := Nat.le_trans hB (Nat.le_of_lt (blk_lt hb))
  obtain ⟨⟨hc0, hc1, hc2, hc3, hc4, hc5, hc6, hc7, hc8, hc9, hc10⟩, -⟩ := feed_cells hb
  clear hb hr
  have q1 := decide_eq_false q; clear q
  obtain ⟨ad, rfl, -⟩ := Kd.at_int (Kd.R_reads' HR.out).2.2 0 (by omega) (by omega)
  go_enter Try.func37, Try.ntmps37
  go_wp2_with (first | (go_at_call 32; (with_reducible refine (frame_sum_add.calls k a b _ c fd a' b' _ (Kd.R_reads' HR.out).2.2 (Kd.R_reads' HR.out).2.1 hs).mono ?_); rintro e w1 ⟨rfl, hb1⟩; have B1 := blk_below BK.out hb1; have F1 := (Fed.refl B g w).below hgw hb1; obtain ⟨⟨z0, z1, z2, z3, z4, z5, z6, z7, z8, z9, z10⟩, f0, f1, f2, f3, f4, f5, f6, f7, f8, f9, f10⟩ := feed_cells B1; have R1 := Kd.R_keep (Kd.R_below HR.out hb1) (((KeepBut.refl w1 g none).set_ 7 (.int .u32 a')).set_ 8 (.int .u32 b')) (fun _ hk => hk); have B1_ := Aside0.mk B1; have F1_ := Aside0.mk F1; have R1_ := Aside0.mk R1; clear B1 F1 R1 hb1) | (go_at_call 42; (with_reducible refine (frame_read.calls k _ c fd x _ (Kd.R_reads' R1_.out).2.2 (Kd.R_reads' R1_.out).2.1 hx).mono ?_); rintro e w2 ⟨rfl, hq2⟩; have M2 := jg_mid hq2.out (blk_set (blk_set B1_.out 7 (.int .u32 a')) 8 (.int .u32 b')) ((F1_.out.set hB 7 (.int .u32 a')).set hB 8 (.int .u32 b')); obtain ⟨B2, F2⟩ := M2; have B2' := seth_ (cs' := #[.slice (some ad) fd.length c, .int .i64 pos, .int .i64 4, .int .i64 (left), .int .i64 (R), .int .i64 (E), .int .i64 (L), .int .u32 a', .int .u32 b', .int .i64 er, .int .i64 pl]) B2 rfl; clear z0 z1 z2 z3 z4 z5 z6 z7 z8 z9 z10 f0 f1 f2 f3 f4 f5 f6 f7 f8 f9 f10 B2; clear hq2; obtain ⟨⟨z0, z1, z2, z3, z4, z5, z6, z7, z8, z9, z10⟩, f0, f1, f2, f3, f4, f5, f6, f7, f8, f9, f10⟩ := feed_cells B2'; have B2_ := Aside0.mk B2'; have F2_ := Aside0.mk F2; clear B2' F2))
  go_ret
  refine ⟨rfl, ?h, ?f⟩
  case h => (apply seth_; (repeat (first | (with_reducible exact B2_.out) | (with_reducible refine blk_drewN ?_ _) | (with_reducible apply blk_set))); rfl)
  case f => repeat (first | (with_reducible exact F2_.out) | (with_reducible refine Fed.drewN ?_ _) | (with_reducible refine Fed.set ?_ hB _ _))

set_option maxHeartbeats 1000000 in
set_option maxRecDepth 100000 in
theorem jg_4b (k g B : Nat) (A : Option Addr) (c : Nat) (fd : List Int) (pos left R E L a b er pl : Int) (w : World) (base : Nat) (hB : B ≤ g)
    (hb : w.heap[g]? = some (.cells #[.slice A fd.length c, .int .i64 pos, .int .i64 4, .int .i64 (left), .int .i64 (R), .int .i64 (E), .int .i64 (L), .int .u32 a, .int .u32 b, .int .i64 er, .int .i64 pl] 76 (0, 0)))
    (hr : Kd.R (Kd.int .u8) 5 w base (fun k => k ≠ g) (.slice A fd.length c) fd) (hl : 0 < fd.length) (a' b' : Int) (hs : frame_sum_add.f k a b fd = some (a', b')) (x : Int) (hx : frame_read.f k fd = some x) (q : x > 4611686018427387903) :
    Calls Try.prog 37 #[.pointer (some ⟨g, 0, none⟩)] w fun e w' => e = .returned (.int .i64 62) ∧ w'.heap[g]? = some (.cells #[.slice A fd.length c, .int .i64 pos, .int .i64 4, .int .i64 (left), .int .i64 (wrap64 x), .int .i64 (E), .int .i64 (L), .int .u32 a', .int .u32 b', .int .i64 er, .int .i64 pl] 76 (0, 0)) ∧ Fed B g w w' := by
  have hu76 := Try.underlying76
  have hu69 := Try.underlying69
  have hu30 := Try.underlying30
  have hu23 := Try.underlying23
  have hu5 := Try.underlying5
  have BK := Aside0.mk hb
  have HR := Aside0.mk hr
  have hgw : B ≤ w.heap.size := Nat.le_trans hB (Nat.le_of_lt (blk_lt hb))
  obtain ⟨⟨hc0, hc1, hc2, hc3, hc4, hc5, hc6, hc7, hc8, hc9, hc10⟩, -⟩ := feed_cells hb
  clear hb hr
  have q1 := decide_eq_true q; clear q
  obtain ⟨ad, rfl, -⟩ := Kd.at_int (Kd.R_reads' HR.out).2.2 0 (by omega) (by omega)
  go_enter Try.func37, Try.ntmps37
  go_wp2_with (first | (go_at_call 32; (with_reducible refine (frame_sum_add.calls k a b _ c fd a' b' _ (Kd.R_reads' HR.out).2.2 (Kd.R_reads' HR.out).2.1 hs).mono ?_); rintro e w1 ⟨rfl, hb1⟩; have B1 := blk_below BK.out hb1; have F1 := (Fed.refl B g w).below hgw hb1; obtain ⟨⟨z0, z1, z2, z3, z4, z5, z6, z7, z8, z9, z10⟩, f0, f1, f2, f3, f4, f5, f6, f7, f8, f9, f10⟩ := feed_cells B1; have R1 := Kd.R_keep (Kd.R_below HR.out hb1) (((KeepBut.refl w1 g none).set_ 7 (.int .u32 a')).set_ 8 (.int .u32 b')) (fun _ hk => hk); have B1_ := Aside0.mk B1; have F1_ := Aside0.mk F1; have R1_ := Aside0.mk R1; clear B1 F1 R1 hb1) | (go_at_call 42; (with_reducible refine (frame_read.calls k _ c fd x _ (Kd.R_reads' R1_.out).2.2 (Kd.R_reads' R1_.out).2.1 hx).mono ?_); rintro e w2 ⟨rfl, hq2⟩; have M2 := jg_mid hq2.out (blk_set (blk_set B1_.out 7 (.int .u32 a')) 8 (.int .u32 b')) ((F1_.out.set hB 7 (.int .u32 a')).set hB 8 (.int .u32 b')); obtain ⟨B2, F2⟩ := M2; have B2' := seth_ (cs' := #[.slice (some ad) fd.length c, .int .i64 pos, .int .i64 4, .int .i64 (left), .int .i64 (R), .int .i64 (E), .int .i64 (L), .int .u32 a', .int .u32 b', .int .i64 er, .int .i64 pl]) B2 rfl; clear z0 z1 z2 z3 z4 z5 z6 z7 z8 z9 z10 f0 f1 f2 f3 f4 f5 f6 f7 f8 f9 f10 B2; clear hq2; obtain ⟨⟨z0, z1, z2, z3, z4, z5, z6, z7, z8, z9, z10⟩, f0, f1, f2, f3, f4, f5, f6, f7, f8, f9, f10⟩ := feed_cells B2'; have B2_ := Aside0.mk B2'; have F2_ := Aside0.mk F2; clear B2' F2))
  go_ret
  refine ⟨rfl, ?h, ?f⟩
  case h => (apply seth_; (repeat (first | (with_reducible exact B2_.out) | (with_reducible refine blk_drewN ?_ _) | (with_reducible apply blk_set))); rfl)
  case f => repeat (first | (with_reducible exact F2_.out) | (with_reducible refine Fed.drewN ?_ _) | (with_reducible refine Fed.set ?_ hB _ _))

set_option maxHeartbeats 1000000 in
set_option maxRecDepth 100000 in
theorem jg_5a (k g B : Nat) (A : Option Addr) (c : Nat) (fd : List Int) (pos left R E L a b er pl : Int) (w : World) (base : Nat) (hB : B ≤ g)
    (hb : w.heap[g]? = some (.cells #[.slice A fd.length c, .int .i64 pos, .int .i64 5, .int .i64 (left), .int .i64 (R), .int .i64 (E), .int .i64 (L), .int .u32 a, .int .u32 b, .int .i64 er, .int .i64 pl] 76 (0, 0)))
    (hr : Kd.R (Kd.int .u8) 5 w base (fun k => k ≠ g) (.slice A fd.length c) fd) (hl : 0 < fd.length) (a' b' : Int) (hs : frame_sum_add.f k a b fd = some (a', b')) (x : Int) (hx : frame_read.f k fd = some x) (q : ¬ x > 4611686018427387904) (p : left = 0) :
    Calls Try.prog 37 #[.pointer (some ⟨g, 0, none⟩)] w fun e w' => e = .returned (.int .i64 0) ∧ w'.heap[g]? = some (.cells #[.slice A fd.length c, .int .i64 pos, .int .i64 8, .int .i64 (left), .int .i64 (R), .int .i64 (wrap64 x), .int .i64 (L), .int .u32 a', .int .u32 b', .int .i64 er, .int .i64 pl] 76 (0, 0)) ∧ Fed B g w w' := by
  have hu76 := Try.underlying76
  have hu69 := Try.underlying69
  have hu30 := Try.underlying30
  have hu23 := Try.underlying23
  have hu5 := Try.underlying5
  have BK := Aside0.mk hb
  have HR := Aside0.mk hr
  have hgw : B ≤ w.heap.size := Nat.le_trans hB (Nat.le_of_lt (blk_lt hb))
  obtain ⟨⟨hc0, hc1, hc2, hc3, hc4, hc5, hc6, hc7, hc8, hc9, hc10⟩, -⟩ := feed_cells hb
  clear hb hr
  subst p; have q1 := decide_eq_false q; clear q
  obtain ⟨ad, rfl, -⟩ := Kd.at_int (Kd.R_reads' HR.out).2.2 0 (by omega) (by omega)
  go_enter Try.func37, Try.ntmps37
  go_wp2_with (first | (go_at_call 32; (with_reducible refine (frame_sum_add.calls k a b _ c fd a' b' _ (Kd.R_reads' HR.out).2.2 (Kd.R_reads' HR.out).2.1 hs).mono ?_); rintro e w1 ⟨rfl, hb1⟩; have B1 := blk_below BK.out hb1; have F1 := (Fed.refl B g w).below hgw hb1; obtain ⟨⟨z0, z1, z2, z3, z4, z5, z6, z7, z8, z9, z10⟩, f0, f1, f2, f3, f4, f5, f6, f7, f8, f9, f10⟩ := feed_cells B1; have R1 := Kd.R_keep (Kd.R_below HR.out hb1) (((KeepBut.refl w1 g none).set_ 7 (.int .u32 a')).set_ 8 (.int .u32 b')) (fun _ hk => hk); have B1_ := Aside0.mk B1; have F1_ := Aside0.mk F1; have R1_ := Aside0.mk R1; clear B1 F1 R1 hb1) | (go_at_call 42; (with_reducible refine (frame_read.calls k _ c fd x _ (Kd.R_reads' R1_.out).2.2 (Kd.R_reads' R1_.out).2.1 hx).mono ?_); rintro e w2 ⟨rfl, hq2⟩; have M2 := jg_mid hq2.out (blk_set (blk_set B1_.out 7 (.int .u32 a')) 8 (.int .u32 b')) ((F1_.out.set hB 7 (.int .u32 a')).set hB 8 (.int .u32 b')); obtain ⟨B2, F2⟩ := M2; have B2' := seth_ (cs' := #[.slice (some ad) fd.length c, .int .i64 pos, .int .i64 5, .int .i64 (0), .int .i64 (R), .int .i64 (E), .int .i64 (L), .int .u32 a', .int .u32 b', .int .i64 er, .int .i64 pl]) B2 rfl; clear z0 z1 z2 z3 z4 z5 z6 z7 z8 z9 z10 f0 f1 f2 f3 f4 f5 f6 f7 f8 f9 f10 B2; clear hq2; obtain ⟨⟨z0, z1, z2, z3, z4, z5, z6, z7, z8, z9, z10⟩, f0, f1, f2, f3, f4, f5, f6, f7, f8, f9, f10⟩ := feed_cells B2'; have B2_ := Aside0.mk B2'; have F2_ := Aside0.mk F2; clear B2' F2))
  go_ret
  refine ⟨rfl, ?h, ?f⟩
  case h => (apply seth_; (repeat (first | (with_reducible exact B2_.out) | (with_reducible refine blk_drewN ?_ _) | (with_reducible apply blk_set))); rfl)
  case f => repeat (first | (with_reducible exact F2_.out) | (with_reducible refine Fed.drewN ?_ _) | (with_reducible refine Fed.set ?_ hB _ _))

set_option maxHeartbeats 1000000 in
set_option maxRecDepth 100000 in
theorem jg_5b (k g B : Nat) (A : Option Addr) (c : Nat) (fd : List Int) (pos left R E L a b er pl : Int) (w : World) (base : Nat) (hB : B ≤ g)
    (hb : w.heap[g]? = some (.cells #[.slice A fd.length c, .int .i64 pos, .int .i64 5, .int .i64 (left), .int .i64 (R), .int .i64 (E), .int .i64 (L), .int .u32 a, .int .u32 b, .int .i64 er, .int .i64 pl] 76 (0, 0)))
    (hr : Kd.R (Kd.int .u8) 5 w base (fun k => k ≠ g) (.slice A fd.length c) fd) (hl : 0 < fd.length) (a' b' : Int) (hs : frame_sum_add.f k a b fd = some (a', b')) (x : Int) (hx : frame_read.f k fd = some x) (q : ¬ x > 4611686018427387904) (p : ¬ left = 0) :
    Calls Try.prog 37 #[.pointer (some ⟨g, 0, none⟩)] w fun e w' => e = .returned (.int .i64 0) ∧ w'.heap[g]? = some (.cells #[.slice A fd.length c, .int .i64 pos, .int .i64 6, .int .i64 (left), .int .i64 (R), .int .i64 (wrap64 x), .int .i64 (L), .int .u32 a', .int .u32 b', .int .i64 er, .int .i64 pl] 76 (0, 0)) ∧ Fed B g w w' := by
  have hu76 := Try.underlying76
  have hu69 := Try.underlying69
  have hu30 := Try.underlying30
  have hu23 := Try.underlying23
  have hu5 := Try.underlying5
  have BK := Aside0.mk hb
  have HR := Aside0.mk hr
  have hgw : B ≤ w.heap.size := Nat.le_trans hB (Nat.le_of_lt (blk_lt hb))
  obtain ⟨⟨hc0, hc1, hc2, hc3, hc4, hc5, hc6, hc7, hc8, hc9, hc10⟩, -⟩ := feed_cells hb
  clear hb hr
  have q1 := decide_eq_false q; have p1 := beq_eq_false_iff_ne.mpr p; clear q p
  obtain ⟨ad, rfl, -⟩ := Kd.at_int (Kd.R_reads' HR.out).2.2 0 (by omega) (by omega)
  go_enter Try.func37, Try.ntmps37
  go_wp2_with (first | (go_at_call 32; (with_reducible refine (frame_sum_add.calls k a b _ c fd a' b' _ (Kd.R_reads' HR.out).2.2 (Kd.R_reads' HR.out).2.1 hs).mono ?_); rintro e w1 ⟨rfl, hb1⟩; have B1 := blk_below BK.out hb1; have F1 := (Fed.refl B g w).below hgw hb1; obtain ⟨⟨z0, z1, z2, z3, z4, z5, z6, z7, z8, z9, z10⟩, f0, f1, f2, f3, f4, f5, f6, f7, f8, f9, f10⟩ := feed_cells B1; have R1 := Kd.R_keep (Kd.R_below HR.out hb1) (((KeepBut.refl w1 g none).set_ 7 (.int .u32 a')).set_ 8 (.int .u32 b')) (fun _ hk => hk); have B1_ := Aside0.mk B1; have F1_ := Aside0.mk F1; have R1_ := Aside0.mk R1; clear B1 F1 R1 hb1) | (go_at_call 42; (with_reducible refine (frame_read.calls k _ c fd x _ (Kd.R_reads' R1_.out).2.2 (Kd.R_reads' R1_.out).2.1 hx).mono ?_); rintro e w2 ⟨rfl, hq2⟩; have M2 := jg_mid hq2.out (blk_set (blk_set B1_.out 7 (.int .u32 a')) 8 (.int .u32 b')) ((F1_.out.set hB 7 (.int .u32 a')).set hB 8 (.int .u32 b')); obtain ⟨B2, F2⟩ := M2; have B2' := seth_ (cs' := #[.slice (some ad) fd.length c, .int .i64 pos, .int .i64 5, .int .i64 (left), .int .i64 (R), .int .i64 (E), .int .i64 (L), .int .u32 a', .int .u32 b', .int .i64 er, .int .i64 pl]) B2 rfl; clear z0 z1 z2 z3 z4 z5 z6 z7 z8 z9 z10 f0 f1 f2 f3 f4 f5 f6 f7 f8 f9 f10 B2; clear hq2; obtain ⟨⟨z0, z1, z2, z3, z4, z5, z6, z7, z8, z9, z10⟩, f0, f1, f2, f3, f4, f5, f6, f7, f8, f9, f10⟩ := feed_cells B2'; have B2_ := Aside0.mk B2'; have F2_ := Aside0.mk F2; clear B2' F2))
  go_ret
  refine ⟨rfl, ?h, ?f⟩
  case h => (apply seth_; (repeat (first | (with_reducible exact B2_.out) | (with_reducible refine blk_drewN ?_ _) | (with_reducible apply blk_set))); rfl)
  case f => repeat (first | (with_reducible exact F2_.out) | (with_reducible refine Fed.drewN ?_ _) | (with_reducible refine Fed.set ?_ hB _ _))

set_option maxHeartbeats 1000000 in
set_option maxRecDepth 100000 in
theorem jg_5c (k g B : Nat) (A : Option Addr) (c : Nat) (fd : List Int) (pos left R E L a b er pl : Int) (w : World) (base : Nat) (hB : B ≤ g)
    (hb : w.heap[g]? = some (.cells #[.slice A fd.length c, .int .i64 pos, .int .i64 5, .int .i64 (left), .int .i64 (R), .int .i64 (E), .int .i64 (L), .int .u32 a, .int .u32 b, .int .i64 er, .int .i64 pl] 76 (0, 0)))
    (hr : Kd.R (Kd.int .u8) 5 w base (fun k => k ≠ g) (.slice A fd.length c) fd) (hl : 0 < fd.length) (a' b' : Int) (hs : frame_sum_add.f k a b fd = some (a', b')) (x : Int) (hx : frame_read.f k fd = some x) (q : x > 4611686018427387904) :
    Calls Try.prog 37 #[.pointer (some ⟨g, 0, none⟩)] w fun e w' => e = .returned (.int .i64 62) ∧ w'.heap[g]? = some (.cells #[.slice A fd.length c, .int .i64 pos, .int .i64 5, .int .i64 (left), .int .i64 (R), .int .i64 (wrap64 x), .int .i64 (L), .int .u32 a', .int .u32 b', .int .i64 er, .int .i64 pl] 76 (0, 0)) ∧ Fed B g w w' := by
  have hu76 := Try.underlying76
  have hu69 := Try.underlying69
  have hu30 := Try.underlying30
  have hu23 := Try.underlying23
  have hu5 := Try.underlying5
  have BK := Aside0.mk hb
  have HR := Aside0.mk hr
  have hgw : B ≤ w.heap.size := Nat.le_trans hB (Nat.le_of_lt (blk_lt hb))
  obtain ⟨⟨hc0, hc1, hc2, hc3, hc4, hc5, hc6, hc7, hc8, hc9, hc10⟩, -⟩ := feed_cells hb
  clear hb hr
  have q1 := decide_eq_true q; clear q
  obtain ⟨ad, rfl, -⟩ := Kd.at_int (Kd.R_reads' HR.out).2.2 0 (by omega) (by omega)
  go_enter Try.func37, Try.ntmps37
  go_wp2_with (first | (go_at_call 32; (with_reducible refine (frame_sum_add.calls k a b _ c fd a' b' _ (Kd.R_reads' HR.out).2.2 (Kd.R_reads' HR.out).2.1 hs).mono ?_); rintro e w1 ⟨rfl, hb1⟩; have B1 := blk_below BK.out hb1; have F1 := (Fed.refl B g w).below hgw hb1; obtain ⟨⟨z0, z1, z2, z3, z4, z5, z6, z7, z8, z9, z10⟩, f0, f1, f2, f3, f4, f5, f6, f7, f8, f9, f10⟩ := feed_cells B1; have R1 := Kd.R_keep (Kd.R_below HR.out hb1) (((KeepBut.refl w1 g none).set_ 7 (.int .u32 a')).set_ 8 (.int .u32 b')) (fun _ hk => hk); have B1_ := Aside0.mk B1; have F1_ := Aside0.mk F1; have R1_ := Aside0.mk R1; clear B1 F1 R1 hb1) | (go_at_call 42; (with_reducible refine (frame_read.calls k _ c fd x _ (Kd.R_reads' R1_.out).2.2 (Kd.R_reads' R1_.out).2.1 hx).mono ?_); rintro e w2 ⟨rfl, hq2⟩; have M2 := jg_mid hq2.out (blk_set (blk_set B1_.out 7 (.int .u32 a')) 8 (.int .u32 b')) ((F1_.out.set hB 7 (.int .u32 a')).set hB 8 (.int .u32 b')); obtain ⟨B2, F2⟩ := M2; have B2' := seth_ (cs' := #[.slice (some ad) fd.length c, .int .i64 pos, .int .i64 5, .int .i64 (left), .int .i64 (R), .int .i64 (E), .int .i64 (L), .int .u32 a', .int .u32 b', .int .i64 er, .int .i64 pl]) B2 rfl; clear z0 z1 z2 z3 z4 z5 z6 z7 z8 z9 z10 f0 f1 f2 f3 f4 f5 f6 f7 f8 f9 f10 B2; clear hq2; obtain ⟨⟨z0, z1, z2, z3, z4, z5, z6, z7, z8, z9, z10⟩, f0, f1, f2, f3, f4, f5, f6, f7, f8, f9, f10⟩ := feed_cells B2'; have B2_ := Aside0.mk B2'; have F2_ := Aside0.mk F2; clear B2' F2))
  go_ret
  refine ⟨rfl, ?h, ?f⟩
  case h => (apply seth_; (repeat (first | (with_reducible exact B2_.out) | (with_reducible refine blk_drewN ?_ _) | (with_reducible apply blk_set))); rfl)
  case f => repeat (first | (with_reducible exact F2_.out) | (with_reducible refine Fed.drewN ?_ _) | (with_reducible refine Fed.set ?_ hB _ _))

set_option maxHeartbeats 1000000 in
set_option maxRecDepth 100000 in
theorem jg_6a (k g B : Nat) (A : Option Addr) (c : Nat) (fd : List Int) (pos left R E L a b er pl : Int) (w : World) (base : Nat) (hB : B ≤ g)
    (hb : w.heap[g]? = some (.cells #[.slice A fd.length c, .int .i64 pos, .int .i64 6, .int .i64 (left), .int .i64 (R), .int .i64 (E), .int .i64 (L), .int .u32 a, .int .u32 b, .int .i64 er, .int .i64 pl] 76 (0, 0)))
    (hr : Kd.R (Kd.int .u8) 5 w base (fun k => k ≠ g) (.slice A fd.length c) fd) (hl : 0 < fd.length) (a' b' : Int) (hs : frame_sum_add.f k a b fd = some (a', b')) (x : Int) (hx : frame_read.f k fd = some x) (q : x = 320) :
    Calls Try.prog 37 #[.pointer (some ⟨g, 0, none⟩)] w fun e w' => e = .returned (.int .i64 0) ∧ w'.heap[g]? = some (.cells #[.slice A fd.length c, .int .i64 pos, .int .i64 7, .int .i64 (left), .int .i64 (R), .int .i64 (E), .int .i64 (L), .int .u32 a', .int .u32 b', .int .i64 er, .int .i64 pl] 76 (0, 0)) ∧ Fed B g w w' := by
  have hu76 := Try.underlying76
  have hu69 := Try.underlying69
  have hu30 := Try.underlying30
  have hu23 := Try.underlying23
  have hu5 := Try.underlying5
  have BK := Aside0.mk hb
  have HR := Aside0.mk hr
  have hgw : B ≤ w.heap.size := Nat.le_trans hB (Nat.le_of_lt (blk_lt hb))
  obtain ⟨⟨hc0, hc1, hc2, hc3, hc4, hc5, hc6, hc7, hc8, hc9, hc10⟩, -⟩ := feed_cells hb
  clear hb hr
  have q1 := beq_iff_eq.mpr q; have q2 := bne_eq_false_iff_eq.mpr q; clear q
  obtain ⟨ad, rfl, -⟩ := Kd.at_int (Kd.R_reads' HR.out).2.2 0 (by omega) (by omega)
  go_enter Try.func37, Try.ntmps37
  go_wp2_with (first | (go_at_call 32; (with_reducible refine (frame_sum_add.calls k a b _ c fd a' b' _ (Kd.R_reads' HR.out).2.2 (Kd.R_reads' HR.out).2.1 hs).mono ?_); rintro e w1 ⟨rfl, hb1⟩; have B1 := blk_below BK.out hb1; have F1 := (Fed.refl B g w).below hgw hb1; obtain ⟨⟨z0, z1, z2, z3, z4, z5, z6, z7, z8, z9, z10⟩, f0, f1, f2, f3, f4, f5, f6, f7, f8, f9, f10⟩ := feed_cells B1; have R1 := Kd.R_keep (Kd.R_below HR.out hb1) (((KeepBut.refl w1 g none).set_ 7 (.int .u32 a')).set_ 8 (.int .u32 b')) (fun _ hk => hk); have B1_ := Aside0.mk B1; have F1_ := Aside0.mk F1; have R1_ := Aside0.mk R1; clear B1 F1 R1 hb1) | (go_at_call 42; (with_reducible refine (frame_read.calls k _ c fd x _ (Kd.R_reads' R1_.out).2.2 (Kd.R_reads' R1_.out).2.1 hx).mono ?_); rintro e w2 ⟨rfl, hq2⟩; have M2 := jg_mid hq2.out (blk_set (blk_set B1_.out 7 (.int .u32 a')) 8 (.int .u32 b')) ((F1_.out.set hB 7 (.int .u32 a')).set hB 8 (.int .u32 b')); obtain ⟨B2, F2⟩ := M2; have B2' := seth_ (cs' := #[.slice (some ad) fd.length c, .int .i64 pos, .int .i64 6, .int .i64 (left), .int .i64 (R), .int .i64 (E), .int .i64 (L), .int .u32 a', .int .u32 b', .int .i64 er, .int .i64 pl]) B2 rfl; clear z0 z1 z2 z3 z4 z5 z6 z7 z8 z9 z10 f0 f1 f2 f3 f4 f5 f6 f7 f8 f9 f10 B2; clear hq2; obtain ⟨⟨z0, z1, z2, z3, z4, z5, z6, z7, z8, z9, z10⟩, f0, f1, f2, f3, f4, f5, f6, f7, f8, f9, f10⟩ := feed_cells B2'; have B2_ := Aside0.mk B2'; have F2_ := Aside0.mk F2; clear B2' F2))
  go_ret
  refine ⟨rfl, ?h, ?f⟩
  case h => (apply seth_; (repeat (first | (with_reducible exact B2_.out) | (with_reducible refine blk_drewN ?_ _) | (with_reducible apply blk_set))); rfl)
  case f => repeat (first | (with_reducible exact F2_.out) | (with_reducible refine Fed.drewN ?_ _) | (with_reducible refine Fed.set ?_ hB _ _))

set_option maxHeartbeats 1000000 in
set_option maxRecDepth 100000 in
theorem jg_6b (k g B : Nat) (A : Option Addr) (c : Nat) (fd : List Int) (pos left R E L a b er pl : Int) (w : World) (base : Nat) (hB : B ≤ g)
    (hb : w.heap[g]? = some (.cells #[.slice A fd.length c, .int .i64 pos, .int .i64 6, .int .i64 (left), .int .i64 (R), .int .i64 (E), .int .i64 (L), .int .u32 a, .int .u32 b, .int .i64 er, .int .i64 pl] 76 (0, 0)))
    (hr : Kd.R (Kd.int .u8) 5 w base (fun k => k ≠ g) (.slice A fd.length c) fd) (hl : 0 < fd.length) (a' b' : Int) (hs : frame_sum_add.f k a b fd = some (a', b')) (x : Int) (hx : frame_read.f k fd = some x) (q : ¬ x = 320) :
    Calls Try.prog 37 #[.pointer (some ⟨g, 0, none⟩)] w fun e w' => e = .returned (.int .i64 64) ∧ w'.heap[g]? = some (.cells #[.slice A fd.length c, .int .i64 pos, .int .i64 6, .int .i64 (left), .int .i64 (R), .int .i64 (E), .int .i64 (L), .int .u32 a', .int .u32 b', .int .i64 er, .int .i64 pl] 76 (0, 0)) ∧ Fed B g w w' := by
  have hu76 := Try.underlying76
  have hu69 := Try.underlying69
  have hu30 := Try.underlying30
  have hu23 := Try.underlying23
  have hu5 := Try.underlying5
  have BK := Aside0.mk hb
  have HR := Aside0.mk hr
  have hgw : B ≤ w.heap.size := Nat.le_trans hB (Nat.le_of_lt (blk_lt hb))
  obtain ⟨⟨hc0, hc1, hc2, hc3, hc4, hc5, hc6, hc7, hc8, hc9, hc10⟩, -⟩ := feed_cells hb
  clear hb hr
  have q1 := beq_eq_false_iff_ne.mpr q; have q2 := bne_iff_ne.mpr q; clear q
  obtain ⟨ad, rfl, -⟩ := Kd.at_int (Kd.R_reads' HR.out).2.2 0 (by omega) (by omega)
  go_enter Try.func37, Try.ntmps37
  go_wp2_with (first | (go_at_call 32; (with_reducible refine (frame_sum_add.calls k a b _ c fd a' b' _ (Kd.R_reads' HR.out).2.2 (Kd.R_reads' HR.out).2.1 hs).mono ?_); rintro e w1 ⟨rfl, hb1⟩; have B1 := blk_below BK.out hb1; have F1 := (Fed.refl B g w).below hgw hb1; obtain ⟨⟨z0, z1, z2, z3, z4, z5, z6, z7, z8, z9, z10⟩, f0, f1, f2, f3, f4, f5, f6, f7, f8, f9, f10⟩ := feed_cells B1; have R1 := Kd.R_keep (Kd.R_below HR.out hb1) (((KeepBut.refl w1 g none).set_ 7 (.int .u32 a')).set_ 8 (.int .u32 b')) (fun _ hk => hk); have B1_ := Aside0.mk B1; have F1_ := Aside0.mk F1; have R1_ := Aside0.mk R1; clear B1 F1 R1 hb1) | (go_at_call 42; (with_reducible refine (frame_read.calls k _ c fd x _ (Kd.R_reads' R1_.out).2.2 (Kd.R_reads' R1_.out).2.1 hx).mono ?_); rintro e w2 ⟨rfl, hq2⟩; have M2 := jg_mid hq2.out (blk_set (blk_set B1_.out 7 (.int .u32 a')) 8 (.int .u32 b')) ((F1_.out.set hB 7 (.int .u32 a')).set hB 8 (.int .u32 b')); obtain ⟨B2, F2⟩ := M2; have B2' := seth_ (cs' := #[.slice (some ad) fd.length c, .int .i64 pos, .int .i64 6, .int .i64 (left), .int .i64 (R), .int .i64 (E), .int .i64 (L), .int .u32 a', .int .u32 b', .int .i64 er, .int .i64 pl]) B2 rfl; clear z0 z1 z2 z3 z4 z5 z6 z7 z8 z9 z10 f0 f1 f2 f3 f4 f5 f6 f7 f8 f9 f10 B2; clear hq2; obtain ⟨⟨z0, z1, z2, z3, z4, z5, z6, z7, z8, z9, z10⟩, f0, f1, f2, f3, f4, f5, f6, f7, f8, f9, f10⟩ := feed_cells B2'; have B2_ := Aside0.mk B2'; have F2_ := Aside0.mk F2; clear B2' F2))
  go_ret
  refine ⟨rfl, ?h, ?f⟩
  case h => (apply seth_; (repeat (first | (with_reducible exact B2_.out) | (with_reducible refine blk_drewN ?_ _) | (with_reducible apply blk_set))); rfl)
  case f => repeat (first | (with_reducible exact F2_.out) | (with_reducible refine Fed.drewN ?_ _) | (with_reducible refine Fed.set ?_ hB _ _))

set_option maxHeartbeats 1000000 in
set_option maxRecDepth 100000 in
theorem jg_7a (k g B : Nat) (A : Option Addr) (c : Nat) (fd : List Int) (pos left R E L a b er pl : Int) (w : World) (base : Nat) (hB : B ≤ g)
    (hb : w.heap[g]? = some (.cells #[.slice A fd.length c, .int .i64 pos, .int .i64 7, .int .i64 (left), .int .i64 (R), .int .i64 (E), .int .i64 (L), .int .u32 a, .int .u32 b, .int .i64 er, .int .i64 pl] 76 (0, 0)))
    (hr : Kd.R (Kd.int .u8) 5 w base (fun k => k ≠ g) (.slice A fd.length c) fd) (hl : 0 < fd.length) (a' b' : Int) (hs : frame_sum_add.f k a b fd = some (a', b')) (p : wrap64 (left - 1) = 0) :
    Calls Try.prog 37 #[.pointer (some ⟨g, 0, none⟩)] w fun e w' => e = .returned (.int .i64 0) ∧ w'.heap[g]? = some (.cells #[.slice A fd.length c, .int .i64 pos, .int .i64 8, .int .i64 (wrap64 (left - 1)), .int .i64 (R), .int .i64 (E), .int .i64 (L), .int .u32 a', .int .u32 b', .int .i64 er, .int .i64 pl] 76 (0, 0)) ∧ Fed B g w w' := by
  have hu76 := Try.underlying76
  have hu69 := Try.underlying69
  have hu30 := Try.underlying30
  have hu23 := Try.underlying23
  have hu5 := Try.underlying5
  have BK := Aside0.mk hb
  have HR := Aside0.mk hr
  have hgw : B ≤ w.heap.size := Nat.le_trans hB (Nat.le_of_lt (blk_lt hb))
  obtain ⟨⟨hc0, hc1, hc2, hc3, hc4, hc5, hc6, hc7, hc8, hc9, hc10⟩, -⟩ := feed_cells hb
  clear hb hr
  have p1 := beq_iff_eq.mpr p; clear p
  obtain ⟨ad, rfl, -⟩ := Kd.at_int (Kd.R_reads' HR.out).2.2 0 (by omega) (by omega)
  go_enter Try.func37, Try.ntmps37
  go_wp2_with (first | (go_at_call 32; (with_reducible refine (frame_sum_add.calls k a b _ c fd a' b' _ (Kd.R_reads' HR.out).2.2 (Kd.R_reads' HR.out).2.1 hs).mono ?_); rintro e w1 ⟨rfl, hb1⟩; have B1 := blk_below BK.out hb1; have F1 := (Fed.refl B g w).below hgw hb1; obtain ⟨⟨z0, z1, z2, z3, z4, z5, z6, z7, z8, z9, z10⟩, f0, f1, f2, f3, f4, f5, f6, f7, f8, f9, f10⟩ := feed_cells B1; have R1 := Kd.R_keep (Kd.R_below HR.out hb1) (((KeepBut.refl w1 g none).set_ 7 (.int .u32 a')).set_ 8 (.int .u32 b')) (fun _ hk => hk); have B1_ := Aside0.mk B1; have F1_ := Aside0.mk F1; have R1_ := Aside0.mk R1; clear B1 F1 R1 hb1))
  go_ret
  refine ⟨rfl, ?h, ?f⟩
  case h => (apply seth_; (repeat (first | (with_reducible exact B1_.out) | (with_reducible refine blk_drewN ?_ _) | (with_reducible apply blk_set))); rfl)
  case f => repeat (first | (with_reducible exact F1_.out) | (with_reducible refine Fed.drewN ?_ _) | (with_reducible refine Fed.set ?_ hB _ _))

set_option maxHeartbeats 1000000 in
set_option maxRecDepth 100000 in
theorem jg_7b (k g B : Nat) (A : Option Addr) (c : Nat) (fd : List Int) (pos left R E L a b er pl : Int) (w : World) (base : Nat) (hB : B ≤ g)
    (hb : w.heap[g]? = some (.cells #[.slice A fd.length c, .int .i64 pos, .int .i64 7, .int .i64 (left), .int .i64 (R), .int .i64 (E), .int .i64 (L), .int .u32 a, .int .u32 b, .int .i64 er, .int .i64 pl] 76 (0, 0)))
    (hr : Kd.R (Kd.int .u8) 5 w base (fun k => k ≠ g) (.slice A fd.length c) fd) (hl : 0 < fd.length) (a' b' : Int) (hs : frame_sum_add.f k a b fd = some (a', b')) (p : ¬ wrap64 (left - 1) = 0) :
    Calls Try.prog 37 #[.pointer (some ⟨g, 0, none⟩)] w fun e w' => e = .returned (.int .i64 0) ∧ w'.heap[g]? = some (.cells #[.slice A fd.length c, .int .i64 pos, .int .i64 6, .int .i64 (wrap64 (left - 1)), .int .i64 (R), .int .i64 (E), .int .i64 (L), .int .u32 a', .int .u32 b', .int .i64 er, .int .i64 pl] 76 (0, 0)) ∧ Fed B g w w' := by
  have hu76 := Try.underlying76
  have hu69 := Try.underlying69
  have hu30 := Try.underlying30
  have hu23 := Try.underlying23
  have hu5 := Try.underlying5
  have BK := Aside0.mk hb
  have HR := Aside0.mk hr
  have hgw : B ≤ w.heap.size := Nat.le_trans hB (Nat.le_of_lt (blk_lt hb))
  obtain ⟨⟨hc0, hc1, hc2, hc3, hc4, hc5, hc6, hc7, hc8, hc9, hc10⟩, -⟩ := feed_cells hb
  clear hb hr
  have p1 := beq_eq_false_iff_ne.mpr p; clear p
  obtain ⟨ad, rfl, -⟩ := Kd.at_int (Kd.R_reads' HR.out).2.2 0 (by omega) (by omega)
  go_enter Try.func37, Try.ntmps37
  go_wp2_with (first | (go_at_call 32; (with_reducible refine (frame_sum_add.calls k a b _ c fd a' b' _ (Kd.R_reads' HR.out).2.2 (Kd.R_reads' HR.out).2.1 hs).mono ?_); rintro e w1 ⟨rfl, hb1⟩; have B1 := blk_below BK.out hb1; have F1 := (Fed.refl B g w).below hgw hb1; obtain ⟨⟨z0, z1, z2, z3, z4, z5, z6, z7, z8, z9, z10⟩, f0, f1, f2, f3, f4, f5, f6, f7, f8, f9, f10⟩ := feed_cells B1; have R1 := Kd.R_keep (Kd.R_below HR.out hb1) (((KeepBut.refl w1 g none).set_ 7 (.int .u32 a')).set_ 8 (.int .u32 b')) (fun _ hk => hk); have B1_ := Aside0.mk B1; have F1_ := Aside0.mk F1; have R1_ := Aside0.mk R1; clear B1 F1 R1 hb1))
  go_ret
  refine ⟨rfl, ?h, ?f⟩
  case h => (apply seth_; (repeat (first | (with_reducible exact B1_.out) | (with_reducible refine blk_drewN ?_ _) | (with_reducible apply blk_set))); rfl)
  case f => repeat (first | (with_reducible exact F1_.out) | (with_reducible refine Fed.drewN ?_ _) | (with_reducible refine Fed.set ?_ hB _ _))

set_option maxHeartbeats 1000000 in
set_option maxRecDepth 100000 in
theorem jg_9 (k g B : Nat) (A : Option Addr) (c : Nat) (fd : List Int) (pos left R E L a b er pl : Int) (w : World) (base : Nat) (hB : B ≤ g)
    (hb : w.heap[g]? = some (.cells #[.slice A fd.length c, .int .i64 pos, .int .i64 9, .int .i64 (left), .int .i64 (R), .int .i64 (E), .int .i64 (L), .int .u32 a, .int .u32 b, .int .i64 er, .int .i64 pl] 76 (0, 0)))
    (hr : Kd.R (Kd.int .u8) 5 w base (fun k => k ≠ g) (.slice A fd.length c) fd) (hl : 0 < fd.length) (a' b' : Int) (hs : frame_sum_add.f k a b fd = some (a', b')) :
    Calls Try.prog 37 #[.pointer (some ⟨g, 0, none⟩)] w fun e w' => e = .returned (.int .i64 66) ∧ w'.heap[g]? = some (.cells #[.slice A fd.length c, .int .i64 pos, .int .i64 9, .int .i64 (left), .int .i64 (R), .int .i64 (E), .int .i64 (L), .int .u32 a', .int .u32 b', .int .i64 er, .int .i64 pl] 76 (0, 0)) ∧ Fed B g w w' := by
  have hu76 := Try.underlying76
  have hu69 := Try.underlying69
  have hu30 := Try.underlying30
  have hu23 := Try.underlying23
  have hu5 := Try.underlying5
  have BK := Aside0.mk hb
  have HR := Aside0.mk hr
  have hgw : B ≤ w.heap.size := Nat.le_trans hB (Nat.le_of_lt (blk_lt hb))
  obtain ⟨⟨hc0, hc1, hc2, hc3, hc4, hc5, hc6, hc7, hc8, hc9, hc10⟩, -⟩ := feed_cells hb
  clear hb hr
  skip
  obtain ⟨ad, rfl, -⟩ := Kd.at_int (Kd.R_reads' HR.out).2.2 0 (by omega) (by omega)
  go_enter Try.func37, Try.ntmps37
  go_wp2_with (first | (go_at_call 32; (with_reducible refine (frame_sum_add.calls k a b _ c fd a' b' _ (Kd.R_reads' HR.out).2.2 (Kd.R_reads' HR.out).2.1 hs).mono ?_); rintro e w1 ⟨rfl, hb1⟩; have B1 := blk_below BK.out hb1; have F1 := (Fed.refl B g w).below hgw hb1; obtain ⟨⟨z0, z1, z2, z3, z4, z5, z6, z7, z8, z9, z10⟩, f0, f1, f2, f3, f4, f5, f6, f7, f8, f9, f10⟩ := feed_cells B1; have R1 := Kd.R_keep (Kd.R_below HR.out hb1) (((KeepBut.refl w1 g none).set_ 7 (.int .u32 a')).set_ 8 (.int .u32 b')) (fun _ hk => hk); have B1_ := Aside0.mk B1; have F1_ := Aside0.mk F1; have R1_ := Aside0.mk R1; clear B1 F1 R1 hb1))
  go_ret
  refine ⟨rfl, ?h, ?f⟩
  case h => (apply seth_; (repeat (first | (with_reducible exact B1_.out) | (with_reducible refine blk_drewN ?_ _) | (with_reducible apply blk_set))); rfl)
  case f => repeat (first | (with_reducible exact F1_.out) | (with_reducible refine Fed.drewN ?_ _) | (with_reducible refine Fed.set ?_ hB _ _))
attribute [local go_sem] set_set
set_option maxHeartbeats 1000000 in
set_option maxRecDepth 100000 in
theorem jg_8a (k g B : Nat) (A : Option Addr) (c : Nat) (fd : List Int) (pos left R E L a b er pl : Int) (w : World) (base : Nat) (hB : B ≤ g)
    (hb : w.heap[g]? = some (.cells #[.slice A fd.length c, .int .i64 pos, .int .i64 8, .int .i64 (left), .int .i64 (R), .int .i64 (E), .int .i64 (L), .int .u32 a, .int .u32 b, .int .i64 er, .int .i64 pl] 76 (0, 0)))
    (hr : Kd.R (Kd.int .u8) 5 w base (fun k => k ≠ g) (.slice A fd.length c) fd) (hl : 0 < fd.length) (x y : Int) (hx : frame_read.f k fd = some x) (hy : frame_sum_foot.f a b = some y) (q : x = IntKind.u64.wrap y) :
    Calls Try.prog 37 #[.pointer (some ⟨g, 0, none⟩)] w fun e w' => e = .returned (.int .i64 0) ∧ w'.heap[g]? = some (.cells #[.slice A fd.length c, .int .i64 pos, .int .i64 9, .int .i64 (left), .int .i64 (R), .int .i64 (E), .int .i64 (L), .int .u32 a, .int .u32 b, .int .i64 er, .int .i64 pl] 76 (0, 0)) ∧ Fed B g w w' := by
  have hu76 := Try.underlying76
  have hu69 := Try.underlying69
  have hu30 := Try.underlying30
  have hu23 := Try.underlying23
  have hu5 := Try.underlying5
  have BK := Aside0.mk hb
  have HR := Aside0.mk hr
  have hgw : B ≤ w.heap.size := Nat.le_trans hB (Nat.le_of_lt (blk_lt hb))
  obtain ⟨⟨hc0, hc1, hc2, hc3, hc4, hc5, hc6, hc7, hc8, hc9, hc10⟩, -⟩ := feed_cells hb
  clear hb hr
  have q1 := beq_iff_eq.mpr q; have q2 := bne_eq_false_iff_eq.mpr q; clear q
  obtain ⟨ad, rfl, -⟩ := Kd.at_int (Kd.R_reads' HR.out).2.2 0 (by omega) (by omega)
  go_enter Try.func37, Try.ntmps37
  go_wp2_with (fail)
  go_region_held3 (fun W => W.cell? ⟨g, 7, none⟩ = some (.int .u32 a) ∧ W.cell? ⟨g, 8, none⟩ = some (.int .u32 b)) (go_keep)
    (first
      | ((go_at_call 42; (refine (frame_read.calls k _ c fd x _ ?hC (Kd.R_reads' HR.out).2.1 hx).mono ?_); (case hC => first | exact (Kd.R_reads' HR.out).2.2 | exact Kd.C_drew (Kd.R_reads' HR.out).2.2); rintro e w2 ⟨rfl, ⟨q_, rfl⟩⟩))
      | ((go_at_call 33; (refine (frame_sum_foot.calls a b y _ hy).mono ?_); rintro e w3 ⟨rfl, hb3⟩; (have h1 : w3.heap[g]? = w.heap[g]? := hb3.block g (blk_lt BK.out)); (have h2 := h1.trans BK.out); (have F3 : Fed B g w w3 := ((Fed.refl B g w).drewN (1 + q_)).below hgw hb3); (have h3 := feed_cells h2); (have B3_ := Aside0.mk h2); (have F3_ := Aside0.mk F3); clear h1 h2 F3 hb3)))
  obtain ⟨⟨z0, z1, z2, z3, z4, z5, z6, z7, z8, z9, z10⟩, f0, f1, f2, f3, f4, f5, f6, f7, f8, f9, f10⟩ := h3
  go_wp2
  go_ret
  refine ⟨rfl, ?h, ?f⟩
  case h => (apply seth_; (repeat (first | (with_reducible exact B3_.out) | (with_reducible refine blk_drewN ?_ _) | (with_reducible apply blk_set))); rfl)
  case f => repeat (first | (with_reducible exact F3_.out) | (with_reducible refine Fed.drewN ?_ _) | (with_reducible refine Fed.set ?_ hB _ _))
set_option maxHeartbeats 1000000 in
set_option maxRecDepth 100000 in
theorem jg_8b (k g B : Nat) (A : Option Addr) (c : Nat) (fd : List Int) (pos left R E L a b er pl : Int) (w : World) (base : Nat) (hB : B ≤ g)
    (hb : w.heap[g]? = some (.cells #[.slice A fd.length c, .int .i64 pos, .int .i64 8, .int .i64 (left), .int .i64 (R), .int .i64 (E), .int .i64 (L), .int .u32 a, .int .u32 b, .int .i64 er, .int .i64 pl] 76 (0, 0)))
    (hr : Kd.R (Kd.int .u8) 5 w base (fun k => k ≠ g) (.slice A fd.length c) fd) (hl : 0 < fd.length) (x y : Int) (hx : frame_read.f k fd = some x) (hy : frame_sum_foot.f a b = some y) (q : ¬ x = IntKind.u64.wrap y) :
    Calls Try.prog 37 #[.pointer (some ⟨g, 0, none⟩)] w fun e w' => e = .returned (.int .i64 65) ∧ w'.heap[g]? = some (.cells #[.slice A fd.length c, .int .i64 pos, .int .i64 8, .int .i64 (left), .int .i64 (R), .int .i64 (E), .int .i64 (L), .int .u32 a, .int .u32 b, .int .i64 er, .int .i64 pl] 76 (0, 0)) ∧ Fed B g w w' := by
  have hu76 := Try.underlying76
  have hu69 := Try.underlying69
  have hu30 := Try.underlying30
  have hu23 := Try.underlying23
  have hu5 := Try.underlying5
  have BK := Aside0.mk hb
  have HR := Aside0.mk hr
  have hgw : B ≤ w.heap.size := Nat.le_trans hB (Nat.le_of_lt (blk_lt hb))
  obtain ⟨⟨hc0, hc1, hc2, hc3, hc4, hc5, hc6, hc7, hc8, hc9, hc10⟩, -⟩ := feed_cells hb
  clear hb hr
  have q1 := beq_eq_false_iff_ne.mpr q; have q2 := bne_iff_ne.mpr q; clear q
  obtain ⟨ad, rfl, -⟩ := Kd.at_int (Kd.R_reads' HR.out).2.2 0 (by omega) (by omega)
  go_enter Try.func37, Try.ntmps37
  go_wp2_with (fail)
  go_region_held3 (fun W => W.cell? ⟨g, 7, none⟩ = some (.int .u32 a) ∧ W.cell? ⟨g, 8, none⟩ = some (.int .u32 b)) (go_keep)
    (first
      | ((go_at_call 42; (refine (frame_read.calls k _ c fd x _ ?hC (Kd.R_reads' HR.out).2.1 hx).mono ?_); (case hC => first | exact (Kd.R_reads' HR.out).2.2 | exact Kd.C_drew (Kd.R_reads' HR.out).2.2); rintro e w2 ⟨rfl, ⟨q_, rfl⟩⟩))
      | ((go_at_call 33; (refine (frame_sum_foot.calls a b y _ hy).mono ?_); rintro e w3 ⟨rfl, hb3⟩; (have h1 : w3.heap[g]? = w.heap[g]? := hb3.block g (blk_lt BK.out)); (have h2 := h1.trans BK.out); (have F3 : Fed B g w w3 := ((Fed.refl B g w).drewN (1 + q_)).below hgw hb3); (have h3 := feed_cells h2); (have B3_ := Aside0.mk h2); (have F3_ := Aside0.mk F3); clear h1 h2 F3 hb3)))
  obtain ⟨⟨z0, z1, z2, z3, z4, z5, z6, z7, z8, z9, z10⟩, f0, f1, f2, f3, f4, f5, f6, f7, f8, f9, f10⟩ := h3
  go_wp2
  go_ret
  refine ⟨rfl, ?h, ?f⟩
  case h => (apply seth_; (repeat (first | (with_reducible exact B3_.out) | (with_reducible refine blk_drewN ?_ _) | (with_reducible apply blk_set))); rfl)
  case f => repeat (first | (with_reducible exact F3_.out) | (with_reducible refine Fed.drewN ?_ _) | (with_reducible refine Fed.set ?_ hB _ _))
def Bys (l : List Int) : Prop := ∀ x ∈ l, 0 ≤ x ∧ x ≤ 255
theorem Bys.rd {l : List Int} (h : Bys l) (i : Int) : 0 ≤ rd l i ∧ rd l i ≤ 255 := by
  by_cases hi : i.toNat < l.length
  · exact h _ (rd_mem l i hi)
  · have : Go.Proofs.YthkcadmjfkcbgaaW.PrintWords.rd l i = 0 := by simp [Go.Proofs.YthkcadmjfkcbgaaW.PrintWords.rd, List.getD_eq_getElem?_getD, List.getElem?_eq_none (Nat.le_of_not_lt hi)]
    rw [this]; omega
theorem Bys.tail {c : Int} {l : List Int} (h : Bys (c :: l)) : Bys l := fun x hx => h x (List.mem_cons_of_mem _ hx)
theorem Bys.append {l m : List Int} (h : Bys l) (h2 : Bys m) : Bys (l ++ m) := fun x hx => (List.mem_append.1 hx).elim (h x) (h2 x)
theorem sum_step (a b c : Int) (a0 : 0 ≤ a) (a1 : a < 65521) (b0 : 0 ≤ b) (b1 : b < 65521) (c0 : 0 ≤ c) (c1 : c ≤ 255) :
    (((a + (c % 4294967296)) % 4294967296) % 65521) = (a + c) % 65521 ∧ ((b + (a + c) % 65521) % 4294967296) % 65521 = (b + (a + c) % 65521) % 65521 := by
  exact ⟨by omega, by omega⟩
theorem sumL_range (l : List Int) : ∀ (a b : Int), 0 ≤ a → a < 65521 → 0 ≤ b → b < 65521 → 0 ≤ (sumL a b l).1 ∧ (sumL a b l).1 < 65521 ∧ 0 ≤ (sumL a b l).2 ∧ (sumL a b l).2 < 65521 := by
  induction l with
  | nil => intro a b h0 h1 h2 h3; exact ⟨h0, h1, h2, h3⟩
  | cons c l ih => intro a b h0 h1 h2 h3; exact ih _ _ (by omega) (by omega) (by omega) (by omega)
theorem sum_l0 (l : List Int) (hl : l.length ≤ 140737488355328) (hb : Bys l) (d : Nat) : ∀ (k : Nat) (i : Nat) (a b : Int), i ≤ l.length → l.length - i = d → d < k → 0 ≤ a → a < 65521 → 0 ≤ b → b < 65521 →
    frame_sum_add.l0 k l (l.length : Int) (i : Int) a b = some (sumL a b (l.drop i)) := by
  induction d with
  | zero =>
    intro k i a b hi hd hk _ _ _ _
    obtain ⟨k, rfl⟩ : ∃ m, k = m + 1 := ⟨k - 1, by omega⟩
    rw [List.drop_of_length_le (by omega)]
    simp only [frame_sum_add.l0]
    rw [if_neg (by omega)]
    rfl
  | succ d ih =>
    intro k i a b hi hd hk a0 a1 b0 b1
    obtain ⟨k, rfl⟩ : ∃ m, k = m + 1 := ⟨k - 1, by omega⟩
    have hlt : i < l.length := by omega
    have hr := hb.rd (i : Int)
    obtain ⟨e1, e2⟩ := sum_step a b (rd l i) a0 a1 b0 b1 hr.1 hr.2
    simp only [frame_sum_add.l0]
    rw [if_pos (by omega), if_pos (by omega), if_pos (by omega), e1, e2, show wrap64 ((i : Int) + 1) = ((i + 1 : Nat) : Int) from by rw [w64 (by omega) (by omega)]; rfl]
    rw [ih k (i + 1) _ _ (by omega) (by omega) (by omega) (by omega) (by omega) (by omega) (by omega), drop_rd l i hlt]
    rfl
theorem sum_eq (l : List Int) (hl : l.length ≤ 140737488355328) (hb : Bys l) (a b : Int) (a0 : 0 ≤ a) (a1 : a < 65521) (b0 : 0 ≤ b) (b1 : b < 65521) (k : Nat) (hk : l.length < k) :
    frame_sum_add.f k a b l = some ((sumL a b l).1, (sumL a b l).2) := by
  unfold frame_sum_add.f
  have := sum_l0 l hl hb l.length k 0 a b (by omega) (by omega) hk a0 a1 b0 b1
  simpa using this
theorem wru64' (n : Int) (h0 : 0 ≤ n) (h1 : n < 2 ^ 64) : IntKind.u64.wrap n = n := by
  show n % 2 ^ 64 = n
  exact Int.emod_eq_of_lt h0 h1
theorem wru32' (n : Int) (h0 : 0 ≤ n) (h1 : n < 2 ^ 32) : IntKind.u32.wrap n = n := by
  show n % 2 ^ 32 = n
  exact Int.emod_eq_of_lt h0 h1
theorem rstep_or (a t : Int) (h0 : 0 ≤ a) (h1 : a < 2 ^ 56) (t0 : 0 ≤ t) (t1 : t ≤ 255) : bits .or .u64 (IntKind.u64.wrap (a * 256)) (IntKind.u64.wrap t) = a * 256 + t := by
  have p : (2 : Int) ^ 64 = 2 ^ 56 * 256 := by decide
  have q : (256 : Int) ≤ 2 ^ 64 := by decide
  have e1 : IntKind.u64.wrap (a * 256) = a * 256 := wru64' _ (by omega) (by rw [p]; omega)
  have e2 : IntKind.u64.wrap t = t := wru64' _ t0 (by omega)
  rw [e1, e2]
  exact bits_join .u64 64 (by decide) wru64' 8 (a * 256) t (by omega) (by omega) (by rw [p]; omega) t0 (by omega) (by omega)
def numF (v : Int) (l : List Int) : Int := l.foldl (fun v c => v * 256 + c) v
theorem numL_def (l : List Int) : numL l = numF 0 l := rfl
theorem numF_range : ∀ (l : List Int) (v : Int) (m : Nat), Bys l → 0 ≤ v → v < 256 ^ m → 0 ≤ numF v l ∧ numF v l < 256 ^ (m + l.length)
  | [], v, m, _, h0, h1 => ⟨h0, h1⟩
  | c :: l, v, m, hb, h0, h1 => by
    have b := hb c List.mem_cons_self
    have hp : (256 : Int) ^ (m + 1) = 256 ^ m * 256 := Int.pow_succ _ _
    have := numF_range l (v * 256 + c) (m + 1) hb.tail (by omega) (by rw [hp]; omega)
    rw [show m + (c :: l).length = m + 1 + l.length from by simp; omega]
    exact this
theorem numL_range (l : List Int) (hb : Bys l) : 0 ≤ numL l ∧ numL l < 256 ^ l.length := by
  have := numF_range l 0 0 hb (by omega) (by decide)
  rw [numL_def]
  simpa using this
theorem pow_le_8 (m : Nat) (h : m ≤ 7) : (256 : Int) ^ m ≤ 2 ^ 56 := by
  rcases (by omega : m = 0 ∨ m = 1 ∨ m = 2 ∨ m = 3 ∨ m = 4 ∨ m = 5 ∨ m = 6 ∨ m = 7) with rfl | rfl | rfl | rfl | rfl | rfl | rfl | rfl <;> decide
theorem read_l0 (l : List Int) (hl : l.length ≤ 8) (hb : Bys l) (d : Nat) : ∀ (k i : Nat) (v : Int), i ≤ l.length → l.length - i = d → d < k → 0 ≤ v → v < 256 ^ i →
    frame_read.l0 k v l (l.length : Int) (i : Int) = some (numF v (l.drop i)) := by
  induction d with
  | zero =>
    intro k i v hi hd hk _ _
    obtain ⟨k, rfl⟩ : ∃ m, k = m + 1 := ⟨k - 1, by omega⟩
    rw [List.drop_of_length_le (by omega)]
    simp only [frame_read.l0]
    rw [if_neg (by omega)]
    rfl
  | succ d ih =>
    intro k i v hi hd hk v0 v1
    obtain ⟨k, rfl⟩ : ∃ m, k = m + 1 := ⟨k - 1, by omega⟩
    have hlt : i < l.length := by omega
    have hr := hb.rd (i : Int)
    have hp := pow_le_8 i (by omega)
    have hq : (256 : Int) ^ (i + 1) = 256 ^ i * 256 := Int.pow_succ _ _
    simp only [frame_read.l0]
    rw [if_pos (by omega), if_pos (by omega), if_pos (by omega), rstep_or v _ v0 (by omega) hr.1 hr.2, show wrap64 ((i : Int) + 1) = ((i + 1 : Nat) : Int) from by rw [w64 (by omega) (by omega)]; rfl]
    rw [ih k (i + 1) _ (by omega) (by omega) (by omega) (by omega) (by rw [hq]; omega), drop_rd l i hlt]
    rfl
theorem read_eq (l : List Int) (hl : l.length ≤ 8) (hb : Bys l) (k : Nat) (hk : l.length < k) : frame_read.f k l = some (numL l) := by
  unfold frame_read.f
  have := read_l0 l hl hb l.length k 0 0 (by omega) (by omega) hk (by omega) (by decide)
  rw [numL_def]
  simpa using this
theorem foot_eq (a b : Int) (a0 : 0 ≤ a) (a1 : a < 65521) (b0 : 0 ≤ b) (b1 : b < 65521) : frame_sum_foot.f a b = some (b * 65536 + a) := by
  have p : (2 : Int) ^ 32 = 4294967296 := by decide
  have q : (2 : Int) ^ 16 = 65536 := by decide
  unfold frame_sum_foot.f
  rw [show (b * 65536) % 4294967296 = b * 65536 from by omega]
  rw [bits_join .u32 32 (by decide) wru32' 16 (b * 65536) a (by omega) (by rw [q]; omega) (by rw [p]; omega) a0 (by rw [q]; omega) (by rw [p]; omega)]
theorem u8_inj {x y : Int} (hx : 0 ≤ x ∧ x ≤ 255) (hy : 0 ≤ y ∧ y ≤ 255) (h : UInt8.ofNat x.toNat = UInt8.ofNat y.toNat) : x = y := by
  have := congrArg UInt8.toNat h
  simp only [UInt8.toNat_ofNat'] at this
  omega
theorem str_list (a : List Int) : (strOfNums a).toList = a.map (fun n => UInt8.ofNat n.toNat) := by
  rw [ByteArray.toList_eq]; simp [strOfNums]
theorem str_inj {a b : List Int} (ha : Bys a) (hb : Bys b) (h : (strOfNums a).toList = (strOfNums b).toList) : a = b := by
  rw [str_list, str_list] at h
  induction a generalizing b with
  | nil => cases b <;> simp at h ⊢
  | cons x a ih =>
    cases b with
    | nil => simp at h
    | cons y b =>
      simp only [List.map_cons, List.cons.injEq] at h
      rw [u8_inj (ha x List.mem_cons_self) (hb y List.mem_cons_self) h.1, ih ha.tail hb.tail h.2]
theorem magic_iff {a : List Int} (ha : Bys a) : (strOfNums a).toList = [67, 72, 82, 78] ↔ a = [67, 72, 82, 78] := by
  have e : (strOfNums [67, 72, 82, 78]).toList = [67, 72, 82, 78] := by rw [str_list]; rfl
  constructor
  · intro h
    exact str_inj ha (by intro x hx; simp at hx; omega) (h.trans e.symm)
  · rintro rfl
    exact e
/-- What holds of a feed's fields at all times. -/
structure FS.Okay (s : FS) : Prop where
  st0 : 0 ≤ s.st
  st9 : s.st ≤ 9
  by_ : Bys s.fd
  a0 : 0 ≤ s.a
  a1 : s.a < 65521
  b0 : 0 ≤ s.b
  b1 : s.b < 65521
  l0 : 0 ≤ s.left
  l1 : s.left ≤ 65536
  l6 : s.st = 6 ∨ s.st = 7 → 1 ≤ s.left
theorem judge_calls (g B : Nat) (A : Option Addr) (c : Nat) (s : FS) (w : World) (base : Nat) (hB : B ≤ g) (hb : w.heap[g]? = some (.cells (s.cells (.slice A s.fd.length c)) 76 (0, 0)))
    (hr : Kd.R (Kd.int .u8) 5 w base (fun k => k ≠ g) (.slice A s.fd.length c) s.fd) (ho : s.Okay) (hf : (s.fd.length : Int) = fsz s.st) :
    Calls Try.prog 37 #[.pointer (some ⟨g, 0, none⟩)] w fun e w' => e = .returned (.int .i64 s.jud.2) ∧ w'.heap[g]? = some (.cells (s.jud.1.cells (.slice A s.fd.length c)) 76 (0, 0)) ∧ Fed B g w w' := by
  obtain ⟨fd, pos, st, left, R, E, L, a, b, er, pl⟩ := s
  obtain ⟨st0, st9, by_, a0, a1, b0, b1, l0, l1, l6⟩ := ho
  simp only [FS.cells] at *
  have hp := fsz_pos st
  have hl : 0 < fd.length := by omega
  have hs := sum_eq fd (by omega) by_ a b a0 a1 b0 b1 (fd.length + 1) (by omega)
  have hn := numL_range fd by_
  rcases (by omega : st = 0 ∨ st = 1 ∨ st = 2 ∨ st = 3 ∨ st = 4 ∨ st = 5 ∨ st = 6 ∨ st = 7 ∨ st = 8 ∨ st = 9) with rfl | rfl | rfl | rfl | rfl | rfl | rfl | rfl | rfl | rfl
  · by_cases q : fd = [67, 72, 82, 78]
    · have J := jg_0a _ g B A c fd pos left R E L a b er pl w base hB hb hr hl _ _ hs ((magic_iff by_).2 q)
      have e : FS.jud ⟨fd, pos, 0, left, R, E, L, a, b, er, pl⟩ = (⟨fd, pos, 1, left, R, E, L, (sumL a b fd).1, (sumL a b fd).2, er, pl⟩, 0) := by simp [FS.jud, FS.nxt, q]
      rw [e]; exact J
    · have J := jg_0b _ g B A c fd pos left R E L a b er pl w base hB hb hr hl _ _ hs (fun h => q ((magic_iff by_).1 h))
      have e : FS.jud ⟨fd, pos, 0, left, R, E, L, a, b, er, pl⟩ = (⟨fd, pos, 0, left, R, E, L, (sumL a b fd).1, (sumL a b fd).2, er, pl⟩, 60) := by simp [FS.jud, FS.nxt, q]
      rw [e]; exact J
  · by_cases q : rd fd 0 = 1
    · have J := jg_1a _ g B A c fd pos left R E L a b er pl w base hB hb hr hl _ _ hs q
      have e : FS.jud ⟨fd, pos, 1, left, R, E, L, a, b, er, pl⟩ = (⟨fd, pos, 2, left, R, E, L, (sumL a b fd).1, (sumL a b fd).2, er, pl⟩, 0) := by simp [FS.jud, FS.nxt, q]
      rw [e]; exact J
    · have J := jg_1b _ g B A c fd pos left R E L a b er pl w base hB hb hr hl _ _ hs q
      have e : FS.jud ⟨fd, pos, 1, left, R, E, L, a, b, er, pl⟩ = (⟨fd, pos, 1, left, R, E, L, (sumL a b fd).1, (sumL a b fd).2, er, pl⟩, 61) := by simp [FS.jud, FS.nxt, q]
      rw [e]; exact J
  · have hr0 := by_.rd 0
    have hw : wrap64 (rd fd 0) = rd fd 0 := w64 (by omega) (by omega)
    by_cases q : rd fd 0 > 8
    · have J := jg_2b _ g B A c fd pos left R E L a b er pl w base hB hb hr hl _ _ hs (by rw [hw]; exact q)
      have e : FS.jud ⟨fd, pos, 2, left, R, E, L, a, b, er, pl⟩ = (⟨fd, pos, 2, left, R, E, rd fd 0, (sumL a b fd).1, (sumL a b fd).2, er, pl⟩, 62) := by simp [FS.jud, FS.nxt, q]
      rw [e]; rw [hw] at J; exact J
    · have J := jg_2a _ g B A c fd pos left R E L a b er pl w base hB hb hr hl _ _ hs (by rw [hw]; exact q)
      have e : FS.jud ⟨fd, pos, 2, left, R, E, L, a, b, er, pl⟩ = (⟨fd, pos, 3, left, R, E, rd fd 0, (sumL a b fd).1, (sumL a b fd).2, er, pl⟩, 0) := by simp [FS.jud, FS.nxt, q]
      rw [e]; rw [hw] at J; exact J
  · have hx := read_eq fd (by simp [fsz] at hf; omega) by_ (fd.length + 1) (by omega)
    have hw : wrap64 (numL fd) = numL fd := by
      have : fd.length = 2 := by simp [fsz] at hf; omega
      rw [this] at hn
      exact w64 (by omega) (by omega)
    by_cases q : numL fd > 256
    · have J := jg_3b _ g B A c fd pos left R E L a b er pl w base hB hb hr hl _ _ hs (numL fd) hx (by rw [hw]; exact q)
      have e : FS.jud ⟨fd, pos, 3, left, R, E, L, a, b, er, pl⟩ = (⟨fd, pos, 3, numL fd, R, E, L, (sumL a b fd).1, (sumL a b fd).2, er, pl⟩, 63) := by simp [FS.jud, FS.nxt, q]
      rw [e]; rw [hw] at J; exact J
    · have J := jg_3a _ g B A c fd pos left R E L a b er pl w base hB hb hr hl _ _ hs (numL fd) hx (by rw [hw]; exact q)
      have e : FS.jud ⟨fd, pos, 3, left, R, E, L, a, b, er, pl⟩ = (⟨fd, pos, 4, numL fd, R, E, L, (sumL a b fd).1, (sumL a b fd).2, er, pl⟩, 0) := by simp [FS.jud, FS.nxt, q]
      rw [e]; rw [hw] at J; exact J
  · have hx := read_eq fd (by simp [fsz] at hf; omega) by_ (fd.length + 1) (by omega)
    by_cases q : numL fd > 4611686018427387903
    · have J := jg_4b _ g B A c fd pos left R E L a b er pl w base hB hb hr hl _ _ hs (numL fd) hx q
      have e : FS.jud ⟨fd, pos, 4, left, R, E, L, a, b, er, pl⟩ = (⟨fd, pos, 4, left, wrap64 (numL fd), E, L, (sumL a b fd).1, (sumL a b fd).2, er, pl⟩, 62) := by simp [FS.jud, FS.nxt, q]
      rw [e]; exact J
    · have J := jg_4a _ g B A c fd pos left R E L a b er pl w base hB hb hr hl _ _ hs (numL fd) hx q
      have e : FS.jud ⟨fd, pos, 4, left, R, E, L, a, b, er, pl⟩ = (⟨fd, pos, 5, left, wrap64 (numL fd), E, L, (sumL a b fd).1, (sumL a b fd).2, er, pl⟩, 0) := by simp [FS.jud, FS.nxt, q]
      rw [e]; exact J
  · have hx := read_eq fd (by simp [fsz] at hf; omega) by_ (fd.length + 1) (by omega)
    by_cases q : numL fd > 4611686018427387904
    · have J := jg_5c _ g B A c fd pos left R E L a b er pl w base hB hb hr hl _ _ hs (numL fd) hx q
      have e : FS.jud ⟨fd, pos, 5, left, R, E, L, a, b, er, pl⟩ = (⟨fd, pos, 5, left, R, wrap64 (numL fd), L, (sumL a b fd).1, (sumL a b fd).2, er, pl⟩, 62) := by simp [FS.jud, FS.nxt, q]
      rw [e]; exact J
    · by_cases p : left = 0
      · have J := jg_5a _ g B A c fd pos left R E L a b er pl w base hB hb hr hl _ _ hs (numL fd) hx q p
        have e : FS.jud ⟨fd, pos, 5, left, R, E, L, a, b, er, pl⟩ = (⟨fd, pos, 8, left, R, wrap64 (numL fd), L, (sumL a b fd).1, (sumL a b fd).2, er, pl⟩, 0) := by simp [FS.jud, FS.nxt, q, p]
        rw [e]; exact J
      · have J := jg_5b _ g B A c fd pos left R E L a b er pl w base hB hb hr hl _ _ hs (numL fd) hx q p
        have e : FS.jud ⟨fd, pos, 5, left, R, E, L, a, b, er, pl⟩ = (⟨fd, pos, 6, left, R, wrap64 (numL fd), L, (sumL a b fd).1, (sumL a b fd).2, er, pl⟩, 0) := by simp [FS.jud, FS.nxt, q, p]
        rw [e]; exact J
  · have hx := read_eq fd (by simp [fsz] at hf; omega) by_ (fd.length + 1) (by omega)
    by_cases q : numL fd = 320
    · have J := jg_6a _ g B A c fd pos left R E L a b er pl w base hB hb hr hl _ _ hs (numL fd) hx q
      have e : FS.jud ⟨fd, pos, 6, left, R, E, L, a, b, er, pl⟩ = (⟨fd, pos, 7, left, R, E, L, (sumL a b fd).1, (sumL a b fd).2, er, pl⟩, 0) := by simp [FS.jud, FS.nxt, q]
      rw [e]; exact J
    · have J := jg_6b _ g B A c fd pos left R E L a b er pl w base hB hb hr hl _ _ hs (numL fd) hx q
      have e : FS.jud ⟨fd, pos, 6, left, R, E, L, a, b, er, pl⟩ = (⟨fd, pos, 6, left, R, E, L, (sumL a b fd).1, (sumL a b fd).2, er, pl⟩, 64) := by simp [FS.jud, FS.nxt, q]
      rw [e]; exact J
  · have hw : wrap64 (left - 1) = left - 1 := w64 (by omega) (by omega)
    by_cases p : left - 1 = 0
    · have J := jg_7a _ g B A c fd pos left R E L a b er pl w base hB hb hr hl _ _ hs (by rw [hw]; exact p)
      have e : FS.jud ⟨fd, pos, 7, left, R, E, L, a, b, er, pl⟩ = (⟨fd, pos, 8, left - 1, R, E, L, (sumL a b fd).1, (sumL a b fd).2, er, pl⟩, 0) := by simp [FS.jud, FS.nxt, p]
      rw [e]; rw [hw] at J; exact J
    · have J := jg_7b _ g B A c fd pos left R E L a b er pl w base hB hb hr hl _ _ hs (by rw [hw]; exact p)
      have e : FS.jud ⟨fd, pos, 7, left, R, E, L, a, b, er, pl⟩ = (⟨fd, pos, 6, left - 1, R, E, L, (sumL a b fd).1, (sumL a b fd).2, er, pl⟩, 0) := by simp [FS.jud, FS.nxt, p]
      rw [e]; rw [hw] at J; exact J
  · have hx := read_eq fd (by simp [fsz] at hf; omega) by_ (fd.length + 1) (by omega)
    have hy := foot_eq a b a0 a1 b0 b1
    have p64 : (2 : Int) ^ 64 = 18446744073709551616 := by decide
    have hw : IntKind.u64.wrap (b * 65536 + a) = b * 65536 + a := wru64' _ (by omega) (by rw [p64]; omega)
    by_cases q : numL fd = b * 65536 + a
    · have J := jg_8a _ g B A c fd pos left R E L a b er pl w base hB hb hr hl (numL fd) _ hx hy (by rw [hw]; exact q)
      have e : FS.jud ⟨fd, pos, 8, left, R, E, L, a, b, er, pl⟩ = (⟨fd, pos, 9, left, R, E, L, a, b, er, pl⟩, 0) := by simp [FS.jud, q]
      rw [e]; exact J
    · have J := jg_8b _ g B A c fd pos left R E L a b er pl w base hB hb hr hl (numL fd) _ hx hy (by rw [hw]; exact q)
      have e : FS.jud ⟨fd, pos, 8, left, R, E, L, a, b, er, pl⟩ = (⟨fd, pos, 8, left, R, E, L, a, b, er, pl⟩, 65) := by simp [FS.jud, q]
      rw [e]; exact J
  · have J := jg_9 _ g B A c fd pos left R E L a b er pl w base hB hb hr hl _ _ hs
    have e : FS.jud ⟨fd, pos, 9, left, R, E, L, a, b, er, pl⟩ = (⟨fd, pos, 9, left, R, E, L, (sumL a b fd).1, (sumL a b fd).2, er, pl⟩, 66) := by simp [FS.jud]
    rw [e]; exact J
theorem jud_0 (fd : List Int) (pos left R E L a b er pl : Int) : FS.jud ⟨fd, pos, 0, left, R, E, L, a, b, er, pl⟩ = if fd = [67, 72, 82, 78] then (⟨fd, pos, 1, left, R, E, L, (sumL a b fd).1, (sumL a b fd).2, er, pl⟩, 0) else (⟨fd, pos, 0, left, R, E, L, (sumL a b fd).1, (sumL a b fd).2, er, pl⟩, 60) := by by_cases q : fd = [67, 72, 82, 78] <;> simp [FS.jud, FS.nxt, q]
theorem jud_1 (fd : List Int) (pos left R E L a b er pl : Int) : FS.jud ⟨fd, pos, 1, left, R, E, L, a, b, er, pl⟩ = if rd fd 0 = 1 then (⟨fd, pos, 2, left, R, E, L, (sumL a b fd).1, (sumL a b fd).2, er, pl⟩, 0) else (⟨fd, pos, 1, left, R, E, L, (sumL a b fd).1, (sumL a b fd).2, er, pl⟩, 61) := by by_cases q : rd fd 0 = 1 <;> simp [FS.jud, FS.nxt, q]
theorem jud_2 (fd : List Int) (pos left R E L a b er pl : Int) : FS.jud ⟨fd, pos, 2, left, R, E, L, a, b, er, pl⟩ = if rd fd 0 > 8 then (⟨fd, pos, 2, left, R, E, rd fd 0, (sumL a b fd).1, (sumL a b fd).2, er, pl⟩, 62) else (⟨fd, pos, 3, left, R, E, rd fd 0, (sumL a b fd).1, (sumL a b fd).2, er, pl⟩, 0) := by by_cases q : rd fd 0 > 8 <;> simp [FS.jud, FS.nxt, q]
theorem jud_3 (fd : List Int) (pos left R E L a b er pl : Int) : FS.jud ⟨fd, pos, 3, left, R, E, L, a, b, er, pl⟩ = if numL fd > 256 then (⟨fd, pos, 3, numL fd, R, E, L, (sumL a b fd).1, (sumL a b fd).2, er, pl⟩, 63) else (⟨fd, pos, 4, numL fd, R, E, L, (sumL a b fd).1, (sumL a b fd).2, er, pl⟩, 0) := by by_cases q : numL fd > 256 <;> simp [FS.jud, FS.nxt, q]
theorem jud_4 (fd : List Int) (pos left R E L a b er pl : Int) : FS.jud ⟨fd, pos, 4, left, R, E, L, a, b, er, pl⟩ = if numL fd > 4611686018427387903 then (⟨fd, pos, 4, left, wrap64 (numL fd), E, L, (sumL a b fd).1, (sumL a b fd).2, er, pl⟩, 62) else (⟨fd, pos, 5, left, wrap64 (numL fd), E, L, (sumL a b fd).1, (sumL a b fd).2, er, pl⟩, 0) := by by_cases q : numL fd > 4611686018427387903 <;> simp [FS.jud, FS.nxt, q]
theorem jud_5 (fd : List Int) (pos left R E L a b er pl : Int) : FS.jud ⟨fd, pos, 5, left, R, E, L, a, b, er, pl⟩ = if numL fd > 4611686018427387904 then (⟨fd, pos, 5, left, R, wrap64 (numL fd), L, (sumL a b fd).1, (sumL a b fd).2, er, pl⟩, 62) else (⟨fd, pos, if left = 0 then 8 else 6, left, R, wrap64 (numL fd), L, (sumL a b fd).1, (sumL a b fd).2, er, pl⟩, 0) := by by_cases q : numL fd > 4611686018427387904 <;> simp [FS.jud, FS.nxt, q]
theorem jud_6 (fd : List Int) (pos left R E L a b er pl : Int) : FS.jud ⟨fd, pos, 6, left, R, E, L, a, b, er, pl⟩ = if numL fd = 320 then (⟨fd, pos, 7, left, R, E, L, (sumL a b fd).1, (sumL a b fd).2, er, pl⟩, 0) else (⟨fd, pos, 6, left, R, E, L, (sumL a b fd).1, (sumL a b fd).2, er, pl⟩, 64) := by by_cases q : numL fd = 320 <;> simp [FS.jud, FS.nxt, q]
theorem jud_7 (fd : List Int) (pos left R E L a b er pl : Int) : FS.jud ⟨fd, pos, 7, left, R, E, L, a, b, er, pl⟩ = (⟨fd, pos, if left - 1 = 0 then 8 else 6, left - 1, R, E, L, (sumL a b fd).1, (sumL a b fd).2, er, pl⟩, 0) := by simp [FS.jud, FS.nxt]
theorem jud_8 (fd : List Int) (pos left R E L a b er pl : Int) : FS.jud ⟨fd, pos, 8, left, R, E, L, a, b, er, pl⟩ = if numL fd = b * 65536 + a then (⟨fd, pos, 9, left, R, E, L, a, b, er, pl⟩, 0) else (⟨fd, pos, 8, left, R, E, L, a, b, er, pl⟩, 65) := by by_cases q : numL fd = b * 65536 + a <;> simp [FS.jud, FS.nxt, q]
theorem jud_9 (fd : List Int) (pos left R E L a b er pl : Int) : FS.jud ⟨fd, pos, 9, left, R, E, L, a, b, er, pl⟩ = (⟨fd, pos, 9, left, R, E, L, (sumL a b fd).1, (sumL a b fd).2, er, pl⟩, 66) := by simp [FS.jud, FS.nxt]
/-- What judging leaves as it is. -/
theorem FS.jud_okay (s : FS) (h : s.Okay) (hf : (s.fd.length : Int) = fsz s.st) :
    (s.jud.1.fd = s.fd ∧ s.jud.1.pos = s.pos ∧ s.jud.1.er = s.er ∧ s.jud.1.pl = s.pl) ∧ s.jud.1.Okay ∧ (s.st = 7 → s.jud.1.left = s.left - 1 ∧ s.jud.2 = 0) ∧ (s.st ≠ 7 → s.st ≤ 3 ∨ s.jud.1.left = s.left) ∧ (s.jud.1.st ≤ 3 → s.st ≤ 3) := by
  obtain ⟨fd, pos, st, left, R, E, L, a, b, er, pl⟩ := s
  obtain ⟨st0, st9, by_, a0, a1, b0, b1, l0, l1, l6⟩ := h
  simp only [] at *
  obtain ⟨p0, p1, p2, p3⟩ := sumL_range fd a b a0 a1 b0 b1
  have hn := numL_range fd by_
  rcases (by omega : st = 0 ∨ st = 1 ∨ st = 2 ∨ st = 3 ∨ st = 4 ∨ st = 5 ∨ st = 6 ∨ st = 7 ∨ st = 8 ∨ st = 9) with rfl | rfl | rfl | rfl | rfl | rfl | rfl | rfl | rfl | rfl
  · rw [jud_0]
    by_cases q : fd = [67, 72, 82, 78]
    · rw [if_pos q]
      simp only []
      refine ⟨⟨?_, ?_, ?_, ?_⟩, ⟨?_, ?_, by_, ?_, ?_, ?_, ?_, ?_, ?_, ?_⟩, ?_, ?_, ?_⟩ <;> (try simp only []) <;> (first | rfl | trivial | omega | (intro h; first | omega | exact ⟨rfl, rfl⟩))
    · rw [if_neg q]
      simp only []
      refine ⟨⟨?_, ?_, ?_, ?_⟩, ⟨?_, ?_, by_, ?_, ?_, ?_, ?_, ?_, ?_, ?_⟩, ?_, ?_, ?_⟩ <;> (try simp only []) <;> (first | rfl | trivial | omega | (intro h; first | omega | exact ⟨rfl, rfl⟩))
  · rw [jud_1]
    by_cases q : rd fd 0 = 1
    · rw [if_pos q]
      simp only []
      refine ⟨⟨?_, ?_, ?_, ?_⟩, ⟨?_, ?_, by_, ?_, ?_, ?_, ?_, ?_, ?_, ?_⟩, ?_, ?_, ?_⟩ <;> (try simp only []) <;> (first | rfl | trivial | omega | (intro h; first | omega | exact ⟨rfl, rfl⟩))
    · rw [if_neg q]
      simp only []
      refine ⟨⟨?_, ?_, ?_, ?_⟩, ⟨?_, ?_, by_, ?_, ?_, ?_, ?_, ?_, ?_, ?_⟩, ?_, ?_, ?_⟩ <;> (try simp only []) <;> (first | rfl | trivial | omega | (intro h; first | omega | exact ⟨rfl, rfl⟩))
  · rw [jud_2]
    by_cases q : rd fd 0 > 8
    · rw [if_pos q]
      simp only []
      refine ⟨⟨?_, ?_, ?_, ?_⟩, ⟨?_, ?_, by_, ?_, ?_, ?_, ?_, ?_, ?_, ?_⟩, ?_, ?_, ?_⟩ <;> (try simp only []) <;> (first | rfl | trivial | omega | (intro h; first | omega | exact ⟨rfl, rfl⟩))
    · rw [if_neg q]
      simp only []
      refine ⟨⟨?_, ?_, ?_, ?_⟩, ⟨?_, ?_, by_, ?_, ?_, ?_, ?_, ?_, ?_, ?_⟩, ?_, ?_, ?_⟩ <;> (try simp only []) <;> (first | rfl | trivial | omega | (intro h; first | omega | exact ⟨rfl, rfl⟩))
  · rw [jud_3]
    have h2 : fd.length = 2 := by simp [fsz] at hf; omega
    rw [h2] at hn
    by_cases q : numL fd > 256
    · rw [if_pos q]
      simp only []
      refine ⟨⟨?_, ?_, ?_, ?_⟩, ⟨?_, ?_, by_, ?_, ?_, ?_, ?_, ?_, ?_, ?_⟩, ?_, ?_, ?_⟩ <;> (try simp only []) <;> (first | rfl | trivial | omega | (intro h; first | omega | exact ⟨rfl, rfl⟩))
    · rw [if_neg q]
      simp only []
      refine ⟨⟨?_, ?_, ?_, ?_⟩, ⟨?_, ?_, by_, ?_, ?_, ?_, ?_, ?_, ?_, ?_⟩, ?_, ?_, ?_⟩ <;> (try simp only []) <;> (first | rfl | trivial | omega | (intro h; first | omega | exact ⟨rfl, rfl⟩))
  · rw [jud_4]
    by_cases q : numL fd > 4611686018427387903
    · rw [if_pos q]
      simp only []
      refine ⟨⟨?_, ?_, ?_, ?_⟩, ⟨?_, ?_, by_, ?_, ?_, ?_, ?_, ?_, ?_, ?_⟩, ?_, ?_, ?_⟩ <;> (try simp only []) <;> (first | rfl | trivial | omega | (intro h; first | omega | exact ⟨rfl, rfl⟩))
    · rw [if_neg q]
      simp only []
      refine ⟨⟨?_, ?_, ?_, ?_⟩, ⟨?_, ?_, by_, ?_, ?_, ?_, ?_, ?_, ?_, ?_⟩, ?_, ?_, ?_⟩ <;> (try simp only []) <;> (first | rfl | trivial | omega | (intro h; first | omega | exact ⟨rfl, rfl⟩))
  · rw [jud_5]
    by_cases q : numL fd > 4611686018427387904
    · rw [if_pos q]
      simp only []
      refine ⟨⟨?_, ?_, ?_, ?_⟩, ⟨?_, ?_, by_, ?_, ?_, ?_, ?_, ?_, ?_, ?_⟩, ?_, ?_, ?_⟩ <;> (try simp only []) <;> (first | rfl | trivial | omega | (intro h; first | omega | exact ⟨rfl, rfl⟩))
    · rw [if_neg q]
      simp only []
      by_cases q2 : left = 0 <;> simp only [q2, if_true, if_false] <;> refine ⟨⟨?_, ?_, ?_, ?_⟩, ⟨?_, ?_, by_, ?_, ?_, ?_, ?_, ?_, ?_, ?_⟩, ?_, ?_, ?_⟩ <;> (try simp only []) <;> (first | rfl | trivial | omega | (intro h; first | omega | exact ⟨rfl, rfl⟩))
  · rw [jud_6]
    by_cases q : numL fd = 320
    · rw [if_pos q]
      simp only []
      refine ⟨⟨?_, ?_, ?_, ?_⟩, ⟨?_, ?_, by_, ?_, ?_, ?_, ?_, ?_, ?_, ?_⟩, ?_, ?_, ?_⟩ <;> (try simp only []) <;> (first | rfl | trivial | omega | (intro h; first | omega | exact ⟨rfl, rfl⟩))
    · rw [if_neg q]
      simp only []
      refine ⟨⟨?_, ?_, ?_, ?_⟩, ⟨?_, ?_, by_, ?_, ?_, ?_, ?_, ?_, ?_, ?_⟩, ?_, ?_, ?_⟩ <;> (try simp only []) <;> (first | rfl | trivial | omega | (intro h; first | omega | exact ⟨rfl, rfl⟩))
  · rw [jud_7]
    simp only []
    by_cases q : left - 1 = 0 <;> simp only [q, if_true, if_false] <;> refine ⟨⟨?_, ?_, ?_, ?_⟩, ⟨?_, ?_, by_, ?_, ?_, ?_, ?_, ?_, ?_, ?_⟩, ?_, ?_, ?_⟩ <;> (try simp only []) <;> (first | rfl | trivial | omega | (intro h; first | omega | exact ⟨rfl, rfl⟩))
  · rw [jud_8]
    by_cases q : numL fd = b * 65536 + a
    · rw [if_pos q]
      simp only []
      refine ⟨⟨?_, ?_, ?_, ?_⟩, ⟨?_, ?_, by_, ?_, ?_, ?_, ?_, ?_, ?_, ?_⟩, ?_, ?_, ?_⟩ <;> (try simp only []) <;> (first | rfl | trivial | omega | (intro h; first | omega | exact ⟨rfl, rfl⟩))
    · rw [if_neg q]
      simp only []
      refine ⟨⟨?_, ?_, ?_, ?_⟩, ⟨?_, ?_, by_, ?_, ?_, ?_, ?_, ?_, ?_, ?_⟩, ?_, ?_, ?_⟩ <;> (try simp only []) <;> (first | rfl | trivial | omega | (intro h; first | omega | exact ⟨rfl, rfl⟩))
  · rw [jud_9]
    simp only []
    refine ⟨⟨?_, ?_, ?_, ?_⟩, ⟨?_, ?_, by_, ?_, ?_, ?_, ?_, ?_, ?_, ?_⟩, ?_, ?_, ?_⟩ <;> (try simp only []) <;> (first | rfl | trivial | omega | (intro h; first | omega | exact ⟨rfl, rfl⟩))
theorem R_sliceN {k : IntKind} {e base m : Nat} {w : World} {ok : Nat → Prop} {v : Value} {xs : List Int} (h : (Kd.int k).R e w base ok v xs) (hm : xs.length = m) : ∃ A c, v = .slice A m c ∧ m ≤ c := by
  subst hm
  obtain ⟨A, c, e, h1, _⟩ := Kd.R_reads h
  exact ⟨A, c, e, h1⟩
/-- A Feed at block g; the bytes of its field lie in a row of its own. -/
def FeedAt (W : World) (base g : Nat) (s : FS) (v : Value) : Prop :=
  W.heap[g]? = some (.cells (s.cells v) 76 (0, 0)) ∧ base ≤ g ∧ base ≤ W.heap.size ∧ Kd.R (Kd.int .u8) 5 W base (fun k => k ≠ g) v s.fd
def Own2 (g : Nat) (v : Value) (k : Nat) : Prop := k = g ∨ some k = v.ownBlock
/-- From w to W only the Feed's blocks have turned, and what is new since. -/
def Moved (w W : World) (base g : Nat) (v v' : Value) : Prop := Below base w W ∧ Kept w W (Own2 g v) ∧ (v'.ownBlock = v.ownBlock ∨ ∃ b, v'.ownBlock = some b ∧ w.heap.size ≤ b)
section
variable {w W W2 : World} {base g : Nat} {s : FS} {v v' v'' : Value}
theorem FeedAt.ne (h : FeedAt W base g s v) : some g ≠ v.ownBlock := fun e => (h.2.2.2.1 g e.symm) rfl
theorem FeedAt.lt (h : FeedAt W base g s v) : g < W.heap.size := blk_lt h.1
theorem FeedAt.drewN (h : FeedAt W base g s v) (n : Nat) : FeedAt (W.drewN n) base g s v := ⟨blk_drewN h.1 n, h.2.1, h.2.2.1, Kd.R_drewN h.2.2.2 n⟩
theorem FeedAt.drew (h : FeedAt W base g s v) : FeedAt W.drew base g s v := ⟨h.1, h.2.1, h.2.2.1, Kd.R_drew h.2.2.2⟩
theorem FeedAt.form (h : FeedAt W base g s v) : ∃ A c, v = .slice A s.fd.length c ∧ s.fd.length ≤ c ∧ (Kd.int .u8).C W A s.fd.length s.fd := Kd.R_reads h.2.2.2
theorem FeedAt.set (h : FeedAt W base g s v) (i : Nat) (u : Value) {s' : FS} (e : (s.cells v).setIfInBounds i u = s'.cells v) (hf : s'.fd = s.fd) : FeedAt (W.setCell ⟨g, i, none⟩ u) base g s' v :=
  ⟨by rw [← e]; exact blk_set h.1 i u, h.2.1, by simpa using h.2.2.1, by rw [hf]; exact Kd.R_far h.2.2.2 (p := ⟨g, i, none⟩) (fun k hk => hk) u⟩
theorem Moved.refl (w : World) (base g : Nat) (v : Value) : Moved w w base g v v := ⟨Below.refl _ _, Kept.refl _ _, .inl rfl⟩
theorem Moved.trans (h : Moved w W base g v v') (k : Moved W W2 base g v' v'') (hb : base ≤ w.heap.size) : Moved w W2 base g v v'' := by
  refine ⟨h.1.trans k.1, h.2.1.then_ k.2.1 ?_, ?_⟩
  · intro k hk
    rcases hk with hk | hk
    · exact .inl (.inl hk)
    · rcases h.2.2 with e | ⟨b, e, hb⟩
      · exact .inl (.inr (hk.trans e))
      · rw [e] at hk; injection hk with hk; rw [hk]; exact .inr hb
  · rcases k.2.2 with e | ⟨b, e, hb2⟩
    · rw [e]; exact h.2.2
    · exact .inr ⟨b, e, Nat.le_trans h.1.size hb2⟩
theorem Moved.drewN (h : Moved w W base g v v') (n : Nat) : Moved w (W.drewN n) base g v v' := ⟨pw_below_drewN h.1 n, h.2.1.drewN n, h.2.2⟩
theorem Moved.set (h : Moved w W base g v v') (hg : base ≤ g) (i : Nat) (u : Value) : Moved w (W.setCell ⟨g, i, none⟩ u) base g v v' :=
  ⟨h.1.setCell (p := ⟨g, i, none⟩) hg u, h.2.1.setCell (p := ⟨g, i, none⟩) (.inl (.inl rfl)) u, h.2.2⟩
theorem Moved.below (h : Moved w W base g v v') (hb : base ≤ W.heap.size) (k : Below W.heap.size W W2) : Moved w W2 base g v v' :=
  ⟨below_then h.1 hb k, h.2.1.below k, h.2.2⟩
theorem FeedAt.below (h : FeedAt W base g s v) (k : Below W.heap.size W W2) : FeedAt W2 base g s v := ⟨blk_below h.1 k, h.2.1, Nat.le_trans h.2.2.1 k.size, Kd.R_below h.2.2.2 k⟩
/-- What an append onto the field leaves: the Feed's block as it was, the new row, and what it is when the field's cell is stored. -/
theorem FeedAt.app {ys : List Int} {v1 : Value} {w1 : World} (h : FeedAt W base g s v) (hr : Kd.R (Kd.int .u8) 5 w1 base (fun k => k ≠ g) v1 (s.fd ++ ys)) (hg : W.grownBy w1 v.ownBlock)
    (hat : v1.ownBlock = v.ownBlock ∨ (v1.ownBlock = some W.heap.size ∧ W.grownBy w1 none)) :
    w1.heap[g]? = some (.cells (s.cells v) 76 (0, 0)) ∧ FeedAt (w1.setCell ⟨g, 0, none⟩ v1) base g { s with fd := s.fd ++ ys } v1 ∧ Moved W (w1.setCell ⟨g, 0, none⟩ v1) base g v v1 := by
  have hb : w1.heap[g]? = some (.cells (s.cells v) 76 (0, 0)) := blk_grown h.1 hg h.ne
  have hbase : base ≤ w1.heap.size := Nat.le_trans h.2.2.1 hg.size
  refine ⟨hb, ⟨?_, h.2.1, by simpa using hbase, Kd.R_far hr (p := ⟨g, 0, none⟩) (fun k hk => hk) v1⟩, ⟨?_, ?_, ?_⟩⟩
  · have := blk_set hb 0 v1
    rw [this]
    rfl
  · exact ((Below.refl base W).grown hg h.2.2.1 (fun k hk => Kd.R_base h.2.2.2 k hk)).setCell (p := ⟨g, 0, none⟩) h.2.1 v1
  · exact (Kept.of_grown hg (Kept.refl W _) (fun k hk => .inl (.inr hk.symm))).setCell (p := ⟨g, 0, none⟩) (.inl (.inl rfl)) v1
  · rcases hat with e | ⟨e, _⟩
    · exact .inl e
    · exact .inr ⟨_, e, Nat.le_refl _⟩
/-- The round's state. -/
structure PutInv (w wr : World) (base g : Nat) (s0 : FS) (l0 : List Int) (v0 : Value) (okp : Nat → Prop) (s : FS) (v : Value) (l : List Int) (A1 : Option Addr) (c1 : Nat) (v6 : Value) (cells : List (List Int)) : Prop where
  feed : FeedAt wr base g s v
  okay : s.Okay
  short : s.er = 0 → (s.fd.length : Int) < fsz s.st
  piece : Kd.F (Kd.int .u8) wr okp A1 l.length l
  cap : l.length ≤ c1
  pok : ∀ k, okp k → k ≠ g ∧ some k ≠ v0.ownBlock ∧ k < w.heap.size
  glt : g < w.heap.size
  moved : Moved w wr base g v0 v
  run1 : (s0.run l0).1 = (s.run l).1
  run2 : (s0.run l0).2 = cells ++ (s.run l).2
  rows : Kd.S (Kd.slice 5 (Kd.int .u8)) 30 wr w.heap.size (fun k => some k ≠ v.ownBlock) v6 cells
  cnt : (cells.length : Int) + s.left ≤ 65536
  emp : s.st ≤ 3 → cells = []
  bys : Bys l
  pos0 : 0 ≤ s.pos
  pos1 : s.pos + l.length ≤ 4611686018427387904
  big : l.length ≤ 140737488355328
def PutPost (w : World) (base g : Nat) (s0 : FS) (l0 : List Int) (v0 : Value) (e : Ending) (w' : World) : Prop :=
  ∃ vc v' : Value, e = .returned (.tuple #[vc, .int .i64 (s0.run l0).1.er]) ∧ FeedAt w' base g (s0.run l0).1 v' ∧ Moved w w' base g v0 v' ∧
    Kd.S (Kd.slice 5 (Kd.int .u8)) 30 w' w.heap.size (fun k => some k ≠ v'.ownBlock) vc (s0.run l0).2
end
theorem PutPost.of {w W : World} {base g : Nat} {s0 s' : FS} {l0 : List Int} {v0 v' v6 : Value} {cells : List (List Int)} (h : FeedAt W base g s' v') (m : Moved w W base g v0 v') (e1 : (s0.run l0).1 = s') (e2 : (s0.run l0).2 = cells)
    (hr : Kd.S (Kd.slice 5 (Kd.int .u8)) 30 W w.heap.size (fun k => some k ≠ v'.ownBlock) v6 cells) : PutPost w base g s0 l0 v0 (.returned (.tuple #[v6, .int .i64 s'.er])) W :=
  ⟨v6, v', by rw [e1], by rw [e1]; exact h, m, by rw [e2]; exact hr⟩
theorem PutPost.drewN {w W : World} {base g : Nat} {s0 : FS} {l0 : List Int} {v0 : Value} {e : Ending} (h : PutPost w base g s0 l0 v0 e W) (n : Nat) : PutPost w base g s0 l0 v0 e (W.drewN n) := by
  obtain ⟨vc, v', h1, h2, h3, h4⟩ := h
  exact ⟨vc, v', h1, h2.drewN n, h3.drewN n, Kd.S_drewN h4 n⟩
theorem PutInv.err {w wr : World} {base g : Nat} {s0 : FS} {l0 : List Int} {v0 : Value} {okp : Nat → Prop} {s : FS} {v : Value} {l : List Int} {A1 : Option Addr} {c1 : Nat} {v6 : Value} {cells : List (List Int)}
    (I : PutInv w wr base g s0 l0 v0 okp s v l A1 c1 v6 cells) (he : s.er ≠ 0) (n : Nat) : PutPost w base g s0 l0 v0 (.returned (.tuple #[v6, .int .i64 s.er])) (wr.drewN n) := by
  have hrun := FS.run_err l s he
  refine PutPost.of (I.feed.drewN n) (I.moved.drewN n) ?_ ?_ (Kd.S_drewN I.rows n)
  · rw [I.run1, hrun]
  · rw [I.run2, hrun]; simp

section
variable {w wr W W1 w1 : World} {base g B : Nat} {s0 s : FS} {l0 l : List Int} {v0 v v1 v6 : Value} {okp ok : Nat → Prop} {A1 : Option Addr} {c1 : Nat} {cells : List (List Int)}
theorem rows_app (h : Kd.S (Kd.slice 5 (Kd.int .u8)) 30 W B (fun k => some k ≠ v.ownBlock) v6 cells) (hg : W.grownBy w1 v.ownBlock) (hat : v1.ownBlock = v.ownBlock ∨ (v1.ownBlock = some W.heap.size ∧ W.grownBy w1 none)) :
    Kd.S (Kd.slice 5 (Kd.int .u8)) 30 w1 B (fun k => some k ≠ v1.ownBlock) v6 cells :=
  Kd.S_mono (Kd.S_after (ok := fun _ => True) (Kd.S_mono h (fun k hk => ⟨trivial, hk⟩)) hg (hat.imp id (fun h => ⟨_, h.1, Nat.le_refl _⟩))) (fun k hk => hk.2)
theorem rows_set (h : Kd.S (Kd.slice 5 (Kd.int .u8)) 30 W B ok v6 cells) (hg : g < B) (i : Nat) (u : Value) :
    Kd.S (Kd.slice 5 (Kd.int .u8)) 30 (W.setCell ⟨g, i, none⟩ u) B ok v6 cells :=
  Kd.S_mono (Kd.S_far (p := ⟨g, i, none⟩) (Kd.S_bound h) (fun k hk => by have := hk.2.1; show k ≠ g; omega) u) (fun k hk => hk.1)
theorem rows_fed (h : Kd.S (Kd.slice 5 (Kd.int .u8)) 30 W B ok v6 cells) (hg : g < B) (hk : KeepBut W W1 g none) :
    Kd.S (Kd.slice 5 (Kd.int .u8)) 30 W1 B ok v6 cells :=
  Kd.S_mono (Kd.S_keep (Kd.S_bound h) hk (fun k hk => by have := hk.2.1; omega)) (fun k hk => hk.1)
theorem Moved.sep (h : Moved w wr base g v0 v) {k : Nat} (h1 : some k ≠ v0.ownBlock) (h2 : k < w.heap.size) : some k ≠ v.ownBlock := by
  rcases h.2.2 with e | ⟨b, e, hb⟩
  · rw [e]; exact h1
  · rw [e]; intro x; injection x with x; omega
theorem PutInv.drewN (I : PutInv w wr base g s0 l0 v0 okp s v l A1 c1 v6 cells) (n : Nat) : PutInv w (wr.drewN n) base g s0 l0 v0 okp s v l A1 c1 v6 cells :=
  { I with feed := I.feed.drewN n, piece := Kd.F_drewN I.piece n, moved := I.moved.drewN n, rows := Kd.S_drewN I.rows n }
theorem PutInv.drew (I : PutInv w wr base g s0 l0 v0 okp s v l A1 c1 v6 cells) : PutInv w wr.drew base g s0 l0 v0 okp s v l A1 c1 v6 cells :=
  { I with feed := I.feed.drew, piece := Kd.F_drew I.piece, moved := ⟨below_drew I.moved.1, I.moved.2.1.drew, I.moved.2.2⟩, rows := Kd.S_drew I.rows }
theorem PutInv.take_ (I : PutInv w wr base g s0 l0 v0 okp s v l A1 c1 v6 cells) {n : Nat} (h : n ≤ l.length) : (Kd.int .u8).C wr A1 n (l.take n) := by
  have hc := Kd.F_now (Kd.F_take (m := n) I.piece h)
  rwa [List.length_take, Nat.min_eq_left h] at hc
/-- A field is whole, and not judged yet. -/
structure PutMid (w W : World) (base g : Nat) (s0 : FS) (l0 : List Int) (v0 : Value) (okp : Nat → Prop) (s : FS) (v : Value) (l : List Int) (A1 : Option Addr) (c1 : Nat) (v6 : Value) (cells new : List (List Int)) : Prop where
  feed : FeedAt W base g s v
  okay : s.Okay
  er0 : s.er = 0
  full : (s.fd.length : Int) = fsz s.st
  piece : Kd.F (Kd.int .u8) W okp A1 l.length l
  cap : l.length ≤ c1
  pok : ∀ k, okp k → k ≠ g ∧ some k ≠ v0.ownBlock ∧ k < w.heap.size
  glt : g < w.heap.size
  moved : Moved w W base g v0 v
  run1 : (s0.run l0).1 = (s.fin.run l).1
  run2 : (s0.run l0).2 = cells ++ (new ++ (s.fin.run l).2)
  rows : Kd.S (Kd.slice 5 (Kd.int .u8)) 30 W w.heap.size (fun k => some k ≠ v.ownBlock) v6 cells
  cnt : (cells.length : Int) + new.length + s.left - (if s.st = 7 then 1 else 0) ≤ 65536
  emp : s.st ≤ 3 → cells = [] ∧ new = []
  bys : Bys l
  pos0 : 0 ≤ s.pos
  pos1 : s.pos + l.length ≤ 4611686018427387904
  big : l.length ≤ 140737488355328
theorem PutMid.drewN {new : List (List Int)} (I : PutMid w wr base g s0 l0 v0 okp s v l A1 c1 v6 cells new) (n : Nat) : PutMid w (wr.drewN n) base g s0 l0 v0 okp s v l A1 c1 v6 cells new :=
  { I with feed := I.feed.drewN n, piece := Kd.F_drewN I.piece n, moved := I.moved.drewN n, rows := Kd.S_drewN I.rows n }
theorem Bys.take {l : List Int} (h : Bys l) (n : Nat) : Bys (l.take n) := fun x hx => h x (List.mem_of_mem_take hx)
theorem Bys.drop {l : List Int} (h : Bys l) (n : Nat) : Bys (l.drop n) := fun x hx => h x (List.mem_of_mem_drop hx)
/-- The piece's rest is read as before behind an append onto the field. -/
theorem piece_app (hp : Kd.F (Kd.int .u8) wr okp A1 l.length l) (pok : ∀ k, okp k → k ≠ g ∧ some k ≠ v.ownBlock) (hg : wr.grownBy w1 v.ownBlock) (u : Value) :
    Kd.F (Kd.int .u8) (w1.setCell ⟨g, 0, none⟩ u) okp A1 l.length l :=
  Kd.F_far (p := ⟨g, 0, none⟩) (Kd.F_grown hp hg (fun k hk => (pok k hk).2)) (fun k hk => (pok k hk).1) u
theorem PutInv.mid (I : PutInv w wr base g s0 l0 v0 okp s v l A1 c1 v6 cells) (he : s.er = 0) (n : Nat) (hn : fsz s.st = s.fd.length + n) (h1 : 1 ≤ n) (hle : n ≤ l.length)
    (hr : Kd.R (Kd.int .u8) 5 w1 base (fun k => k ≠ g) v1 (s.fd ++ l.take n)) (hg : wr.grownBy w1 v.ownBlock) (hat : v1.ownBlock = v.ownBlock ∨ (v1.ownBlock = some wr.heap.size ∧ wr.grownBy w1 none)) :
    PutMid w ((w1.setCell ⟨g, 0, none⟩ v1).setCell ⟨g, 1, none⟩ (.int .i64 (s.pos + n))) base g s0 l0 v0 okp (s.fill (l.take n)) v1 (l.drop n) (if c1 = n then A1 else A1.map (·.add (n * 1))) (c1 - n) v6 cells (if s.st = 7 then [s.fd ++ l.take n] else []) := by
  obtain ⟨_, hf, hm⟩ := I.feed.app hr hg hat
  have hsep : ∀ k, okp k → k ≠ g ∧ some k ≠ v.ownBlock := fun k hk => ⟨(I.pok k hk).1, I.moved.sep (I.pok k hk).2.1 (I.pok k hk).2.2⟩
  have htl : (l.take n).length = n := by simp; omega
  have hmv := I.moved.trans hm (Nat.le_trans hf.2.1 (Nat.le_of_lt I.glt))
  have hp := Kd.F_cut (m := n) (c := c1) (piece_app I.piece hsep hg v1) hle I.cap
  have hrun := FS.run_append (l.take n) (l.drop n) s
  rw [List.take_append_drop, FS.run_whole (l.take n) s he (by rw [htl]; omega) (by intro h; rw [h] at htl; simp at htl; omega)] at hrun
  have hdl : (l.drop n).length = l.length - n := List.length_drop
  have hb := I.big
  refine { feed := hf.set 1 _ ?_ rfl, okay := ?_, er0 := he, full := ?_, piece := ?_, cap := ?_, pok := I.pok, glt := I.glt, moved := hmv.set hf.2.1 1 _, run1 := ?_, run2 := ?_, rows := rows_set (rows_set (rows_app I.rows hg hat) I.glt 0 _) I.glt 1 _, cnt := ?_, emp := ?_, bys := I.bys.drop n, pos0 := ?_, pos1 := ?_, big := ?_ }
  · simp [FS.cells, FS.fill, htl]
  · exact { I.okay with by_ := I.okay.by_.append (I.bys.take n) }
  · simp only [FS.fill_fd, FS.fill_st, List.length_append, htl]; omega
  · exact Kd.F_far (p := ⟨g, 1, none⟩) hp (fun k hk => (hsep k hk).1) _
  · have := I.cap; omega
  · rw [I.run1, hrun]
  · rw [I.run2, hrun]
  · have := I.cnt
    simp only [FS.fill_st]
    by_cases h7 : s.st = 7
    · simp only [h7, if_true, List.length_cons, List.length_nil]
      show (cells.length : Int) + ((0 + 1 : Nat) : Int) + s.left - 1 ≤ 65536
      omega
    · simp only [h7, if_false, List.length_nil]
      show (cells.length : Int) + ((0 : Nat) : Int) + s.left - 0 ≤ 65536
      omega
  · intro h
    have h : s.st ≤ 3 := h
    exact ⟨I.emp h, by rw [if_neg (by omega)]⟩
  · have := I.pos0; show 0 ≤ s.pos + ((l.take n).length : Int); omega
  · have := I.pos1; show s.pos + ((l.take n).length : Int) + ((l.drop n).length : Int) ≤ _; rw [htl, hdl]; omega
  · omega
theorem PutInv.fin_short (I : PutInv w wr base g s0 l0 v0 okp s v l A1 c1 v6 cells) (he : s.er = 0) (hs : (s.fd.length : Int) + l.length < fsz s.st)
    (hr : Kd.R (Kd.int .u8) 5 w1 base (fun k => k ≠ g) v1 (s.fd ++ l)) (hg : wr.grownBy w1 v.ownBlock) (hat : v1.ownBlock = v.ownBlock ∨ (v1.ownBlock = some wr.heap.size ∧ wr.grownBy w1 none)) (q : Nat) :
    PutPost w base g s0 l0 v0 (.returned (.tuple #[v6, .int .i64 0])) (((w1.setCell ⟨g, 0, none⟩ v1).setCell ⟨g, 1, none⟩ (.int .i64 (s.pos + l.length))).drewN q) := by
  obtain ⟨_, hf, hm⟩ := I.feed.app hr hg hat
  have hmv := I.moved.trans hm (Nat.le_trans hf.2.1 (Nat.le_of_lt I.glt))
  have hrun := FS.run_short l s he hs
  rw [show (0 : Int) = (s.fill l).er from he.symm]
  refine PutPost.of (FeedAt.drewN (hf.set 1 (.int .i64 (s.pos + l.length)) (s' := s.fill l) ?_ rfl) q) ((hmv.set hf.2.1 1 _).drewN q) ?_ ?_ (Kd.S_drewN (rows_set (rows_set (rows_app I.rows hg hat) I.glt 0 _) I.glt 1 _) q)
  · simp [FS.cells, FS.fill]
  · rw [I.run1, hrun]
  · rw [I.run2, hrun]; simp
theorem judge_at (A : Option Addr) (c m : Nat) (hm : s.fd.length = m) (h : FeedAt W base g s (.slice A m c)) (ho : s.Okay) (hf : (s.fd.length : Int) = fsz s.st) :
    Calls Try.prog 37 #[.pointer (some ⟨g, 0, none⟩)] W fun e w' => e = .returned (.int .i64 s.jud.2) ∧ FeedAt w' base g s.jud.1 (.slice A m c) ∧ Fed base g W w' := by
  subst hm
  refine (judge_calls g base A c s W base h.2.1 h.1 h.2.2.2 ho hf).mono ?_
  rintro e w' ⟨h1, h2, h3⟩
  have hk := (FS.jud_okay s ho hf).1
  exact ⟨h1, ⟨h2, h.2.1, Nat.le_trans h.2.2.1 h3.1.size, by rw [hk.1]; exact Kd.R_keep h.2.2.2 h3.2 (fun k hk => hk)⟩, h3⟩
theorem Moved.fed (h : Moved w W base g v0 v) (k : Fed base g W W1) : Moved w W1 base g v0 v := ⟨h.1.trans k.1, h.2.1.of_keep k.2 (.inl (.inl rfl)), h.2.2⟩
theorem Own2.blk {A : Option Addr} {m c c' m' : Nat} : (Value.slice A m c).ownBlock = (Value.slice A m' c').ownBlock := by cases A <;> rfl
theorem PutMid.next {w4 : World} {A : Option Addr} {m c : Nat} (M : PutMid w W base g s0 l0 v0 okp s (.slice A m c) l A1 c1 v6 cells []) (he : s.jud.2 = 0) (hJ : FeedAt w4 base g s.jud.1 (.slice A m c)) (hF : Fed base g W w4) :
    PutInv w ((w4.setCell ⟨g, 9, none⟩ (.int .i64 0)).setCell ⟨g, 0, none⟩ (.slice A 0 c)) base g s0 l0 v0 okp s.fin (.slice A 0 c) l A1 c1 v6 cells := by
  obtain ⟨⟨k1, k2, k3, k4⟩, ko, k7, k8, k9⟩ := FS.jud_okay s M.okay M.full
  have hfin : s.fin = { s.jud.1 with er := 0, fd := [] } := by unfold FS.fin; rw [if_pos he]
  have hmm : s.jud.1.fd.length = m := by
    obtain ⟨A', c', e, _⟩ := Kd.R_slice hJ.2.2.2
    rfl
  have h1 : FeedAt (w4.setCell ⟨g, 9, none⟩ (.int .i64 0)) base g { s.jud.1 with er := 0 } (.slice A m c) := hJ.set 9 _ (by simp [FS.cells]) rfl
  have hR : Kd.R (Kd.int .u8) 5 (w4.setCell ⟨g, 9, none⟩ (.int .i64 0)) base (fun k => k ≠ g) (.slice A 0 c) [] := by
    have := Kd.R_take (m := 0) h1.2.2.2 (Nat.zero_le _)
    rwa [List.take_zero] at this
  have h2 : FeedAt ((w4.setCell ⟨g, 9, none⟩ (.int .i64 0)).setCell ⟨g, 0, none⟩ (.slice A 0 c)) base g s.fin (.slice A 0 c) := by
    refine ⟨?_, h1.2.1, by simpa using h1.2.2.1, ?_⟩
    · have := blk_set h1.1 0 (.slice A 0 c)
      rw [this, hfin]
      rfl
    · rw [hfin]; exact Kd.R_far hR (p := ⟨g, 0, none⟩) (fun k hk => hk) _
  have hm4 := M.moved.fed hF
  have hb : (Value.slice A 0 c).ownBlock = (Value.slice A m c).ownBlock := Own2.blk
  have hrows : Kd.S (Kd.slice 5 (Kd.int .u8)) 30 ((w4.setCell ⟨g, 9, none⟩ (.int .i64 0)).setCell ⟨g, 0, none⟩ (.slice A 0 c)) w.heap.size (fun k => some k ≠ (Value.slice A 0 c).ownBlock) v6 cells := by
    rw [hb]
    exact rows_set (rows_set (rows_fed M.rows M.glt hF.2) M.glt 9 _) M.glt 0 _
  refine { feed := h2, okay := ?_, short := ?_, piece := ?_, cap := M.cap, pok := M.pok, glt := M.glt, moved := ?_, run1 := M.run1, run2 := by rw [M.run2]; simp, rows := hrows, cnt := ?_, emp := ?_, bys := M.bys, pos0 := ?_, pos1 := ?_, big := M.big }
  · rw [hfin]
    exact { ko with by_ := fun x hx => by simp at hx }
  · intro _
    rw [hfin]
    have := fsz_pos s.jud.1.st
    show (([] : List Int).length : Int) < fsz s.jud.1.st
    simp; omega
  · refine Kd.F_far (p := ⟨g, 0, none⟩) (Kd.F_far (p := ⟨g, 9, none⟩) (Kd.F_keep M.piece hF.2 (fun k hk => (M.pok k hk).1)) (fun k hk => (M.pok k hk).1) _) (fun k hk => (M.pok k hk).1) _
  · have hm := (hm4.set h1.2.1 9 (.int .i64 0)).set h1.2.1 0 (.slice A 0 c)
    exact ⟨hm.1, hm.2.1, by rw [hb]; exact hm.2.2⟩
  · have := M.cnt
    rw [hfin]
    show (cells.length : Int) + s.jud.1.left ≤ 65536
    by_cases h7 : s.st = 7
    · rw [if_pos h7] at this; rw [(k7 h7).1]; simp only [List.length_nil] at this; omega
    · rw [if_neg h7] at this
      rcases k8 h7 with h3 | h3
      · rw [(M.emp h3).1]; have := ko.l1; simp; omega
      · rw [h3]; simp only [List.length_nil] at this; omega
  · rw [hfin]
    intro h
    exact (M.emp (k9 h)).1
  · rw [hfin]; show 0 ≤ s.jud.1.pos; rw [k2]; exact M.pos0
  · rw [hfin]; show s.jud.1.pos + _ ≤ _; rw [k2]; exact M.pos1
theorem PutMid.fault {w4 : World} {A : Option Addr} {m c : Nat} (M : PutMid w W base g s0 l0 v0 okp s (.slice A m c) l A1 c1 v6 cells []) (hm : s.fd.length = m) (he : s.jud.2 ≠ 0) (hJ : FeedAt w4 base g s.jud.1 (.slice A m c)) (hF : Fed base g W w4) (q : Nat) :
    PutPost w base g s0 l0 v0 (.returned (.tuple #[v6, .int .i64 s.jud.2])) (((w4.setCell ⟨g, 9, none⟩ (.int .i64 s.jud.2)).setCell ⟨g, 10, none⟩ (.int .i64 (s.jud.1.pos - m))).drewN q) := by
  obtain ⟨⟨k1, k2, k3, k4⟩, ko, k7, k8, k9⟩ := FS.jud_okay s M.okay M.full
  have hfin : s.fin = { s.jud.1 with er := s.jud.2, pl := s.jud.1.pos - s.jud.1.fd.length } := by unfold FS.fin; rw [if_neg he]
  have hrun := FS.run_err l s.fin (by rw [hfin]; exact he)
  have h1 : FeedAt (w4.setCell ⟨g, 9, none⟩ (.int .i64 s.jud.2)) base g { s.jud.1 with er := s.jud.2 } (.slice A m c) := hJ.set 9 _ (by simp [FS.cells]) rfl
  have h2 : FeedAt ((w4.setCell ⟨g, 9, none⟩ (.int .i64 s.jud.2)).setCell ⟨g, 10, none⟩ (.int .i64 (s.jud.1.pos - m))) base g s.fin (.slice A m c) := by
    rw [hfin]
    exact h1.set 10 _ (by simp [FS.cells, k1, hm]) rfl
  have hmv := ((M.moved.fed hF).set h1.2.1 9 (.int .i64 s.jud.2)).set h1.2.1 10 (.int .i64 (s.jud.1.pos - m))
  have e : s.jud.2 = s.fin.er := by rw [hfin]
  have := PutPost.of (s0 := s0) (l0 := l0) (cells := cells) (v6 := v6) (h2.drewN q) (hmv.drewN q) (by rw [M.run1, hrun]) (by rw [M.run2, hrun]; simp) (Kd.S_drewN (rows_set (rows_set (rows_fed M.rows M.glt hF.2) M.glt 9 _) M.glt 10 _) q)
  rw [← e] at this
  exact this
theorem PutMid.clone_pre {w3 : World} {u : Value} {new : List (List Int)} (M : PutMid w W base g s0 l0 v0 okp s v l A1 c1 v6 cells new) (hu : Kd.R (Kd.int .u8) 5 w3 W.heap.size (fun _ => True) u s.fd) (hb : Below W.heap.size W w3) :
    (Kd.slice 5 (Kd.int .u8)).M w3 w.heap.size (fun k => some k = u.ownBlock) s.fd [u] ∧ (∀ k, some k = u.ownBlock → some k ≠ v.ownBlock ∧ some k ≠ v6.ownBlock) ∧ (∀ k, w3.heap.size ≤ k → some k ≠ v.ownBlock) ∧
      Kd.S (Kd.slice 5 (Kd.int .u8)) 30 w3 w.heap.size (fun k => some k ≠ v.ownBlock ∧ ¬ some k = u.ownBlock) v6 cells ∧ w.heap.size ≤ w3.heap.size := by
  have hws : w.heap.size ≤ W.heap.size := M.moved.1.size
  have hv : ∀ k, v.ownBlock = some k → k < W.heap.size := Kd.R_lt M.feed.2.2.2
  have hv6 : ∀ k, v6.ownBlock = some k → k < W.heap.size := Kd.S_lt M.rows
  have hub : ∀ k, u.ownBlock = some k → W.heap.size ≤ k := Kd.R_base hu
  refine ⟨Kd.M_row (Kd.R_mono (Kd.R_tight rfl (Kd.R_lower hu hws)) (fun _ h => h)), fun k hk => ?_, fun k hk e => ?_, ?_, Nat.le_trans hws hb.size⟩
  · have := hub k hk.symm
    exact ⟨fun e => by have := hv k e.symm; omega, fun e => by have := hv6 k e.symm; omega⟩
  · have := hv k e.symm
    have := hb.size
    omega
  · refine Kd.S_below (Kd.S_mono (Kd.S_bound M.rows) (fun k hk => ⟨hk.1, fun e => ?_⟩)) hb
    have := hub k e.symm
    omega
theorem PutMid.clone {w3 w5 : World} {v7 : Value} (M : PutMid w W base g s0 l0 v0 okp s v l A1 c1 v6 cells [s.fd]) (h7 : s.st = 7) (hb : Below W.heap.size W w3)
    (hS : Kd.S (Kd.slice 5 (Kd.int .u8)) 30 w5 w.heap.size (fun k => some k ≠ v.ownBlock) v7 (cells ++ [s.fd])) (hg : w3.grownBy w5 v6.ownBlock) :
    PutMid w w5 base g s0 l0 v0 okp s v l A1 c1 v7 (cells ++ [s.fd]) [] := by
  have hbase := M.feed.2.1
  have hv6 : ∀ k, v6.ownBlock = some k → w.heap.size ≤ k ∧ some k ≠ v.ownBlock := fun k hk => ⟨Kd.S_base M.rows k hk, (Kd.S_R M.rows).1 k hk⟩
  have hgv : some g ≠ v6.ownBlock := fun e => by have := (hv6 g e.symm).1; have := M.glt; omega
  have hf3 := M.feed.below hb
  have hf5 : FeedAt w5 base g s v := ⟨blk_grown hf3.1 hg hgv, hbase, Nat.le_trans hf3.2.2.1 hg.size, Kd.R_mono (Kd.R_grown (ok := fun k => k ≠ g ∧ some k = v.ownBlock) (Kd.R_mono (Kd.R_tight rfl hf3.2.2.2) (fun k hk => ⟨fun e => hf3.ne (e ▸ hk), hk⟩)) hg (fun k hk e => (hv6 k e.symm).2 hk.2)) (fun k hk => hk.1)⟩
  have hp3 := Kd.F_below M.piece hb
  refine { M with feed := hf5, piece := Kd.F_grown hp3 hg (fun k hk e => ?_), moved := ?_, run2 := ?_, rows := hS, cnt := ?_, emp := fun h => by omega }
  · have := (hv6 k e.symm).1
    have := (M.pok k hk).2.2
    omega
  · have h3 := M.moved.below M.feed.2.2.1 hb
    · exact ⟨h3.1.grown hg hf3.2.2.1 (fun k hk => by have := (hv6 k hk).1; have := M.glt; omega), Kept.of_grown hg h3.2.1 (fun k hk => .inr (hv6 k hk).1), h3.2.2⟩
  · rw [M.run2]; simp
  · have := M.cnt
    rw [if_pos h7] at this ⊢
    simp only [List.length_append, List.length_cons, List.length_nil] at this ⊢
    omega
end
attribute [local go_sem] set_set
set_option maxHeartbeats 1000000 in
set_option maxRecDepth 100000 in
theorem put_calls (s0 : FS) (g base : Nat) (v0 : Value) (l0 : List Int) (A0 : Option Addr) (c0 : Nat) (okp : Nat → Prop) (w : World) (hf : FeedAt w base g s0 v0) (ho : s0.Okay) (hsh : s0.er = 0 → (s0.fd.length : Int) < fsz s0.st)
    (hp : Kd.F (Kd.int .u8) w okp A0 l0.length l0) (hc : l0.length ≤ c0) (hok : ∀ k, okp k → k ≠ g ∧ some k ≠ v0.ownBlock ∧ k < w.heap.size) (hb : Bys l0) (hp0 : 0 ≤ s0.pos) (hp1 : s0.pos + l0.length ≤ 4611686018427387904) (hbig : l0.length ≤ 140737488355328) :
    Calls Try.prog 22 #[.pointer (some ⟨g, 0, none⟩), .slice A0 l0.length c0] w fun e w' => PutPost w base g s0 l0 v0 e w' := by
  have hu76 := Try.underlying76
  have hu30 := Try.underlying30
  have hnil := fun W : World => run_eql_pointer_nil (P := Try.prog) W 46 (some ⟨g, 0, none⟩) (by kernel_rfl)
  simp only [Option.isNone] at hnil
  have hu33 := Try.underlying33
  have hu24 := Try.underlying24
  have I0 : Aside0 (PutInv w w base g s0 l0 v0 okp s0 v0 l0 A0 c0 (.slice none 0 0) []) := ⟨{ feed := hf, okay := ho, short := hsh, piece := hp, cap := hc, pok := hok, glt := hf.lt, moved := Moved.refl _ _ _ _, run1 := rfl, run2 := rfl, rows := Kd.S_nil _ _ _ _ _, cnt := by have := ho.l1; simp; omega, emp := fun _ => rfl, bys := hb, pos0 := hp0, pos1 := hp1, big := hbig }⟩
  clear hf ho hsh hp hc hok hb hp0 hp1 hbig
  go_enter Try.func22, Try.ntmps22
  go_wp2_with (fail)
  go_step3
  go_wp2_with (fail)
  go_step3
  go_wp2_with (fail)
  go_loopg [1, 6] l0.length (fun gg v1 v6 wr => ∃ (s : FS) (v : Value) (l : List Int) (A1 : Option Addr) (c1 : Nat) (cells : List (List Int)), v1 = .slice A1 l.length c1 ∧ Aside0 (PutInv w wr base g s0 l0 v0 okp s v l A1 c1 v6 cells) ∧ Aside0 (l.length ≤ gg))
  case atStart => exact ⟨s0, v0, l0, A0, c0, [], rfl, I0, ⟨Nat.le_refl _⟩⟩
  case round =>
    obtain ⟨s, v, l, A1, c1, cells, rfl, I, G⟩ := hrel
    clear I0
    obtain ⟨A, c, rfl, hfc, hC⟩ := I.out.feed.form
    have HC := Aside0.mk hC
    have HFC := Aside0.mk hfc
    have B0 := Aside0.mk I.out.feed.1
    obtain ⟨fd, pos, st, left, R, E, L, a, b, er, pl⟩ := s
    simp only [FS.cells] at B0
    have Z := feed_cells B0.out
    obtain ⟨⟨z0, z1, z2, z3, z4, z5, z6, z7, z8, z9, z10⟩, f0, f1, f2, f3, f4, f5, f6, f7, f8, f9, f10⟩ := Z
    clear hfc hC
    by_cases her : er = 0
    · subst her
      obtain ⟨z, hz⟩ : ∃ z : Nat, fsz st = z := ⟨(fsz st).toNat, by have := fsz_pos st; omega⟩
      have hzl : fd.length < z := by have := I.out.short rfl; simp only [] at this; omega
      have hz320 : z ≤ 320 := by have := fsz_pos st; omega
      have hsz := fun q : Nat => size_calls g (.slice A fd.length c) (.int .i64 pos) (.int .i64 left) (.int .i64 R) (.int .i64 E) (.int .i64 L) (.int .u32 a) (.int .u32 b) (.int .i64 0) (.int .i64 pl) st (wr.drewN q) I.out.okay.st0 I.out.okay.st9 (blk_drewN B0.out q)
      rw [hz] at hsz
      obtain ⟨n, hn⟩ : ∃ n : Nat, z = fd.length + n := ⟨z - fd.length, by omega⟩
      have hsub : IntKind.i64.wrap ((z : Int) - (fd.length : Int)) = (n : Int) := (i64_w _).trans (by rw [w64 (by omega) (by omega)]; omega)
      have HZ := Aside0.mk hz
      have HN := Aside0.mk hn
      have HSZ := Aside0.mk hsz
      have HZL := Aside0.mk hzl
      have n0 : (0 : Int) ≤ (n : Int) := by omega
      have n1 : (n : Int) ≤ 320 := by omega
      have HZ320 := Aside0.mk hz320
      clear hz hn hzl hsz hz320
      go_wp2_with (fail)
      go_quiet ((go_at_call 35; exact Calls.quiet_of_same (HSZ.out _)))
      have p0 := I.out.pos0
      have p1 := I.out.pos1
      have lb := I.out.big
      simp only [] at p0 p1
      have hi5 := info5
      by_cases hlt : l.length < n
      · have t1 : decide ((n : Int) > (l.length : Int)) = true := decide_eq_true (by omega)
        have t2 : decide ((l.length : Int) < (n : Int)) = true := decide_eq_true (by omega)
        have t3 : decide (l.length < n) = true := decide_eq_true hlt
        have HLT := Aside0.mk hlt
        clear hlt
        have hsum : IntKind.i64.wrap (pos + (l.length : Int)) = pos + (l.length : Int) := (i64_w _).trans (w64 (by omega) (by omega))
        go_wp2_with ((with_reducible refine gate_builtin (b := .append) (xs := #[.tmp 31, .tmp 32]) rfl ?_); at_builtin; go_loud (refine Kd.R_app_int base rfl (.tmp 31) (.tmp 32) 30 5 1 rfl Try.underlying30 info5 (by omega) (.slice (A) fd.length c) fd l A1 l.length c1 (fun k => k ≠ g) rfl rfl ?fresh ?HO ?HR ?base ?hl ?_; (case fresh => have := I.out.feed.lt; simp only [World.drewN]; omega); (case HO => exact (I.out.drewN _).feed.2.2.2); (case HR => exact Kd.F_now (I.out.drewN _).piece); (case base => exact (I.out.drewN _).feed.2.2.1); (case hl => have := HLT.out; have := HZL.out; have := HZ320.out; omega); intro v1 w1 hr1 hg1 hat1; obtain ⟨Ax, cx, rfl, hlx, -⟩ := Kd.R_reads hr1; simp only [List.length_append] at hr1 hg1 hat1 hlx; have HLX := Aside0.mk hlx; clear hlx; have M := (I.out.drewN _).feed.app hr1 hg1 hat1; have HR1 := Aside0.mk hr1; have HG1 := Aside0.mk hg1; have HAT1 := Aside0.mk hat1; clear hr1 hg1 hat1; have M1 := M.1; simp only [FS.cells] at M1; clear M z0 z1 z2 z3 z4 z5 z6 z7 z8 z9 z10 f0 f1 f2 f3 f4 f5 f6 f7 f8 f9 f10; have Z := feed_cells M1; obtain ⟨⟨z0, z1, z2, z3, z4, z5, z6, z7, z8, z9, z10⟩, f0, f1, f2, f3, f4, f5, f6, f7, f8, f9, f10⟩ := Z; clear M1))
        go_quiet (fail)
        go_wp2_with (fail)
        go_ret2
        exact (I.out.drewN _).fin_short rfl (by have := HLT.out; have := HN.out; have := HZ.out; simp only []; omega) HR1.out HG1.out HAT1.out _
      · have t1 : decide ((n : Int) > (l.length : Int)) = false := decide_eq_false (by omega)
        have t2 : decide ((l.length : Int) < (n : Int)) = false := decide_eq_false (by omega)
        have t3 : decide (l.length < n) = false := decide_eq_false hlt
        have hnl : (n : Int) ≤ (l.length : Int) := by omega
        have HLT := Aside0.mk hlt
        clear hlt
        obtain ⟨i5, hi05, -, hsz5, -⟩ := info_parts info5
        have hcut := cut_to (P := Try.prog) 30 5 .i64 Try.underlying30 hi05 A1 l.length c1 (n : Int) n0 hnl I.out.cap
        have hcut2 := cut_from (P := Try.prog) 30 5 .i64 Try.underlying30 hi05 1 hsz5 A1 l.length c1 (n : Int) n0 hnl
        simp only [Int.toNat_natCast] at hcut hcut2
        have htl : (l.take n).length = n := by simp; omega
        have hgl := I.out.feed.lt
        have hgn := I.out.feed.ne
        go_wp2_with (fail)
        go_region_law
          (first | (refine Kd.step_app_int base rfl (.tmp 49) (.tmp 52) 30 5 1 rfl Try.underlying30 info5 (by omega) (.slice A fd.length c) fd (l.take n) A1 n c1 (fun k => k ≠ g) rfl rfl ?fresh ?HO ?HR ?base ?hl ?_; (case fresh => simp only [World.drewN, World.drew]; omega); (case HO => exact (I.out.drewN _).drew.feed.2.2.2); (case HR => exact (I.out.drewN _).drew.take_ (by omega)); (case base => exact (I.out.drewN _).drew.feed.2.2.1); (case hl => have := HZL.out; have := HZ320.out; omega); intro v1 w1 hr1 hg1 hat1; obtain ⟨Ax, cx, rfl, hlx⟩ := R_sliceN (m := z) hr1 (by rw [List.length_append, htl, HN.out]); (have M := (I.out.drewN _).drew.feed.app hr1 hg1 hat1); (have M1 := M.1); (simp only [FS.cells] at M1); (have Z := feed_cells M1)))
        have MID := (I.out.drewN nq).drew.mid rfl n (by have := HN.out; have := HZ.out; simp only []; omega) (by have := HZL.out; have := HN.out; omega) (by omega) hr1 hg1 hat1
        obtain ⟨S', hS'⟩ : ∃ S', S' = (FS.mk fd pos st left R E L a b 0 pl).fill (l.take n) := ⟨_, rfl⟩
        obtain ⟨A2, hA2⟩ : ∃ A2, A2 = (if c1 = n then A1 else A1.map (·.add (n * 1))) := ⟨_, rfl⟩
        simp only [] at MID
        rw [← hS', ← hA2] at MID
        rw [← hA2] at hcut2
        have hfl : S'.fd.length = z := by rw [hS', HN.out]; simp only [FS.fill_fd, List.length_append, htl]
        have hst : S'.st = st := by rw [hS']; rfl
        have hps : S'.pos = pos + n := by rw [hS']; simp only [FS.fill, htl]
        have hfd : fd ++ l.take n = S'.fd := by rw [hS']; rfl
        rw [hfd] at MID
        have hdl : (l.drop n).length = l.length - n := List.length_drop
        have HM := Aside0.mk MID
        have HLX := Aside0.mk hlx
        have HFL := Aside0.mk hfl
        have HST := Aside0.mk hst
        have HPS := Aside0.mk hps
        have HDL := Aside0.mk hdl
        clear MID M M1 hr1 hg1 hat1 hlx hgl hgn htl hcut hS' hA2 hfl hst hps hfd hdl z0 z1 z2 z3 z4 z5 z6 z7 z8 z9 z10 f0 f1 f2 f3 f4 f5 f6 f7 f8 f9 f10
        obtain ⟨⟨z0, z1, z2, z3, z4, z5, z6, z7, z8, z9, z10⟩, f0, f1, f2, f3, f4, f5, f6, f7, f8, f9, f10⟩ := Z
        by_cases h7 : st = 7
        · subst h7
          have HMn := Aside0.mk (show PutMid w ((w1.setCell ⟨g, 0, none⟩ (.slice Ax z cx)).setCell ⟨g, 1, none⟩ (.int .i64 (pos + (n : Int)))) base g s0 l0 v0 okp S' (.slice Ax z cx) (l.drop n) A2 (c1 - n) u6 cells [S'.fd] from by have := HM.out; rwa [if_pos rfl] at this)
          clear HM
          have HM := HMn
          clear HMn
          go_wp2_with (first | (go_at_call 36; (have hcl := slices_Clone_byte_byte.calls Ax cx S'.fd S'.fd _ (Kd.R_reads' (by have := HM.out.feed.2.2.2; rw [← HFL.out] at this; exact this)).2.2 (by rw [HFL.out]; exact HLX.out) (by unfold slices_Clone_byte_byte.f; rw [if_pos (by rw [HFL.out]; have := HZ320.out; omega)])); rw [HFL.out] at hcl; refine hcl.mono ?_; clear hcl; rintro e w3 ⟨u, rfl, hu, hb3⟩; have PRE := Aside0.mk (HM.out.clone_pre hu hb3); obtain ⟨Au, cu, rfl, hlu⟩ := R_sliceN (m := z) hu HFL.out; have HB3 := Aside0.mk hb3; clear hu hb3 hlu z0 z1 z2 z3 z4 z5 z6 z7 z8 z9 z10 f0 f1 f2 f3 f4 f5 f6 f7 f8 f9 f10) | ((with_reducible refine gate_builtin (b := .append) (xs := #[.tmp 72, .tmp 78]) rfl ?_); at_builtin; refine Kd.S_append (Kd.slice 5 (Kd.int .u8)) (w0 := w3) w.heap.size rfl (.tmp 72) (.tmp 78) 24 30 (.slice none 0 0) 24 rfl Try.underlying24 info30 rfl (by decide) (by omega) u6 cells S'.fd [.slice Au z cu] (fun k => some k ≠ (Value.slice Ax z cx).ownBlock) (fun k => some k = (Value.slice Au z cu).ownBlock) rfl rfl PRE.out.1 PRE.out.2.1 PRE.out.2.2.1 PRE.out.2.2.2.1 (Below.refl _ _) PRE.out.2.2.2.2 ?aL ?_; (case aL => have h8 := HM.out.okay.l0; have h9 := HM.out.cnt; rw [if_pos HST.out] at h9; have h10 : (([S'.fd] : List (List Int)).length : Int) = 1 := rfl; rw [h10] at h9; omega); intro v7 w5 hS hb5 hg5 hat5; have HM5 := Aside0.mk (HM.out.clone HST.out HB3.out hS hg5); clear hS hb5 hg5 hat5; clear HM; have HM := HM5; clear HM5) | (go_at_call 37; (refine (judge_at Ax cx z HFL.out HM.out.feed HM.out.okay HM.out.full).mono ?_); rintro e w4 ⟨rfl, hJ, hF⟩; obtain ⟨ej, hej⟩ : ∃ ej, ej = S'.jud.2 := ⟨_, rfl⟩; obtain ⟨sj, hsj⟩ : ∃ sj, sj = S'.jud.1 := ⟨_, rfl⟩; rw [← hsj] at hJ; (try rw [← hej]); have HEJ := Aside0.mk hej; have HSJ := Aside0.mk hsj; have HF := Aside0.mk hF; have HJ := Aside0.mk hJ; clear hej hsj hF; (try clear z0 z1 z2 z3 z4 z5 z6 z7 z8 z9 z10 f0 f1 f2 f3 f4 f5 f6 f7 f8 f9 f10); have Z := feed_cells hJ.1; clear hJ; obtain ⟨⟨z0, z1, z2, z3, z4, z5, z6, z7, z8, z9, z10⟩, f0, f1, f2, f3, f4, f5, f6, f7, f8, f9, f10⟩ := Z))
          · have he : ej ≠ 0 := bne_iff_ne.1 (by assumption)
            have HE := Aside0.mk he
            clear he
            have hpz : sj.pos = pos + n := by rw [HSJ.out, (FS.jud_okay S' HM.out.okay HM.out.full).1.2.1]; exact HPS.out
            have hw : IntKind.i64.wrap (sj.pos - (z : Int)) = sj.pos - (z : Int) := (i64_w _).trans (w64 (by have := HZ320.out; omega) (by have := HZ320.out; omega))
            clear hpz
            go_region
            go_wp2_with (fail)
            go_quiet (fail)
            go_wp2_with (fail)
            go_ret2
            have hfl := HM.out.fault HFL.out (by rw [← HEJ.out]; exact HE.out) (by rw [← HSJ.out]; exact HJ.out) HF.out
            rw [← HEJ.out, ← HSJ.out] at hfl
            exact (hfl 1).drewN _
          · have he0 : ej = 0 := by simpa using (by assumption : (ej != 0) = false)
            subst he0
            go_roundg (l.length - n)
            case measure => have := G.out; have := HZL.out; have := HN.out; omega
            case rel =>
              refine ⟨S'.fin, .slice Ax 0 cx, l.drop n, A2, c1 - n, cells ++ [S'.fd], by rw [HDL.out], ⟨HM.out.next HEJ.out.symm (by rw [← HSJ.out]; exact HJ.out) HF.out⟩, ⟨by rw [HDL.out]; omega⟩⟩
        · have s1 := beq_eq_false_iff_ne.mpr h7
          have HMn := Aside0.mk (show PutMid w ((w1.setCell ⟨g, 0, none⟩ (.slice Ax z cx)).setCell ⟨g, 1, none⟩ (.int .i64 (pos + (n : Int)))) base g s0 l0 v0 okp S' (.slice Ax z cx) (l.drop n) A2 (c1 - n) u6 cells [] from by have := HM.out; rwa [if_neg h7] at this)
          clear HM
          have HM := HMn
          clear HMn
          clear h7
          go_wp2_with (go_at_call 37; (refine (judge_at Ax cx z HFL.out HM.out.feed HM.out.okay HM.out.full).mono ?_); rintro e w4 ⟨rfl, hJ, hF⟩; obtain ⟨ej, hej⟩ : ∃ ej, ej = S'.jud.2 := ⟨_, rfl⟩; obtain ⟨sj, hsj⟩ : ∃ sj, sj = S'.jud.1 := ⟨_, rfl⟩; rw [← hsj] at hJ; (try rw [← hej]); have HEJ := Aside0.mk hej; have HSJ := Aside0.mk hsj; have HF := Aside0.mk hF; have HJ := Aside0.mk hJ; clear hej hsj hF; (try clear z0 z1 z2 z3 z4 z5 z6 z7 z8 z9 z10 f0 f1 f2 f3 f4 f5 f6 f7 f8 f9 f10); have Z := feed_cells hJ.1; clear hJ; obtain ⟨⟨z0, z1, z2, z3, z4, z5, z6, z7, z8, z9, z10⟩, f0, f1, f2, f3, f4, f5, f6, f7, f8, f9, f10⟩ := Z)
          · have he : ej ≠ 0 := bne_iff_ne.1 (by assumption)
            have HE := Aside0.mk he
            clear he
            have hpz : sj.pos = pos + n := by rw [HSJ.out, (FS.jud_okay S' HM.out.okay HM.out.full).1.2.1]; exact HPS.out
            have hw : IntKind.i64.wrap (sj.pos - (z : Int)) = sj.pos - (z : Int) := (i64_w _).trans (w64 (by have := HZ320.out; omega) (by have := HZ320.out; omega))
            clear hpz
            go_region
            go_wp2_with (fail)
            go_quiet (fail)
            go_wp2_with (fail)
            go_ret2
            have hfl := HM.out.fault HFL.out (by rw [← HEJ.out]; exact HE.out) (by rw [← HSJ.out]; exact HJ.out) HF.out
            rw [← HEJ.out, ← HSJ.out] at hfl
            exact (hfl 1).drewN _
          · have he0 : ej = 0 := by simpa using (by assumption : (ej != 0) = false)
            subst he0
            go_roundg (l.length - n)
            case measure => have := G.out; have := HZL.out; have := HN.out; omega
            case rel =>
              refine ⟨S'.fin, .slice Ax 0 cx, l.drop n, A2, c1 - n, cells, by rw [HDL.out], ⟨HM.out.next HEJ.out.symm (by rw [← HSJ.out]; exact HJ.out) HF.out⟩, ⟨by rw [HDL.out]; omega⟩⟩
    · have h1 := beq_eq_false_iff_ne.mpr her
      have h2 := bne_iff_ne.mpr her
      have HE := Aside0.mk her
      clear her
      go_wp2_with (fail)
      go_quiet (fail)
      go_wp2_with (fail)
      go_ret2
      exact I.out.err HE.out _
theorem new_calls (w : World) : Calls Try.prog 21 #[] w fun e w' => ∃ g : Nat, e = .returned (.pointer (some ⟨g, 0, none⟩)) ∧ FeedAt w' w.heap.size g FS.init (.slice none 0 0) ∧ Below w.heap.size w w' := by
  have hu76 := Try.underlying76
  have hu69 := Try.underlying69
  go_enter Try.func21, Try.ntmps21
  go_wp2
  go_ret
  refine ⟨w.heap.size, rfl, ⟨blk_new _ _, Nat.le_refl _, ?_, Kd.R_nil _ _ _ _ _⟩, (Below.refl _ _).alloc (Nat.le_refl _) _⟩
  simp
/-- End's answer. -/
def FS.fend (s : FS) : Int × Int := if s.er ≠ 0 then (s.pl, s.er) else if s.st < 9 then (s.pos, 67) else (0, 0)
theorem end_calls (W : World) (base g : Nat) (s : FS) (v : Value) (h : FeedAt W base g s v) : Calls Try.prog 27 #[.pointer (some ⟨g, 0, none⟩)] W fun e w' => e = .returned (.tuple #[.int .i64 s.fend.1, .int .i64 s.fend.2]) ∧ Drawn0 W w' := by
  have hu76 := Try.underlying76
  have hnil := fun W : World => run_eql_pointer_nil (P := Try.prog) W 46 (some ⟨g, 0, none⟩) (by kernel_rfl)
  simp only [Option.isNone] at hnil
  obtain ⟨fd, pos, st, left, R, E, L, a, b, er, pl⟩ := s
  have Z := feed_cells h.1
  obtain ⟨⟨z0, z1, z2, z3, z4, z5, z6, z7, z8, z9, z10⟩, -⟩ := Z
  clear h
  by_cases he : er = 0
  · subst he
    by_cases hs : st < 9
    · have c1 : decide (st < 9) = true := decide_eq_true hs
      have e1 : FS.fend ⟨fd, pos, st, left, R, E, L, a, b, 0, pl⟩ = (pos, 67) := by simp [FS.fend, hs]
      rw [e1]
      clear hs e1
      go_enter Try.func27, Try.ntmps27
      go_wp2
      go_ret2
      exact ⟨rfl, Drawn0.refl _⟩
    · have c1 : decide (st < 9) = false := decide_eq_false hs
      have e1 : FS.fend ⟨fd, pos, st, left, R, E, L, a, b, 0, pl⟩ = (0, 0) := by simp [FS.fend, hs]
      rw [e1]
      clear hs e1
      go_enter Try.func27, Try.ntmps27
      go_wp2
      go_ret2
      exact ⟨rfl, Drawn0.refl _⟩
  · have c1 := beq_eq_false_iff_ne.mpr he
    have c2 := bne_iff_ne.mpr he
    have e1 : FS.fend ⟨fd, pos, st, left, R, E, L, a, b, er, pl⟩ = (pl, er) := by simp [FS.fend, he]
    rw [e1]
    clear he e1
    go_enter Try.func27, Try.ntmps27
    go_wp2
    go_quiet (fail)
    go_wp2
    go_ret2
    exact ⟨rfl, ⟨⟨_, rfl⟩⟩⟩
/-- Header's answer. -/
def FS.fhead (s : FS) : Int × Int × Int × Bool := if s.st < 6 then (0, 0, 0, false) else (s.R, s.E, s.L, true)
theorem init_okay : FS.init.Okay := ⟨by decide, by decide, fun x hx => by simp [FS.init] at hx, by decide, by decide, by decide, by decide, by decide, by decide, by intro h; simp [FS.init] at h⟩
theorem sethT {W : World} {g T : Nat} {cs cs' : Array Value} (h : W.heap[g]? = some (.cells cs T (0, 0))) (e : cs = cs') : W.heap[g]? = some (.cells cs' T (0, 0)) := e ▸ h
/-- Read's part up to Put's answer: what holds then. -/
structure ReadMid (w W : World) (l0 : List Int) (gb g B B2 : Nat) (vc v' : Value) : Prop where
  box : W.heap[gb]? = some (.cells #[.int .i64 0, .int .i64 0, .int .i64 0, .slice none 0 0] 26 (0, 0))
  feed : FeedAt W B g (FS.init.run l0).1 v'
  below : Below w.heap.size w W
  gb0 : w.heap.size ≤ gb
  gbB : gb < B
  le2 : w.heap.size ≤ B2
  lt2 : gb < B2
  rows : Kd.S (Kd.slice 5 (Kd.int .u8)) 30 W B2 (fun k => some k ≠ v'.ownBlock) vc (FS.init.run l0).2
theorem read_put (w w1 w2 : World) (l0 : List Int) (A0 : Option Addr) (c0 : Nat) (gb g : Nat) (hr0 : Kd.C (Kd.int .u8) w A0 l0.length l0) (hc0 : l0.length ≤ c0) (hy : Bys l0) (hbig : l0.length ≤ 140737488355328) (hb1 : Below w.heap.size w w1) (hbox : w1.heap[gb]? = some (.cells #[.int .i64 0, .int .i64 0, .int .i64 0, .slice none 0 0] 26 (0, 0))) (hgb : w.heap.size ≤ gb)
    (hf : FeedAt w2 w1.heap.size g FS.init (.slice none 0 0)) (hb2 : Below w1.heap.size w1 w2) :
    Calls Try.prog 22 #[.pointer (some ⟨g, 0, none⟩), .slice A0 l0.length c0] w2 fun e w' => ∃ vc v' : Value, e = .returned (.tuple #[vc, .int .i64 (FS.init.run l0).1.er]) ∧ ReadMid w w' l0 gb g w1.heap.size w2.heap.size vc v' := by
  have hlt := blk_lt hbox
  have hw1 := hb1.size
  have hw2 := hb2.size
  have hF : Kd.F (Kd.int .u8) w2 (fun k => k < w.heap.size) A0 l0.length l0 := Kd.F_step (Kd.C_F (Kd.heap_int _) hr0) (fun k hk _ => (hb2.block k (by omega)).trans (hb1.block k hk))
  refine (put_calls FS.init g w1.heap.size (.slice none 0 0) l0 A0 c0 (fun k => k < w.heap.size) w2 hf init_okay (fun _ => by decide) hF hc0 (fun k hk => ⟨by have := hf.2.1; omega, by simp [Value.ownBlock], by omega⟩) hy (by decide) (by show (0 : Int) + _ ≤ _; omega) hbig).mono ?_
  rintro e w' ⟨vc, v', he, hf', hm, hS⟩
  refine ⟨vc, v', he, { box := ?_, feed := hf', below := ?_, gb0 := hgb, gbB := hlt, le2 := by omega, lt2 := by omega, rows := hS }⟩
  · exact (hm.1.block gb hlt).trans (blk_below hbox hb2)
  · exact (hb1.trans (hb2.mono hw1)).trans (hm.1.mono hw1)
/-- Read's answer: round, epoch, hops left, cells, place, error. -/
def rdF (l : List Int) : Int × Int × Int × List (List Int) × Int × Int :=
  let p := FS.init.run l
  if p.1.er = 0 then (if p.1.fend.2 = 0 then (p.1.R, p.1.E, p.1.L, p.2, 0, 0) else (0, 0, 0, [], p.1.fend.1, p.1.fend.2)) else (0, 0, 0, [], p.1.pl, p.1.er)
def ReadPost (w : World) (r : Int × Int × Int × List (List Int) × Int × Int) (e : Ending) (w' : World) : Prop :=
  ∃ v3_ : Value, e = .returned (.tuple #[.agg #[.int .i64 r.1, .int .i64 r.2.1, .int .i64 r.2.2.1, v3_], .int .i64 r.2.2.2.2.1, .int .i64 r.2.2.2.2.2]) ∧ Kd.S (Kd.slice 5 (Kd.int .u8)) 30 w' w.heap.size (fun _ => True) v3_ r.2.2.2.1 ∧ Below w.heap.size w w'
set_option maxHeartbeats 1000000 in
set_option maxRecDepth 100000 in
theorem read_bad (w : World) (l0 : List Int) (A0 : Option Addr) (c0 : Nat) (hr0 : Kd.C (Kd.int .u8) w A0 l0.length l0) (hc0 : l0.length ≤ c0) (hy : Bys l0) (hbig : l0.length ≤ 140737488355328) (he : (FS.init.run l0).1.er ≠ 0) :
    Calls Try.prog 18 #[.slice A0 l0.length c0] w fun e w' => ReadPost w (rdF l0) e w' := by
  have hu76 := Try.underlying76
  have hu26 := Try.underlying26
  have hu23 := Try.underlying23
  have hrd : rdF l0 = (0, 0, 0, [], (FS.init.run l0).1.pl, (FS.init.run l0).1.er) := by unfold rdF; simp only []; rw [if_neg he]
  rw [hrd]
  clear hrd
  obtain ⟨er, her⟩ : ∃ er, (FS.init.run l0).1.er = er := ⟨_, rfl⟩
  obtain ⟨pl, hpl⟩ : ∃ pl, (FS.init.run l0).1.pl = pl := ⟨_, rfl⟩
  have hcell : ∀ v, (FS.init.run l0).1.cells v = #[v, .int .i64 (FS.init.run l0).1.pos, .int .i64 (FS.init.run l0).1.st, .int .i64 (FS.init.run l0).1.left, .int .i64 (FS.init.run l0).1.R, .int .i64 (FS.init.run l0).1.E, .int .i64 (FS.init.run l0).1.L, .int .u32 (FS.init.run l0).1.a, .int .u32 (FS.init.run l0).1.b, .int .i64 er, .int .i64 pl] := fun v => by rw [← her, ← hpl]; rfl
  rw [her] at he
  rw [her, hpl]
  have c1 := beq_eq_false_iff_ne.mpr he
  have HC := Aside0.mk hcell
  have HER := Aside0.mk her
  have HR0 := Aside0.mk hr0
  have HC0 := Aside0.mk hc0
  have HY := Aside0.mk hy
  have HBIG := Aside0.mk hbig
  have HB := Aside0.mk (Below.refl w.heap.size w)
  clear hcell her hpl he hr0 hc0 hy hbig
  go_enter Try.func18, Try.ntmps18
  go_wp2_with (first
    | ((with_reducible refine gate_dst (N := 2) rfl ?_); refine box_event ?hg (N := 2) ?hd (cs := #[.int .i64 0, .int .i64 0, .int .i64 0, .slice none 0 0]) (t := 26) ?hr ?_; (case hd => rfl); (case hg => rfl); (case hr => first | (go_simp; done) | (go_simp; rfl)); intro gb hgb w1 hbox hb1; have BX := Aside0.mk hbox; have GB := Aside0.mk (show w.heap.size ≤ gb by omega); have HB1 := Aside0.mk (below_step HB.out hb1); clear hgb hbox hb1)
    | (go_at_call 21; (refine (new_calls _).mono ?_); rintro e w2 ⟨g, rfl, hf, hb2⟩; have HF := Aside0.mk hf; have HB2 := Aside0.mk hb2; clear hf hb2)
    | (go_at_call 22; (refine (read_put w w1 w2 l0 A0 c0 gb g HR0.out HC0.out HY.out HBIG.out HB1.out BX.out GB.out HF.out HB2.out).mono ?_); rintro e w3 ⟨vc, v', rfl, hM⟩; (try rw [HER.out]); obtain ⟨Ac, cc, rfl⟩ := Kd.S_slice hM.rows; have HM := Aside0.mk hM; have HX := Aside0.mk hM.box; have h76 := hM.feed.1; rw [HC.out] at h76; have Z := feed_cells h76; have zb0 := (blk_cell hM.box 0).trans rfl; have zb1 := (blk_cell hM.box 1).trans rfl; have zb2 := (blk_cell hM.box 2).trans rfl; have zb3 := (blk_cell hM.box 3).trans rfl; have zf0 := blk_frozen hM.box 0; have zf1 := blk_frozen hM.box 1; have zf2 := blk_frozen hM.box 2; have zf3 := blk_frozen hM.box 3; have hne : gb ≠ g := (by have := hM.gbB; have := hM.feed.2.1; omega); clear hM h76; obtain ⟨⟨z0, z1, z2, z3, z4, z5, z6, z7, z8, z9, z10⟩, f0, f1, f2, f3, f4, f5, f6, f7, f8, f9, f10⟩ := Z))
  go_region
  go_wp2
  refine bodyPost_ret (results_list (rs := [.cell 2 26, .tmp 3, .tmp 4]) rfl (by simp) (.cell gb 26 #[.int .i64 0, .int .i64 0, .int .i64 0, .slice none 0 0] (0, 0) _ rfl ?blk Try.underlying26 rfl (by kernel_rfl) (.tmp (.tmp .nil)))) rfl ?_
  case blk => (apply sethT; (repeat (first | (with_reducible exact HX.out) | (with_reducible refine blk_drewN ?_ _) | (with_reducible refine blk_drew ?_) | (with_reducible apply blk_set))); rfl)
  exact ⟨_, rfl, Kd.S_nil _ _ _ _ _, by repeat (first | (with_reducible exact HM.out.below) | (with_reducible refine below_set ?_ GB.out) | (with_reducible refine below_drew ?_) | (with_reducible refine pw_below_drewN ?_ _))⟩
set_option maxHeartbeats 1000000 in
set_option maxRecDepth 100000 in
theorem read_short (w : World) (l0 : List Int) (A0 : Option Addr) (c0 : Nat) (hr0 : Kd.C (Kd.int .u8) w A0 l0.length l0) (hc0 : l0.length ≤ c0) (hy : Bys l0) (hbig : l0.length ≤ 140737488355328) (he : (FS.init.run l0).1.er = 0) (hfe : (FS.init.run l0).1.fend.2 ≠ 0) :
    Calls Try.prog 18 #[.slice A0 l0.length c0] w fun e w' => ReadPost w (rdF l0) e w' := by
  have hu76 := Try.underlying76
  have hu26 := Try.underlying26
  have hu23 := Try.underlying23
  have hrd : rdF l0 = (0, 0, 0, [], (FS.init.run l0).1.fend.1, (FS.init.run l0).1.fend.2) := by unfold rdF; simp only []; rw [if_pos he, if_neg hfe]
  rw [hrd]
  clear hrd
  obtain ⟨p, hp⟩ : ∃ p, (FS.init.run l0).1.fend.1 = p := ⟨_, rfl⟩
  obtain ⟨e2, he2⟩ : ∃ e2, (FS.init.run l0).1.fend.2 = e2 := ⟨_, rfl⟩
  rw [he2] at hfe
  rw [hp, he2]
  have c1 := beq_eq_false_iff_ne.mpr hfe
  have hcell : ∀ v, (FS.init.run l0).1.cells v = #[v, .int .i64 (FS.init.run l0).1.pos, .int .i64 (FS.init.run l0).1.st, .int .i64 (FS.init.run l0).1.left, .int .i64 (FS.init.run l0).1.R, .int .i64 (FS.init.run l0).1.E, .int .i64 (FS.init.run l0).1.L, .int .u32 (FS.init.run l0).1.a, .int .u32 (FS.init.run l0).1.b, .int .i64 0, .int .i64 (FS.init.run l0).1.pl] := fun v => by rw [← he]; rfl
  have her := he
  have HP := Aside0.mk hp
  have HE2 := Aside0.mk he2
  have HC := Aside0.mk hcell
  have HER := Aside0.mk her
  have HR0 := Aside0.mk hr0
  have HC0 := Aside0.mk hc0
  have HY := Aside0.mk hy
  have HBIG := Aside0.mk hbig
  have HB := Aside0.mk (Below.refl w.heap.size w)
  clear hcell her he hfe hp he2 hr0 hc0 hy hbig
  go_enter Try.func18, Try.ntmps18
  go_wp2_with (first
    | ((with_reducible refine gate_dst (N := 2) rfl ?_); refine box_event ?hg (N := 2) ?hd (cs := #[.int .i64 0, .int .i64 0, .int .i64 0, .slice none 0 0]) (t := 26) ?hr ?_; (case hd => rfl); (case hg => rfl); (case hr => first | (go_simp; done) | (go_simp; rfl)); intro gb hgb w1 hbox hb1; have BX := Aside0.mk hbox; have GB := Aside0.mk (show w.heap.size ≤ gb by omega); have HB1 := Aside0.mk (below_step HB.out hb1); clear hgb hbox hb1)
    | (go_at_call 21; (refine (new_calls _).mono ?_); rintro e w2 ⟨g, rfl, hf, hb2⟩; have HF := Aside0.mk hf; have HB2 := Aside0.mk hb2; clear hf hb2)
    | (go_at_call 22; (refine (read_put w w1 w2 l0 A0 c0 gb g HR0.out HC0.out HY.out HBIG.out HB1.out BX.out GB.out HF.out HB2.out).mono ?_); rintro e w3 ⟨vc, v', rfl, hM⟩; (try rw [HER.out]); obtain ⟨Ac, cc, rfl⟩ := Kd.S_slice hM.rows; have HM := Aside0.mk hM; have HX := Aside0.mk hM.box; have h76 := hM.feed.1; rw [HC.out] at h76; have Z := feed_cells h76; have zb0 := (blk_cell hM.box 0).trans rfl; have zb1 := (blk_cell hM.box 1).trans rfl; have zb2 := (blk_cell hM.box 2).trans rfl; have zb3 := (blk_cell hM.box 3).trans rfl; have zf0 := blk_frozen hM.box 0; have zf1 := blk_frozen hM.box 1; have zf2 := blk_frozen hM.box 2; have zf3 := blk_frozen hM.box 3; have hne : gb ≠ g := (by have := hM.gbB; have := hM.feed.2.1; omega); clear hM h76; obtain ⟨⟨z0, z1, z2, z3, z4, z5, z6, z7, z8, z9, z10⟩, f0, f1, f2, f3, f4, f5, f6, f7, f8, f9, f10⟩ := Z)
    | (go_at_call 27; (refine (end_calls _ w1.heap.size g _ _ HM.out.feed).mono ?_); rintro e w4 ⟨rfl, ⟨q4, rfl⟩⟩; rw [HP.out, HE2.out]))
  refine bodyPost_ret (results_list (rs := [.cell 2 26, .tmp 3, .tmp 4]) rfl (by simp) (.cell gb 26 #[.int .i64 0, .int .i64 0, .int .i64 0, .slice none 0 0] (0, 0) _ rfl ?blk Try.underlying26 rfl (by kernel_rfl) (.tmp (.tmp .nil)))) rfl ?_
  case blk => (apply sethT; (repeat (first | (with_reducible exact HX.out) | (with_reducible refine blk_drewN ?_ _) | (with_reducible refine blk_drew ?_) | (with_reducible apply blk_set))); rfl)
  exact ⟨_, rfl, Kd.S_nil _ _ _ _ _, by repeat (first | (with_reducible exact HM.out.below) | (with_reducible refine below_set ?_ GB.out) | (with_reducible refine below_drew ?_) | (with_reducible refine pw_below_drewN ?_ _))⟩
set_option maxHeartbeats 1000000 in
set_option maxRecDepth 100000 in
theorem read_ok (w : World) (l0 : List Int) (A0 : Option Addr) (c0 : Nat) (hr0 : Kd.C (Kd.int .u8) w A0 l0.length l0) (hc0 : l0.length ≤ c0) (hy : Bys l0) (hbig : l0.length ≤ 140737488355328) (he : (FS.init.run l0).1.er = 0) (hfe : (FS.init.run l0).1.fend.2 = 0) :
    Calls Try.prog 18 #[.slice A0 l0.length c0] w fun e w' => ReadPost w (rdF l0) e w' := by
  have hu76 := Try.underlying76
  have hu26 := Try.underlying26
  have hu23 := Try.underlying23
  have hrd : rdF l0 = ((FS.init.run l0).1.R, (FS.init.run l0).1.E, (FS.init.run l0).1.L, (FS.init.run l0).2, 0, 0) := by unfold rdF; simp only []; rw [if_pos he, if_pos hfe]
  rw [hrd]
  clear hrd
  obtain ⟨p, hp⟩ : ∃ p, (FS.init.run l0).1.fend.1 = p := ⟨_, rfl⟩
  have he2 := hfe
  obtain ⟨R_, hR⟩ : ∃ R_, (FS.init.run l0).1.R = R_ := ⟨_, rfl⟩
  obtain ⟨E_, hE⟩ : ∃ E_, (FS.init.run l0).1.E = E_ := ⟨_, rfl⟩
  obtain ⟨L_, hL⟩ : ∃ L_, (FS.init.run l0).1.L = L_ := ⟨_, rfl⟩
  rw [hR, hE, hL]
  have hcell : ∀ v, (FS.init.run l0).1.cells v = #[v, .int .i64 (FS.init.run l0).1.pos, .int .i64 (FS.init.run l0).1.st, .int .i64 (FS.init.run l0).1.left, .int .i64 R_, .int .i64 E_, .int .i64 L_, .int .u32 (FS.init.run l0).1.a, .int .u32 (FS.init.run l0).1.b, .int .i64 0, .int .i64 (FS.init.run l0).1.pl] := fun v => by rw [← he, ← hR, ← hE, ← hL]; rfl
  have her := he
  have HP := Aside0.mk hp
  have HE2 := Aside0.mk he2
  have HC := Aside0.mk hcell
  have HER := Aside0.mk her
  have HR0 := Aside0.mk hr0
  have HC0 := Aside0.mk hc0
  have HY := Aside0.mk hy
  have HBIG := Aside0.mk hbig
  have HB := Aside0.mk (Below.refl w.heap.size w)
  clear hcell her he hfe hp he2 hr0 hc0 hy hbig hR hE hL
  go_enter Try.func18, Try.ntmps18
  go_wp2_with (first
    | ((with_reducible refine gate_dst (N := 2) rfl ?_); refine box_event ?hg (N := 2) ?hd (cs := #[.int .i64 0, .int .i64 0, .int .i64 0, .slice none 0 0]) (t := 26) ?hr ?_; (case hd => rfl); (case hg => rfl); (case hr => first | (go_simp; done) | (go_simp; rfl)); intro gb hgb w1 hbox hb1; have BX := Aside0.mk hbox; have GB := Aside0.mk (show w.heap.size ≤ gb by omega); have HB1 := Aside0.mk (below_step HB.out hb1); clear hgb hbox hb1)
    | (go_at_call 21; (refine (new_calls _).mono ?_); rintro e w2 ⟨g, rfl, hf, hb2⟩; have HF := Aside0.mk hf; have HB2 := Aside0.mk hb2; clear hf hb2)
    | (go_at_call 22; (refine (read_put w w1 w2 l0 A0 c0 gb g HR0.out HC0.out HY.out HBIG.out HB1.out BX.out GB.out HF.out HB2.out).mono ?_); rintro e w3 ⟨vc, v', rfl, hM⟩; (try rw [HER.out]); obtain ⟨Ac, cc, rfl⟩ := Kd.S_slice hM.rows; have HM := Aside0.mk hM; have HX := Aside0.mk hM.box; have h76 := hM.feed.1; rw [HC.out] at h76; have Z := feed_cells h76; have zb0 := (blk_cell hM.box 0).trans rfl; have zb1 := (blk_cell hM.box 1).trans rfl; have zb2 := (blk_cell hM.box 2).trans rfl; have zb3 := (blk_cell hM.box 3).trans rfl; have zf0 := blk_frozen hM.box 0; have zf1 := blk_frozen hM.box 1; have zf2 := blk_frozen hM.box 2; have zf3 := blk_frozen hM.box 3; have hne : gb ≠ g := (by have := hM.gbB; have := hM.feed.2.1; omega); clear hM h76; obtain ⟨⟨z0, z1, z2, z3, z4, z5, z6, z7, z8, z9, z10⟩, f0, f1, f2, f3, f4, f5, f6, f7, f8, f9, f10⟩ := Z)
    | (go_at_call 27; (refine (end_calls _ w1.heap.size g _ _ HM.out.feed).mono ?_); rintro e w4 ⟨rfl, ⟨q4, rfl⟩⟩; rw [HP.out, HE2.out]))
  refine bodyPost_ret (results_list (rs := [.cell 2 26, .tmp 3, .tmp 4]) rfl (by simp) (.cell gb 26 #[.int .i64 R_, .int .i64 E_, .int .i64 L_, .slice Ac (FS.init.run l0).2.length cc] (0, 0) _ rfl ?blk Try.underlying26 rfl (by kernel_rfl) (.tmp (.tmp .nil)))) rfl ?_
  case blk => (apply sethT; (repeat (first | (with_reducible exact HX.out) | (with_reducible refine blk_drewN ?_ _) | (with_reducible refine blk_drew ?_) | (with_reducible apply blk_set))); rfl)
  refine ⟨_, rfl, ?rows, by repeat (first | (with_reducible exact HM.out.below) | (with_reducible refine below_set ?_ GB.out) | (with_reducible refine below_drew ?_) | (with_reducible refine pw_below_drewN ?_ _))⟩
  case rows =>
    refine Kd.S_mono (ok := fun k => some k ≠ v'.ownBlock) (Kd.S_lower ?_ HM.out.le2) (fun _ _ => trivial)
    repeat (first | (with_reducible exact HM.out.rows) | (with_reducible refine rows_set ?_ HM.out.lt2 _ _) | (with_reducible refine Kd.S_drewN ?_ _) | (with_reducible refine Kd.S_drew ?_))
theorem read_calls (w : World) (l0 : List Int) (A0 : Option Addr) (c0 : Nat) (hr0 : Kd.C (Kd.int .u8) w A0 l0.length l0) (hc0 : l0.length ≤ c0) (hy : Bys l0) (hbig : l0.length ≤ 140737488355328) :
    Calls Try.prog 18 #[.slice A0 l0.length c0] w fun e w' => ReadPost w (rdF l0) e w' := by
  by_cases he : (FS.init.run l0).1.er = 0
  · by_cases hf : (FS.init.run l0).1.fend.2 = 0
    · exact read_ok w l0 A0 c0 hr0 hc0 hy hbig he hf
    · exact read_short w l0 A0 c0 hr0 hc0 hy hbig he hf
  · exact read_bad w l0 A0 c0 hr0 hc0 hy hbig he
theorem put_nil (v : Value) (w : World) : Calls Try.prog 22 #[.pointer none, v] w fun e w' => e = .returned (.tuple #[.slice none 0 0, .int .i64 2]) ∧ w' = w := by
  have hnil := fun W : World => run_eql_pointer_nil (P := Try.prog) W 46 none (by kernel_rfl)
  simp only [Option.isNone] at hnil
  go_enter Try.func22, Try.ntmps22
  go_wp2_with (fail)
  go_step3
  go_wp2_with (fail)
  simp only [Exit.noGoto_ret]
  go_ret2
  exact ⟨rfl, rfl⟩
theorem end_nil (w : World) : Calls Try.prog 27 #[.pointer none] w fun e w' => e = .returned (.tuple #[.int .i64 0, .int .i64 2]) ∧ w' = w := by
  have hnil := fun W : World => run_eql_pointer_nil (P := Try.prog) W 46 none (by kernel_rfl)
  simp only [Option.isNone] at hnil
  go_enter Try.func27, Try.ntmps27
  go_wp2
  go_ret2
  exact ⟨rfl, rfl⟩
theorem header_nil (w : World) : Calls Try.prog 26 #[.pointer none] w fun e w' => e = .returned (.tuple #[.agg #[.int .i64 0, .int .i64 0, .int .i64 0], .bool false]) ∧ Below w.heap.size w w' := by
  have hnil := fun W : World => run_eql_pointer_nil (P := Try.prog) W 46 none (by kernel_rfl)
  simp only [Option.isNone] at hnil
  have hu23 := Try.underlying23
  have HB := Aside0.mk (Below.refl w.heap.size w)
  go_enter Try.func26, Try.ntmps26
  go_wp2_with ((with_reducible refine gate_dst (N := 2) rfl ?_); refine box_event ?hg (N := 2) ?hd (cs := #[.int .i64 0, .int .i64 0, .int .i64 0]) (t := 23) ?hr ?_; (case hd => rfl); (case hg => rfl); (case hr => first | (go_simp; done) | (go_simp; rfl)); intro gb hgb w1 hbox hb1; have BX := Aside0.mk hbox; have GB := Aside0.mk (show w.heap.size ≤ gb by omega); have HB1 := Aside0.mk (below_step HB.out hb1); have zb0 := (blk_cell hbox 0).trans rfl; have zb1 := (blk_cell hbox 1).trans rfl; have zb2 := (blk_cell hbox 2).trans rfl; have zf0 := blk_frozen hbox 0; have zf1 := blk_frozen hbox 1; have zf2 := blk_frozen hbox 2; clear hgb hbox hb1)
  refine bodyPost_ret (results_list (rs := [.cell 2 23, .tmp 3]) rfl (by simp) (.cell gb 23 #[.int .i64 0, .int .i64 0, .int .i64 0] (0, 0) _ rfl ?blk Try.underlying23 rfl (by kernel_rfl) (.tmp .nil))) rfl ?_
  case blk => (apply sethT; (repeat (first | (with_reducible exact BX.out) | (with_reducible refine blk_drewN ?_ _) | (with_reducible refine blk_drew ?_) | (with_reducible apply blk_set))); rfl)
  exact ⟨rfl, by repeat (first | (with_reducible exact HB1.out) | (with_reducible refine below_set ?_ GB.out) | (with_reducible refine below_drew ?_) | (with_reducible refine pw_below_drewN ?_ _))⟩
theorem header_calls (W : World) (base g : Nat) (s : FS) (v : Value) (h : FeedAt W base g s v) : Calls Try.prog 26 #[.pointer (some ⟨g, 0, none⟩)] W fun e w' => e = .returned (.tuple #[.agg #[.int .i64 s.fhead.1, .int .i64 s.fhead.2.1, .int .i64 s.fhead.2.2.1], .bool s.fhead.2.2.2]) ∧ Below W.heap.size W w' := by
  have hnil := fun W : World => run_eql_pointer_nil (P := Try.prog) W 46 (some ⟨g, 0, none⟩) (by kernel_rfl)
  simp only [Option.isNone] at hnil
  have hu23 := Try.underlying23
  have hu76 := Try.underlying76
  have HB := Aside0.mk (Below.refl W.heap.size W)
  obtain ⟨fd, pos, st, left, R, E, L, a, b, er, pl⟩ := s
  have HF := Aside0.mk h.1
  have hgl := blk_lt h.1
  clear h
  by_cases hs : st < 6
  · have c1 : decide (st < 6) = true := decide_eq_true hs
    have e1 : FS.fhead ⟨fd, pos, st, left, R, E, L, a, b, er, pl⟩ = (0, 0, 0, false) := by simp [FS.fhead, hs]
    rw [e1]
    clear hs e1
    go_enter Try.func26, Try.ntmps26
    go_wp2_with ((with_reducible refine gate_dst (N := 2) rfl ?_); refine box_event ?hg (N := 2) ?hd (cs := #[.int .i64 0, .int .i64 0, .int .i64 0]) (t := 23) ?hr ?_; (case hd => rfl); (case hg => rfl); (case hr => first | (go_simp; done) | (go_simp; rfl)); intro gb hgb w1 hbox hb1; have BX := Aside0.mk hbox; have GB := Aside0.mk (show W.heap.size ≤ gb by omega); have HB1 := Aside0.mk (below_step HB.out hb1); have zb0 := (blk_cell hbox 0).trans rfl; have zb1 := (blk_cell hbox 1).trans rfl; have zb2 := (blk_cell hbox 2).trans rfl; have zf0 := blk_frozen hbox 0; have zf1 := blk_frozen hbox 1; have zf2 := blk_frozen hbox 2; have Z := feed_cells (blk_below HF.out hb1); obtain ⟨⟨z0, z1, z2, z3, z4, z5, z6, z7, z8, z9, z10⟩, f0, f1, f2, f3, f4, f5, f6, f7, f8, f9, f10⟩ := Z; clear hgb hbox hb1)
    refine bodyPost_ret (results_list (rs := [.cell 2 23, .tmp 3]) rfl (by simp) (.cell gb 23 #[.int .i64 0, .int .i64 0, .int .i64 0] (0, 0) _ rfl ?blk Try.underlying23 rfl (by kernel_rfl) (.tmp .nil))) rfl ?_
    case blk => (apply sethT; (repeat (first | (with_reducible exact BX.out) | (with_reducible refine blk_drewN ?_ _) | (with_reducible refine blk_drew ?_) | (with_reducible apply blk_set))); rfl)
    exact ⟨rfl, by repeat (first | (with_reducible exact HB1.out) | (with_reducible refine below_set ?_ GB.out) | (with_reducible refine below_drew ?_) | (with_reducible refine pw_below_drewN ?_ _))⟩
  · have c1 : decide (st < 6) = false := decide_eq_false hs
    have e1 : FS.fhead ⟨fd, pos, st, left, R, E, L, a, b, er, pl⟩ = (R, E, L, true) := by simp [FS.fhead, hs]
    rw [e1]
    clear hs e1
    go_enter Try.func26, Try.ntmps26
    go_wp2_with ((with_reducible refine gate_dst (N := 2) rfl ?_); refine box_event ?hg (N := 2) ?hd (cs := #[.int .i64 0, .int .i64 0, .int .i64 0]) (t := 23) ?hr ?_; (case hd => rfl); (case hg => rfl); (case hr => first | (go_simp; done) | (go_simp; rfl)); intro gb hgb w1 hbox hb1; have BX := Aside0.mk hbox; have GB := Aside0.mk (show W.heap.size ≤ gb by omega); have HB1 := Aside0.mk (below_step HB.out hb1); have zb0 := (blk_cell hbox 0).trans rfl; have zb1 := (blk_cell hbox 1).trans rfl; have zb2 := (blk_cell hbox 2).trans rfl; have zf0 := blk_frozen hbox 0; have zf1 := blk_frozen hbox 1; have zf2 := blk_frozen hbox 2; have Z := feed_cells (blk_below HF.out hb1); obtain ⟨⟨z0, z1, z2, z3, z4, z5, z6, z7, z8, z9, z10⟩, f0, f1, f2, f3, f4, f5, f6, f7, f8, f9, f10⟩ := Z; clear hgb hbox hb1)
    refine bodyPost_ret (results_list (rs := [.cell 2 23, .tmp 3]) rfl (by simp) (.cell gb 23 #[.int .i64 R, .int .i64 E, .int .i64 L] (0, 0) _ rfl ?blk Try.underlying23 rfl (by kernel_rfl) (.tmp .nil))) rfl ?_
    case blk => (apply sethT; (repeat (first | (with_reducible exact BX.out) | (with_reducible refine blk_drewN ?_ _) | (with_reducible refine blk_drew ?_) | (with_reducible apply blk_set))); rfl)
    exact ⟨rfl, by repeat (first | (with_reducible exact HB1.out) | (with_reducible refine below_set ?_ GB.out) | (with_reducible refine below_drew ?_) | (with_reducible refine pw_below_drewN ?_ _))⟩
end
def frame_Read.f (l0 : List Int) : Option (Int × Int × Int × (List (List Int)) × Int × Int) := if (l0.all fun x => decide (0 ≤ x ∧ x ≤ 255)) = true ∧ l0.length ≤ 140737488355328 then some (rdF l0) else none
theorem frame_Read.calls (A0 : Option Addr) (c0 : Nat) (l0 : List Int) (r1 : Int) (r2 : Int) (r3 : Int) (r4 : List (List Int)) (r5 : Int) (r6 : Int) (w : World) (hr0 : Kd.C (Kd.int .u8) w A0 l0.length l0) (hc0 : l0.length ≤ c0) (h : frame_Read.f l0 = some (r1, r2, r3, r4, r5, r6)) :
    Calls Try.prog 18 #[.slice A0 l0.length c0] w fun e w' => ∃ v3_ : Value, e = .returned (.tuple #[.agg #[.int .i64 r1, .int .i64 r2, .int .i64 r3, v3_], .int .i64 r5, .int .i64 r6]) ∧ Kd.S (Kd.slice 5 (Kd.int .u8)) 30 w' w.heap.size (fun _ => True) v3_ r4 ∧ Below w.heap.size w w' := by
  unfold frame_Read.f at h
  split at h
  · rename_i hc
    obtain ⟨h1, h2⟩ := hc
    have h := Option.some.inj h
    have hy : Bys l0 := fun x hx => by have := List.all_eq_true.1 h1 x hx; simpa using this
    refine (read_calls w l0 A0 c0 hr0 hc0 hy h2).mono ?_
    rw [h]
    rintro e w' ⟨v3_, a, b, c⟩
    exact ⟨v3_, a, b, c⟩
  · cases h

end Go.Proofs.Ythkcadmjfkcbgaa.Q
