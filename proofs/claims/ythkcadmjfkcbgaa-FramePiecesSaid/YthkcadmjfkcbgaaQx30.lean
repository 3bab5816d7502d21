/- Functions of the program as plain Lean functions, each with a proof that its call comes to just these answers, or the row that joins them to the given statement; no condition beside the statement's own. Written for this claim by pf.py, this session's program over the kit's print. -/
import Derived.Test.YthkcadmjfkcbgaaQx0
import Derived.Test.YthkcadmjfkcbgaaQx8
import Derived.Test.YthkcadmjfkcbgaaQx9
import Derived.Test.YthkcadmjfkcbgaaQx15
import Derived.Test.YthkcadmjfkcbgaaQx16
namespace Go.Proofs.Ythkcadmjfkcbgaa.Q
open Go.RowKit Go.Proofs.YthkcadmjfkcbgaaW.PrintWords Go.Proofs.YthkcadmjfkcbgaaW.PrintLast Go.Proofs.YthkcadmjfkcbgaaW.PrintMore
attribute [local go_sem] max2_int min2_int max_two min_two max_three min_three max_four min_four   -- for this text's walks alone
set_option linter.unusedVariables false
set_option linter.unusedSimpArgs false

/-! ### churnlaw06_FramePieces: function 8 -/
/- own text -/
section
open Go.Proofs.Ythkcadmjfkcbgaa.Pl
theorem awake_then : churnlaw06_awake.f 100 = some true := by decide +kernel
theorem sc_same (a : List Int) : churnlaw06_same.f a a = some true := by simp [churnlaw06_same.f]
theorem sc_l0 (cs : List (List Int)) (hl : cs.length ≤ 140737488355328) : ∀ (d i : Nat), i + d = cs.length → Ev (fun k => churnlaw06_sameCells.l0 k cs cs (cs.length : Int) (i : Int)) true
  | 0, i, hi => Ev.step (f := fun k => some true) (fun k => by simp only [churnlaw06_sameCells.l0]; rw [if_neg (by omega)]) (Ev.now _)
  | d + 1, i, hi => by
    refine Ev.step (f := fun k => churnlaw06_sameCells.l0 k cs cs (cs.length : Int) ((i + 1 : Nat) : Int)) (fun k => ?_) (sc_l0 cs hl d (i + 1) (by omega))
    simp only [churnlaw06_sameCells.l0]
    rw [if_pos (by omega), if_pos (by omega), if_pos (by omega), if_pos (by omega), sc_same, Option.bind_some, if_pos rfl, show wrap64 ((i : Int) + 1) = ((i + 1 : Nat) : Int) from by rw [w64 (by omega) (by omega)]; rfl]
theorem sc_now (cs : List (List Int)) (hl : cs.length ≤ 140737488355328) : ∃ k, churnlaw06_sameCells.f k cs cs = some true := by
  refine Ev.rounds ?_
  unfold churnlaw06_sameCells.f
  exact ev_pos rfl (sc_l0 cs hl cs.length 0 (by omega))
theorem FS.run_cnt (l : List Int) : ∀ s : FS, (s.run l).2.length ≤ l.length := by
  induction l with
  | nil => intro s; simp [FS.run]
  | cons c l ih =>
    intro s
    show ((s.byte c).2 ++ ((s.byte c).1.run l).2).length ≤ _
    have h1 := ih (s.byte c).1
    have h2 : (s.byte c).2.length ≤ 1 := by
      unfold FS.byte
      split
      · simp
      · split
        · simp
        · simp only []; split <;> simp
    simp only [List.length_append, List.length_cons]
    omega
/-- Read's place and error are End's. -/
theorem rdF_fend (l : List Int) : ((rdF l).2.2.2.2.1, (rdF l).2.2.2.2.2) = (FS.init.run l).1.fend := by
  unfold rdF
  by_cases he : (FS.init.run l).1.er = 0
  · by_cases hf : (FS.init.run l).1.fend.2 = 0
    · simp only []
      rw [if_pos he, if_pos hf]
      unfold FS.fend at hf ⊢
      rw [if_neg (by omega)] at hf ⊢
      by_cases hs : (FS.init.run l).1.st < 9
      · rw [if_pos hs] at hf; simp at hf
      · rw [if_neg hs]
    · simp only []
      rw [if_pos he, if_neg hf]
  · simp only []
    rw [if_neg he]
    unfold FS.fend
    rw [if_pos he]
/-! ### where a fault lies -/
structure FS.Inw (s : FS) : Prop where
  okay : s.Okay
  short : s.er = 0 → (s.fd.length : Int) < fsz s.st
  p0 : (s.fd.length : Int) ≤ s.pos
  l0 : 0 ≤ s.pl
  l1 : s.pl ≤ s.pos
theorem byte_inw (s : FS) (c : Int) (hc : 0 ≤ c ∧ c ≤ 255) (h : s.Inw) : (s.byte c).1.Inw ∧ (s.byte c).1.pos ≤ s.pos + 1 := by
  unfold FS.byte
  by_cases he : s.er ≠ 0
  · rw [if_pos he]; exact ⟨h, by show s.pos ≤ _; omega⟩
  · rw [if_neg he]
    have he : s.er = 0 := by omega
    have hfl : ((s.fill [c]).fd.length : Int) = s.fd.length + 1 := by simp [FS.fill_fd]
    have ho : (s.fill [c]).Okay := { h.okay with by_ := h.okay.by_.append (by intro x hx; simp at hx; omega) }
    have hp : (s.fill [c]).pos = s.pos + 1 := rfl
    have hst : (s.fill [c]).st = s.st := rfl
    by_cases hs : ((s.fill [c]).fd.length : Int) < fsz s.st
    · rw [if_pos hs]
      exact ⟨⟨ho, fun _ => hs, by rw [hfl, hp]; have := h.p0; omega, h.l0, by rw [hp]; show s.pl ≤ _; have := h.l1; omega⟩, by show (s.fill [c]).pos ≤ _; omega⟩
    · rw [if_neg hs]
      have hfull : ((s.fill [c]).fd.length : Int) = fsz (s.fill [c]).st := by rw [hst]; have := h.short he; omega
      obtain ⟨⟨k1, k2, k3, k4⟩, ko, _⟩ := FS.jud_okay _ ho hfull
      have hfz := fsz_pos (s.fill [c]).jud.1.st
      show (s.fill [c]).fin.Inw ∧ (s.fill [c]).fin.pos ≤ _
      unfold FS.fin
      by_cases hj : (s.fill [c]).jud.2 = 0
      · rw [if_pos hj]
        refine ⟨⟨{ ko with by_ := fun x hx => by simp at hx }, fun _ => ?_, ?_, ?_, ?_⟩, ?_⟩
        · show (([] : List Int).length : Int) < _; simp; omega
        · show (([] : List Int).length : Int) ≤ (s.fill [c]).jud.1.pos; rw [k2, hp]; have := h.p0; simp; omega
        · show 0 ≤ (s.fill [c]).jud.1.pl; rw [k4]; exact h.l0
        · show (s.fill [c]).jud.1.pl ≤ (s.fill [c]).jud.1.pos; rw [k4, k2, hp]; show s.pl ≤ _; have := h.l1; omega
        · show (s.fill [c]).jud.1.pos ≤ _; rw [k2, hp]; omega
      · rw [if_neg hj]
        refine ⟨⟨{ ko with }, fun h0 => absurd h0 hj, ?_, ?_, ?_⟩, ?_⟩
        · show ((s.fill [c]).jud.1.fd.length : Int) ≤ (s.fill [c]).jud.1.pos; rw [k1, k2, hfl, hp]; have := h.p0; omega
        · show 0 ≤ (s.fill [c]).jud.1.pos - ((s.fill [c]).jud.1.fd.length : Int); rw [k1, k2, hfl, hp]; have := h.p0; omega
        · show (s.fill [c]).jud.1.pos - ((s.fill [c]).jud.1.fd.length : Int) ≤ (s.fill [c]).jud.1.pos; omega
        · show (s.fill [c]).jud.1.pos ≤ _; rw [k2, hp]; omega
theorem run_inw (l : List Int) : ∀ s : FS, Bys l → s.Inw → (s.run l).1.Inw ∧ (s.run l).1.pos ≤ s.pos + l.length := by
  induction l with
  | nil => intro s _ h; exact ⟨h, by simp [FS.run]⟩
  | cons c l ih =>
    intro s hb h
    obtain ⟨h1, h2⟩ := byte_inw s c (hb c List.mem_cons_self) h
    obtain ⟨h3, h4⟩ := ih _ hb.tail h1
    refine ⟨h3, ?_⟩
    show ((s.byte c).1.run l).1.pos ≤ _
    simp only [List.length_cons]
    omega
theorem init_inw : FS.init.Inw := ⟨init_okay, fun _ => by decide, by decide, by decide, by decide⟩
/-- The state beside the second feed's pieces. -/
structure PcInv (w W1 W : World) (gg N1 : Nat) (raw : List Int) (s : FS) (vG : Value) (l : List Int) (A : Option Addr) (c : Nat) (v9 : Value) (parts : List (List Int)) : Prop where
  below : Below w.heap.size w W
  kept : Kept W1 W (fun k => k = gg)
  feed : FeedAt W w.heap.size gg s vG
  vg : vG.ownBlock = none ∨ ∃ b, vG.ownBlock = some b ∧ N1 ≤ b
  prow : Kd.N (Kd.slice 5 (Kd.int .u8)) 30 W N1 (fun k => N1 ≤ k ∧ some k ≠ vG.ownBlock) v9 parts
  run1 : ((FS.init.run raw).1, (FS.init.run raw).2) = ((s.run l).1, parts ++ (s.run l).2)
  piece : Kd.F (Kd.int .u8) W (fun k => k < w.heap.size) A l.length l
  cap : l.length ≤ c
  bys : Bys l
  inv : s.Inw
  pos1 : s.pos + l.length ≤ 4611686018427387904
  cnt : parts.length + l.length ≤ 1048576
  n1 : N1 = W1.heap.size
  ggN : gg < N1
  wN : w.heap.size ≤ gg
section
variable {w W1 W W' W2 : World} {gg N1 c n : Nat} {raw l : List Int} {s : FS} {vG v9 v10 vc v' : Value} {A : Option Addr} {parts : List (List Int)}
theorem PcInv.put (I : PcInv w W1 W gg N1 raw s vG l A c v9 parts) (hn : n ≤ l.length) :
    Calls Try.prog 22 #[.pointer (some ⟨gg, 0, none⟩), .slice A n c] W fun e w' => PutPost W w.heap.size gg s (l.take n) vG e w' := by
  have htl : (l.take n).length = n := by simp; omega
  have hF := Kd.F_take (m := n) I.piece hn
  rw [htl] at hF
  have hp := I.inv.p0
  have hwW := I.below.size
  have h1 := I.kept.1
  have h2 := I.n1
  have := put_calls s gg w.heap.size vG (l.take n) A c (fun k => k < w.heap.size) W I.feed I.inv.okay I.inv.short (by rw [htl]; exact hF) (by have := I.cap; omega)
    (fun k hk => ⟨by have := I.wN; omega, by
      rcases I.vg with e | ⟨b, e, hb⟩
      · rw [e]; simp
      · rw [e]; intro x; injection x with x; have := I.wN; have := I.ggN; omega, by omega⟩) (I.bys.take n) (by omega) (by have := I.pos1; rw [htl]; omega) (by have := I.cnt; omega)
  rw [htl] at this
  exact this
/-- What an append of the answer's cells asks. -/
theorem PcInv.pre {Ac : Option Addr} {cc : Nat} {cells : List (List Int)} (I : PcInv w W1 W gg N1 raw s vG l A c v9 parts) (hm : Moved W W' w.heap.size gg vG v') (hf : FeedAt W' w.heap.size gg (s.run (l.take n)).1 v')
    (hS : Kd.S (Kd.slice 5 (Kd.int .u8)) 30 W' W.heap.size (fun k => some k ≠ v'.ownBlock) (.slice Ac cells.length cc) cells) :
    Kd.N (Kd.slice 5 (Kd.int .u8)) 30 W' N1 (fun k => N1 ≤ k ∧ some k ≠ v'.ownBlock) v9 parts ∧ Kd.F (Kd.slice 5 (Kd.int .u8)) W' (fun k => some k ≠ v'.ownBlock ∧ W.heap.size ≤ k) Ac cells.length cells ∧
      (∀ k, (some k ≠ v'.ownBlock ∧ W.heap.size ≤ k) → (N1 ≤ k ∧ some k ≠ v'.ownBlock) ∧ some k ≠ v9.ownBlock) ∧ (∀ k, W'.heap.size ≤ k → N1 ≤ k ∧ some k ≠ v'.ownBlock) ∧ N1 ≤ W'.heap.size := by
  have h1 := I.kept.1
  have h2 := I.n1
  have h3 := hm.1.size
  have hv' : ∀ k, v'.ownBlock = some k → k < W'.heap.size := Kd.R_lt hf.2.2.2
  have h9 : ∀ k, v9.ownBlock = some k → k < W.heap.size := Kd.N_lt I.prow
  refine ⟨?_, Kd.F_mono (Kd.S_F (Kd.S_bound hS)) (fun k hk => ⟨hk.1, hk.2.1⟩), fun k hk => ⟨⟨by omega, hk.1⟩, fun e => by have := h9 k e.symm; omega⟩, fun k hk => ⟨by omega, fun e => by have := hv' k e.symm; omega⟩, by omega⟩
  refine Kd.N_mono (Kd.N_kept (Kd.N_bound I.prow) hm.2.1 ?_) ?_
  · rintro k ⟨⟨hk, hv⟩, hlt⟩ (e | e)
    · have := I.ggN; omega
    · exact hv e
  · rintro k ⟨⟨hk, hv⟩, hlt⟩
    refine ⟨hk, ?_⟩
    rcases hm.2.2 with e | ⟨b, e, hb⟩
    · rw [e]; exact hv
    · rw [e]; intro x; injection x with x; omega
/-- Behind the append. -/
theorem PcInv.next (I : PcInv w W1 W gg N1 raw s vG l A c v9 parts) (hn : n ≤ l.length) (hm : Moved W W' w.heap.size gg vG v') (hf : FeedAt W' w.heap.size gg (s.run (l.take n)).1 v')
    (hN : Kd.N (Kd.slice 5 (Kd.int .u8)) 30 W2 N1 (fun k => N1 ≤ k ∧ some k ≠ v'.ownBlock) v10 (parts ++ (s.run (l.take n)).2)) (hg : W'.grownBy W2 v9.ownBlock)
    (h9' : ∀ k, v9.ownBlock = some k → some k ≠ v'.ownBlock) :
    PcInv w W1 W2 gg N1 raw (s.run (l.take n)).1 v' (l.drop n) (if c = n then A else A.map (·.add (n * 1))) (c - n) v10 (parts ++ (s.run (l.take n)).2) := by
  have h1 := I.kept.1
  have h2 := I.n1
  have h3 := hm.1.size
  have hw := I.wN
  have hgN := I.ggN
  have h9 : ∀ k, v9.ownBlock = some k → N1 ≤ k := Kd.N_base I.prow
  have hne : some gg ≠ v9.ownBlock := fun e => by have := h9 gg e.symm; omega
  have htl : (l.take n).length = n := by simp; omega
  have hdl : (l.drop n).length = l.length - n := List.length_drop
  obtain ⟨hi, hp⟩ := run_inw (l.take n) s (I.bys.take n) I.inv
  have hc := FS.run_cnt (l.take n) s
  have hF : Kd.F (Kd.int .u8) W2 (fun k => k < w.heap.size) A l.length l := by
    have hF1 := Kd.F_kept I.piece hm.2.1 (fun k hk => by
      rintro (e | e)
      · omega
      · rcases I.vg with e2 | ⟨b, e2, hb⟩
        · rw [e2] at e; simp at e
        · rw [e2] at e; injection e with e; omega)
    exact Kd.F_grown hF1 hg (fun k hk e => by have := h9 k e.symm; omega)
  refine { below := ?_, kept := ?_, feed := ⟨blk_grown hf.1 hg hne, hf.2.1, Nat.le_trans hf.2.2.1 hg.size, ?_⟩, vg := ?_, prow := hN, run1 := ?_, piece := Kd.F_cut (m := n) (c := c) hF hn I.cap, cap := by have := I.cap; omega, bys := I.bys.drop n, inv := hi, pos1 := ?_, cnt := ?_, n1 := h2, ggN := hgN, wN := hw }
  · exact (I.below.trans hm.1).grown hg (by have := I.below.size; omega) (fun k hk => by have := h9 k hk; omega)
  · refine Kept.of_grown hg (I.kept.then_ hm.2.1 ?_) (fun k hk => .inr (by have := h9 k hk; omega))
    rintro k (e | e)
    · exact .inl e
    · rcases I.vg with e2 | ⟨b, e2, hb⟩
      · rw [e2] at e; simp at e
      · rw [e2] at e; injection e with e; exact .inr (by omega)
  · exact Kd.R_mono (Kd.R_grown (ok := fun k => k ≠ gg ∧ some k = v'.ownBlock) (Kd.R_mono (Kd.R_tight rfl hf.2.2.2) (fun k hk => ⟨fun e => hf.ne (e ▸ hk), hk⟩)) hg (fun k hk e => h9' k e.symm hk.2)) (fun k hk => hk.1)
  · rcases hm.2.2 with e | ⟨b, e, hb⟩
    · rw [e]; exact I.vg
    · exact .inr ⟨b, e, by omega⟩
  · have hr := FS.run_append (l.take n) (l.drop n) s
    rw [List.take_append_drop] at hr
    rw [I.run1, hr]
    simp
  · have := I.pos1; rw [htl] at hp; rw [hdl]; omega
  · have := I.cnt; rw [htl] at hc; simp only [List.length_append]; omega
end
attribute [local go_sem] max2_int min2_int max_two min_two max_three min_three max_four min_four
theorem FeedAt.kept {w4 W : World} {base g gg : Nat} {s : FS} {v : Value} (h : FeedAt w4 base g s v) (k : Kept w4 W (fun k => k = gg)) (hne : g ≠ gg) (hv : some gg ≠ v.ownBlock) : FeedAt W base g s v :=
  ⟨blk_kept h.1 k hne, h.2.1, Nat.le_trans h.2.2.1 k.1, Kd.R_mono (Kd.R_kept (ok := fun k => k ≠ g ∧ some k = v.ownBlock) (Kd.R_mono (Kd.R_tight rfl h.2.2.2) (fun k hk => ⟨fun e => h.ne (e ▸ hk), hk⟩)) k (fun k hk e => hv (by rw [← e]; exact hk.2))) (fun k hk => hk.1)⟩
/-- What the first feed's Put leaves. -/
structure PcTop (w w4 : World) (gf gg : Nat) (l0 : List Int) (vF : Value) (Ac : Option Addr) (cc : Nat) : Prop where
  feed : FeedAt w4 w.heap.size gf (FS.init.run l0).1 vF
  gfg : gf ≠ gg
  gv : some gg ≠ vF.ownBlock
  whole : Kd.F (Kd.slice 5 (Kd.int .u8)) w4 (fun k => k ≠ gg ∧ k < w4.heap.size) Ac (FS.init.run l0).2.length (FS.init.run l0).2
  wcap : (FS.init.run l0).2.length ≤ cc
theorem pc_start {w w1 w3 w4 : World} {gf gg c0 : Nat} {l0 : List Int} {A0 : Option Addr} {vc vF : Value} (hr0 : Kd.C (Kd.int .u8) w A0 l0.length l0) (hc0 : l0.length ≤ c0) (hy : Bys l0) (hbig : l0.length ≤ 1048576) (hB : Below w.heap.size w w3)
    (hF : FeedAt w3 w.heap.size gf FS.init (.slice none 0 0)) (hG : FeedAt w3 w1.heap.size gg FS.init (.slice none 0 0)) (hne : gf < gg) (hw1 : w.heap.size ≤ w1.heap.size)
    (hf : FeedAt w4 w.heap.size gf (FS.init.run l0).1 vF) (hm : Moved w3 w4 w.heap.size gf (.slice none 0 0) vF) (hS : Kd.S (Kd.slice 5 (Kd.int .u8)) 30 w4 w3.heap.size (fun k => some k ≠ vF.ownBlock) vc (FS.init.run l0).2) :
    ∃ Ac cc, vc = .slice Ac (FS.init.run l0).2.length cc ∧ PcTop w w4 gf gg l0 vF Ac cc ∧ PcInv w w4 w4 gg w4.heap.size l0 FS.init (.slice none 0 0) l0 A0 c0 (.slice none 0 0) [] := by
  obtain ⟨Ac, cc, rfl⟩ := Kd.S_slice hS
  have hg4 : w4.heap[gg]? = some (.cells (FS.init.cells (.slice none 0 0)) 76 (0, 0)) := blk_kept hG.1 hm.2.1 (by rintro (e | e); omega; simp [Value.ownBlock] at e)
  have hgl := hG.lt
  have h34 := hm.1.size
  have hgg := hG.2.1
  refine ⟨Ac, cc, rfl, { feed := hf, gfg := by omega, gv := Kd.R_ne hf.2.2.2 hg4 (by decide), whole := ?_, wcap := ?_ }, { below := hB.trans hm.1, kept := Kept.refl _ _, feed := ⟨hg4, by omega, hf.2.2.1, Kd.R_nil _ _ _ _ _⟩, vg := .inl rfl, prow := Kd.N_nil _ _ _ _ _, run1 := by simp, piece := ?_, cap := hc0, bys := hy, inv := init_inw, pos1 := ?_, cnt := by simpa using hbig, n1 := rfl, ggN := by omega, wN := by omega }⟩
  · exact Kd.F_mono (Kd.S_F (Kd.S_bound hS)) (fun k hk => ⟨by have := hk.2.1; omega, hk.2.2.1⟩)
  · have := (Kd.R_reads' (Kd.S_R hS)).2.1; exact this
  · have h := Kd.C_F (Kd.heap_int _) hr0
    exact Kd.F_step h (fun k hk _ => (hB.trans hm.1).block k hk)
  · show (0 : Int) + _ ≤ _; omega
theorem rdF_parts {l : List Int} {pe ee hR hE hL : Int} {hO : Bool} (h : (FS.init.run l).1.fend = (pe, ee)) (hh : (FS.init.run l).1.fhead = (hR, hE, hL, hO)) :
    ∃ a b c d, rdF l = (a, b, c, d, pe, ee) ∧ (ee = 0 → a = hR ∧ b = hE ∧ c = hL ∧ d = (FS.init.run l).2 ∧ hO = true) := by
  have hf := rdF_fend l
  obtain ⟨a, b, c, d, p, e, hx⟩ : ∃ a b c d p e, rdF l = (a, b, c, d, p, e) := ⟨_, _, _, _, _, _, rfl⟩
  rw [hx, h] at hf
  injection hf with h1 h2
  have h1 : p = pe := h1
  have h2 : e = ee := h2
  subst h1
  subst h2
  refine ⟨a, b, c, d, hx, fun h0 => ?_⟩
  subst h0
  have he : (FS.init.run l).1.er = 0 := by
    by_cases he : (FS.init.run l).1.er = 0
    · exact he
    · unfold FS.fend at h
      rw [if_pos he] at h
      injection h
  have hs : ¬ (FS.init.run l).1.st < 9 := fun hs => by
    unfold FS.fend at h
    rw [if_neg (by omega), if_pos hs] at h
    injection h with _ h
    omega
  unfold FS.fhead at hh
  rw [if_neg (by omega)] at hh
  unfold rdF at hx
  simp only [] at hx
  rw [if_pos he, if_pos (by rw [h])] at hx
  injection hx with x1 hx
  injection hx with x2 hx
  injection hx with x3 hx
  injection hx with x4 hx
  injection hh with y1 hh
  injection hh with y2 hh
  injection hh with y3 y4
  exact ⟨by rw [← x1, y1], by rw [← x2, y2], by rw [← x3, y3], x4.symm, y4.symm⟩
/-- What stands when all pieces are fed. -/
structure PcEnd (w w4 W : World) (gf gg : Nat) (S : FS) (cells : List (List Int)) (vF vG : Value) (Ac : Option Addr) (cc : Nat) (Ap : Option Addr) (cp : Nat) : Prop where
  below : Below w.heap.size w W
  ff : FeedAt W w.heap.size gf S vF
  fg : FeedAt W w.heap.size gg S vG
  gfg : gf ≠ gg
  gv : some gg ≠ vF.ownBlock
  inw : S.Inw
  pos1 : S.pos ≤ 4611686018427387904
  whole : Kd.F (Kd.slice 5 (Kd.int .u8)) W (fun k => k ≠ gg ∧ k < w4.heap.size) Ac cells.length cells
  wcap : cells.length ≤ cc
  parts : Kd.C (Kd.slice 5 (Kd.int .u8)) W Ap cells.length cells
  pcap : cells.length ≤ cp
  cnt : cells.length ≤ 140737488355328
  vg : vG.ownBlock = none ∨ ∃ b, vG.ownBlock = some b ∧ w4.heap.size ≤ b
  wN : w.heap.size ≤ gf
  wle : w4.heap.size ≤ W.heap.size
theorem PcEnd.whole' {w w4 W : World} {gf gg : Nat} {S : FS} {cells : List (List Int)} {vF vG : Value} {Ac : Option Addr} {cc : Nat} {Ap : Option Addr} {cp : Nat} (h : PcEnd w w4 W gf gg S cells vF vG Ac cc Ap cp) : Kd.C (Kd.slice 5 (Kd.int .u8)) W Ac cells.length cells := Kd.F_now h.whole
theorem pc_end {w w4 W : World} {gf gg c : Nat} {l0 l : List Int} {vF v' v10 : Value} {Ac A : Option Addr} {cc : Nat} {parts : List (List Int)} (hT : PcTop w w4 gf gg l0 vF Ac cc) {S' : FS} (hI : PcInv w w4 W gg w4.heap.size l0 S' v' l A c v10 parts)
    (hE : S' = (FS.init.run l0).1) (hP : parts = (FS.init.run l0).2) : ∃ Ap cp, v10 = .slice Ap (FS.init.run l0).2.length cp ∧ PcEnd w w4 W gf gg (FS.init.run l0).1 (FS.init.run l0).2 vF v' Ac cc Ap cp := by
  subst hE
  subst hP
  obtain ⟨Ap, cp, rfl, hc, hC⟩ := Kd.N_reads hI.prow
  refine ⟨Ap, cp, rfl, { below := hI.below, ff := hT.feed.kept hI.kept hT.gfg hT.gv, fg := hI.feed, gfg := hT.gfg, gv := hT.gv, inw := hI.inv, pos1 := ?_, whole := Kd.F_kept hT.whole hI.kept (fun k hk => hk.1), wcap := hT.wcap, parts := hC, pcap := hc, cnt := ?_, vg := hI.vg, wN := hT.feed.2.1, wle := hI.kept.1 }⟩
  · have := hI.pos1; omega
  · have := hI.cnt; omega
/-- Nothing fed: the error stands, and only g's own blocks may turn. -/
theorem put_none {w w4 W2 W : World} {gf gg : Nat} {S : FS} {cells : List (List Int)} {vF vG : Value} {Ac : Option Addr} {cc : Nat} {Ap : Option Addr} {cp : Nat} (h : PcEnd w w4 W2 gf gg S cells vF vG Ac cc Ap cp) (hb : Below W2.heap.size W2 W) :
    Calls Try.prog 22 #[.pointer (some ⟨gg, 0, none⟩), .slice none 0 0] W fun e w' => ∃ (Aa : Option Addr) (ca : Nat), e = .returned (.tuple #[.slice Aa 0 ca, .int .i64 S.er]) ∧ Below w.heap.size w w' ∧
      Kept W w' (fun k => k < W2.heap.size) ∧ Kd.C (Kd.slice 5 (Kd.int .u8)) w' Ac cells.length cells := by
  have hp := put_calls S gg w.heap.size vG [] none 0 (fun _ => False) W (h.fg.below hb) h.inw.okay h.inw.short (Kd.F_nil _ _ _) (Nat.le_refl _) (fun k hk => hk.elim) (fun x hx => by simp at hx) (by have := h.inw.p0; omega) (by have := h.pos1; simpa using this) (by simp)
  refine Calls.mono hp ?_
  rintro e w' ⟨vc, v', rfl, hf, hm, hS⟩
  obtain ⟨Aa, ca, rfl⟩ := Kd.S_slice hS
  have hgl := h.fg.lt
  have hvl : ∀ k, vG.ownBlock = some k → k < W2.heap.size := Kd.R_lt h.fg.2.2.2
  refine ⟨Aa, ca, rfl, (below_then h.below h.below.size hb).trans hm.1, ⟨hm.2.1.1, fun k hk hs => hm.2.1.2 k hk ?_⟩, Kd.F_now (Kd.F_kept (Kd.F_below h.whole hb) hm.2.1 ?_)⟩
  · rintro (e | e)
    · exact hs (by omega)
    · exact hs (hvl k e.symm)
  · rintro k ⟨hk, hlt⟩ (e | e)
    · exact hk e
    · rcases h.vg with e2 | ⟨b, e2, hb2⟩
      · rw [e2] at e; simp at e
      · rw [e2] at e; injection e with e; omega
set_option maxHeartbeats 2000000 in
set_option maxRecDepth 100000 in
theorem pieces_calls (A0 : Option Addr) (c0 : Nat) (l0 : List Int) (A1 : Option Addr) (c1 : Nat) (l1 : List Int) (w : World) (hr0 : Kd.C (Kd.int .u8) w A0 l0.length l0) (hc0 : l0.length ≤ c0) (hr1 : Kd.C (Kd.int .u16) w A1 l1.length l1) (hc1 : l1.length ≤ c1) (hy : Bys l0) (hy1 : ∀ x ∈ l1, 0 ≤ x ∧ x ≤ 65535) :
    Calls Try.prog 8 #[.slice A0 l0.length c0, .slice A1 l1.length c1] w fun e w' => e = .returned (.bool true) ∧ Below w.heap.size w w' := by
  have hu23 := Try.underlying23
  have hu76 := Try.underlying76
  have hnil := fun (g : Nat) (W : World) => run_eql_pointer_nil (P := Try.prog) W 46 (some ⟨g, 0, none⟩) (by kernel_rfl)
  simp only [Option.isNone] at hnil
  have HR0 := Aside0.mk hr0
  have HC0 := Aside0.mk hc0
  have HR1 := Aside0.mk hr1
  have HC1 := Aside0.mk hc1
  have HY := Aside0.mk hy
  have HY1 := Aside0.mk hy1
  clear hr0 hc0 hr1 hc1 hy hy1
  go_enter Try.func8, Try.ntmps8
  go_wp2_with (fail)
  refine (new_calls _).mono ?_
  rintro e w1 ⟨gf, rfl, hf1, hb1⟩
  have HB1 := Aside0.mk hb1
  have W01 := Aside0.mk hb1.size
  have HF1 := Aside0.mk hf1
  clear hf1 hb1
  go_wp2_with (fail)
  refine (new_calls _).mono ?_
  rintro e w2 ⟨gg, rfl, hg2, hb2⟩
  have HF2 := Aside0.mk (HF1.out.below hb2)
  have HG2 := Aside0.mk hg2
  have HB2 := Aside0.mk (below_then HB1.out HB1.out.size hb2)
  have NE := Aside0.mk (show gf < gg by have := HF1.out.lt; have := hg2.2.1; omega)
  clear hg2 hb2 HF1 HB1
  go_wp2_with (fail)
  refine (churnlaw06_awake.calls 100 true w2 rfl awake_then).mono ?_
  rintro e w3 ⟨rfl, hb3⟩
  have HF3 := Aside0.mk (HF2.out.below hb3)
  have HG3 := Aside0.mk (HG2.out.below hb3)
  have HB3 := Aside0.mk (below_then HB2.out HB2.out.size hb3)
  have W12 := Aside0.mk (show w1.heap.size ≤ w3.heap.size by have := HG2.out.2.2.1; have := hb3.size; omega)
  clear hb3 HF2 HG2 HB2
  by_cases hbig : l0.length > 1048576
  · have t1 : decide ((l0.length : Int) > 1048576) = true := decide_eq_true (by omega)
    have t2 : decide (1048576 < (l0.length : Int)) = true := decide_eq_true (by omega)
    have t3 : decide (1048576 < l0.length) = true := decide_eq_true hbig
    clear hbig
    go_wp2_with (fail)
    go_ret
    exact ⟨rfl, HB3.out⟩
  have t1 : decide ((l0.length : Int) > 1048576) = false := decide_eq_false (by omega)
  have t2 : decide (1048576 < (l0.length : Int)) = false := decide_eq_false (by omega)
  have t3 : decide (1048576 < l0.length) = false := decide_eq_false hbig
  have HBIG := Aside0.mk hbig
  clear hbig
  by_cases hcut : l1.length > 4096
  · have t4 : decide ((l1.length : Int) > 4096) = true := decide_eq_true (by omega)
    have t5 : decide (4096 < (l1.length : Int)) = true := decide_eq_true (by omega)
    have t6 : decide (4096 < l1.length) = true := decide_eq_true hcut
    clear hcut
    go_wp2_with (fail)
    go_ret
    exact ⟨rfl, HB3.out⟩
  have t4 : decide ((l1.length : Int) > 4096) = false := decide_eq_false (by omega)
  have t5 : decide (4096 < (l1.length : Int)) = false := decide_eq_false (by omega)
  have t6 : decide (4096 < l1.length) = false := decide_eq_false hcut
  have HCUT := Aside0.mk hcut
  clear hcut
  go_wp2_with (fail)
  refine (put_calls FS.init gf w.heap.size (.slice none 0 0) l0 A0 c0 (fun k => k < w.heap.size) w3 HF3.out init_okay (fun _ => by decide) (Kd.F_step (Kd.C_F (Kd.heap_int _) HR0.out) (fun k hk _ => HB3.out.block k hk)) HC0.out (fun k hk => ⟨by have := HF3.out.2.1; omega, by simp [Value.ownBlock], by have := HB3.out.size; omega⟩) HY.out (by decide) (by have := HBIG.out; show (0 : Int) + _ ≤ _; omega) (by have := HBIG.out; omega)).mono ?_
  rintro e w4 ⟨vc, vF, rfl, hf4, hm4, hS4⟩
  obtain ⟨Ac, cc, rfl, hT, hI⟩ := pc_start (w1 := w1) (c0 := c0) HR0.out HC0.out HY.out (by have := HBIG.out; omega) HB3.out HF3.out HG3.out NE.out W01.out hf4 hm4 hS4
  have HT := Aside0.mk hT
  have HI := Aside0.mk hI
  obtain ⟨erF, herF⟩ : ∃ erF, (FS.init.run l0).1.er = erF := ⟨_, rfl⟩
  rw [herF]
  have HERF := Aside0.mk herF
  clear hT hI hf4 hm4 hS4 herF HF3 HG3 HB3 W12
  go_wp2_with (fail)
  go_loopg [9, 10, 60] l1.length (fun gq v9 v10 v60 wr => ∃ (i : Nat) (s : FS) (vG : Value) (l : List Int) (A : Option Addr) (c m : Nat) (parts : List (List Int)), v60 = .int .i64 i ∧ v10 = .slice A m c ∧ Aside0 (m = l.length) ∧ Aside0 (i ≤ l1.length) ∧ Aside0 (l1.length - i ≤ gq) ∧ Aside0 (PcInv w w4 wr gg w4.heap.size l0 s vG l A c v9 parts))
  case atStart => exact ⟨0, _, _, l0, A0, c0, l0.length, _, rfl, rfl, ⟨rfl⟩, ⟨Nat.zero_le _⟩, ⟨by omega⟩, HI⟩
  case round =>
    clear HI
    obtain ⟨i, s, vG, l, A, c, m, parts, rfl, rfl, HM, HIL, HG, I⟩ := hrel
    by_cases hlt : i < l1.length
    · have c1 : decide ((i : Int) < (l1.length : Int)) = true := decide_eq_true (by omega)
      have c2 : (0 : Int) ≤ (i : Int) := Int.natCast_nonneg i
      have c3 : (i : Int) < (l1.length : Int) := by omega
      obtain ⟨ad, rfl, hcell⟩ := Kd.at_int (Kd.C_below HR1.out I.out.below) (i : Int) c2 c3
      simp only [Int.toNat_natCast] at hcell
      have hx : 0 ≤ rd l1 (i : Int) ∧ rd l1 (i : Int) ≤ 65535 := HY1.out _ (rd_mem l1 _ (by simpa using hlt))
      obtain ⟨x, hx'⟩ : ∃ x, rd l1 (i : Int) = x := ⟨_, rfl⟩
      rw [hx'] at hcell hx
      clear hx'
      have x0 := hx.1
      have x1 := hx.2
      obtain ⟨i5, hi05, -, hsz5, -⟩ := info_parts info5
      have HLT := Aside0.mk hlt
      clear hlt hx
      have i1 : (i : Int) + 1 ≤ 4097 := by have := HCUT.out; have := HLT.out; omega
      obtain ⟨xn, rfl⟩ := Int.eq_ofNat_of_zero_le x0
      by_cases hmin : xn < m
      · have d1 : decide ((xn : Int) < (m : Int)) = true := decide_eq_true (by omega)
        have d2 : decide ((m : Int) < (xn : Int)) = false := decide_eq_false (by omega)
        have d3 : decide ((xn : Int) ≤ (m : Int)) = true := decide_eq_true (by omega)
        have d4 : decide ((m : Int) ≤ (xn : Int)) = false := decide_eq_false (by omega)
        have d5 : decide (xn < m) = true := decide_eq_true (by omega)
        have d6 : decide (m < xn) = false := decide_eq_false (by omega)
        have d7 : decide (xn ≤ m) = true := decide_eq_true (by omega)
        have d8 : decide (m ≤ xn) = false := decide_eq_false (by omega)
        have hnl : xn ≤ l.length := by have := HM.out; omega
        have n0 : (0 : Int) ≤ (xn : Int) := Int.natCast_nonneg _
        have n1 : (xn : Int) ≤ (m : Int) := by omega
        clear hmin
        have hcut := cut_to (P := Try.prog) 30 5 .i64 Try.underlying30 hi05 A m c (xn : Int) n0 n1 (by rw [HM.out]; exact I.out.cap)
        have hcut2 := cut_from (P := Try.prog) 30 5 .i64 Try.underlying30 hi05 1 hsz5 A m c (xn : Int) n0 n1
        simp only [Int.toNat_natCast] at hcut hcut2
        obtain ⟨A2, hA2⟩ : ∃ A2, A2 = (if c = xn then A else A.map (·.add (xn * 1))) := ⟨_, rfl⟩
        rw [← hA2] at hcut2
        have HA2 := Aside0.mk hA2
        clear hA2
        go_wp2_with (first | (go_at_call 22; (with_reducible refine (I.out.put hnl).mono ?_); rintro e W' ⟨vq, v', rfl, hf', hm', hS'⟩; obtain ⟨Aq, cq, rfl⟩ := Kd.S_slice hS'; have PRE := Aside0.mk (I.out.pre hm' hf' hS'); have HF' := Aside0.mk hf'; have HM' := Aside0.mk hm'; clear hf' hm' hS') | ((with_reducible refine gate_builtin (b := .append) (xs := #[.tmp 77, .tmp 78]) rfl ?_); at_builtin; refine Kd.N_append_rows (Kd.slice 5 (Kd.int .u8)) (w0 := W') w4.heap.size rfl (.tmp 77) (.tmp 78) 24 30 (.slice none 0 0) 24 rfl Try.underlying24 info30 rfl (by decide) (by omega) u9 parts (s.run (l.take xn)).2 Aq (s.run (l.take xn)).2.length cq (fun k => w4.heap.size ≤ k ∧ some k ≠ v'.ownBlock) (fun k => some k ≠ v'.ownBlock ∧ wr.heap.size ≤ k) rfl rfl PRE.out.1 PRE.out.2.1 PRE.out.2.2.1 PRE.out.2.2.2.1 (Below.refl _ _) PRE.out.2.2.2.2 ?aL ?_; (case aL => have h1 := I.out.cnt; have h2 := FS.run_cnt (l.take xn) s; have h3 : (l.take xn).length ≤ l.length := (by rw [List.length_take]; omega); omega); intro v10 W2 hN2 hb2 hg2 hat2; have IN := Aside0.mk (I.out.next hnl HM'.out HF'.out hN2 hg2 (fun k hk => (PRE.out.1.1 k hk).2)); clear hN2 hb2 hg2 hat2))
        go_roundg (l1.length - (i + 1))
        case measure => have := HG.out; have := HLT.out; omega
        case rel =>
          refine ⟨i + 1, (s.run (l.take xn)).1, v', l.drop xn, A2, c - xn, m - xn, parts ++ (s.run (l.take xn)).2, by go_num, by simp, ⟨by rw [List.length_drop, HM.out]⟩, ⟨by have := HLT.out; omega⟩, ⟨by omega⟩, ⟨?_⟩⟩
          rw [HA2.out]
          exact IN.out
      by_cases hmax : m < xn
      · have d1 : decide ((xn : Int) < (m : Int)) = false := decide_eq_false (by omega)
        have d2 : decide ((m : Int) < (xn : Int)) = true := decide_eq_true (by omega)
        have d3 : decide ((xn : Int) ≤ (m : Int)) = false := decide_eq_false (by omega)
        have d4 : decide ((m : Int) ≤ (xn : Int)) = true := decide_eq_true (by omega)
        have d5 : decide (xn < m) = false := decide_eq_false (by omega)
        have d6 : decide (m < xn) = true := decide_eq_true (by omega)
        have d7 : decide (xn ≤ m) = false := decide_eq_false (by omega)
        have d8 : decide (m ≤ xn) = true := decide_eq_true (by omega)
        have hmc : m ≤ c := by rw [HM.out]; exact I.out.cap
        have hnl : m ≤ l.length := by have := HM.out; omega
        have n0 : (0 : Int) ≤ (m : Int) := Int.natCast_nonneg _
        have n1 : (m : Int) ≤ (m : Int) := by omega
        have hcut := cut_to (P := Try.prog) 30 5 .i64 Try.underlying30 hi05 A m c (m : Int) n0 n1 (by rw [HM.out]; exact I.out.cap)
        have hcut2 := cut_from (P := Try.prog) 30 5 .i64 Try.underlying30 hi05 1 hsz5 A m c (m : Int) n0 n1
        simp only [Int.toNat_natCast] at hcut hcut2
        obtain ⟨A2, hA2⟩ : ∃ A2, A2 = (if c = m then A else A.map (·.add (m * 1))) := ⟨_, rfl⟩
        rw [← hA2] at hcut2
        have HA2 := Aside0.mk hA2
        clear hA2
        go_wp2_with (first | (go_at_call 22; (with_reducible refine (I.out.put hnl).mono ?_); rintro e W' ⟨vq, v', rfl, hf', hm', hS'⟩; obtain ⟨Aq, cq, rfl⟩ := Kd.S_slice hS'; have PRE := Aside0.mk (I.out.pre hm' hf' hS'); have HF' := Aside0.mk hf'; have HM' := Aside0.mk hm'; clear hf' hm' hS') | ((with_reducible refine gate_builtin (b := .append) (xs := #[.tmp 77, .tmp 78]) rfl ?_); at_builtin; refine Kd.N_append_rows (Kd.slice 5 (Kd.int .u8)) (w0 := W') w4.heap.size rfl (.tmp 77) (.tmp 78) 24 30 (.slice none 0 0) 24 rfl Try.underlying24 info30 rfl (by decide) (by omega) u9 parts (s.run (l.take m)).2 Aq (s.run (l.take m)).2.length cq (fun k => w4.heap.size ≤ k ∧ some k ≠ v'.ownBlock) (fun k => some k ≠ v'.ownBlock ∧ wr.heap.size ≤ k) rfl rfl PRE.out.1 PRE.out.2.1 PRE.out.2.2.1 PRE.out.2.2.2.1 (Below.refl _ _) PRE.out.2.2.2.2 ?aL ?_; (case aL => have h1 := I.out.cnt; have h2 := FS.run_cnt (l.take m) s; have h3 : (l.take m).length ≤ l.length := (by rw [List.length_take]; omega); omega); intro v10 W2 hN2 hb2 hg2 hat2; have IN := Aside0.mk (I.out.next hnl HM'.out HF'.out hN2 hg2 (fun k hk => (PRE.out.1.1 k hk).2)); clear hN2 hb2 hg2 hat2))
        go_roundg (l1.length - (i + 1))
        case measure => have := HG.out; have := HLT.out; omega
        case rel =>
          refine ⟨i + 1, (s.run (l.take m)).1, v', l.drop m, A2, c - m, m - m, parts ++ (s.run (l.take m)).2, by go_num, by simp, ⟨by rw [List.length_drop, HM.out]⟩, ⟨by have := HLT.out; omega⟩, ⟨by omega⟩, ⟨?_⟩⟩
          rw [HA2.out]
          exact IN.out
      · obtain rfl : xn = m := by omega
        have hmc : xn ≤ c := by rw [HM.out]; exact I.out.cap
        have hnl : xn ≤ l.length := by have := HM.out; omega
        have n0 : (0 : Int) ≤ (xn : Int) := Int.natCast_nonneg _
        have n1 : (xn : Int) ≤ (xn : Int) := by omega
        have hcut := cut_to (P := Try.prog) 30 5 .i64 Try.underlying30 hi05 A xn c (xn : Int) n0 n1 (by rw [HM.out]; exact I.out.cap)
        have hcut2 := cut_from (P := Try.prog) 30 5 .i64 Try.underlying30 hi05 1 hsz5 A xn c (xn : Int) n0 n1
        simp only [Int.toNat_natCast] at hcut hcut2
        obtain ⟨A2, hA2⟩ : ∃ A2, A2 = (if c = xn then A else A.map (·.add (xn * 1))) := ⟨_, rfl⟩
        rw [← hA2] at hcut2
        have HA2 := Aside0.mk hA2
        clear hA2
        go_wp2_with (first | (go_at_call 22; (with_reducible refine (I.out.put hnl).mono ?_); rintro e W' ⟨vq, v', rfl, hf', hm', hS'⟩; obtain ⟨Aq, cq, rfl⟩ := Kd.S_slice hS'; have PRE := Aside0.mk (I.out.pre hm' hf' hS'); have HF' := Aside0.mk hf'; have HM' := Aside0.mk hm'; clear hf' hm' hS') | ((with_reducible refine gate_builtin (b := .append) (xs := #[.tmp 77, .tmp 78]) rfl ?_); at_builtin; refine Kd.N_append_rows (Kd.slice 5 (Kd.int .u8)) (w0 := W') w4.heap.size rfl (.tmp 77) (.tmp 78) 24 30 (.slice none 0 0) 24 rfl Try.underlying24 info30 rfl (by decide) (by omega) u9 parts (s.run (l.take xn)).2 Aq (s.run (l.take xn)).2.length cq (fun k => w4.heap.size ≤ k ∧ some k ≠ v'.ownBlock) (fun k => some k ≠ v'.ownBlock ∧ wr.heap.size ≤ k) rfl rfl PRE.out.1 PRE.out.2.1 PRE.out.2.2.1 PRE.out.2.2.2.1 (Below.refl _ _) PRE.out.2.2.2.2 ?aL ?_; (case aL => have h1 := I.out.cnt; have h2 := FS.run_cnt (l.take xn) s; have h3 : (l.take xn).length ≤ l.length := (by rw [List.length_take]; omega); omega); intro v10 W2 hN2 hb2 hg2 hat2; have IN := Aside0.mk (I.out.next hnl HM'.out HF'.out hN2 hg2 (fun k hk => (PRE.out.1.1 k hk).2)); clear hN2 hb2 hg2 hat2))
        go_roundg (l1.length - (i + 1))
        case measure => have := HG.out; have := HLT.out; omega
        case rel =>
          refine ⟨i + 1, (s.run (l.take xn)).1, v', l.drop xn, A2, c - xn, xn - xn, parts ++ (s.run (l.take xn)).2, by go_num, by simp, ⟨by rw [List.length_drop, HM.out]⟩, ⟨by have := HLT.out; omega⟩, ⟨by omega⟩, ⟨?_⟩⟩
          rw [HA2.out]
          exact IN.out
    · obtain rfl : i = l1.length := by have := HIL.out; omega
      have c1 : decide ((l1.length : Int) < (l1.length : Int)) = false := decide_eq_false (by omega)
      clear hlt
      go_wp2_with (fail)
      have hnl : m ≤ l.length := by have := HM.out; omega
      (with_reducible refine (I.out.put hnl).mono ?_)
      rintro e W' ⟨vq, v', rfl, hf', hm', hS'⟩
      obtain ⟨Aq, cq, rfl⟩ := Kd.S_slice hS'
      have PRE := Aside0.mk (I.out.pre hm' hf' hS')
      have HF' := Aside0.mk hf'
      have HM' := Aside0.mk hm'
      have htk : l.take m = l := by rw [HM.out, List.take_length]
      have HE := Aside0.mk (show (s.run (l.take m)).1 = (FS.init.run l0).1 by rw [htk]; exact (congrArg Prod.fst I.out.run1).symm)
      have HP := Aside0.mk (show parts ++ (s.run (l.take m)).2 = (FS.init.run l0).2 by rw [htk]; exact (congrArg Prod.snd I.out.run1).symm)
      have her : (s.run (l.take m)).1.er = erF := by rw [HE.out]; exact HERF.out
      rw [her]
      clear hf' hm' hS' htk her
      go_wp2_with (((with_reducible refine gate_builtin (b := .append) (xs := #[.tmp 90, .tmp 91]) rfl ?_); at_builtin; refine Kd.N_append_rows (Kd.slice 5 (Kd.int .u8)) (w0 := W') w4.heap.size rfl (.tmp 90) (.tmp 91) 24 30 (.slice none 0 0) 24 rfl Try.underlying24 info30 rfl (by decide) (by omega) u9 parts (s.run (l.take m)).2 Aq (s.run (l.take m)).2.length cq (fun k => w4.heap.size ≤ k ∧ some k ≠ v'.ownBlock) (fun k => some k ≠ v'.ownBlock ∧ wr.heap.size ≤ k) rfl rfl PRE.out.1 PRE.out.2.1 PRE.out.2.2.1 PRE.out.2.2.2.1 (Below.refl _ _) PRE.out.2.2.2.2 ?aL ?_; (case aL => have h1 := I.out.cnt; have h2 := FS.run_cnt (l.take m) s; have h3 : (l.take m).length ≤ l.length := (by rw [List.length_take]; omega); omega); intro v10 W2 hN2 hb2 hg2 hat2; have IN := Aside0.mk (I.out.next hnl HM'.out HF'.out hN2 hg2 (fun k hk => (PRE.out.1.1 k hk).2)); clear hN2 hb2 hg2 hat2))
      have hEX := pc_end HT.out IN.out HE.out HP.out
      clear IN PRE HF' HM' HE HP I HM HT
      obtain ⟨Ap, cp, rfl, hEX⟩ := hEX
      have EX := Aside0.mk hEX
      clear hEX
      (with_reducible refine (churnlaw06_sameCells.calls _ Ac cc _ Ap cp _ true _ EX.out.whole' EX.out.wcap EX.out.parts EX.out.pcap (sc_now _ EX.out.cnt).choose_spec).mono ?_)
      rintro e W3 ⟨rfl, ⟨q3, rfl⟩⟩
      obtain ⟨hR, hE, hL, hO, hh⟩ : ∃ a b c d, (FS.init.run l0).1.fhead = (a, b, c, d) := ⟨_, _, _, _, rfl⟩
      have HH := Aside0.mk hh
      clear hh
      go_wp2_with (fail)
      have hcf := header_calls _ _ _ _ _ (EX.out.ff.drewN q3)
      rw [HH.out] at hcf
      (with_reducible refine hcf.mono ?_)
      rintro e W4 ⟨rfl, hb4⟩
      have HB4 := Aside0.mk (below_step (pw_below_drewN (Below.refl W2.heap.size W2) q3) hb4)
      clear hcf hb4
      go_wp2_with (((with_reducible refine gate_dst (N := 18) rfl ?_); refine box_event ?hg (N := 18) ?hd (cs := #[.int .i64 0, .int .i64 0, .int .i64 0]) (t := 23) ?hr ?_; (case hd => rfl); (case hg => rfl); (case hr => first | (go_simp; done) | (go_simp; rfl)); intro gb5 hgb W5 hbox hb; have BX5 := Aside0.mk hbox; have GB5 := Aside0.mk (show W2.heap.size ≤ gb5 by have := HB4.out.size; omega); have HB5 := Aside0.mk (below_step HB4.out hb); have zb50 := (blk_cell hbox 0).trans rfl; have zb51 := (blk_cell hbox 1).trans rfl; have zb52 := (blk_cell hbox 2).trans rfl; have zf50 := blk_frozen hbox 0; have zf51 := blk_frozen hbox 1; have zf52 := blk_frozen hbox 2; skip; clear hgb hbox hb))
      obtain ⟨W6, hW6, hb6, bx6⟩ : ∃ W6, (((W5.setCell ⟨gb5, 0, none⟩ (Value.int IntKind.i64 hR)).setCell ⟨gb5, 1, none⟩ (Value.int IntKind.i64 hE)).setCell ⟨gb5, 2, none⟩ (Value.int IntKind.i64 hL)) = W6 ∧ Below W2.heap.size W2 W6 ∧ W6.heap[gb5]? = some (.cells #[.int .i64 hR, .int .i64 hE, .int .i64 hL] 23 (0, 0)) := by
        refine ⟨_, rfl, ?_, ?_⟩
        · repeat (first | (with_reducible exact HB5.out) | (with_reducible refine below_set ?_ GB5.out))
        · apply sethT; (repeat (first | (with_reducible exact BX5.out) | (with_reducible apply blk_set))); rfl
      rw [hW6]
      have HB6 := Aside0.mk hb6
      have BX6 := Aside0.mk bx6
      clear hW6 hb6 bx6 zb50 zb51 zb52 zf50 zf51 zf52 BX5 HB5 HB4
      have hcg := header_calls _ _ _ _ _ (EX.out.fg.below HB6.out)
      rw [HH.out] at hcg
      (with_reducible refine hcg.mono ?_)
      rintro e W7 ⟨rfl, hb7⟩
      have HB7 := Aside0.mk (below_step HB6.out hb7)
      have BX7 := Aside0.mk (blk_below BX6.out hb7)
      clear hcg hb7 HB6 BX6
      go_wp2_with (((with_reducible refine gate_dst (N := 20) rfl ?_); refine box_event ?hg (N := 20) ?hd (cs := #[.int .i64 0, .int .i64 0, .int .i64 0]) (t := 23) ?hr ?_; (case hd => rfl); (case hg => rfl); (case hr => first | (go_simp; done) | (go_simp; rfl)); intro gb8 hgb W8 hbox hb; have BX8 := Aside0.mk hbox; have GB8 := Aside0.mk (show W2.heap.size ≤ gb8 by have := HB7.out.size; omega); have HB8 := Aside0.mk (below_step HB7.out hb); have zb80 := (blk_cell hbox 0).trans rfl; have zb81 := (blk_cell hbox 1).trans rfl; have zb82 := (blk_cell hbox 2).trans rfl; have zf80 := blk_frozen hbox 0; have zf81 := blk_frozen hbox 1; have zf82 := blk_frozen hbox 2; have NB := Aside0.mk (show gb5 ≠ gb8 by have := blk_lt BX7.out; omega); have BY8 := Aside0.mk (blk_below BX7.out hb); clear hgb hbox hb))
      obtain ⟨W9, hW9, hb9, bx9, by9⟩ : ∃ W9, (((W8.setCell ⟨gb8, 0, none⟩ (Value.int IntKind.i64 hR)).setCell ⟨gb8, 1, none⟩ (Value.int IntKind.i64 hE)).setCell ⟨gb8, 2, none⟩ (Value.int IntKind.i64 hL)) = W9 ∧ Below W2.heap.size W2 W9 ∧ W9.heap[gb8]? = some (.cells #[.int .i64 hR, .int .i64 hE, .int .i64 hL] 23 (0, 0)) ∧ W9.heap[gb5]? = some (.cells #[.int .i64 hR, .int .i64 hE, .int .i64 hL] 23 (0, 0)) := by
        refine ⟨_, rfl, ?_, ?_, ?_⟩
        · repeat (first | (with_reducible exact HB8.out) | (with_reducible refine below_set ?_ GB8.out))
        · apply sethT; (repeat (first | (with_reducible exact BX8.out) | (with_reducible apply blk_set))); rfl
        · refine (Below.heap_setCell _ _ _ _ NB.out).trans ((Below.heap_setCell _ _ _ _ NB.out).trans ((Below.heap_setCell _ _ _ _ NB.out).trans BY8.out))
      rw [hW9]
      have HB9 := Aside0.mk hb9
      have BX9 := Aside0.mk bx9
      have BY9 := Aside0.mk by9
      clear hW9 hb9 bx9 by9 zb80 zb81 zb82 zf80 zf81 zf82 BX8 BY8 HB8 BX7 HB7
      obtain ⟨pe, ee, hfe⟩ : ∃ a b, (FS.init.run l0).1.fend = (a, b) := ⟨_, _, rfl⟩
      obtain ⟨r1, r2, r3, rc, hrd, hok⟩ := rdF_parts hfe HH.out
      have HFE := Aside0.mk hfe
      have HRD := Aside0.mk hrd
      have HOK := Aside0.mk hok
      clear hfe hrd hok
      have hef := end_calls _ _ _ _ _ (EX.out.ff.below HB9.out)
      rw [HFE.out] at hef
      (with_reducible refine hef.mono ?_)
      rintro e W10 ⟨rfl, ⟨q10, rfl⟩⟩
      clear hef
      go_wp2_with (fail)
      have heg := end_calls _ _ _ _ _ ((EX.out.fg.below HB9.out).drewN q10)
      rw [HFE.out] at heg
      (with_reducible refine heg.mono ?_)
      rintro e W11 ⟨rfl, ⟨q11, rfl⟩⟩
      clear heg
      have zb80 := (blk_cell BX9.out 0).trans rfl
      have zb81 := (blk_cell BX9.out 1).trans rfl
      have zb82 := (blk_cell BX9.out 2).trans rfl
      have zf80 := blk_frozen BX9.out 0
      have zf81 := blk_frozen BX9.out 1
      have zf82 := blk_frozen BX9.out 2
      have zb50 := (blk_cell BY9.out 0).trans rfl
      have zb51 := (blk_cell BY9.out 1).trans rfl
      have zb52 := (blk_cell BY9.out 2).trans rfl
      have zf50 := blk_frozen BY9.out 0
      have zf51 := blk_frozen BY9.out 1
      have zf52 := blk_frozen BY9.out 2
      go_wp2_with (fail)
      have HB11 := Aside0.mk (pw_below_drewN HB9.out (q10 + q11))
      have BY11 := Aside0.mk (blk_drewN BY9.out (q10 + q11))
      (with_reducible refine (read_calls _ l0 A0 c0 (Kd.C_below HR0.out (below_step EX.out.below HB11.out)) HC0.out HY.out (by have := HBIG.out; omega)).mono ?_)
      rintro e W12 ⟨v3, rfl, hS12, hb12⟩
      rw [HRD.out] at hS12 ⊢
      obtain ⟨A3, c3, rfl, h3c, -⟩ := Kd.S_reads hS12
      have H3C := Aside0.mk h3c
      have HF12 := Aside0.mk (Kd.F_mono (Kd.S_F (Kd.S_bound hS12)) (ok' := fun k => W2.heap.size ≤ k ∧ k < W12.heap.size) (fun k hk => by have := HB11.out.size; have := hk.2.1; have := hk.2.2.1; omega))
      have HB12 := Aside0.mk (below_step HB11.out hb12)
      have BY12 := Aside0.mk (blk_below BY11.out hb12)
      clear hS12 hb12 h3c zb80 zb81 zb82 zf80 zf81 zf82 zb50 zb51 zb52 zf50 zf51 zf52 HB9 BX9 BY9 HB11 BY11
      simp only []
      go_wp2_with (((with_reducible refine gate_dst (N := 26) rfl ?_); refine box_event ?hg (N := 26) ?hd (cs := #[.int .i64 0, .int .i64 0, .int .i64 0, .slice none 0 0]) (t := 26) ?hr ?_; (case hd => rfl); (case hg => rfl); (case hr => first | (go_simp; done) | (go_simp; rfl)); intro gb13 hgb W13 hbox hb; have BX13 := Aside0.mk hbox; have GB13 := Aside0.mk (show W2.heap.size ≤ gb13 by have := HB12.out.size; omega); have HB13 := Aside0.mk (below_step HB12.out hb); have HF13 := Aside0.mk (Kd.F_below HF12.out hb); have GC13 := Aside0.mk (show ∀ k, (W2.heap.size ≤ k ∧ k < W12.heap.size) → k ≠ gb13 by intro k hk; omega); have zb130 := (blk_cell hbox 0).trans rfl; have zb131 := (blk_cell hbox 1).trans rfl; have zb132 := (blk_cell hbox 2).trans rfl; have zb133 := (blk_cell hbox 3).trans rfl; have zf130 := blk_frozen hbox 0; have zf131 := blk_frozen hbox 1; have zf132 := blk_frozen hbox 2; have zf133 := blk_frozen hbox 3; have NB5 := Aside0.mk (show gb5 ≠ gb13 by have := blk_lt BY12.out; omega); have BY13 := Aside0.mk (blk_below BY12.out hb); clear hgb hbox hb))
      obtain ⟨W14, hW14, hb14, bx14, by14, hf14⟩ : ∃ W14, ((((W13.setCell ⟨gb13, 0, none⟩ (Value.int IntKind.i64 r1)).setCell ⟨gb13, 1, none⟩ (Value.int IntKind.i64 r2)).setCell ⟨gb13, 2, none⟩ (Value.int IntKind.i64 r3)).setCell ⟨gb13, 3, none⟩ (Value.slice A3 rc.length c3)) = W14 ∧ Below W2.heap.size W2 W14 ∧ W14.heap[gb13]? = some (.cells #[.int .i64 r1, .int .i64 r2, .int .i64 r3, .slice A3 rc.length c3] 26 (0, 0)) ∧ W14.heap[gb5]? = some (.cells #[.int .i64 hR, .int .i64 hE, .int .i64 hL] 23 (0, 0)) ∧
          Kd.F (Kd.slice 5 (Kd.int .u8)) W14 (fun k => W2.heap.size ≤ k ∧ k < W12.heap.size) A3 rc.length rc := by
        refine ⟨_, rfl, ?_, ?_, ?_, ?_⟩
        · repeat (first | (with_reducible exact HB13.out) | (with_reducible refine below_set ?_ GB13.out))
        · apply sethT; (repeat (first | (with_reducible exact BX13.out) | (with_reducible apply blk_set))); rfl
        · refine (Below.heap_setCell _ _ _ _ NB5.out).trans ((Below.heap_setCell _ _ _ _ NB5.out).trans ((Below.heap_setCell _ _ _ _ NB5.out).trans ((Below.heap_setCell _ _ _ _ NB5.out).trans BY13.out)))
        · exact Kd.F_far (Kd.F_far (Kd.F_far (Kd.F_far HF13.out (p := ⟨gb13, 0, none⟩) GC13.out _) (p := ⟨gb13, 1, none⟩) GC13.out _) (p := ⟨gb13, 2, none⟩) GC13.out _) (p := ⟨gb13, 3, none⟩) GC13.out _
      rw [hW14]
      have HB14 := Aside0.mk hb14
      have BX14 := Aside0.mk bx14
      have BY14 := Aside0.mk by14
      have HF14 := Aside0.mk hf14
      have GS13 := Aside0.mk (show W2.heap.size ≤ gb13 ∧ W2.heap.size ≤ gb5 from ⟨GB13.out, GB5.out⟩)
      clear hW14 hb14 bx14 by14 hf14 zb130 zb131 zb132 zb133 zf130 zf131 zf132 zf133 BX13 BY13 HB13 HF13 GC13 HB12 HF12 BY12
      (with_reducible refine (put_none EX.out HB14.out).mono ?_)
      rintro e W15 ⟨Aa, ca, rfl, hb15, hk15, hC15⟩
      rw [HERF.out]
      have BX15 := Aside0.mk (blk_kept BX14.out hk15 (by have := GS13.out; omega))
      have BY15 := Aside0.mk (blk_kept BY14.out hk15 (by have := GS13.out; omega))
      have HC15 := Aside0.mk hC15
      have HD15 := Aside0.mk (Kd.F_now (Kd.F_kept HF14.out hk15 (fun k hk => by omega)))
      have HB15 := Aside0.mk hb15
      clear hb15 hk15 hC15 BX14 BY14 HF14 HB14
      have zb130 := (blk_cell BX15.out 0).trans rfl
      have zb131 := (blk_cell BX15.out 1).trans rfl
      have zb132 := (blk_cell BX15.out 2).trans rfl
      have zb133 := (blk_cell BX15.out 3).trans rfl
      have zf130 := blk_frozen BX15.out 0
      have zf131 := blk_frozen BX15.out 1
      have zf132 := blk_frozen BX15.out 2
      have zf133 := blk_frozen BX15.out 3
      have zb50 := (blk_cell BY15.out 0).trans rfl
      have zb51 := (blk_cell BY15.out 1).trans rfl
      have zb52 := (blk_cell BY15.out 2).trans rfl
      have zf50 := blk_frozen BY15.out 0
      have zf51 := blk_frozen BY15.out 1
      have zf52 := blk_frozen BY15.out 2
      by_cases hee : ee = 0
      · obtain ⟨k1, k2, k3, k4, k5⟩ := HOK.out hee
        subst k1 k2 k3 k4 k5 hee
        go_wp2_with (fail)
        (with_reducible refine (churnlaw06_sameCells.calls _ A3 c3 _ Ac cc _ true _ HD15.out H3C.out HC15.out EX.out.wcap (sc_now _ EX.out.cnt).choose_spec).mono ?_)
        rintro e W16 ⟨rfl, ⟨q16, rfl⟩⟩
        go_wp2_with (fail)
        go_ret
        exact ⟨rfl, pw_below_drewN HB15.out _⟩
      · have g1 := bne_iff_ne.mpr hee
        have g2 := beq_eq_false_iff_ne.mpr hee
        clear hee
        go_wp2_with (fail)
        go_ret
        exact ⟨rfl, by repeat (first | (with_reducible exact HB15.out) | (with_reducible refine below_drew ?_) | (with_reducible refine pw_below_drewN ?_ _))⟩
end
def churnlaw06_FramePieces.f (l0 : List Int) (l1 : List Int) : Option (Bool) := if (l0.all fun x => decide (0 ≤ x ∧ x ≤ 255)) = true ∧ (l1.all fun x => decide (0 ≤ x ∧ x ≤ 65535)) = true then some true else none
theorem churnlaw06_FramePieces.calls (A0 : Option Addr) (c0 : Nat) (l0 : List Int) (A1 : Option Addr) (c1 : Nat) (l1 : List Int) (r : Bool) (w : World) (hr0 : Kd.C (Kd.int .u8) w A0 l0.length l0) (hc0 : l0.length ≤ c0) (hr1 : Kd.C (Kd.int .u16) w A1 l1.length l1) (hc1 : l1.length ≤ c1) (hr_ : r = true) (h : churnlaw06_FramePieces.f l0 l1 = some r) :
    Calls Try.prog 8 #[.slice A0 l0.length c0, .slice A1 l1.length c1] w fun e w' => e = .returned (.bool r) ∧ Below w.heap.size w w' := by
  subst hr_
  unfold churnlaw06_FramePieces.f at h
  split at h
  · rename_i hc
    exact pieces_calls A0 c0 l0 A1 c1 l1 w hr0 hc0 hr1 hc1 (fun x hx => by have := List.all_eq_true.1 hc.1 x hx; simpa using this) (fun x hx => by have := List.all_eq_true.1 hc.2 x hx; simpa using this)
  · cases h

end Go.Proofs.Ythkcadmjfkcbgaa.Q
