/- Functions of the program as plain Lean functions, each with a proof that its call comes to just these answers, and the row that joins them to the given statement; no condition beside the statement's own. Written for this claim by this session's programs (pf.py, pack.py) over the kit's print. -/
import Derived.Deep.CutBlock
import Derived.Test.YthkcadmjfkcbgaaZFrameFeeds0
import Derived.Test.YthkcadmjfkcbgaaZFrameFeeds1
import Derived.Test.YthkcadmjfkcbgaaZFrameFeeds2
import Derived.Test.YthkcadmjfkcbgaaZFrameFeeds3
import Derived.Test.YthkcadmjfkcbgaaZFrameFeeds4
import Derived.Test.YthkcadmjfkcbgaaZFrameFeeds5
import Derived.Test.YthkcadmjfkcbgaaZFrameFeeds6
import Derived.Test.YthkcadmjfkcbgaaZFrameFeeds7
section
set_option linter.unusedVariables false
set_option linter.unusedSimpArgs false
namespace Go.Proofs.Ythkcadmjfkcbgaa.Q
open Go.RowKit Go.Proofs.YthkcadmjfkcbgaaW.PrintWords Go.Proofs.YthkcadmjfkcbgaaW.PrintLast Go.Proofs.YthkcadmjfkcbgaaW.PrintMore Go.Proofs.Ythkcadmjfkcbgaa.Pl
set_option maxHeartbeats 4000000 in
set_option maxRecDepth 100000 in
theorem told_calls (W : World) (base g : Nat) (raw : List Int) (v : Value) (A : Option Addr) (c : Nat) (h : FeedAt W base g (FS.init.run raw).1 v) (hb : Bys raw) (hl : raw.length ≤ 140737488355000) (hr : Kd.C (Kd.int .u8) W A raw.length raw) (hc : raw.length ≤ c) :
    Calls Try.prog 25 #[.pointer (some ⟨g, 0, none⟩), .slice A raw.length c] W fun e w' => e = .returned (.bool true) ∧ Below W.heap.size W w' := by
  have HF := Aside0.mk h
  have HR := Aside0.mk hr
  have HC := Aside0.mk hc
  have HJ := rjudge_at hb hl hr hc
  obtain ⟨s, hs⟩ : ∃ s, (FS.init.run raw).1 = s := ⟨_, rfl⟩
  rw [hs] at HF HJ
  obtain ⟨⟨hR, hE, hL, hh⟩, hfh⟩ : ∃ p, s.fhead = p := ⟨_, rfl⟩
  obtain ⟨⟨pl, er⟩, hfe⟩ : ∃ p, s.fend = p := ⟨_, rfl⟩
  rw [hfh, hfe] at HJ
  simp only at HJ
  have HFH := Aside0.mk hfh
  have HFE := Aside0.mk hfe
  clear h hb hl hr hc hs hfh hfe
  have hu73 := Try.underlying73
  have hu23 := Try.underlying23
  go_enter Try.func25, Try.ntmps25
  go_wp2_with (fail)
  with_reducible refine HJ.mono ?_
  clear HJ
  rintro e w1 ⟨A3, n3, c3, rfl, hb⟩
  have HB := Aside0.mk hb
  clear hb
  have HF1 := Aside0.mk (HF.out.below HB.out)
  go_wp2_with (fail)
  obtain ⟨w2, hW⟩ : ∃ x, w1.alloc (.cells #[.bool hh, .int .i64 hR, .int .i64 hE, .int .i64 hL, .slice A3 n3 c3, .int .i64 pl, .int .i64 er] 73) = x := ⟨_, rfl⟩
  have hb : Below w1.heap.size w1 w2 := by rw [← hW]; exact below_alloc (Below.refl _ _) _
  have X5 : Aside0 (w2.heap[w1.heap.size]? = some (.cells #[.bool hh, .int .i64 hR, .int .i64 hE, .int .i64 hL, .slice A3 n3 c3, .int .i64 pl, .int .i64 er] 73 (0, 0))) := ⟨by rw [← hW]; exact blk_new _ _⟩
  rw [hW]
  clear hW
  have HB2 := Aside0.mk (below_step HB.out hb)
  have HF2 := Aside0.mk (HF1.out.below hb)
  clear hb HB HF1 HF
  obtain ⟨gj, hgj⟩ : ∃ x, w1.heap.size = x := ⟨_, rfl⟩
  rw [hgj] at X5 ⊢
  have e1 : (hh != hh) = false := by simp
  have e2 : (hR == hR) = true := by simp
  have e3 : (hE == hE) = true := by simp
  have e4 : (hL == hL) = true := by simp
  have e5 : (pl != pl) = false := by simp
  have e6 : (er != er) = false := by simp
  go_loopg [12] 2 (fun gq_ v12 wq => ∃ (i : Nat), v12 = .int .i64 i ∧ Aside0 (i ≤ 2) ∧ Aside0 (2 - i ≤ gq_) ∧ Aside0 (FeedAt wq base g s v) ∧ Aside0 (wq.heap[gj]? = some (.cells #[.bool hh, .int .i64 hR, .int .i64 hE, .int .i64 hL, .slice A3 n3 c3, .int .i64 pl, .int .i64 er] 73 (0, 0))) ∧ Aside0 (Below W.heap.size W wq))
  case atStart => exact ⟨0, rfl, ⟨by omega⟩, ⟨by omega⟩, HF2, X5, HB2⟩
  case round =>
    clear HF2 X5 HB2
    obtain ⟨i, rfl, HI, HGQ, HF, X5, HB⟩ := hrel
    by_cases hi : i < 2
    · have d1 : decide ((i : Int) < 2) = true := decide_eq_true (by omega)
      have d4 : decide (i < 2) = true := decide_eq_true hi
      have HIL := Aside0.mk hi
      clear hi
      go_wp2_with (fail)
      have hc := header_calls wr base g s v HF.out
      rw [HFH.out] at hc
      simp only at hc
      with_reducible refine hc.mono ?_
      clear hc
      rintro e w3 ⟨rfl, hb⟩
      replace HF := Aside0.mk (HF.out.below hb)
      replace X5 := Aside0.mk ((hb.block gj (blk_lt X5.out)).trans X5.out)
      replace HB := Aside0.mk (below_step HB.out hb)
      clear hb
      go_wp2_with (fail)
      obtain ⟨w4, hW⟩ : ∃ x, w3.alloc (.cells #[.int .i64 hR, .int .i64 hE, .int .i64 hL] 23) = x := ⟨_, rfl⟩
      have hb : Below w3.heap.size w3 w4 := by rw [← hW]; exact below_alloc (Below.refl _ _) _
      have X6 : Aside0 (w4.heap[w3.heap.size]? = some (.cells #[.int .i64 hR, .int .i64 hE, .int .i64 hL] 23 (0, 0))) := ⟨by rw [← hW]; exact blk_new _ _⟩
      rw [hW]
      clear hW
      replace HF := Aside0.mk (HF.out.below hb)
      replace X5 := Aside0.mk ((hb.block gj (blk_lt X5.out)).trans X5.out)
      replace HB := Aside0.mk (below_step HB.out hb)
      clear hb
      have hc := end_calls w4 base g s v HF.out
      rw [HFE.out] at hc
      simp only at hc
      with_reducible refine hc.mono ?_
      clear hc
      rintro e w5 ⟨rfl, ⟨nd, hnd⟩⟩
      have hb : Below w4.heap.size w4 w5 := by rw [hnd]; exact pw_below_drewN (Below.refl _ _) _
      replace HF := Aside0.mk (HF.out.below hb)
      replace X5 := Aside0.mk ((hb.block gj (blk_lt X5.out)).trans X5.out)
      replace X6 := Aside0.mk ((hb.block _ (blk_lt X6.out)).trans X6.out)
      replace HB := Aside0.mk (below_step HB.out hb)
      clear hb hnd
      have q5_0 := (blk_cell X5.out 0).trans (show _ = some (.bool hh) from rfl)
      have q5_1 := (blk_cell X5.out 1).trans (show _ = some (.int .i64 hR) from rfl)
      have q5_2 := (blk_cell X5.out 2).trans (show _ = some (.int .i64 hE) from rfl)
      have q5_3 := (blk_cell X5.out 3).trans (show _ = some (.int .i64 hL) from rfl)
      have q5_4 := (blk_cell X5.out 4).trans (show _ = some (.slice A3 n3 c3) from rfl)
      have q5_5 := (blk_cell X5.out 5).trans (show _ = some (.int .i64 pl) from rfl)
      have q5_6 := (blk_cell X5.out 6).trans (show _ = some (.int .i64 er) from rfl)
      have q6_0 := (blk_cell X6.out 0).trans (show _ = some (.int .i64 hR) from rfl)
      have q6_1 := (blk_cell X6.out 1).trans (show _ = some (.int .i64 hE) from rfl)
      have q6_2 := (blk_cell X6.out 2).trans (show _ = some (.int .i64 hL) from rfl)
      go_wp2_with (fail)
      go_roundg (2 - (i + 1))
      case measure => have := HGQ.out; have := HIL.out; omega
      case rel => exact ⟨i + 1, by have := HIL.out; first | rfl | (rw [w64 (by omega) (by omega)]; rfl), ⟨by have := HIL.out; omega⟩, ⟨by omega⟩, HF, X5, HB⟩
    · have d1 : decide ((i : Int) < 2) = false := decide_eq_false (by omega)
      have d4 : decide (i < 2) = false := decide_eq_false hi
      clear hi
      go_wp2_with (fail)
      go_ret
      exact ⟨rfl, HB.out⟩
end Go.Proofs.Ythkcadmjfkcbgaa.Q
end
section
set_option linter.unusedVariables false
set_option linter.unusedSimpArgs false
namespace Go.Proofs.Ythkcadmjfkcbgaa.Q
open Go.RowKit Go.Proofs.YthkcadmjfkcbgaaW.PrintWords Go.Proofs.YthkcadmjfkcbgaaW.PrintLast Go.Proofs.YthkcadmjfkcbgaaW.PrintMore Go.Proofs.Ythkcadmjfkcbgaa.Pl
theorem cellLt {w : World} {a : Addr} {v : Value} (h : w.cell? a = some v) : a.block < w.heap.size := by
  by_cases hb : a.block < w.heap.size
  · exact hb
  · rw [World.cell?] at h
    simp [Array.getElem?_eq_none (Nat.le_of_not_lt hb)] at h
theorem FeedAt.lower {W : World} {base base' g : Nat} {s : FS} {v : Value} (h : FeedAt W base g s v) (hb : base' ≤ base) : FeedAt W base' g s v :=
  ⟨h.1, Nat.le_trans hb h.2.1, Nat.le_trans hb h.2.2.1, Kd.R_lower h.2.2.2 hb⟩
theorem FF.start {w W W2 : World} {gf gg : Nat} (h1 : FeedAt W w.heap.size gf FS.init (.slice none 0 0)) (b1 : Below w.heap.size w W) (h2 : FeedAt W2 W.heap.size gg FS.init (.slice none 0 0)) (b2 : Below W.heap.size W W2) :
    FF w W2 gf gg [] [] [] (.slice none 0 0) (.slice none 0 0) (.slice none 0 0) :=
  { below := below_step b1 b2, ff := h1.below b2, fg := h2.lower b1.size, r5 := Kd.R_nil _ _ _ _ _, gfg := by have := h1.lt; have := h2.2.1; omega
    a1 := by simp [Value.ownBlock], a2 := by simp [Value.ownBlock], a3 := fun b e => by simp [Value.ownBlock] at e, a4 := by simp [Value.ownBlock], a5 := by simp [Value.ownBlock], a6 := fun b e => by simp [Value.ownBlock] at e, a7 := fun b e => by simp [Value.ownBlock] at e }
theorem own_new {W W1 : World} {base g : Nat} {v v' : Value} (hm : Moved W W1 base g v v') : ∀ b, v'.ownBlock = some b → v.ownBlock = some b ∨ W.heap.size ≤ b := fun b e => by
  rcases hm.2.2 with e2 | ⟨b2, e2, hb2⟩
  · exact .inl (e2 ▸ e)
  · rw [e2] at e
    injection e with e
    exact .inr (by omega)
section
variable {w W W1 : World} {gf gg : Nat} {raw lg rawR p : List Int} {vF vG v5 vF' v1 : Value}
theorem FF.callF2 (h : FF w W gf gg raw lg rawR vF vG v5) (hraw : Bys raw) (hp : Bys p) {A : Option Addr} {c lo hi : Nat} (hR : RK .u8 5 W lo hi (.slice A p.length c) p) (hlo : ∀ b, FB gf gg vF vG v5 b → b < lo) (hhi : hi ≤ W.heap.size) (h1 : raw.length + p.length ≤ 140737488355328) :
    Calls Try.prog 22 #[.pointer (some ⟨gf, 0, none⟩), .slice A p.length c] W fun e w' => ∃ (Ac : Option Addr) (cc : Nat) (vF' : Value) (new : List (List Int)), e = .returned (.tuple #[.slice Ac new.length cc, .int .i64 (FS.init.run (raw ++ p)).1.er]) ∧ FF w w' gf gg (raw ++ p) lg rawR vF' vG v5 ∧
      (FS.init.run (raw ++ p)).2 = (FS.init.run raw).2 ++ new ∧ (∀ x ∈ new, x.length ≤ 400) ∧ new.length ≤ p.length ∧ (∀ b, lo ≤ b → b < W.heap.size → w'.heap[b]? = W.heap[b]?) ∧ W.heap.size ≤ w'.heap.size ∧ (∀ b, vF'.ownBlock = some b → vF.ownBlock = some b ∨ W.heap.size ≤ b) ∧
      Kd.S (Kd.slice 5 (Kd.int .u8)) 30 w' W.heap.size (fun k => (W.heap.size ≤ k ∧ k < w'.heap.size) ∧ some k ≠ vF'.ownBlock) (.slice Ac new.length cc) new := by
  refine (h.callF hraw hp hR hlo hhi h1).mono ?_
  rintro e w' ⟨vc, v', rfl, hf, hm, hS⟩
  obtain ⟨Ac, cc, rfl⟩ := Kd.S_slice hS
  have he := FS.run_append raw p FS.init
  refine ⟨Ac, cc, v', _, by rw [he], h.putF hf hm, by rw [he], run_cell p _ hp (run_inw raw FS.init hraw init_inw).1, FS.run_cnt p _, fun b h1 h2 => hm.2.1.2 b h2 (fun e => ?_), hm.2.1.1, own_new hm, Kd.S_mono (Kd.S_bound hS) (fun k hk => ⟨⟨hk.2.1, hk.2.2.1⟩, hk.1⟩)⟩
  rcases e with e | e
  · have := hlo b (.inl e); omega
  · have := hlo b (.inr (.inr (.inl e))); omega
theorem FF.callG2 (h : FF w W gf gg raw lg rawR vF vG v5) (hraw : Bys lg) (hp : Bys p) {A : Option Addr} {c lo hi : Nat} (hR : RK .u8 5 W lo hi (.slice A p.length c) p) (hlo : ∀ b, FB gf gg vF vG v5 b → b < lo) (hhi : hi ≤ W.heap.size) (h1 : lg.length + p.length ≤ 140737488355328) :
    Calls Try.prog 22 #[.pointer (some ⟨gg, 0, none⟩), .slice A p.length c] W fun e w' => ∃ (v vG' : Value) (er : Int), e = .returned (.tuple #[v, .int .i64 er]) ∧ FF w w' gf gg raw (lg ++ p) rawR vF vG' v5 ∧
      (∀ b, b ≠ gg → some b ≠ vG.ownBlock → b < W.heap.size → w'.heap[b]? = W.heap[b]?) ∧ W.heap.size ≤ w'.heap.size ∧ (∀ b, vG'.ownBlock = some b → vG.ownBlock = some b ∨ W.heap.size ≤ b) := by
  refine (h.callG hraw hp hR hlo hhi h1).mono ?_
  rintro e w' ⟨vc, v', rfl, hf, hm, hS⟩
  exact ⟨vc, v', _, rfl, h.putG hf hm, fun b h1 h3 h2 => hm.2.1.2 b h2 (fun e => by rcases e with e | e; exact h1 e; exact h3 e), hm.2.1.1, own_new hm⟩
end
theorem lit_row (W : World) (x : Int) : RK .u8 5 (W.alloc (.cells #[.int .u8 x] 5)) W.heap.size (W.heap.size + 1) (.slice (some ⟨W.heap.size, 0, none⟩) 1 1) [x] :=
  Kd.R_of_own (enc := Value.int .u8) (h1 := fun _ => rfl) (World.ownsRow_lit (base := W.heap.size) (e := 5) (size := 1) W #[.int .u8 x] 1 (Nat.le_refl _) (by simp [maxLen]) (by simp)) (fun k hk => by
    injection hk with hk
    have hk : W.heap.size = k := hk
    omega)
end Go.Proofs.Ythkcadmjfkcbgaa.Q
end
section
set_option linter.unusedVariables false
set_option linter.unusedSimpArgs false
namespace Go.Proofs.Ythkcadmjfkcbgaa.Q
open Go.RowKit Go.Proofs.YthkcadmjfkcbgaaW.PrintWords Go.Proofs.YthkcadmjfkcbgaaW.PrintLast Go.Proofs.YthkcadmjfkcbgaaW.PrintMore Go.Proofs.Ythkcadmjfkcbgaa.Pl
set_option maxHeartbeats 4000000 in
set_option maxRecDepth 100000 in
theorem feeds_calls (A0 : Option Addr) (c0 : Nat) (ls : List (List Int)) (w : World) (hr0 : Kd.C (Kd.slice 5 (Kd.int .u8)) w A0 ls.length ls) (hc0 : ls.length ≤ c0) (hl : ls.length ≤ 140737488355328) (hx : ∀ x ∈ ls, Bys x ∧ x.length ≤ 140737488354000) :
    Calls Try.prog 7 #[.slice A0 ls.length c0] w fun e w' => e = .returned (.bool true) ∧ Below w.heap.size w w' := by
  have H0 := Aside0.mk hr0
  have G0 := Aside0.mk hc0
  have L0 := Aside0.mk hl
  have LX := Aside0.mk hx
  clear hr0 hc0 hl hx
  obtain ⟨ka, hka⟩ := awake_ev.rounds
  obtain ⟨bg, hbg, hbt⟩ := great_ev ls L0.out (fun c hc => by have := (LX.out c hc).2; omega)
  obtain ⟨kg, hkg⟩ := hbg.rounds
  have HKG := Aside0.mk hkg
  have HBT := Aside0.mk hbt
  clear hbg hbt hkg
  go_enter Try.func7, Try.ntmps7
  go_wp2_with (fail)
  with_reducible refine (new_calls w).mono ?_
  rintro e w1 ⟨gf, rfl, hf1, hb1⟩
  go_wp2_with (fail)
  with_reducible refine (new_calls w1).mono ?_
  rintro e w2 ⟨gg, rfl, hf2, hb2⟩
  have HFF := Aside0.mk (FF.start hf1 hb1 hf2 hb2)
  clear hf1 hb1 hf2 hb2
  have hnf := fun W : World => run_eql_pointer_nil (P := Try.prog) W 46 (some ⟨gf, 0, none⟩) (by kernel_rfl)
  have hng := fun W : World => run_eql_pointer_nil (P := Try.prog) W 46 (some ⟨gg, 0, none⟩) (by kernel_rfl)
  simp only [Option.isNone] at hnf hng
  go_wp2_with (fail)
  with_reducible refine (churnlaw06_awake.calls ka true w2 rfl hka).mono ?_
  rintro e w3 ⟨rfl, hb⟩
  replace HFF := Aside0.mk (HFF.out.next hb)
  clear hb hka hnf hng
  go_wp2_with (fail)
  with_reducible refine (churnlaw06_great.calls kg A0 c0 ls bg w3 (Kd.C_below H0.out HFF.out.below) G0.out HKG.out).mono ?_
  rintro e w4 ⟨rfl, ⟨nd, hnd⟩⟩
  have hb : Below w3.heap.size w3 w4 := by rw [hnd]; exact pw_below_drewN (Below.refl _ _) _
  replace HFF := Aside0.mk (HFF.out.next hb)
  clear hb hnd
  cases bg
  rotate_left
  · clear HBT
    go_wp2_with (fail)
    go_ret
    exact ⟨rfl, HFF.out.below⟩
  have HTL := Aside0.mk (HBT.out rfl)
  clear HBT HKG
  by_cases hmany : ls.length > 4096
  · have d1 : decide ((ls.length : Int) > 4096) = true := decide_eq_true (by omega)
    have d2 : decide (4096 < ls.length) = true := decide_eq_true hmany
    clear hmany
    go_wp2_with (fail)
    go_ret
    exact ⟨rfl, HFF.out.below⟩
  have HMN := Aside0.mk (show ls.length ≤ 4096 by omega)
  have d1 : decide ((ls.length : Int) > 4096) = false := decide_eq_false (by omega)
  have d2 : decide (4096 < ls.length) = false := decide_eq_false (by omega)
  clear hmany
  go_wp2_with (fail)
  go_loopg [5, 6, 7, 37] ls.length (fun gq_ v5 v6 v7 v37 wq => ∃ (i wk : Nat) (raw lg : List Int) (v vF vG : Value), v = v5 ∧ v6 = .int .i64 ((FS.init.run raw).2.length : Int) ∧ v7 = .int .i64 (wk : Int) ∧ v37 = .int .i64 i ∧ Aside0 (i ≤ ls.length) ∧ Aside0 (ls.length - i ≤ gq_) ∧ Aside0 (FF w wq gf gg raw lg raw vF vG v) ∧ Aside0 (Bys raw ∧ Bys lg) ∧ Aside0 (raw.length ≤ wk ∧ wk ≤ 16777216 ∧ lg.length = i))
  case atStart => exact ⟨0, 0, [], [], _, _, _, rfl, rfl, rfl, rfl, ⟨Nat.zero_le _⟩, ⟨by omega⟩, HFF, ⟨⟨fun x hx => by simp at hx, fun x hx => by simp at hx⟩⟩, ⟨by simp⟩⟩
  case round =>
    clear HFF d1 d2
    obtain ⟨i, wk, raw, lg, v, vF, vG, rfl, rfl, rfl, rfl, HI, HGQ, HFF, HBY, HWK⟩ := hrel
    by_cases hi : i < ls.length
    · have d1 : decide ((i : Int) < (ls.length : Int)) = true := decide_eq_true (by omega)
      have d4 : decide (i < ls.length) = true := decide_eq_true hi
      have d2 : (0 : Int) ≤ (i : Int) := Int.natCast_nonneg i
      have d3 : (i : Int) < (ls.length : Int) := by omega
      have HIL := Aside0.mk hi
      clear hi
      obtain ⟨ad, Ap, cp, rfl, p0, hcp, hp⟩ := at_L1 H0.out (i : Int) d2 d3
      simp only [Int.toNat_natCast] at p0
      replace p0 := (HFF.out.below.cell (cellLt p0)).trans p0
      obtain ⟨pc, hpc⟩ : ∃ r, rd_L1 ls (i : Int) = r := ⟨_, rfl⟩
      rw [hpc] at p0 hcp hp
      have hmem : pc ∈ ls := by rw [← hpc, rdL_nat ls i HIL.out]; exact List.getElem_mem HIL.out
      have HP := Aside0.mk hp
      have HPC := Aside0.mk hcp
      have HPY := Aside0.mk (LX.out pc hmem).1
      have HPL := Aside0.mk (Nat.le_trans (totL_mem ls pc hmem) HTL.out)
      obtain ⟨A5, c5, rfl, -, -⟩ := Kd.R_reads HFF.out.r5
      have HW1 := Aside0.mk (w64n (x := raw.length + pc.length) (by have h1 := HPL.out; have h2 := HWK.out; omega))
      have HW2 := Aside0.mk (w64n (x := wk + (raw.length + pc.length)) (by have h1 := HPL.out; have h2 := HWK.out; omega))
      clear hpc hcp hp hmem
      obtain ⟨wk2, hwk2⟩ : ∃ n : Nat, wk + (raw.length + pc.length) = n := ⟨_, rfl⟩
      go_upto_region 12 with (fail)
      rw [show ((raw.length : Int) + (pc.length : Int)) = ((raw.length + pc.length : Nat) : Int) from rfl, HW1.out, show ((wk : Int) + ((raw.length + pc.length : Nat) : Int)) = ((wk + (raw.length + pc.length) : Nat) : Int) from rfl, HW2.out, hwk2]
      have HWK2 := Aside0.mk hwk2
      clear p0 d1 d2 d3 d4
      by_cases hbig : wk2 > 16777216
      · have d1 : decide ((wk2 : Int) > 16777216) = true := decide_eq_true (by omega)
        have d2 : decide (16777216 < wk2) = true := decide_eq_true hbig
        clear hbig
        go_wp2_with (fail)
        go_ret
        exact ⟨rfl, HFF.out.below⟩
      have HBG := Aside0.mk (show wk + (raw.length + pc.length) ≤ 16777216 by omega)
      clear hwk2
      have d1 : decide ((wk2 : Int) > 16777216) = false := decide_eq_false (by omega)
      have d2 : decide (16777216 < wk2) = false := decide_eq_false (by omega)
      clear hbig
      go_wp2_with (first | ((with_reducible refine gate_builtin (b := .append) (xs := #[.tmp 51, .tmp 52]) rfl ?_); at_builtin; go_loud (refine Kd.R_app_int (k := .u8) w.heap.size rfl (.tmp 51) (.tmp 52) 30 5 1 rfl Try.underlying30 info5 (by omega) (.slice A5 raw.length c5) raw pc Ap pc.length cp (fun _ => True) rfl rfl trivial HFF.out.r5 (Kd.C_below HP.out HFF.out.below) HFF.out.below.size ?hl ?_; (case hl => have h1 := HBG.out; omega); intro v53 w53 hr_ hg_ hat_; replace HFF := Aside0.mk (HFF.out.app hr_ hg_ hat_); obtain ⟨raw2, hr2⟩ : ∃ r, raw ++ pc = r := ⟨_, rfl⟩; rw [hr2] at HFF; have HR2 := Aside0.mk hr2; clear hr2; obtain ⟨A53, c53, rfl, -, -⟩ := Kd.R_reads HFF.out.r5; clear hr_ hg_ hat_)) | ((with_reducible refine gate_dst (N := 54) rfl ?_); refine Kd.R_lit (Kd.int .u8) w53.heap.size 5 ?hg (N := 54) ?hd (xs := ([] : List Int)) (inner := []) (ok := fun _ => True) (okp := fun _ => True) ?hr ?hp (fun _ hk => hk) trivial (Below.refl _ _) (Nat.le_refl _) (by simp) ?_; (case hd => rfl); (case hg => rfl); (case hr => first | (go_simp; done) | (go_simp; rfl)); (case hp => exact (Reps.none _ _)); intro v54 w54 ho_ hb_ hg_ hn_; have HB54 := Aside0.mk hb_; have HO54 := Aside0.mk ho_; clear hb_ ho_ hg_ hn_) | ((with_reducible refine gate_builtin (b := .append) (xs := #[.tmp 54, .tmp 55]) rfl ?_); at_builtin; go_loud (refine Kd.R_app_int (k := .u8) w53.heap.size rfl (.tmp 54) (.tmp 55) 30 5 1 rfl Try.underlying30 info5 (by omega) v54 [] pc Ap pc.length cp (fun _ => True) rfl rfl trivial HO54.out (Kd.C_below HP.out (below_step HFF.out.below HB54.out)) HB54.out.size ?hl ?_; (case hl => have h1 := HPL.out; simp only [List.length_nil]; omega); intro v56 w56 hr_ hg_ hat_; have HB56 := Aside0.mk (HB54.out.grown hg_ HB54.out.size (Kd.R_base HO54.out)); have hr_ : Kd.R (Kd.int .u8) 5 w56 w53.heap.size (fun _ => True) v56 pc := hr_; obtain ⟨A56, c56, rfl⟩ := (RK.of hr_).lit; have HO56 := Aside0.mk (RK.of hr_); clear hr_ hg_ hat_)))
      have HLO := Aside0.mk (fun b hb => (HFF.out.lt (b := b) hb).2)
      have HWS := Aside0.mk (show w.heap.size ≤ w53.heap.size from HFF.out.below.size)
      have HF6 := Aside0.mk (HFF.out.next HB56.out)
      clear HFF HB54 HO54
      with_reducible refine (HF6.out.callF2 HBY.out.1 HPY.out HO56.out HLO.out (Nat.le_refl _) (by have := HBG.out; omega)).mono ?_
      rintro e w60 ⟨Ac, cc, vF2, new, rfl, hff, hnew, hlen, hcnt, hkeep, hsz, hown, hS⟩
      rw [HR2.out] at hff hnew ⊢
      have HO60 : Aside0 (RK .u8 5 w60 w53.heap.size w56.heap.size (.slice A56 pc.length c56) pc) := ⟨Kd.R_step HO56.out (fun k hk hlt => hkeep k hk.1 hlt)⟩
      have HFF := Aside0.mk hff
      have HNEW := Aside0.mk hnew
      have HNL := Aside0.mk hlen
      have HNC := Aside0.mk hcnt
      have HS := Aside0.mk hS
      have HSZ := Aside0.mk hsz
      have HSW := Aside0.mk HB56.out.size
      have HOWN := Aside0.mk hown
      clear hown
      clear hff hnew hlen hcnt hkeep hsz hS HF6 HO56 HB56
      go_wp2_with (fail)
      have hsame : churnlaw06_same.f pc pc = some true := same_refl _
      with_reducible refine (churnlaw06_same.calls A56 c56 pc Ap cp pc true w60 (RK.reads HO60.out).1 (RK.reads HO60.out).2 (Kd.C_below HP.out HFF.out.below) HPC.out hsame).mono ?_
      clear hsame
      rintro e w65 ⟨rfl, ⟨nd2, hnd⟩⟩
      have hb : Below w60.heap.size w60 w65 := by rw [hnd]; exact pw_below_drewN (Below.refl _ _) _
      replace HO60 := Aside0.mk (HO60.out.below hb)
      replace HFF := Aside0.mk (HFF.out.next hb)
      replace HS := Aside0.mk (Kd.S_below HS.out hb)
      have HZ5 := Aside0.mk (show w60.heap.size ≤ w65.heap.size from hb.size)
      clear hb hnd
      go_wp2_with (fail)
      obtain ⟨wP, hwP⟩ : ∃ x, x = w65 := ⟨_, rfl⟩
      subst hwP
      have HLB : Aside0 (∀ b, FB gf gg vF2 vG (.slice A53 raw2.length c53) b → b < w53.heap.size ∨ (w56.heap.size ≤ b ∧ b < wP.heap.size)) := ⟨fun b hb => by have hlt := (HFF.out.lt hb).2; rcases hb with h | h | h | h | h; exact .inl (HLO.out b (.inl h)); exact .inl (HLO.out b (.inr (.inl h))); (rcases HOWN.out b h.symm with h2 | h2; exact .inl (HLO.out b (.inr (.inr (.inl h2.symm)))); exact .inr ⟨h2, hlt⟩); exact .inl (HLO.out b (.inr (.inr (.inr (.inl h))))); exact .inl (HLO.out b (.inr (.inr (.inr (.inr h)))))⟩
      go_loopg [69] pc.length (fun gq_ v69 wq => ∃ (j : Nat) (xs : List Int), v69 = .int .i64 j ∧ Aside0 (j ≤ pc.length) ∧ Aside0 (pc.length - j ≤ gq_) ∧ Aside0 (xs.length = pc.length) ∧ Aside0 (RK .u8 5 wq w53.heap.size w56.heap.size (.slice A56 pc.length c56) xs) ∧ Aside0 (∀ k, k < w53.heap.size ∨ w56.heap.size ≤ k → wq.heap[k]? = wP.heap[k]?) ∧ Aside0 (Below w.heap.size w wq) ∧ Aside0 (wP.heap.size ≤ wq.heap.size))
      case atStart => exact ⟨0, _, rfl, ⟨Nat.zero_le _⟩, ⟨by omega⟩, ⟨rfl⟩, HO60, ⟨fun _ _ => rfl⟩, ⟨HFF.out.below⟩, ⟨Nat.le_refl _⟩⟩
      case round =>
        clear HO60
        obtain ⟨j, xs, rfl, HJ, HGJ, HXL, HO, HK, HBW, HSW2⟩ := hrel
        by_cases hj : j < pc.length
        · have d1 : decide ((j : Int) < (pc.length : Int)) = true := decide_eq_true (by omega)
          have d4 : decide (j < pc.length) = true := decide_eq_true hj
          have d2 : (0 : Int) ≤ (j : Int) := Int.natCast_nonneg j
          have d3 : (j : Int) < (pc.length : Int) := by omega
          have HJL := Aside0.mk hj
          obtain ⟨gi, rfl⟩ := HO.out.head (by omega)
          obtain ⟨r1, g1, l1, u1, p1, z1⟩ := HO.out.put HXL.out j hj 153
          have HR1 := Aside0.mk r1
          have HG1 := Aside0.mk g1
          have HL1 := Aside0.mk (And.intro l1 u1)
          clear r1 g1 l1 u1 hj
          go_wp2_with (fail)
          go_roundg (pc.length - (j + 1))
          case measure => have := HGJ.out; have := HJL.out; omega
          case rel => exact ⟨j + 1, xs.set j 153, by have := HJL.out; have := HPL.out; first | rfl | (rw [w64 (by omega) (by omega)]; rfl), ⟨by have := HJL.out; omega⟩, ⟨by omega⟩, ⟨by rw [List.length_set]; exact HXL.out⟩, HR1, ⟨fun k hk => (Below.heap_setCell wr ⟨gi, j, none⟩ (.int .u8 153) k (by have := HL1.out; show k ≠ gi; omega)).trans (HK.out k hk)⟩, ⟨HBW.out.setCell (by have h1 := HL1.out.1; have h2 := HWS.out; show w.heap.size ≤ gi; omega) _⟩, ⟨Nat.le_trans HSW2.out HG1.out.size⟩⟩
        · have d1 : decide ((j : Int) < (pc.length : Int)) = false := decide_eq_false (by omega)
          have d4 : decide (j < pc.length) = false := decide_eq_false hj
          obtain rfl : j = pc.length := by have := HJ.out; omega
          clear hj HJ HGJ HO HXL
          obtain ⟨wB, hwB⟩ : ∃ x, x = wr := ⟨_, rfl⟩
          subst hwB
          replace HFF := Aside0.mk (HFF.out.step HBW.out (fun b hb => HK.out b (by rcases HLB.out b hb with h | h <;> omega)) HSW2.out)
          replace HS := Aside0.mk (Kd.S_step HS.out (w1 := wB) (fun k hk _ => HK.out k (.inr hk.1.1)))
          replace HZ5 := Aside0.mk (Nat.le_trans HZ5.out HSW2.out)
          clear HK d1 d4 HBW
          go_wp2_with (fail)
          obtain ⟨wL, hL⟩ : ∃ x, wB.alloc (.cells #[.int .u8 ((i : Int) % 256)] 5) = x := ⟨_, rfl⟩
          have hb : Below wB.heap.size wB wL := by rw [← hL]; exact below_alloc (Below.refl _ _) _
          have hrow : RK .u8 5 wL wB.heap.size (wB.heap.size + 1) (.slice (some ⟨wB.heap.size, 0, none⟩) 1 1) [(i : Int) % 256] := by rw [← hL]; exact lit_row wB _
          have hszl : wB.heap.size + 1 ≤ wL.heap.size := by rw [← hL]; simp
          rw [hL]
          clear hL
          have hgb := fun b hb => (HFF.out.lt (b := b) hb).2
          replace HFF := Aside0.mk (HFF.out.next hb)
          replace HS := Aside0.mk (Kd.S_below HS.out hb)
          replace HZ5 := Aside0.mk (show w60.heap.size ≤ wL.heap.size by have := HZ5.out; omega)
          have hby : Bys [(i : Int) % 256] := fun x hx => by rw [List.mem_singleton.1 hx]; omega
          have hcg := HFF.out.callG2 (p := [(i : Int) % 256]) HBY.out.2 hby hrow hgb hszl (by have h1 := HWK.out; have h2 := HMN.out; have h3 := HIL.out; simp; omega)
          simp only [List.length_cons, List.length_nil, Nat.zero_add] at hcg
          with_reducible refine hcg.mono ?_
          clear hcg
          rintro e w80 ⟨vx, vG2, ex, rfl, hff, hkeep, hsz, hown⟩
          clear hb hrow hgb
          have hG1 := HLO.out gg (.inr (.inl rfl))
          have hG2 := fun b e => HLO.out b (.inr (.inr (.inr (.inl e))))
          replace HS := Aside0.mk (Kd.S_step HS.out (w1 := w80) (fun k hk hlt => hkeep k (fun e => by have h1 := hk.1.1; have h2 := HSW.out; omega) (fun e => by have h1 := hk.1.1; have h2 := HSW.out; have h3 := hG2 k e; omega) hlt))
          have HGB : Aside0 (∀ b, FB gf gg vF2 vG2 (.slice A53 raw2.length c53) b → b < w56.heap.size ∨ some b = vF2.ownBlock ∨ w60.heap.size ≤ b) := ⟨fun b hb => by have h9 := HSW.out; rcases hb with h | h | h | h | h; (exact .inl (by have := HLO.out b (.inl h); omega)); (exact .inl (by have := HLO.out b (.inr (.inl h)); omega)); exact .inr (.inl h); (rcases hown b h.symm with h2 | h2; (exact .inl (by have := hG2 b h2.symm; omega)); exact .inr (.inr (by have := HZ5.out; omega))); (exact .inl (by have := HLO.out b (.inr (.inr (.inr (.inr h)))); omega))⟩
          replace HFF := Aside0.mk hff
          replace HZ5 := Aside0.mk (Nat.le_trans HZ5.out hsz)
          have HBL := Aside0.mk (show Bys (lg ++ [(i : Int) % 256]) from HBY.out.2.append hby)
          have HBR := Aside0.mk (show Bys raw2 by rw [← HR2.out]; exact HBY.out.1.append HPY.out)
          have HLR := Aside0.mk (show raw2.length = raw.length + pc.length by rw [← HR2.out]; simp)
          clear hff hkeep hsz hown hG1 hG2 hby hszl
          go_wp2_with (fail)
          have hrd := Kd.R_reads' HFF.out.r5
          with_reducible refine (feed_at HBR.out (by have h1 := HLR.out; have h2 := HBG.out; omega) hrd.2.2 hrd.2.1).mono ?_
          clear hrd
          rintro e w83 ⟨A14, c14, rfl, hv, hb⟩
          have HV := Aside0.mk hv
          replace HFF := Aside0.mk (HFF.out.next hb)
          replace HS := Aside0.mk (Kd.S_below HS.out hb)
          replace HZ5 := Aside0.mk (Nat.le_trans HZ5.out hb.size)
          clear hv hb
          obtain ⟨er, her⟩ : ∃ x, (FS.init.run raw2).1.er = x := ⟨_, rfl⟩
          rw [her]
          have e1 : (er != er) = false := by simp
          clear her
          obtain ⟨kn, hkn⟩ : ∃ x, (FS.init.run raw).2.length = x := ⟨_, rfl⟩
          have hn2 : (FS.init.run raw2).2.length = kn + new.length := by rw [HNEW.out, List.length_append, hkn]
          obtain ⟨ir, hir, hz1⟩ := Option.map_eq_some_iff.1 infoBs
          simp only [Prod.mk.injEq] at hz1
          have hcut := cut_from (P := Try.prog) 24 30 .i64 Try.underlying24 hir 1 hz1.2.1 A14 (FS.init.run raw2).2.length c14 ((FS.init.run raw).2.length : Int) (by omega) (by omega)
          have hF := Kd.F_cut (m := (FS.init.run raw).2.length) (c := c14) (Kd.V_F HV.out) (by omega) (Kd.V_reads' HV.out).2.1
          have hdrop : (FS.init.run raw2).2.drop (FS.init.run raw).2.length = new := by rw [HNEW.out, List.drop_left]
          rw [hdrop] at hF
          simp only [Int.toNat_natCast] at hcut
          obtain ⟨Ax, hAx⟩ : ∃ x, (if c14 = (FS.init.run raw).2.length then A14 else A14.map (·.add ((FS.init.run raw).2.length * 1))) = x := ⟨_, rfl⟩
          rw [hAx, show (FS.init.run raw2).2.length - (FS.init.run raw).2.length = new.length by omega] at hcut
          have hC := Kd.F_now hF
          change Kd.C (Kd.slice 5 (Kd.int .u8)) w83 (if c14 = (FS.init.run raw).2.length then A14 else A14.map (·.add ((FS.init.run raw).2.length * 1))) new.length new at hC
          rw [hAx] at hC
          have hcx : new.length ≤ c14 - (FS.init.run raw).2.length := by have := (Kd.V_reads' HV.out).2.1; omega
          obtain ⟨cx, hcx2⟩ : ∃ x, c14 - (FS.init.run raw).2.length = x := ⟨_, rfl⟩
          rw [hcx2] at hcut hcx
          obtain ⟨ks, hks⟩ := sc_now new (by have h1 := HNC.out; have h2 := HPL.out; omega)
          have HCX := Aside0.mk hC
          have HCX2 := Aside0.mk hcx
          have HKS := Aside0.mk hks
          clear hC hcx hcx2 hks hAx hF hdrop hir hz1 hn2 hkn
          go_wp2_with (fail)
          with_reducible refine (churnlaw06_sameCells.calls ks Ac cc new Ax cx new true w83 (Kd.S_reads' HS.out).2.2 (Kd.S_reads' HS.out).2.1 HCX.out HCX2.out HKS.out).mono ?_
          rintro e w94 ⟨rfl, ⟨nd3, hnd⟩⟩
          have hb : Below w83.heap.size w83 w94 := by rw [hnd]; exact pw_below_drewN (Below.refl _ _) _
          replace HFF := Aside0.mk (HFF.out.next hb)
          replace HS := Aside0.mk (Kd.S_below HS.out hb)
          replace HZ5 := Aside0.mk (Nat.le_trans HZ5.out hb.size)
          clear hb hnd HCX HCX2 HKS HV hcut
          go_wp2_with (fail)
          obtain ⟨lsb, hLb, hOb, hlb, -⟩ := lists_own HS.out
          obtain ⟨Ay, cy, ey, -, -, -, hcc⟩ := own_cells hOb
          injection ey with ey1 ey2 ey3
          subst ey1
          with_reducible refine (apart_calls Ac new.length cc w56.heap.size _ lsb new w94 hLb rfl hcc (fun g e hg => absurd (show some g = (Value.slice Ac new.length cc).ownBlock by rw [e]; simp [Value.ownBlock]) hg.2) (by have h1 := HSZ.out; have h2 := HZ5.out; omega) (by have h1 := HNC.out; have h2 := HPL.out; omega) (fun x hx => by have := HNL.out x hx; omega)).mono ?_
          rintro e w99 ⟨rfl, hbA, hkA⟩
          have hws : w.heap.size ≤ w56.heap.size := Nat.le_trans HWS.out HSW.out
          have hB5 : Below w.heap.size w w99 := HFF.out.below.trans ⟨hbA.os, hbA.tape, hbA.output, hbA.size, fun k hk => hbA.block k (by omega)⟩
          replace HFF := Aside0.mk (HFF.out.step hB5 (fun b hb => by rcases HGB.out b hb with h | h | h; exact hbA.block b h; exact hkA b (HFF.out.lt hb).2 (fun hk => hk.1.2 h); exact hkA b (HFF.out.lt hb).2 (fun hk => by have := hk.1.1.2; omega)) hbA.size)
          clear hLb hOb hlb hcc ey2 ey3 hbA hkA hws hB5 HS HZ5 HGB
          go_wp2_with (fail)
          have hrd := Kd.R_reads' HFF.out.r5
          with_reducible refine (told_calls w99 w.heap.size gf raw2 vF2 A53 c53 HFF.out.ff HBR.out (by have h1 := HLR.out; have h2 := HBG.out; omega) hrd.2.2 hrd.2.1).mono ?_
          clear hrd
          rintro e w105 ⟨rfl, hb⟩
          replace HFF := Aside0.mk (HFF.out.next hb)
          clear hb
          go_wp2_with (fail)
          go_roundg (ls.length - (i + 1))
          case measure => have := HGQ.out; have := HIL.out; omega
          case rel => exact ⟨i + 1, wk2, raw2, lg ++ [(i : Int) % 256], _, _, _, rfl, rfl, rfl, by have := HIL.out; have := L0.out; first | rfl | (rw [w64 (by omega) (by omega)]; rfl), ⟨by have := HIL.out; omega⟩, ⟨by omega⟩, HFF, ⟨⟨HBR.out, HBL.out⟩⟩, ⟨⟨by have h1 := HLR.out; have h2 := HWK2.out; have h3 := HWK.out; omega, by have h1 := HBG.out; have h2 := HWK2.out; omega, by have h3 := HWK.out; simp; omega⟩⟩⟩
    · have d1 : decide ((i : Int) < (ls.length : Int)) = false := decide_eq_false (by omega)
      have d4 : decide (i < ls.length) = false := decide_eq_false hi
      clear hi
      go_wp2_with (fail)
      go_ret
      exact ⟨rfl, HFF.out.below⟩
end Go.Proofs.Ythkcadmjfkcbgaa.Q
end
