/- Functions of the program as plain Lean functions, each with a proof that its call comes to just these answers, or the row that joins them to the given statement; no condition beside the statement's own. Written for this claim by pf.py, this session's program over the kit's print. -/
import Derived.Test.YtijnmfdpdjblbaaQx0
import Derived.Test.YtijnmfdpdjblbaaQx1
import Derived.Test.YtijnmfdpdjblbaaQx3
import Derived.Test.YtijnmfdpdjblbaaQx4
namespace Go.Proofs.Ytijnmfdpdjblbaa.Q
open Go.RowKit Go.Proofs.YtijnmfdpdjblbaaW.PrintWords Go.Proofs.YtijnmfdpdjblbaaW.PrintLast Go.Proofs.YtijnmfdpdjblbaaW.PrintMore
attribute [local go_sem] max2_int min2_int max_two min_two max_three min_three max_four min_four   -- for this text's walks alone
set_option linter.unusedVariables false
set_option linter.unusedSimpArgs false

/-! ### draw_All: function 12 -/
def okBound (b : Int) : Bool := decide (1 ≤ b) && decide (b ≤ 256)
theorem isBound_f (b : Int) : draw_isBound.f b = some (okBound b) := by
  unfold draw_isBound.f okBound
  by_cases h : b ≥ 1
  · rw [if_pos h]; simp; omega
  · rw [if_neg h]; simp; omega
theorem reads_C {k : IntKind} {w : World} {A : Option Addr} {n : Nat} {xs : List Int} (h : (Kd.int k).C w A n xs) : ReadsInt w k A n xs :=
  ⟨h.1, h.2.1, fun hn => by
    obtain ⟨ad, e, hc⟩ := h.2.2 hn
    refine ⟨ad, e, fun j hj => ?_⟩
    have hjl : j < xs.length := by rw [h.1]; exact hj
    obtain ⟨c, hs, hr, hcell⟩ := hc j _ (List.getElem?_eq_getElem hjl)
    have hr' : c = [.int k xs[j]] := hr
    subst hr'
    have := hcell 0 _ rfl
    rw [show j * (Kd.int k).sz + 0 = j from Nat.mul_one j] at this
    rw [this, List.getD_eq_getElem?_getD, List.getElem?_eq_getElem hjl]
    rfl⟩
theorem each_pred (b : Int) (w : World) : Calls Try.prog 30 #[.int .i64 b] w fun e w' => e = .returned (.bool (!okBound b)) ∧ ∃ q, w' = w.drewN q := by
  go_enter Try.func30, Try.ntmps30
  go_wp2_with (go_at_call 25; refine (draw_isBound.calls b (okBound b) _ (isBound_f b)).mono ?_; rintro e w' ⟨rfl, ⟨nd, rfl⟩⟩)
  go_ret
  exact ⟨rfl, _, rfl⟩
theorem idx_calls (A1 : Option Addr) (c1 : Nat) (l1 : List Int) (w : World) (hr1 : (Kd.int .i64).C w A1 l1.length l1) :
    Calls Try.prog 31 #[.slice A1 l1.length c1, .func (.func 30) #[] #[]] w fun e w' => (∃ i : Int, e = .returned (.int .i64 i) ∧ decide (i ≥ 0) = l1.any (fun b => !okBound b)) ∧ ∃ q, w' = w.drewN q := by
  have hri := reads_C hr1
  have hlen := hri.2.1
  have key : ∃ ad : Addr, (0 < l1.length → A1 = some ad) ∧ ∀ j, j < l1.length → w.cell? (ad.add j) = some (.int .i64 (l1.getD j 0)) := by
    rcases Nat.eq_zero_or_pos l1.length with h | h
    · exact ⟨⟨0, 0, none⟩, fun h2 => by omega, fun j hj => by omega⟩
    · obtain ⟨ad, e, hc⟩ := hri.2.2 h
      exact ⟨ad, fun _ => e, hc⟩
  obtain ⟨ad, hA, hc⟩ := key
  have HA := Aside0.mk hA
  clear hA hr1 hri
  go_enter Try.func31, Try.ntmps31
  go_wp2
  go_loopg [5, 8] l1.length (fun gg _ s8 wr => ∃ kk q : Nat, kk ≤ l1.length ∧ l1.length - kk ≤ gg ∧ s8 = .int .i64 kk ∧ wr = w.drewN q ∧ Aside0 (∀ j, j < kk → okBound (l1.getD j 0) = true))
  case atStart => exact ⟨0, 0, Nat.zero_le _, by omega, rfl, rfl, ⟨fun j hj => absurd hj (Nat.not_lt_zero _)⟩⟩
  case round =>
    obtain ⟨kk, q, hkk, hg, rfl, rfl, A⟩ := hrel
    by_cases hlt : kk < l1.length
    · have hltz : (kk : Int) < (l1.length : Int) := by omega
      obtain rfl := HA.out (by omega)
      have hcell : w.cell? (ad.add kk) = some (.int .i64 (l1.getD kk 0)) := hc kk hlt
      clear hc
      obtain ⟨y, hy⟩ : ∃ y, l1.getD kk 0 = y := ⟨_, rfl⟩
      rw [hy] at hcell
      have B := Aside0.mk hy
      clear hy
      have hcall := each_pred y
      cases hq : okBound y with
      | false =>
        rw [hq] at hcall
        go_wp2_with (go_at_call 30; refine (hcall _).mono ?_; rintro e w' ⟨rfl, q', rfl⟩)
        go_ret
        refine ⟨⟨_, rfl, ?_⟩, _, rfl⟩
        symm
        rw [decide_eq_true (by omega), List.any_eq_true]
        refine ⟨l1[kk], List.getElem_mem _, ?_⟩
        have := B.out
        rw [List.getD_eq_getElem?_getD, List.getElem?_eq_getElem hlt, Option.getD_some] at this
        rw [this, hq]; rfl
      | true =>
        rw [hq] at hcall
        go_wp2_with (go_at_call 30; refine (hcall _).mono ?_; rintro e w' ⟨rfl, q', rfl⟩)
        go_roundg (l1.length - (kk + 1))
        case measure => omega
        case rel =>
          refine ⟨kk + 1, _, by omega, by omega, by go_num, rfl, ⟨fun j hj => ?_⟩⟩
          by_cases e : j = kk
          · subst e
            rw [B.out]; exact hq
          · exact A.out j (by omega)
    · have hltz : ¬ (kk : Int) < (l1.length : Int) := by omega
      have hk : kk = l1.length := by omega
      subst hk
      go_wp2
      go_ret
      refine ⟨⟨_, rfl, ?_⟩, q, rfl⟩
      rw [decide_eq_false (by omega)]
      symm
      rw [List.any_eq_false]
      intro x hx
      obtain ⟨j, hj, rfl⟩ := List.getElem_of_mem hx
      have := A.out j hj
      rw [List.getD_eq_getElem?_getD, List.getElem?_eq_getElem hj, Option.getD_some] at this
      simp [this]
theorem contains_calls (A1 : Option Addr) (c1 : Nat) (l1 : List Int) (w : World) (hr1 : (Kd.int .i64).C w A1 l1.length l1) :
    Calls Try.prog 29 #[.slice A1 l1.length c1, .func (.func 30) #[] #[]] w fun e w' => e = .returned (.bool (l1.any fun b => !okBound b)) ∧ ∃ q, w' = w.drewN q := by
  have HR := fun W (h : (Kd.int .i64).C W A1 l1.length l1) => idx_calls A1 c1 l1 W h
  have HC := Aside0.mk hr1
  clear hr1
  go_enter Try.func29, Try.ntmps29
  go_wp2_with (go_at_call 31; refine (HR _ HC.out).mono ?_; rintro e w' ⟨⟨i, rfl, hi⟩, q', rfl⟩)

  go_ret
  exact ⟨by simp [hi], _, rfl⟩
def eachl (G : Nat → Int → Int → Bool) : Nat → List Int → ByteArray → Int → List (Int × Int) → Option (List (Int × Int) × Int × Int)
  | 0, _, _, _, _ => none
  | k + 1, bs, s, u, L => if L.length < bs.length then (draw_Below.f k s u (bs.getD L.length 0)).bind fun q => (if q.2.2.2 = 0 then (if G L.length (wrap64 (q.2.2.1 - 1)) q.1 = true then eachl G k bs q.2.1 q.2.2.1 (L ++ [(q.1, wrap64 (q.2.2.1 - 1))]) else none) else some (L, 0, q.2.2.2)) else some (L, u, 0)
def eachf (G : Nat → Int → Int → Bool) (k : Nat) (p bs : List Int) : Option (List (Int × Int) × Int × Int) :=
  if bs.any (fun b => !okBound b) = true then some ([], 0, 2) else eachl G k bs (strOfNums p) 0 []
theorem each_after {w0 w wr w4 w5 : World} {gb gb2 : Nat} {s q2 : ByteArray} {u q3 : Int} (H0 : w0.heap.size ≤ w.heap.size) (HS : w.heap.size ≤ wr.heap.size) (HB : Below w0.heap.size w0 wr) (HB4 : Below wr.heap.size wr w4)
    (BK4 : w4.heap[gb]? = some (.cells #[.string s, .int .i64 u] 38 (0, 0))) (NE : gb ≠ gb2) (GE : w.heap.size ≤ gb) (GE2 : wr.heap.size ≤ gb2)
    (hb5 : Below ((((w4.setCell ⟨gb2, 0, none⟩ (.string q2)).setCell ⟨gb2, 1, none⟩ (.int .i64 q3)).setCell ⟨gb, 0, none⟩ (.string q2)).setCell ⟨gb, 1, none⟩ (.int .i64 q3)).heap.size ((((w4.setCell ⟨gb2, 0, none⟩ (.string q2)).setCell ⟨gb2, 1, none⟩ (.int .i64 q3)).setCell ⟨gb, 0, none⟩ (.string q2)).setCell ⟨gb, 1, none⟩ (.int .i64 q3)) w5) :
    w5.heap[gb]? = some (.cells #[.string q2, .int .i64 q3] 38 (0, 0)) ∧ Below w.heap.size wr w5 ∧ Below w0.heap.size w0 w5 ∧ w.heap.size ≤ w5.heap.size := by
  have low : Below w.heap.size wr w4 := ⟨HB4.os, HB4.tape, HB4.output, HB4.size, fun i hi => HB4.block i (by omega)⟩
  have a1 : Below w.heap.size wr ((((w4.setCell ⟨gb2, 0, none⟩ (.string q2)).setCell ⟨gb2, 1, none⟩ (.int .i64 q3)).setCell ⟨gb, 0, none⟩ (.string q2)).setCell ⟨gb, 1, none⟩ (.int .i64 q3)) :=
    (((low.setCell (p := ⟨gb2, 0, none⟩) (Nat.le_trans HS GE2) _).setCell (p := ⟨gb2, 1, none⟩) (Nat.le_trans HS GE2) _).setCell (p := ⟨gb, 0, none⟩) GE _).setCell (p := ⟨gb, 1, none⟩) GE _
  have a2 : Below w.heap.size wr w5 := below_then a1 (Nat.le_trans HS a1.size) hb5
  refine ⟨blk_below (blk_put (cs := #[.string q2, .int .i64 u]) (blk_put (cs := #[.string s, .int .i64 u]) (blk_far (blk_far BK4 NE _) NE _) 0 _ rfl) 1 _ rfl) hb5, a2, ?_, Nat.le_trans HS a2.size⟩
  exact HB.trans ⟨a2.os, a2.tape, a2.output, a2.size, fun i hi => a2.block i (by omega)⟩
set_option maxHeartbeats 4000000 in
set_option maxRecDepth 100000 in
theorem each_calls (G : Nat → Int → Int → Bool) (F : Nat) (lb : Array Value) (eF : ∀ args w, (callFunc F args).run Try.prog w = .ok (.enter F args) w)
    (k : Nat) (A0 : Option Addr) (c0 : Nat) (l0 : List Int) (A1 : Option Addr) (c1 : Nat) (l1 : List Int) (w0 w : World)
    (hr0 : (Kd.int .u8).C w A0 l0.length l0) (hc0 : l0.length ≤ c0) (hr1 : (Kd.int .i64).C w0 A1 l1.length l1) (hc1 : l1.length ≤ c1)
    (hB : Below w0.heap.size w0 w) (Inv : List (Int × Int) → World → Prop) (hI0 : Inv [] w)
    (hIF : ∀ L W W', Inv L W → Below w.heap.size W W' → Inv L W')
    (hcb : ∀ L d at_ W, L.length < l1.length → G L.length at_ d = true → Inv L W → Below w0.heap.size w0 W → w.heap.size ≤ W.heap.size →
      Calls Try.prog F (#[.int .i64 (L.length : Int), .int .i64 at_, .int .i64 d] ++ lb) W fun e W' => e = .returned (.tuple #[]) ∧ Inv (L ++ [(d, at_)]) W' ∧ Below w0.heap.size w0 W' ∧ Kept W W' (fun k => k < w.heap.size))
    (Lr : List (Int × Int)) (n er : Int) (h : eachf G k l0 l1 = some (Lr, n, er)) :
    Calls Try.prog 23 #[.slice A0 l0.length c0, .slice A1 l1.length c1, .func (.func F) #[] lb] w fun e w' => e = .returned (.tuple #[.int .i64 n, .int .i64 er]) ∧ Inv Lr w' ∧ Below w0.heap.size w0 w' := by
  have hu38_ := Try.underlying38
  have hcc := contains_calls A1 c1 l1 w (Kd.C_below hr1 hB)
  have hri := reads_C hr1
  have hlen := hri.2.1
  have key : ∃ ad : Addr, (0 < l1.length → A1 = some ad) ∧ ∀ j, j < l1.length → w0.cell? (ad.add j) = some (.int .i64 (l1.getD j 0)) := by
    rcases Nat.eq_zero_or_pos l1.length with h | h
    · exact ⟨⟨0, 0, none⟩, fun h2 => by omega, fun j hj => by omega⟩
    · obtain ⟨ad, e, hc⟩ := hri.2.2 h
      exact ⟨ad, fun _ => e, hc⟩
  obtain ⟨ad, hA, hc⟩ := key
  have HA := Aside0.mk hA
  have HC := Aside0.mk hc
  have HR0 := Aside0.mk hr0
  have HC0 := Aside0.mk hc0
  have HB := Aside0.mk hB
  have HI0 := Aside0.mk hI0
  have H0 := Aside0.mk hB.size
  have HIF := Aside0.mk hIF
  have HCB := Aside0.mk hcb
  clear hA hc hr0 hc0 hr1 hri hB hI0 hIF hcb hc1
  unfold eachf at h
  by_cases hany : l1.any (fun b => !okBound b) = true
  · rw [if_pos hany] at h
    simp only [Option.some.injEq, Prod.mk.injEq] at h
    obtain ⟨rfl, rfl, rfl⟩ := h
    rw [hany] at hcc
    clear hany
    go_enter Try.func23, Try.ntmps23
    go_wp2_with (go_at_call 29; refine hcc.mono ?_; rintro e w1 ⟨rfl, q, rfl⟩)
    go_ret2
    exact ⟨rfl, HIF.out _ _ _ HI0.out (pw_below_drewN (Below.refl _ _) _), pw_below_drewN HB.out _⟩
  · rw [if_neg hany] at h
    have hf : l1.any (fun b => !okBound b) = false := by simpa using hany
    rw [hf] at hcc
    clear hany hf
    have H := Aside0.mk h
    clear h
    go_enter Try.func23, Try.ntmps23
    go_wp2_with (first
      | (go_at_call 29; refine hcc.mono ?_; rintro e w1 ⟨rfl, q, rfl⟩; clear hcc)
      | (go_at_call 17; refine (tape_New.calls A0 c0 l0 (strOfNums l0) 0 _ (Kd.C_below HR0.out (pw_below_drewN (Below.refl _ _) _)) HC0.out rfl).mono ?_; rintro e w2 ⟨rfl, hb2⟩; have HB2 := Aside0.mk (show Below w.heap.size w w2 from below_step (pw_below_drewN (Below.refl _ w) _) hb2); clear hb2)
      | ((with_reducible refine gate_dst (N := 8) rfl ?_); refine box_event ?hg (N := 8) ?hd (cs := #[.string (⟨#[]⟩ : ByteArray), .int .i64 0]) (t := 38) ?hr ?_; (case hd => rfl); (case hg => rfl); (case hr => first | (go_simp; done) | (go_simp; rfl)); intro gb hg w3 hbox hb; have BK := Aside0.mk hbox; have GE := Aside0.mk (show w.heap.size ≤ gb by rw [hg]; exact HB2.out.size); have HB3 := Aside0.mk (show Below w.heap.size w w3 from below_step HB2.out hb); clear HB2 hbox hg hb; have hz0 : w3.cell? ⟨gb, 0, none⟩ = some (.string (⟨#[]⟩ : ByteArray)) := (blk_cell BK.out 0).trans rfl; have hz1 : w3.cell? ⟨gb, 1, none⟩ = some (.int .i64 0) := (blk_cell BK.out 1).trans rfl; have hf0 := blk_frozen BK.out 0; have hf1 := blk_frozen BK.out 1))
    go_loopg [20] k (fun kq v20 wr => ∃ (L : List (Int × Int)) (s : ByteArray) (u : Int), v20 = .int .i64 (L.length : Int) ∧ Aside0 (eachl G kq l1 s u L = some (Lr, n, er)) ∧ Aside0 (L.length ≤ l1.length) ∧ Aside0 (wr.heap[gb]? = some (.cells #[.string s, .int .i64 u] 38 (0, 0))) ∧ Aside0 (Inv L wr) ∧ Aside0 (Below w0.heap.size w0 wr) ∧ Aside0 (w.heap.size ≤ wr.heap.size))
    case atStart =>
      refine ⟨[], strOfNums l0, 0, rfl, H, ⟨Nat.zero_le _⟩, ⟨?_⟩, ⟨?_⟩, ⟨?_⟩, ⟨?_⟩⟩
      · exact blk_put (cs := #[.string (strOfNums l0), .int .i64 0]) (blk_put (cs := #[.string (⟨#[]⟩ : ByteArray), .int .i64 0]) BK.out 0 _ rfl) 1 _ rfl
      · exact HIF.out _ _ _ HI0.out (below_set (below_set HB3.out GE.out) GE.out)
      · exact below_set (below_set (below_then HB.out H0.out HB3.out) (Nat.le_trans H0.out GE.out)) (Nat.le_trans H0.out GE.out)
      · simpa using HB3.out.size
    case round =>
      clear H BK HB3 HI0 hz0 hz1 hf0 hf1 HB
      obtain ⟨L, s, u, rfl, HL, HLL, BK, HI, HB, HS⟩ := hrel
      cases gk with
      | zero => exact absurd HL.out (by simp [eachl])
      | succ k1 =>
        have H := HL.out
        clear HL
        rw [eachl] at H
        have hz0 : wr.cell? ⟨gb, 0, none⟩ = some (.string s) := (blk_cell BK.out 0).trans rfl
        have hz1 : wr.cell? ⟨gb, 1, none⟩ = some (.int .i64 u) := (blk_cell BK.out 1).trans rfl
        by_cases hlt : L.length < l1.length
        · rw [if_pos hlt] at H
          replace H := Option.bind_eq_some_iff.1 H
          obtain ⟨⟨q1, q2, q3, q4⟩, hq, H⟩ := H
          have HQ := Aside0.mk hq
          clear hq
          have hltz : (L.length : Int) < (l1.length : Int) := by omega
          have HLT := Aside0.mk hlt
          have hcell : wr.cell? (ad.add L.length) = some (.int .i64 (l1.getD L.length 0)) := by
            have := HC.out L.length hlt
            exact (HB.out.cell (World.block_lt_of_cell? _ _ this)).trans this
          obtain rfl := HA.out (by omega)
          obtain ⟨b, hb0⟩ : ∃ b, l1.getD L.length 0 = b := ⟨_, rfl⟩
          rw [hb0] at HQ hcell
          clear hb0
          simp only at H
          by_cases c4 : q4 = 0
          · rw [if_pos c4] at H
            subst c4
            obtain ⟨at_, hat⟩ : ∃ at_, wrap64 (q3 - 1) = at_ := ⟨_, rfl⟩
            rw [hat] at H
            have hat' : IntKind.i64.wrap (q3 - 1) = at_ := (i64_w _).trans hat
            by_cases cG : G L.length at_ q1 = true
            · rw [if_pos cG] at H
              have HN := Aside0.mk H
              have HG := Aside0.mk cG
              clear H cG
              go_wp2_with (first
                | (go_at_call 16; refine (draw_Below.calls k1 s u b q1 q2 q3 0 _ HQ.out).mono ?_; rintro e w3 ⟨rfl, hb3⟩; have BK3 := Aside0.mk (blk_below BK.out hb3); have HB3 := Aside0.mk (show Below wr.heap.size wr w3 from hb3); clear hb3 BK)
                | ((with_reducible refine gate_dst (N := 12) rfl ?_); refine box_event ?hg (N := 12) ?hd (cs := #[.string (⟨#[]⟩ : ByteArray), .int .i64 0]) (t := 38) ?hr ?_; (case hd => rfl); (case hg => rfl); (case hr => first | (go_simp; done) | (go_simp; rfl)); intro gb2 hg w4 hbox hb; have BK4 := Aside0.mk (blk_below BK3.out hb); have BX4 := Aside0.mk hbox; have NE := Aside0.mk (show gb ≠ gb2 by have := blk_lt BK3.out; omega); have GE2 := Aside0.mk (show wr.heap.size ≤ gb2 by have := HB3.out.size; omega); have HB4 := Aside0.mk (show Below wr.heap.size wr w4 from below_step HB3.out hb); clear HB3 BK3 hbox hg hb; have hx0 : w4.cell? ⟨gb2, 0, none⟩ = some (.string (⟨#[]⟩ : ByteArray)) := (blk_cell BX4.out 0).trans rfl; have hx1 : w4.cell? ⟨gb2, 1, none⟩ = some (.int .i64 0) := (blk_cell BX4.out 1).trans rfl; have hxf0 := blk_frozen BX4.out 0; have hxf1 := blk_frozen BX4.out 1; have hy0 : w4.cell? ⟨gb, 0, none⟩ = some (.string s) := (blk_cell BK4.out 0).trans rfl; have hy1 : w4.cell? ⟨gb, 1, none⟩ = some (.int .i64 u) := (blk_cell BK4.out 1).trans rfl; have hyf0 := blk_frozen BK4.out 0; have hyf1 := blk_frozen BK4.out 1; have hne := NE.out; have hne' := NE.out.symm)
                | (go_at_call 21; refine (tape_Tape_Used.calls q2 q3 q3 _ rfl).mono ?_; rintro e w5 ⟨rfl, hb5⟩; obtain ⟨e1, e2, e3, e4⟩ := each_after H0.out HS.out HB.out HB4.out BK4.out NE.out GE.out GE2.out hb5; have BK5 := Aside0.mk e1; have HI5 := Aside0.mk (HIF.out _ _ _ HI.out e2); have HB5 := Aside0.mk e3; have HS5 := Aside0.mk e4; clear hb5 e1 e2 e3 e4 BK4 BX4 hx0 hx1 hxf0 hxf1 hy0 hy1 hyf0 hyf1))
              refine (HCB.out L q1 at_ _ hlt HG.out HI5.out HB5.out HS5.out).mono ?_
              rintro e w6 ⟨rfl, hi6, hb6, hk6⟩
              have BK6 := Aside0.mk (blk_kept BK5.out hk6 (by have := GE.out; omega))
              have HI6 := Aside0.mk hi6
              have HB6 := Aside0.mk hb6
              have HS6 := Aside0.mk (Nat.le_trans HS5.out hk6.1)
              clear hi6 hb6 hk6 BK5 HI5 HB5 HS5 hcell hz0 hz1
              clear hat hat' hne hne' hlt hltz
              go_wp2
              go_roundg k1
              case measure => omega
              case rel =>
                refine ⟨L ++ [(q1, at_)], q2, q3, ?_, HN, ⟨?_⟩, BK6, HI6, HB6, HS6⟩
                · have := HLT.out; congr 1; unfold wrap64; simp; omega
                · have := HLT.out; simp; omega
            · rw [if_neg cG] at H
              exact absurd H (by simp)
          · rw [if_neg c4] at H
            simp only [Option.some.injEq, Prod.mk.injEq] at H
            obtain ⟨rfl, rfl, rfl⟩ := H
            have c4b1 : (q4 != 0) = true := bne_iff_ne.mpr c4
            go_wp2_with (first
                | (go_at_call 16; refine (draw_Below.calls k1 s u b q1 q2 q3 q4 _ HQ.out).mono ?_; rintro e w3 ⟨rfl, hb3⟩; have BK3 := Aside0.mk (blk_below BK.out hb3); have HB3 := Aside0.mk (show Below wr.heap.size wr w3 from hb3); clear hb3 BK)
                | ((with_reducible refine gate_dst (N := 12) rfl ?_); refine box_event ?hg (N := 12) ?hd (cs := #[.string (⟨#[]⟩ : ByteArray), .int .i64 0]) (t := 38) ?hr ?_; (case hd => rfl); (case hg => rfl); (case hr => first | (go_simp; done) | (go_simp; rfl)); intro gb2 hg w4 hbox hb; have BX4 := Aside0.mk hbox; have GE2 := Aside0.mk (show wr.heap.size ≤ gb2 by have := HB3.out.size; omega); have HB4 := Aside0.mk (show Below wr.heap.size wr w4 from below_step HB3.out hb); clear HB3 BK3 hbox hg hb; have hx0 : w4.cell? ⟨gb2, 0, none⟩ = some (.string (⟨#[]⟩ : ByteArray)) := (blk_cell BX4.out 0).trans rfl; have hx1 : w4.cell? ⟨gb2, 1, none⟩ = some (.int .i64 0) := (blk_cell BX4.out 1).trans rfl; have hxf0 := blk_frozen BX4.out 0; have hxf1 := blk_frozen BX4.out 1))
            have low : Below w.heap.size wr w4 := ⟨HB4.out.os, HB4.out.tape, HB4.out.output, HB4.out.size, fun i hi => HB4.out.block i (by have := HS.out; omega)⟩
            have GG := Nat.le_trans HS.out GE2.out
            have low2 : Below w.heap.size wr ((w4.setCell ⟨gb2, 0, none⟩ (.string q2)).setCell ⟨gb2, 1, none⟩ (.int .i64 q3)) := (low.setCell (p := ⟨gb2, 0, none⟩) GG _).setCell (p := ⟨gb2, 1, none⟩) GG _
            try rw [Exit.noGoto_ret]
            go_ret2
            exact ⟨rfl, HIF.out _ _ _ HI.out low2, HB.out.trans ⟨low2.os, low2.tape, low2.output, low2.size, fun i hi => low2.block i (by have := H0.out; omega)⟩⟩
        · rw [if_neg hlt] at H
          simp only [Option.some.injEq, Prod.mk.injEq] at H
          obtain ⟨rfl, rfl, rfl⟩ := H
          have hltz : ¬ (L.length : Int) < (l1.length : Int) := by omega
          go_wp2_with (go_at_call 21; refine (tape_Tape_Used.calls s u u _ rfl).mono ?_; rintro e w5 ⟨rfl, hb5⟩; have HB5 := Aside0.mk (show Below wr.heap.size wr w5 from hb5); clear hb5)
          have low : Below w.heap.size wr w5 := ⟨HB5.out.os, HB5.out.tape, HB5.out.output, HB5.out.size, fun i hi => HB5.out.block i (by have := HS.out; omega)⟩
          go_ret2
          exact ⟨rfl, HIF.out _ _ _ HI.out low, HB.out.trans ⟨low.os, low.tape, low.output, low.size, fun i hi => low.block i (by have := H0.out; omega)⟩⟩
def filled (n : Nat) (L : List (Int × Int)) : List Int := L.map (·.1) ++ List.replicate (n - L.length) 0
theorem filled_len (n : Nat) (L : List (Int × Int)) (h : L.length ≤ n) : (filled n L).length = n := by simp [filled]; omega
theorem filled_set (n : Nat) (L : List (Int × Int)) (h : L.length < n) (d a : Int) : (filled n L).set L.length d = filled n (L ++ [(d, a)]) := by
  unfold filled
  obtain ⟨m, hm⟩ : ∃ m, n - L.length = m + 1 := ⟨n - L.length - 1, by omega⟩
  have hm2 : n - (L ++ [(d, a)]).length = m := by simp; omega
  rw [hm, hm2, List.set_append_right _ _ (by simp), List.replicate_succ]
  simp
def InvA (go n B : Nat) (v : Value) (L : List (Int × Int)) (W : World) : Prop :=
  W.heap[go]? = some (.cells #[v] 23 (0, 0)) ∧ (Kd.int .i64).R 3 W B (fun k => k < go) v (filled n L)
set_option maxHeartbeats 1000000 in
theorem all_cb (go n : Nat) (v : Value) (w0 w : World) (L : List (Int × Int)) (d a : Int) (W : World) (hgo : go < w.heap.size) (hL : L.length < n) (hI : InvA go n w0.heap.size v L W) (hB : Below w0.heap.size w0 W) :
    Calls Try.prog 24 (#[.int .i64 (L.length : Int), .int .i64 a, .int .i64 d] ++ #[.pointer (some ⟨go, 0, none⟩)]) W fun e W' => e = .returned (.tuple #[]) ∧ InvA go n w0.heap.size v (L ++ [(d, a)]) W' ∧ Below w0.heap.size w0 W' ∧ Kept W W' (fun k => k < w.heap.size) := by
  obtain ⟨hg, hR⟩ := hI
  have hlen := filled_len n L (by omega)
  obtain ⟨g, cap, hv, hbg, hgW, cells, hcl⟩ := Kd.R_form hR (by omega)
  rw [hlen] at hv
  subst hv
  have hlt : g < go := hR.1 g (by simp [Value.ownBlock])
  obtain ⟨c, hcs, _, hcc, hff⟩ := Kd.R_elem hR (0 : Int) (L.length : Int) (by omega) (by omega)
  have hcell : ∃ u, W.cell? ⟨g, L.length, none⟩ = some u := by
    have h1 : c.length = 1 := hcs
    obtain ⟨u, hu⟩ : ∃ u, c[0]? = some u := ⟨c[0], List.getElem?_eq_getElem (by omega)⟩
    have := hcc 0 u hu
    rw [show (L.length : Int).toNat * (Kd.int .i64).sz + 0 = L.length from by rw [Int.toNat_natCast]; exact Nat.mul_one _] at this
    exact ⟨u, this⟩
  obtain ⟨u, hu⟩ := hcell
  have hfz : W.frozen? ⟨g, L.length, none⟩ = false := by
    have := hff 0
    rwa [show (L.length : Int).toNat * (Kd.int .i64).sz + 0 = L.length from by rw [Int.toNat_natCast]; exact Nat.mul_one _] at this
  have hR' := Kd.R_putn hR (L.length : Int) d
  rw [Int.toNat_natCast, filled_set n L hL d a] at hR'
  have hg' : (W.setCell ⟨g, L.length, none⟩ (.int .i64 d)).heap[go]? = some (.cells #[.slice (some ⟨g, 0, none⟩) n cap] 23 (0, 0)) := blk_far hg (by show go ≠ g; omega) _
  have F := Aside0.mk (show InvA go n w0.heap.size (.slice (some ⟨g, 0, none⟩) n cap) (L ++ [(d, a)]) (W.setCell ⟨g, L.length, none⟩ (.int .i64 d)) ∧ Below w0.heap.size w0 (W.setCell ⟨g, L.length, none⟩ (.int .i64 d)) ∧ Kept W (W.setCell ⟨g, L.length, none⟩ (.int .i64 d)) (fun k => k < w.heap.size) from
    ⟨⟨hg', hR'⟩, below_set hB hbg, Kept.setCell (Kept.refl _ _) (Or.inl (show g < w.heap.size by omega)) _⟩)
  have hz : W.cell? ⟨go, 0, none⟩ = some (.slice (some ⟨g, 0, none⟩) n cap) := (blk_cell hg 0).trans rfl
  clear hR hR' hg' hg hB hcl hcs hcc hff
  have hltz : (L.length : Int) < (n : Int) := by omega
  have hl0 : 0 ≤ (L.length : Int) := by omega
  show Calls Try.prog 24 #[.int .i64 (L.length : Int), .int .i64 a, .int .i64 d, .pointer (some ⟨go, 0, none⟩)] W _
  go_enter Try.func24, Try.ntmps24
  go_wp2
  trace_state
  go_end0
  exact ⟨rfl, F.out⟩
theorem invA_far {go n B : Nat} {v : Value} {L : List (Int × Int)} {W W' : World} {b : Nat} (hgo : go < b) (hI : InvA go n B v L W) (hb : Below b W W') : InvA go n B v L W' :=
  ⟨(hb.block go hgo).trans hI.1, Kd.R_step hI.2 (fun k hk _ => hb.block k (by omega))⟩
theorem invA_start {w w1 w2 : World} {gb n : Nat} {v1 : Value} (ho : (Kd.int .i64).R 3 w1 w.heap.size (fun _ => True) v1 (List.replicate n 0)) (hg : w1.heap.size ≤ gb) (hb : Below w1.heap.size w1 w2) (hbox : w2.heap[gb]? = some (.cells #[.slice none 0 0] 23 (0, 0))) :
    InvA gb n w.heap.size v1 [] (w2.setCell ⟨gb, 0, none⟩ v1) := by
  refine ⟨blk_put (cs := #[.slice none 0 0]) hbox 0 _ rfl, ?_⟩
  have e : filled n [] = List.replicate n 0 := by simp [filled]
  rw [e]
  have h1 : (Kd.int .i64).R 3 w1 w.heap.size (fun k => k < gb) v1 (List.replicate n 0) := Kd.R_mono (Kd.R_bound ho) (fun k hk => by have := hk.2.2.1; omega)
  exact Kd.R_far (p := ⟨gb, 0, none⟩) (Kd.R_below h1 hb) (fun k hk => by show k ≠ gb; omega) _
def draw_All.f (l0 : List Int) (l1 : List Int) : Option (List Int × Int × Int) :=
  if l1.length ≤ 35184372088832 then ((eachf (fun _ _ _ => true) (l0.length + l1.length + 5) l0 l1).bind fun q => (if q.2.2 = 0 then some (filled l1.length q.1, q.2.1, 0) else some ([], 0, q.2.2))) else none
set_option maxHeartbeats 4000000 in
set_option maxRecDepth 100000 in
theorem draw_All.calls (A0 : Option Addr) (c0 : Nat) (l0 : List Int) (A1 : Option Addr) (c1 : Nat) (l1 : List Int) (r1 : List Int) (r2 : Int) (r3 : Int) (w : World) (hr0 : Kd.C (Kd.int .u8) w A0 l0.length l0) (hc0 : l0.length ≤ c0) (hr1 : Kd.C (Kd.int .i64) w A1 l1.length l1) (hc1 : l1.length ≤ c1) (h : draw_All.f l0 l1 = some (r1, r2, r3)) :
    Calls Try.prog 12 #[.slice A0 l0.length c0, .slice A1 l1.length c1] w fun e w' => ∃ v0_ : Value, e = .returned (.tuple #[v0_, .int .i64 r2, .int .i64 r3]) ∧ Kd.R (Kd.int .i64) 3 w' w.heap.size (fun _ => True) v0_ r1 ∧ Below w.heap.size w w' := by
  unfold draw_All.f at h
  by_cases hl : l1.length ≤ 35184372088832
  · rw [if_pos hl] at h
    replace h := Option.bind_eq_some_iff.1 h
    obtain ⟨⟨Lr, n, er⟩, he, h⟩ := h
    simp only at h
    have E := Aside0.mk he
    have HR0 := Aside0.mk hr0
    have HR1 := Aside0.mk hr1
    have HC0 := Aside0.mk hc0
    have HC1 := Aside0.mk hc1
    have HL := Aside0.mk hl
    have H := Aside0.mk h
    have eF : ∀ args w, (callFunc 24 args).run Try.prog w = .ok (.enter 24 args) w := enters_of Try.func24 (by kernel_rfl) rfl
    have hmf : ∀ (fn : Fn) (first cap : Array Value) (w : World), (Instr.makeFunc fn first cap).run Try.prog w = .ok (.func fn first cap) w := fun _ _ _ _ => rfl
    clear he hr0 hr1 hc0 hc1 h hl
    go_enter Try.func12, Try.ntmps12
    go_wp2_with (first
      | ((with_reducible refine gate_dst (N := 12) rfl ?_); refine Kd.R_make (Kd.int .i64) _ 3 rfl (N := 12) rfl 23 _ _ rfl (l1.length : Int) rfl rfl Try.underlying23 (.int .i64 0) 8 info3 rfl (by decide) (by omega) 0 (ok := fun _ => True) (okp := fun _ => True) rfl (fun _ hk => hk) trivial (by omega) (by have := HL.out; omega) (Below.refl _ _) (Nat.le_refl _) ?_; intro v1 w1 ho hb hg_ hnew_; rw [Int.toNat_natCast] at ho; obtain ⟨A2, c2, hv1⟩ := Kd.R_slice ho; rw [List.length_replicate] at hv1; subst hv1; have HO := Aside0.mk ho; have HB := Aside0.mk hb; clear ho hb hg_ hnew_)
      | ((with_reducible refine gate_dst (N := 7) rfl ?_); refine box_event ?hg (N := 7) ?hd (cs := #[.slice none 0 0]) (t := 23) ?hr ?_; (case hd => rfl); (case hg => rfl); (case hr => first | (go_simp; done) | (go_simp; rfl)); intro gb hg w3 hbox hb; have BK := Aside0.mk hbox; have GE := Aside0.mk (show w1.heap.size ≤ gb by omega); have HB3 := Aside0.mk (show Below w1.heap.size w1 w3 from hb); clear hbox hg hb; have hz0 : w3.cell? ⟨gb, 0, none⟩ = some (.slice none 0 0) := (blk_cell BK.out 0).trans rfl; have hf0 := blk_frozen BK.out 0))
    have BW : Below w.heap.size w (w3.setCell ⟨gb, 0, none⟩ (.slice A2 l1.length c2)) := below_set (below_step HB.out HB3.out) (Nat.le_trans HB.out.size GE.out)
    have HGW : gb < (w3.setCell ⟨gb, 0, none⟩ (.slice A2 l1.length c2)).heap.size := by have := blk_lt BK.out; simpa using this
    have ST := invA_start HO.out GE.out HB3.out BK.out
    have HE := each_calls (fun _ _ _ => true) 24 #[.pointer (some ⟨gb, 0, none⟩)] eF (l0.length + l1.length + 5) A0 c0 l0 A1 c1 l1 w (w3.setCell ⟨gb, 0, none⟩ (.slice A2 l1.length c2)) (Kd.C_below HR0.out BW) HC0.out HR1.out HC1.out BW (InvA gb l1.length w.heap.size (.slice A2 l1.length c2)) ST
      (fun L W W' hI hb => invA_far HGW hI hb) (fun L d at_ W hL _ hI hB hS => all_cb gb l1.length _ w _ L d at_ W HGW hL hI hB) Lr n er E.out
    generalize (w3.setCell ⟨gb, 0, none⟩ (.slice A2 l1.length c2)) = w4 at HE BW HGW ST ⊢
    clear hz0 hf0 BK HB HB3 HO GE ST BW eF E
    by_cases c4 : er = 0
    · subst c4
      have H' := H.out
      rw [if_pos rfl] at H'
      simp only [Option.some.injEq, Prod.mk.injEq] at H'
      obtain ⟨rfl, rfl, rfl⟩ := H'
      clear H
      go_wp2_with (go_at_call 23; refine HE.mono ?_; rintro e w5 ⟨rfl, hI, hb5⟩; have HI5 := Aside0.mk hI; have HB5 := Aside0.mk hb5; have hz0 : w5.cell? ⟨gb, 0, none⟩ = some (.slice A2 l1.length c2) := (blk_cell hI.1 0).trans rfl; clear HE hI hb5)
      refine bodyPost_ret (results_list (rs := [.tmp 4, .tmp 5, .tmp 6]) rfl (by simp) (.tmp (.tmp (.tmp .nil)))) rfl ?_
      exact ⟨_, rfl, Kd.R_mono HI5.out.2 (fun _ _ => trivial), HB5.out⟩
    · have H' := H.out
      rw [if_neg c4] at H'
      simp only [Option.some.injEq, Prod.mk.injEq] at H'
      obtain ⟨rfl, rfl, rfl⟩ := H'
      clear H
      have c4b1 : (er != 0) = true := bne_iff_ne.mpr c4
      go_wp2_with (go_at_call 23; refine HE.mono ?_; rintro e w5 ⟨rfl, hI, hb5⟩; have HB5 := Aside0.mk hb5; clear HE hI hb5)
      refine bodyPost_ret (results_list (rs := [.tmp 4, .tmp 5, .tmp 6]) rfl (by simp) (.tmp (.tmp (.tmp .nil)))) rfl ?_
      exact ⟨_, rfl, Kd.R_nil _ _ _ _ _, HB5.out⟩
  · rw [if_neg hl] at h
    exact absurd h (by simp)

end Go.Proofs.Ytijnmfdpdjblbaa.Q
