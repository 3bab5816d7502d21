/- Turn, by the reference and by the program: what it comes to. -/
import Derived.Test.YtijnmfdpdjblbaaDraw4
set_option linter.unusedVariables false
set_option linter.unusedSimpArgs false
namespace Go.Proofs.Ytijnmfdpdjblbaa.Pl
open Go.RowKit Go.Proofs.Ytijnmfdpdjblbaa.Q Go.Proofs.YtijnmfdpdjblbaaW.PrintWords Go.Proofs.YtijnmfdpdjblbaaW.PrintLast
def turnR (p bs ws : List Int) (q : List (Int × Int) × Int × Int) : List Int × Int := if q.2.2 = 0 then (turned p bs ws q.1, 0) else ([], q.2.2)
def turnA (p bs ws : List Int) : List Int × Int := if ws.length = bs.length ∧ badT bs ws = false then turnR p bs ws (run p bs 0 []) else ([], 2)
theorem u8wrap (x : Int) : IntKind.u8.wrap x = x % 256 := rfl
theorem draw1_one (p : List Int) (u : Nat) : draw1 p 1 u = some (0, u) := rfl
theorem ref_turn (p bs ws : List Int) (hb : AllOk bs) (hp : ∀ x ∈ p, 0 ≤ x ∧ x ≤ 255) (hl : p.length ≤ 9223372036854775000) (hbl : bs.length ≤ 17592186044000) (hw : ws.length = bs.length) :
    ∀ (rem i u k : Nat) (L : List (Int × Int)), i + rem = bs.length → L.length = i → u ≤ p.length → p.length + rem + 3 ≤ k → churnref10_Turn.l1 k p bs ws (turned p bs ws L) (u : Int) (i : Int) = some (turnR p bs ws (run p (bs.drop i) u L)) := by
  intro rem
  induction rem with
  | zero =>
    intro i u k L hi hL hu hk
    obtain ⟨k, rfl⟩ : ∃ m, k = m + 1 := ⟨k - 1, by omega⟩
    rw [churnref10_Turn.l1, if_neg (by omega), List.drop_eq_nil_of_le (by omega)]
    rfl
  | succ rem ih =>
    intro i u k L hi hL hu hk
    obtain ⟨k, rfl⟩ : ∃ m, k = m + 1 := ⟨k - 1, by omega⟩
    obtain ⟨b1, b2⟩ := allOk_at hb i (by omega)
    rw [churnref10_Turn.l1, if_pos (by omega), if_pos (by omega), ref1 p _ b1 b2 hp hl u k hu (by omega), Option.bind_some, drop_rd bs i (by omega), run]
    cases hd : draw1 p (rd bs (i : Int)) u with
    | none => rfl
    | some q =>
      obtain ⟨v, n⟩ := q
      have hn := draw1_le p _ u hu hd
      have hbg : bs.getD i 0 = rd bs (i : Int) := (rd_nat bs i).symm
      have hs := turned_snoc p bs ws L v ((n : Int) - 1)
      have := ih (i + 1) n k (L ++ [(v, (n : Int) - 1)]) (by omega) (by simp; omega) hn.2.1 (by omega)
      unfold turnStep at hs
      rw [hL, hbg] at hs
      simp only
      rw [if_pos trivial]
      by_cases h1 : rd bs (i : Int) = 1
      · rw [h1, draw1_one] at hd
        simp only [Option.some.injEq, Prod.mk.injEq] at hd
        obtain ⟨rfl, rfl⟩ := hd
        rw [if_neg (by omega)] at hs
        rw [if_neg (by omega), w64 (by omega) (by omega), ← hs]
        exact this
      · have hu' := hn.2.2 h1
        rw [if_pos (by omega)] at hs
        have hx := hp _ (rd_mem p ((n : Int) - 1) (by omega))
        rw [if_pos (by omega), w64 (x := (n : Int) - 1) (by omega) (by omega), if_pos (by omega), if_pos (by omega), if_pos (by omega), if_pos (by rw [turned_len]; omega), w64 (x := (i : Int) + 1) (by omega) (by omega)]
        rw [hs] at this
        unfold turnByte at this
        rw [u8wrap, ← rd_nat ws i] at this
        exact this
theorem ref_want (p bs ws : List Int) (hb : AllOk bs) (hw : ws.length = bs.length) (hbl : bs.length ≤ 17592186044000) (hp : p.length ≤ 140737488351232) {R : List Int × Int} (hR : Ev (fun k => churnref10_Turn.l1 k p bs ws p 0 0) R) :
    ∀ (d i : Nat), i + d = bs.length → Ev (fun k => churnref10_Turn.l0 k p bs ws (i : Int)) (if (List.range' i d).any (badAt bs ws) = true then ([], 2) else R) := by
  intro d
  induction d with
  | zero =>
    intro i hi
    refine Ev.step (f := fun k => churnref10_Turn.l1 k p bs ws p 0 0) (fun k => ?_) hR
    rw [churnref10_Turn.l0, if_neg (by omega), if_pos (by omega), if_pos (by omega), Option.bind_some, if_pos (by simp; omega)]
    rfl
  | succ d ih =>
    intro i hi
    obtain ⟨b1, b2⟩ := allOk_at hb i (by omega)
    have e : badAt bs ws i = (decide (rd ws (i : Int) < 0) || decide (rd ws (i : Int) ≥ rd bs (i : Int))) := by
      unfold badAt
      rw [← rd_nat, ← rd_nat, okBound_of _ b1 b2]
      rfl
    rw [List.range'_succ, List.any_cons, e]
    by_cases h1 : rd ws (i : Int) < 0
    · refine Ev.step (f := fun _ => some ([], 2)) (fun k => by rw [churnref10_Turn.l0, if_pos (by omega), if_pos (by omega), if_pos h1]) (ev_some ?_)
      rw [decide_eq_true h1]
      rfl
    · by_cases h2 : rd ws (i : Int) ≥ rd bs (i : Int)
      · refine Ev.step (f := fun _ => some ([], 2)) (fun k => by rw [churnref10_Turn.l0, if_pos (by omega), if_pos (by omega), if_neg h1, if_pos (by omega), if_pos h2]) (ev_some ?_)
        rw [decide_eq_true h2, Bool.or_true]
        rfl
      · refine Ev.step (fun k => by rw [churnref10_Turn.l0, if_pos (by omega), if_pos (by omega), if_neg h1, if_pos (by omega), if_neg h2, w64 (by omega) (by omega)]; rfl) (ev_to (ih (i + 1) (by omega)) ?_)
        rw [decide_eq_false h1, decide_eq_false h2]
        rfl
theorem badT_wrong (bs ws : List Int) (h : (bs.any fun b => !okBound b) = true) : badT bs ws = true := by
  obtain ⟨b, hb, h⟩ := List.any_eq_true.1 h
  obtain ⟨i, hi, rfl⟩ := List.getElem_of_mem hb
  unfold badT
  refine List.any_eq_true.2 ⟨i, by simpa using hi, ?_⟩
  unfold badAt
  rw [List.getD_eq_getElem?_getD, List.getElem?_eq_getElem hi, Option.getD_some, h]
  rfl
theorem ref_turn_ev (p bs ws : List Int) (hp : ∀ x ∈ p, 0 ≤ x ∧ x ≤ 255) (hl : p.length ≤ 140737488351232) (hbl : bs.length ≤ 17592186043904) (hwl : ws.length ≤ 17592186043904) : Ev (fun k => churnref10_Turn.f k p bs ws) (turnA p bs ws) := by
  unfold churnref10_Turn.f turnA
  refine ev_bind (wrong_ev bs (by omega)) ?_
  by_cases h : (bs.any fun b => !okBound b) = true
  · refine ev_pos h (Ev.step (f := fun _ => some ([], 2)) (fun k => by rw [churnref10_Turn.j0, if_pos rfl]) (ev_some ?_))
    rw [badT_wrong bs ws h, if_neg (by simp)]
  · refine ev_neg h ?_
    by_cases hw : ws.length = bs.length
    · have hb := allOk_of (by simpa using h)
      refine Ev.step (f := fun k => churnref10_Turn.l0 k p bs ws 0) (fun k => by rw [churnref10_Turn.j0, if_neg (by simp [hw])]) ?_
      have hR : Ev (fun k => churnref10_Turn.l1 k p bs ws p 0 0) (turnR p bs ws (run p bs 0 [])) := ⟨p.length + bs.length + 3, fun k hk => ref_turn p bs ws hb hp (by omega) (by omega) hw bs.length 0 0 k [] (by omega) rfl (by omega) (by omega)⟩
      refine ev_to (ref_want p bs ws hb hw (by omega) hl hR bs.length 0 (by omega)) ?_
      rw [← List.range_eq_range']
      show (if badT bs ws = true then _ else _) = _
      by_cases hB : badT bs ws = true
      · rw [if_pos hB, if_neg (by simp [hB])]
      · rw [if_neg hB, if_pos ⟨hw, by simpa using hB⟩]
    · refine Ev.step (f := fun _ => some ([], 2)) (fun k => by rw [churnref10_Turn.j0, if_pos (by simp; omega)]) (ev_some ?_)
      rw [if_neg (fun h => hw h.1)]
theorem drw_turn_f (p bs ws : List Int) (hp : ∀ x ∈ p, 0 ≤ x ∧ x ≤ 255) (hl : p.length ≤ 140737488351232) (hbl : bs.length ≤ 17592186043904) : draw_Turn.f p bs ws = some (turnA p bs ws) := by
  unfold draw_Turn.f turnA eachf
  by_cases hw : ws.length = bs.length
  · rw [if_pos hw]
    by_cases hB : badT bs ws = true
    · rw [if_pos hB, if_neg (by simp [hB])]
    · have h : ¬ (bs.any fun b => !okBound b) = true := fun h => hB (badT_wrong bs ws h)
      have hG : ∀ (i u n : Nat) (v : Int), i < bs.length → u ≤ p.length → draw1 p (rd bs (i : Int)) u = some (v, n) → TurnG p bs i ((n : Int) - 1) v = true := by
        intro i u n v hi hu hd
        have hn := draw1_le p _ u hu hd
        unfold TurnG
        rw [← rd_nat]
        refine decide_eq_true (fun h1 => ?_)
        have := hn.2.2 (by omega)
        omega
      have hd : eachl (TurnG p bs) (p.length + bs.length + 5) bs (strOfNums p) 0 [] = some (run p bs 0 []) := drw_all _ p bs (allOk_of (by simpa using h)) hp (by omega) hG bs.length 0 0 _ [] (by omega) rfl (by omega) (by omega)
      have hc : ws.length = bs.length ∧ badT bs ws = false := ⟨hw, by simpa using hB⟩
      rw [if_neg hB, if_neg h, hd, if_pos hc]
      unfold slices_Clone_byte_byte.f
      rw [if_pos (by omega)]
      rw [Option.bind_some, Option.bind_some]
      unfold turnR
      split <;> rfl
  · rw [if_neg hw, if_neg (fun h => hw h.1)]
end Go.Proofs.Ytijnmfdpdjblbaa.Pl
