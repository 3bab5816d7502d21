/- Of the 256 tapes of one byte each number below a bound is drawn by just as many, and the rest, fewer than the bound, are exhausted (P10.1): the printed statement, proved over lists. -/
import Derived.Test.YtijnmfdpdjblbaaDraw2
import Derived.Test.YtijnmfdpdjblbaaQx17
set_option linter.unusedVariables false
set_option linter.unusedSimpArgs false
namespace Go.Proofs.Ytijnmfdpdjblbaa.Pure
open Go.RowKit Go.Proofs.Ytijnmfdpdjblbaa.Q Go.Proofs.YtijnmfdpdjblbaaW.PrintWords Go.Proofs.YtijnmfdpdjblbaaW.PrintLast Go.Proofs.Ytijnmfdpdjblbaa.Pl

/-- How many numbers below u leave x when divided by b. -/
def cnt (b u x : Nat) : Nat := u / b + if x < u % b then 1 else 0
theorem cnt_next (b u x : Nat) (hb : 0 < b) (hx : x < b) : cnt b (u + 1) x = cnt b u x + if x = u % b then 1 else 0 := by
  have h1 := Nat.div_add_mod u b
  have h2 := Nat.mod_lt u hb
  unfold cnt
  by_cases h : u % b + 1 < b
  · have := (Nat.div_mod_unique (a := u + 1) (b := b) (c := u % b + 1) (d := u / b) hb).2 ⟨by omega, h⟩
    rw [this.1, this.2]
    split <;> split <;> split <;> omega
  · have e : b * (u / b + 1) = b * (u / b) + b := Nat.mul_succ _ _
    have := (Nat.div_mod_unique (a := u + 1) (b := b) (c := 0) (d := u / b + 1) hb).2 ⟨by omega, hb⟩
    rw [this.1, this.2]
    split <;> split <;> split <;> omega
/-- The counts when the numbers below u have been counted. -/
def Cnt (b u : Nat) (l : List Int) : Prop := l.length = 256 ∧ ∀ x : Nat, x < b → rd l (x : Int) = (cnt b u x : Int)
theorem cnt_le (b u x : Nat) : cnt b u x ≤ u + 1 := by
  unfold cnt
  have := Nat.div_le_self u b
  split <;> omega
theorem Cnt.next {b u : Nat} {l : List Int} (h : Cnt b u l) (hb : 0 < b) (hb2 : b ≤ 256) (hu : u ≤ 256) : Cnt b (u + 1) (l.set (u % b) (wrap64 (rd l ((u % b : Nat) : Int) + 1))) := by
  have hm := Nat.mod_lt u hb
  refine ⟨by rw [List.length_set]; exact h.1, fun x hx => ?_⟩
  have hlen := h.1
  have hc := cnt_le b u (u % b)
  rw [cnt_next b u x hb hx, rd_lt _ x (by rw [List.length_set]; omega), List.getElem_set]
  by_cases e : x = u % b
  · rw [if_pos e.symm, if_pos e, h.2 _ hm, w64 (by omega) (by omega), e]
    omega
  · rw [if_neg (fun h => e h.symm), if_neg e, ← rd_lt l x (by omega), h.2 x hx]
    omega
theorem drw_byte (v b : Nat) (hv : v < 256) (h1 : 1 ≤ b) (h2 : b ≤ 256) : Ev (fun k => draw_Below.f k (strOfNums [(v : Int) % 256]) 0 (b : Int))
    (if b = 1 then (0, strOfNums [(v : Int) % 256], 0, 0) else if v < 256 - 256 % b then (((v % b : Nat) : Int), strOfNums [(v : Int) % 256], 1, 0) else (0, ⟨#[]⟩, 0, 3)) := by
  have e0 : (v : Int) % 256 = (v : Int) := Int.emod_eq_of_lt (by omega) (by omega)
  rw [e0]
  refine ev_to ⟨3, fun k hk => drw1 [(v : Int)] (b : Int) (by omega) (by omega) (by intro x hx; simp at hx; omega) (by simp) 0 k (by simp) (by simp; omega)⟩ ?_
  unfold draw1
  by_cases hb : b = 1
  · rw [if_pos (show (b : Int) = 1 by omega), if_pos hb]
    rfl
  · rw [if_neg (show ¬ (b : Int) = 1 by omega), if_neg hb]
    have hsc : scan [(v : Int)] (b : Int) ([(v : Int)].length - 0) 0 = if taken [(v : Int)] (b : Int) 0 then some 0 else none := rfl
    rw [hsc]
    have ht : taken [(v : Int)] (b : Int) 0 ↔ v < 256 - 256 % b := by
      show (v : Int) < 256 - 256 % (b : Int) ↔ _
      have hm := Nat.mod_le 256 b
      have : (256 : Int) % (b : Int) = ((256 % b : Nat) : Int) := by simp
      rw [this]
      omega
    by_cases h : v < 256 - 256 % b
    · rw [if_pos (ht.2 h), if_pos h]
      show (Int.tmod (v : Int) (b : Int), _, _, _) = _
      rw [Int.tmod_eq_emod_of_nonneg (by omega)]
      rfl
    · rw [if_neg (fun h' => h (ht.1 h')), if_neg h]
      rfl
theorem bytes_l1 (b : Nat) (l : List Int) (o : Int) (h1 : 1 ≤ b) (h2 : b ≤ 256) (hl : l.length = 256) (q : Int) (hq : ∀ x : Nat, x < b → rd l (x : Int) = q) (ho : o < (b : Int)) (hs : wrap64 (o + wrap64 ((b : Int) * q)) = 256) :
    ∀ (d i : Nat), i + d = b → Ev (fun k => churnlaw10_DrawBytes.l1 k (b : Int) l o (i : Int)) true := by
  intro d
  induction d with
  | zero =>
    intro i hi
    refine Ev.step (f := fun _ => some true) (fun k => ?_) (Ev.now _)
    rw [churnlaw10_DrawBytes.l1, if_neg (by omega), if_pos ho, if_pos (by omega)]
    have := hq 0 (by omega)
    rw [show ((0 : Nat) : Int) = 0 from rfl] at this
    rw [this, hs]
    rfl
  | succ d ih =>
    intro i hi
    refine Ev.step (fun k => ?_) (ih (i + 1) (by omega))
    have a1 := hq i (by omega)
    have a2 := hq 0 (by omega)
    rw [show ((0 : Nat) : Int) = 0 from rfl] at a2
    rw [churnlaw10_DrawBytes.l1, if_pos (by omega), if_pos (by omega), if_pos (by omega), if_pos (by omega), if_pos (by rw [a1, a2]), w64 (by omega) (by omega)]
    rfl
theorem bytes_bad (b : Int) (hb : b < 1 ∨ b > 256) (l : List Int) (o : Int) : ∀ (d i : Nat), i + d = 256 → Ev (fun k => churnlaw10_DrawBytes.l0 k b l o (i : Int)) true := by
  have h2 : Ev (fun k => churnlaw10_DrawBytes.j2 k b l o true) true := Ev.step (f := fun _ => some true) (fun k => by rw [churnlaw10_DrawBytes.j2, if_pos rfl]) (Ev.now _)
  intro d
  induction d with
  | zero =>
    intro i hi
    refine Ev.step (f := fun k => churnlaw10_DrawBytes.j2 k b l o true) (fun k => ?_) h2
    rw [churnlaw10_DrawBytes.l0, if_neg (by omega)]
    by_cases h : b < 1
    · rw [if_pos h]
    · rw [if_neg h, decide_eq_true (show b > 256 by omega)]
  | succ d ih =>
    intro i hi
    have hB : ∀ s u k, draw_Below.f k s u b = some (0, ⟨#[]⟩, 0, 2) := by
      intro s u k
      have : okBound b = false := by unfold okBound; simp; omega
      unfold draw_Below.f
      rw [isBound_f, Option.bind_some, this, if_neg (by decide)]
    refine Ev.step (f := fun k => churnlaw10_DrawBytes.j1 k b l o (i : Int) 0 2 true ⟨#[]⟩ 0) (fun k => ?_) (Ev.step (fun k => ?_) (ih (i + 1) (by omega)))
    · rw [churnlaw10_DrawBytes.l0, if_pos (by omega), tape_New.f, Option.bind_some, hB, Option.bind_some]
      by_cases h : b < 1
      · rw [if_pos h]
      · rw [if_neg h, decide_eq_true (show b > 256 by omega)]
    · rw [churnlaw10_DrawBytes.j1, if_pos rfl, if_pos rfl, w64 (by omega) (by omega)]
      rfl
theorem bytes_good (b : Nat) (h1 : 1 ≤ b) (h2 : b ≤ 256) : ∀ (d i : Nat) (l : List Int), i + d = 256 → Cnt b (min i (256 - 256 % b)) l → Ev (fun k => churnlaw10_DrawBytes.l0 k (b : Int) l (((i - min i (256 - 256 % b) : Nat)) : Int) (i : Int)) true := by
  have hm := Nat.mod_lt 256 (show 0 < b by omega)
  have hdm := Nat.div_add_mod 256 b
  intro d
  induction d with
  | zero =>
    intro i l hi hc
    obtain rfl : i = 256 := by omega
    rw [show min 256 (256 - 256 % b) = b * (256 / b) by omega] at hc ⊢
    have hq : ∀ x : Nat, x < b → rd l (x : Int) = ((256 / b : Nat) : Int) := by
      intro x hx
      rw [hc.2 x hx]
      unfold cnt
      rw [Nat.mul_div_cancel_left _ (show 0 < b by omega), Nat.mul_mod_right, if_neg (by omega)]
      rfl
    have hs : wrap64 ((((256 - b * (256 / b) : Nat)) : Int) + wrap64 ((b : Int) * ((256 / b : Nat) : Int))) = 256 := by
      have : (b : Int) * ((256 / b : Nat) : Int) = ((b * (256 / b) : Nat) : Int) := by simp
      rw [this, w64 (x := ((b * (256 / b) : Nat) : Int)) (by omega) (by omega), w64 (by omega) (by omega)]
      omega
    refine Ev.step (f := fun k => churnlaw10_DrawBytes.j2 k (b : Int) l (((256 - b * (256 / b) : Nat)) : Int) false) (fun k => ?_) (Ev.step (fun k => ?_) (bytes_l1 b l _ h1 h2 hc.1 _ hq (by have hm' := hm; have hdm' := hdm; generalize 256 % b = r at hm' hdm'; omega) hs (b - 1) 1 (by omega)))
    · rw [churnlaw10_DrawBytes.l0, if_neg (by omega), if_neg (by omega), decide_eq_false (by omega)]
    · rw [churnlaw10_DrawBytes.j2, if_neg (by decide)]
      rfl
  | succ d ih =>
    intro i l hi hc
    have hlen := hc.1
    refine Ev.step (fun k => by rw [churnlaw10_DrawBytes.l0, if_pos (by omega), tape_New.f, Option.bind_some]) (ev_bind (drw_byte i b (by omega) h1 h2) (ev_neg (show ¬ (b : Int) < 1 by omega) ?_))
    rw [decide_eq_false (show ¬ (b : Int) > 256 by omega)]
    have step : ∀ x : Nat, x = i % b → i < 256 - 256 % b → Ev (fun k => churnlaw10_DrawBytes.l0 k (b : Int) (l.set (x : Int).toNat (wrap64 (rd l (x : Int) + 1))) (((i - min i (256 - 256 % b) : Nat)) : Int) (wrap64 ((i : Int) + 1))) true := by
      intro x hx hlt
      subst hx
      have hc' : Cnt b i l := by rw [show min i (256 - 256 % b) = i by omega] at hc; exact hc
      have := ih (i + 1) (l.set (i % b) (wrap64 (rd l ((i % b : Nat) : Int) + 1))) (by omega) (by
        rw [show min (i + 1) (256 - 256 % b) = i + 1 by omega]
        exact hc'.next (by omega) h2 (by omega))
      rw [show i + 1 - min (i + 1) (256 - 256 % b) = i - min i (256 - 256 % b) by omega] at this
      rw [w64 (x := (i : Int) + 1) (by omega) (by omega)]
      exact this
    by_cases hb1 : b = 1
    · rw [if_pos hb1]
      subst hb1
      refine Ev.step (fun k => ?_) (step 0 (by omega) (by omega))
      rw [churnlaw10_DrawBytes.j1, if_neg (by decide), if_neg (show ¬ (0 : Int) = 3 by decide), if_pos rfl, if_neg (show ¬ (0 : Int) < 0 by decide), if_neg (show ¬ (0 : Int) ≥ ((1 : Nat) : Int) by decide), if_pos (by decide)]
      unfold tape_Tape_Left.f
      rw [Option.bind_some, strOfNums_size, w64 (by simp) (by simp), if_pos (by simp), if_neg (by decide), if_pos (show (0 : Int) ≤ 0 by decide), if_pos (show (0 : Int) < (l.length : Int) by omega)]
      rfl
    · rw [if_neg hb1]
      by_cases hlt : i < 256 - 256 % b
      · rw [if_pos hlt]
        have hmi := Nat.mod_lt i (show 0 < b by omega)
        refine Ev.step (fun k => ?_) (step (i % b) rfl hlt)
        rw [churnlaw10_DrawBytes.j1, if_neg (by decide), if_neg (show ¬ (0 : Int) = 3 by decide), if_pos rfl, if_neg (show ¬ ((i % b : Nat) : Int) < 0 by omega), if_neg (show ¬ ((i % b : Nat) : Int) ≥ (b : Int) by omega), if_neg (show ¬ (b : Int) = 1 by omega), if_pos (show (b : Int) > 1 by omega)]
        unfold tape_Tape_Left.f
        rw [Option.bind_some, strOfNums_size, w64 (by simp) (by simp), if_pos (by simp), if_pos (show 0 ≤ ((i % b : Nat) : Int) by omega), if_pos (show ((i % b : Nat) : Int) < (l.length : Int) by omega)]
      · rw [if_neg hlt]
        refine Ev.step (fun k => ?_) (ih (i + 1) l (by omega) (by rw [show min (i + 1) (256 - 256 % b) = min i (256 - 256 % b) by omega]; exact hc))
        rw [churnlaw10_DrawBytes.j1, if_neg (by decide), if_pos rfl, w64 (x := (i : Int) + 1) (by omega) (by omega), w64 (by omega) (by omega)]
        have e : ((i - min i (256 - 256 % b) : Nat) : Int) + 1 = ((i + 1 - min (i + 1) (256 - 256 % b) : Nat) : Int) := by omega
        rw [e]
        rfl
theorem DrawBytes : churnlaw10_DrawBytes.Pure := by
  intro b hb
  refine Ev.rounds (g := fun k => churnlaw10_DrawBytes.f k b) (r := true) ?_
  unfold churnlaw10_DrawBytes.f
  refine ev_bind0 (show churnlaw10_alive.f = some true from rfl) (ev_pos rfl (ev_pos (by decide) ?_))
  by_cases h : b < 1 ∨ b > 256
  · exact bytes_bad b h _ 0 256 0 (by omega)
  · obtain ⟨n, rfl⟩ : ∃ n : Nat, b = (n : Int) := ⟨b.toNat, by omega⟩
    refine bytes_good n (by omega) (by omega) 256 0 _ (by omega) ⟨List.length_replicate, fun x hx => ?_⟩
    rw [rd_lt _ x (by rw [List.length_replicate]; omega), List.getElem_replicate, show min 0 (256 - 256 % n) = 0 by omega]
    unfold cnt
    rw [Nat.zero_div, Nat.zero_mod, if_neg (by omega)]
    rfl

end Go.Proofs.Ytijnmfdpdjblbaa.Pure
