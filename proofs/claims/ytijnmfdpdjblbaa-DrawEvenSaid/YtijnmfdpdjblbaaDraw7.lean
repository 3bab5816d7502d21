/- The turned tape: where it stands apart from the tape, what it draws, that it turns back, and that two turns on end are the last one. -/
import Derived.Test.YtijnmfdpdjblbaaDraw5
import Derived.Test.YtijnmfdpdjblbaaDraw6
set_option linter.unusedVariables false
set_option linter.unusedSimpArgs false
namespace Go.Proofs.Ytijnmfdpdjblbaa.Pl
open Go.RowKit Go.Proofs.Ytijnmfdpdjblbaa.Q Go.Proofs.YtijnmfdpdjblbaaW.PrintWords Go.Proofs.YtijnmfdpdjblbaaW.PrintLast
/-- q is p where, from u to n, the draws vs for the bounds bs are turned into ws. -/
def Tn (p q : List Int) : List Int → List Int → List Int → Nat → Nat → Prop
  | [], [], [], u, n => n = u
  | b :: bs, v :: vs, w :: ws, u, n => ∃ m, draw1 p b u = some (v, m) ∧ u ≤ m ∧ (∀ i, u ≤ i → i + 1 < m → rd q (i : Int) = rd p (i : Int)) ∧ (b ≠ 1 → rd q ((m - 1 : Nat) : Int) = rd p ((m - 1 : Nat) : Int) - v + w) ∧ Tn p q bs vs ws m n
  | _, _, _, _, _ => False
def Bytes (p : List Int) : Prop := ∀ x ∈ p, 0 ≤ x ∧ x ≤ 255
theorem bytes_rd {p : List Int} (h : Bytes p) (i : Nat) : 0 ≤ rd p (i : Int) ∧ rd p (i : Int) ≤ 255 := by
  by_cases hi : i < p.length
  · exact h _ (rd_mem p (i : Int) (by simpa using hi))
  · rw [rd_nat, List.getD_eq_getElem?_getD, List.getElem?_eq_none (by omega)]
    exact ⟨by decide, by decide⟩
/-- A byte that is taken, turned: it is taken, and tells what was wanted. -/
theorem turn_one (x b w : Int) (hx : 0 ≤ x) (h1 : 1 ≤ b) (h2 : b ≤ 256) (ht : x < 256 - 256 % b) (hw0 : 0 ≤ w) (hw : w < b) :
    0 ≤ x - Int.tmod x b + w ∧ x - Int.tmod x b + w ≤ 255 ∧ x - Int.tmod x b + w < 256 - 256 % b ∧ Int.tmod (x - Int.tmod x b + w) b = w := by
  rw [Int.tmod_eq_emod_of_nonneg hx]
  have e1 := Int.mul_ediv_add_emod x b
  have e2 := Int.mul_ediv_add_emod 256 b
  have m1 := Int.emod_nonneg x (show b ≠ 0 by omega)
  have m2 := Int.emod_lt_of_pos x (show 0 < b by omega)
  have q0 := Int.ediv_nonneg hx (show 0 ≤ b by omega)
  have m3 := Int.emod_nonneg 256 (show b ≠ 0 by omega)
  have hq : x / b < 256 / b := by
    have : x < 256 / b * b := by rw [Int.mul_comm]; omega
    exact Int.ediv_lt_of_lt_mul (by omega) this
  have hmul : b * (x / b) + b ≤ b * (256 / b) := by
    have h := Int.mul_le_mul_of_nonneg_left (show x / b + 1 ≤ 256 / b by omega) (show 0 ≤ b by omega)
    rw [Int.mul_add, Int.mul_one] at h
    exact h
  have hnn : 0 ≤ b * (x / b) := Int.mul_nonneg (by omega) q0
  have ey : x - x % b + w = b * (x / b) + w := by omega
  rw [ey]
  refine ⟨by omega, by omega, by omega, ?_⟩
  rw [Int.tmod_eq_emod_of_nonneg (by omega), Int.mul_add_emod_self_left]
  exact Int.emod_eq_of_lt hw0 hw
/-- Valid draws for bounds. -/
def Valid : List Int → List Int → Prop
  | [], [] => True
  | b :: bs, w :: ws => 0 ≤ w ∧ w < b ∧ Valid bs ws
  | _, _ => False
theorem draw1_valid (p : List Int) (hp : Bytes p) (b : Int) (h1 : 1 ≤ b) (u : Nat) (hu : u ≤ p.length) (v : Int) (m : Nat) (h : draw1 p b u = some (v, m)) : 0 ≤ v ∧ v < b := by
  by_cases hb : b = 1
  · subst hb
    rw [draw1_one] at h
    simp only [Option.some.injEq, Prod.mk.injEq] at h
    omega
  · rw [draw1_iff p b hb u hu] at h
    obtain ⟨_, _, _, _, rfl⟩ := h
    have hx := bytes_rd hp (m - 1)
    rw [Int.tmod_eq_emod_of_nonneg hx.1]
    exact ⟨Int.emod_nonneg _ (by omega), Int.emod_lt_of_pos _ (by omega)⟩
theorem dr_valid (p : List Int) (hp : Bytes p) : ∀ (bs : List Int) (u : Nat), AllOk bs → u ≤ p.length → ∀ r, dr p bs u = some r → Valid bs r.1 := by
  intro bs
  induction bs with
  | nil => intro u _ hu r h; obtain rfl := Option.some.inj h; trivial
  | cons b bs ih =>
    intro u hb hu r h
    rw [dr] at h
    obtain ⟨⟨v, n⟩, h1, h2⟩ := Option.bind_eq_some_iff.1 h
    obtain ⟨s, h3, rfl⟩ := Option.map_eq_some_iff.1 h2
    have a := draw1_le p b u hu h1
    have hv := draw1_valid p hp b (hb b List.mem_cons_self).1 u hu v n h1
    exact ⟨hv.1, hv.2, ih n (fun x hx => hb x (List.mem_cons_of_mem _ hx)) a.2.1 s h3⟩
/-- The draws that are turned are those of the tape. -/
theorem Tn.dr {p q : List Int} : ∀ {bs vs ws : List Int} {u n : Nat}, Tn p q bs vs ws u n → dr p bs u = some (vs, n)
  | [], [], [], u, n, h => by rw [Pl.dr]; rw [show n = u from h]
  | b :: bs, v :: vs, w :: ws, u, n, h => by
    obtain ⟨m, h1, _, _, _, h5⟩ := h
    rw [Pl.dr, h1, Option.bind_some, Tn.dr h5]
    rfl
  | [], _ :: _, _, _, _, h => h.elim
  | [], [], _ :: _, _, _, h => h.elim
  | _ :: _, [], _, _, _, h => h.elim
  | _ :: _, _ :: _, [], _, _, h => h.elim
theorem back_one {p q : List Int} (hp : Bytes p) (hl : q.length = p.length) (b v w : Int) (u m : Nat) (ob : 1 ≤ b ∧ b ≤ 256) (hv : 0 ≤ w ∧ w < b) (hu : u ≤ p.length) (h1 : draw1 p b u = some (v, m))
    (h3 : ∀ i, u ≤ i → i + 1 < m → rd q (i : Int) = rd p (i : Int)) (h4 : b ≠ 1 → rd q ((m - 1 : Nat) : Int) = rd p ((m - 1 : Nat) : Int) - v + w) : draw1 q b u = some (w, m) := by
  by_cases hb1 : b = 1
  · subst hb1
    have hw : w = 0 := by omega
    rw [draw1_one] at h1 ⊢
    simp only [Option.some.injEq, Prod.mk.injEq] at h1 ⊢
    exact ⟨hw.symm, h1.2⟩
  · rw [draw1_iff p b hb1 u hu] at h1
    obtain ⟨k1, k2, k3, k4, k5⟩ := h1
    have hx := bytes_rd hp (m - 1)
    have ht := turn_one _ b w hx.1 ob.1 ob.2 k3 hv.1 hv.2
    have e := h4 hb1
    rw [k5] at e
    rw [← e] at ht
    rw [draw1_iff q b hb1 u (by omega)]
    refine ⟨k1, by omega, ht.2.2.1, fun i h6 h7 => ?_, ht.2.2.2.symm⟩
    unfold taken
    rw [h3 i h6 (by omega)]
    exact k4 i h6 h7
theorem Tn.back {p q : List Int} (hp : Bytes p) (hl : q.length = p.length) : ∀ {bs vs ws : List Int} {u n : Nat}, AllOk bs → Valid bs ws → u ≤ p.length → Tn p q bs vs ws u n → Tn q p bs ws vs u n
  | [], [], [], u, n, _, _, _, h => h
  | b :: bs, v :: vs, w :: ws, u, n, hb, hv, hu, h => by
    obtain ⟨m, h1, h2, h3, h4, h5⟩ := h
    have a := draw1_le p b u hu h1
    have ob := hb b List.mem_cons_self
    exact ⟨m, back_one hp hl b v w u m ob ⟨hv.1, hv.2.1⟩ hu h1 h3 h4, h2, fun i h6 h7 => (h3 i h6 h7).symm, fun hb1 => by rw [h4 hb1]; omega, Tn.back hp hl (fun x hx => hb x (List.mem_cons_of_mem _ hx)) hv.2.2 a.2.1 h5⟩
  | [], _ :: _, _, _, _, _, _, _, h => h.elim
  | [], [], _ :: _, _, _, _, _, _, h => h.elim
  | _ :: _, [], _, _, _, _, _, _, h => h.elim
  | _ :: _, _ :: _, [], _, _, _, _, _, h => h.elim
/-- Two turns on end are one. -/
theorem Tn.on {p r q : List Int} (hp : Bytes p) (hl : r.length = p.length) : ∀ {bs vs zs ws : List Int} {u n n' : Nat}, AllOk bs → Valid bs zs → u ≤ p.length → Tn p r bs vs zs u n → Tn r q bs zs ws u n' → Tn p q bs vs ws u n
  | [], [], [], [], u, n, n', _, _, _, h, _ => h
  | b :: bs, v :: vs, z :: zs, w :: ws, u, n, n', hb, hv, hu, h, h' => by
    obtain ⟨m, h1, h2, h3, h4, h5⟩ := h
    obtain ⟨m', k1, k2, k3, k4, k5⟩ := h'
    have a := draw1_le p b u hu h1
    have ob := hb b List.mem_cons_self
    have e := back_one hp hl b v z u m ob ⟨hv.1, hv.2.1⟩ hu h1 h3 h4
    have e1 : m' = m := by
      rw [e] at k1
      simp only [Option.some.injEq, Prod.mk.injEq] at k1
      exact k1.2.symm
    subst e1
    refine ⟨m', h1, h2, fun i h6 h7 => by rw [k3 i h6 h7, h3 i h6 h7], fun hb1 => by rw [k4 hb1, h4 hb1]; omega, Tn.on hp hl (fun x hx => hb x (List.mem_cons_of_mem _ hx)) hv.2.2 a.2.1 h5 k5⟩
  | [], _ :: _, _, _, _, _, _, _, _, _, h, _ => h.elim
  | [], [], _ :: _, _, _, _, _, _, _, _, h, _ => h.elim
  | _ :: _, [], _, _, _, _, _, _, _, _, h, _ => h.elim
  | _ :: _, _ :: _, [], _, _, _, _, _, _, _, h, _ => h.elim
  | [], [], [], _ :: _, _, _, _, _, _, _, _, h => h.elim
  | _ :: _, _ :: _, _ :: _, [], _, _, _, _, _, _, _, h => h.elim
/-- What is turned into is told by the tape, the draws and what is wanted. -/
theorem Tn.same {p q r : List Int} : ∀ {bs vs ws : List Int} {u n n' : Nat}, u ≤ p.length → Tn p q bs vs ws u n → Tn p r bs vs ws u n' → ∀ i, u ≤ i → i < n → rd q (i : Int) = rd r (i : Int)
  | [], [], [], u, n, n', _, h, _, i, h1, h2 => by
    have : n = u := h
    omega
  | b :: bs, v :: vs, w :: ws, u, n, n', hu, h, g, i, i1, i2 => by
    obtain ⟨m, h1, h2, h3, h4, h5⟩ := h
    obtain ⟨m', g1, g2, g3, g4, g5⟩ := g
    have e1 : m' = m := by
      rw [h1] at g1
      simp only [Option.some.injEq, Prod.mk.injEq] at g1
      exact g1.2.symm
    subst e1
    have a := draw1_le p b u hu h1
    by_cases c : m' ≤ i
    · exact Tn.same a.2.1 h5 g5 i c i2
    · by_cases c2 : i + 1 < m'
      · rw [h3 i i1 c2, g3 i i1 c2]
      · have hb : b ≠ 1 := by
          intro hb
          subst hb
          rw [draw1_one] at h1
          simp only [Option.some.injEq, Prod.mk.injEq] at h1
          omega
        have : i = m' - 1 := by omega
        rw [this, h4 hb, g4 hb]
  | [], _ :: _, _, _, _, _, _, h, _, _, _, _ => h.elim
  | [], [], _ :: _, _, _, _, _, h, _, _, _, _ => h.elim
  | _ :: _, [], _, _, _, _, _, h, _, _, _, _ => h.elim
  | _ :: _, _ :: _, [], _, _, _, _, h, _, _, _, _ => h.elim
/-! What the turning answers. -/
theorem turned_bytes (p bs ws : List Int) (hp : Bytes p) (L : List (Int × Int)) : Bytes (turned p bs ws L) := by
  unfold turned
  suffices h : ∀ (M : List ((Int × Int) × Nat)) (acc : List Int), Bytes acc → Bytes (M.foldl (fun acc x => turnStep p bs ws acc x.2 x.1.1 x.1.2) acc) from h _ _ hp
  intro M
  induction M with
  | nil => intro acc h; exact h
  | cons x M ih =>
    intro acc h
    rw [List.foldl_cons]
    refine ih _ ?_
    unfold turnStep
    split
    · intro y hy
      rcases List.mem_or_eq_of_mem_set hy with hy | rfl
      · exact h y hy
      · unfold turnByte
        rw [u8wrap]
        omega
    · exact h
theorem rd_set_eq (l : List Int) (i : Nat) (x : Int) (h : i < l.length) : rd (l.set i x) (i : Int) = x := by rw [rd_lt _ i (by rw [List.length_set]; exact h), List.getElem_set_self]
theorem rd_set_ne' (l : List Int) (i j : Nat) (x : Int) (h : i ≠ j) : rd (l.set i x) (j : Int) = rd l (j : Int) := by
  rw [rd_nat, rd_nat, List.getD_eq_getElem?_getD, List.getD_eq_getElem?_getD, List.getElem?_set_ne h]
theorem turned_tn (p bs ws : List Int) (hb : AllOk bs) (hp : Bytes p) (hw : ws.length = bs.length) : ∀ (rem i u : Nat) (L : List (Int × Int)) (r : List Int × Nat), i + rem = bs.length → L.length = i → u ≤ p.length → Valid (bs.drop i) (ws.drop i) → dr p (bs.drop i) u = some r → (∀ j, u ≤ j → rd (turned p bs ws L) (j : Int) = rd p (j : Int)) →
    Tn p (turned p bs ws (run p (bs.drop i) u L).1) (bs.drop i) r.1 (ws.drop i) u r.2 ∧ (∀ j, j < u → rd (turned p bs ws (run p (bs.drop i) u L).1) (j : Int) = rd (turned p bs ws L) (j : Int)) ∧ (∀ j, r.2 ≤ j → rd (turned p bs ws (run p (bs.drop i) u L).1) (j : Int) = rd p (j : Int)) := by
  intro rem
  induction rem with
  | zero =>
    intro i u L r hi hL hu hV hd hacc
    have e1 : bs.drop i = [] := List.drop_eq_nil_of_le (by omega)
    have e2 : ws.drop i = [] := List.drop_eq_nil_of_le (by omega)
    rw [e1] at hd ⊢
    rw [e2]
    obtain rfl := Option.some.inj hd
    exact ⟨rfl, fun j _ => rfl, hacc⟩
  | succ rem ih =>
    intro i u L r hi hL hu hV hd hacc
    have ob := allOk_at hb i (by omega)
    rw [drop_rd bs i (by omega), drop_rd ws i (by omega)] at hV
    rw [drop_rd bs i (by omega)] at hd ⊢
    rw [drop_rd ws i (by omega)]
    rw [dr] at hd
    obtain ⟨⟨v, m⟩, h1, h2⟩ := Option.bind_eq_some_iff.1 hd
    obtain ⟨s, h3, rfl⟩ := Option.map_eq_some_iff.1 h2
    have a := draw1_le p _ u hu h1
    have hlen := turned_len p bs ws L
    have hs := turned_snoc p bs ws L v ((m : Int) - 1)
    unfold turnStep at hs
    rw [hL, ← rd_nat bs i, ← rd_nat ws i] at hs
    rw [run, h1]
    simp only
    have step : (∀ j, m ≤ j → rd (turned p bs ws (L ++ [(v, (m : Int) - 1)])) (j : Int) = rd p (j : Int)) ∧ (∀ j, j + 1 < m ∨ rd bs (i : Int) = 1 → rd (turned p bs ws (L ++ [(v, (m : Int) - 1)])) (j : Int) = rd (turned p bs ws L) (j : Int)) ∧ (rd bs (i : Int) ≠ 1 → rd (turned p bs ws (L ++ [(v, (m : Int) - 1)])) ((m - 1 : Nat) : Int) = rd p ((m - 1 : Nat) : Int) - v + rd ws (i : Int)) := by
      by_cases hb1 : rd bs (i : Int) = 1
      · rw [if_neg (by omega)] at hs
        rw [hs]
        exact ⟨fun j hj => hacc j (by omega), fun j _ => rfl, fun h => absurd hb1 h⟩
      · rw [if_pos (by omega)] at hs
        have hm := a.2.2 hb1
        have em : ((m : Int) - 1).toNat = m - 1 := by omega
        rw [em, ← rd_nat p (m - 1)] at hs
        have hx := bytes_rd hp (m - 1)
        have hd1 := h1
        rw [draw1_iff p _ hb1 u hu] at hd1
        obtain ⟨_, _, k3, _, k5⟩ := hd1
        have ht := turn_one _ _ (rd ws (i : Int)) hx.1 ob.1 ob.2 k3 hV.1 hV.2.1
        rw [← k5] at ht
        have eb : turnByte (rd p ((m - 1 : Nat) : Int)) v (rd ws (i : Int)) = rd p ((m - 1 : Nat) : Int) - v + rd ws (i : Int) := by
          have hv := draw1_valid p hp _ ob.1 u hu v m h1
          unfold turnByte
          rw [u8wrap, w64 (x := rd p ((m - 1 : Nat) : Int)) (by omega) (by omega), w64 (x := rd p ((m - 1 : Nat) : Int) - v) (by omega) (by omega), w64 (by omega) (by omega)]
          omega
        rw [hs, eb]
        refine ⟨fun j hj => ?_, fun j hj => ?_, fun _ => ?_⟩
        · rw [rd_set_ne' _ _ _ _ (by omega)]
          exact hacc j (by omega)
        · rw [rd_set_ne' _ _ _ _ (by omega)]
        · rw [rd_set_eq _ _ _ (by omega)]
    obtain ⟨r1, r2, r3⟩ := ih (i + 1) m (L ++ [(v, (m : Int) - 1)]) s (by omega) (by simp; omega) a.2.1 hV.2.2 h3 step.1
    refine ⟨⟨m, h1, a.1, fun j j1 j2 => ?_, fun hb1 => ?_, r1⟩, fun j hj => ?_, r3⟩
    · rw [r2 j (by omega), step.2.1 j (Or.inl j2)]
      exact hacc j j1
    · have hm := a.2.2 hb1
      rw [r2 (m - 1) (by omega)]
      exact step.2.2 hb1
    · rw [r2 j (by omega)]
      by_cases hb1 : rd bs (i : Int) = 1
      · exact step.2.1 j (Or.inr hb1)
      · have hm := a.2.2 hb1
        exact step.2.1 j (Or.inl (by omega))
theorem valid_badT : ∀ (bs ws : List Int), AllOk bs → Valid bs ws → ws.length = bs.length ∧ badT bs ws = false := by
  have key : ∀ (bs ws : List Int), Valid bs ws → ws.length = bs.length ∧ ∀ i, i < bs.length → 0 ≤ ws.getD i 0 ∧ ws.getD i 0 < bs.getD i 0 := by
    intro bs
    induction bs with
    | nil =>
      intro ws h
      cases ws with
      | nil => exact ⟨rfl, fun i hi => by simp at hi⟩
      | cons w ws => exact h.elim
    | cons b bs ih =>
      intro ws h
      cases ws with
      | nil => exact h.elim
      | cons w ws =>
        obtain ⟨r1, r2⟩ := ih ws h.2.2
        refine ⟨by simp [r1], fun i hi => ?_⟩
        cases i with
        | zero => exact ⟨h.1, h.2.1⟩
        | succ i => simpa using r2 i (by simpa using hi)
  intro bs ws hb h
  obtain ⟨r1, r2⟩ := key bs ws h
  refine ⟨r1, List.any_eq_false.2 fun i hi => ?_⟩
  have hi' := List.mem_range.1 hi
  have := r2 i hi'
  have ob := allOk_at hb i hi'
  rw [rd_nat] at ob
  unfold badAt
  rw [okBound_of _ ob.1 ob.2, decide_eq_false (show ¬ ws.getD i 0 < 0 by omega), decide_eq_false (show ¬ ws.getD i 0 ≥ bs.getD i 0 by omega)]
  decide
theorem badT_valid : ∀ (bs ws : List Int), ws.length = bs.length → badT bs ws = false → AllOk bs ∧ Valid bs ws := by
  have key : ∀ (bs ws : List Int), ws.length = bs.length → (∀ i, i < bs.length → 0 ≤ ws.getD i 0 ∧ ws.getD i 0 < bs.getD i 0) → Valid bs ws := by
    intro bs
    induction bs with
    | nil =>
      intro ws hl h
      obtain rfl := List.eq_nil_of_length_eq_zero hl
      trivial
    | cons b bs ih =>
      intro ws hl h
      cases ws with
      | nil => simp at hl
      | cons w ws =>
        have h0 := h 0 (by simp)
        exact ⟨by simpa using h0.1, by simpa using h0.2, ih ws (by simpa using hl) (fun i hi => by simpa using h (i + 1) (by simpa using hi))⟩
  intro bs ws hl h
  have hh : ∀ i, i < bs.length → badAt bs ws i = false := fun i hi => by
    have := (List.any_eq_false.1 h) i (List.mem_range.2 hi)
    simpa using this
  refine ⟨fun b hb => ?_, key bs ws hl fun i hi => ?_⟩
  · obtain ⟨i, hi, rfl⟩ := List.getElem_of_mem hb
    have := hh i hi
    unfold badAt okBound at this
    rw [List.getD_eq_getElem?_getD, List.getElem?_eq_getElem hi, Option.getD_some] at this
    simp at this
    omega
  · have := hh i hi
    unfold badAt at this
    rw [Bool.or_eq_false_iff, Bool.or_eq_false_iff, decide_eq_false_iff_not, decide_eq_false_iff_not] at this
    exact ⟨by omega, by omega⟩
/-- The turning of a tape that is long enough. -/
theorem turnA_some (p bs ws : List Int) (hp : Bytes p) (hb : AllOk bs) (hv : Valid bs ws) {r : List Int × Nat} (hr : dr p bs 0 = some r) : ∃ q, turnA p bs ws = (q, 0) ∧ Bytes q ∧ q.length = p.length ∧ Tn p q bs r.1 ws 0 r.2 ∧ ∀ j, r.2 ≤ j → rd q (j : Int) = rd p (j : Int) := by
  obtain ⟨h1, h2⟩ := valid_badT bs ws hb hv
  have h3 := run_dr p bs 0 []
  rw [hr] at h3
  simp only at h3
  obtain ⟨t1, t2, t3⟩ := turned_tn p bs ws hb hp h1 bs.length 0 0 [] r (by omega) rfl (by omega) (by simpa using hv) (by simpa using hr) (fun j _ => rfl)
  rw [List.drop_zero, List.drop_zero] at t1
  rw [List.drop_zero] at t3
  refine ⟨turned p bs ws (run p bs 0 []).1, ?_, turned_bytes p bs ws hp _, turned_len _ _ _ _, t1, t3⟩
  unfold turnA turnR
  rw [if_pos ⟨h1, h2⟩, if_pos h3.1]
theorem turnA_none (p bs ws : List Int) (hb : AllOk bs) (hv : Valid bs ws) (hr : dr p bs 0 = none) : turnA p bs ws = ([], 3) := by
  obtain ⟨h1, h2⟩ := valid_badT bs ws hb hv
  have h3 := run_dr p bs 0 []
  rw [hr] at h3
  simp only at h3
  unfold turnA turnR
  rw [if_pos ⟨h1, h2⟩, h3, if_neg (by decide)]
theorem turnA_bad (p bs ws : List Int) (h : ¬ (AllOk bs ∧ Valid bs ws)) : turnA p bs ws = ([], 2) := by
  unfold turnA
  rw [if_neg (fun hc => h (badT_valid bs ws hc.1 hc.2))]
theorem ext_rd {a b : List Int} (hl : a.length = b.length) (h : ∀ i, i < a.length → rd a (i : Int) = rd b (i : Int)) : a = b := by
  apply List.ext_getElem hl
  intro i h1 h2
  rw [← rd_lt a i h1, ← rd_lt b i h2]
  exact h i h1
end Go.Proofs.Ytijnmfdpdjblbaa.Pl
