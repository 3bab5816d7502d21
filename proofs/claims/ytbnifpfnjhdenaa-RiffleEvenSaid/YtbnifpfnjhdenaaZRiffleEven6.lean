/- Functions of the program as plain Lean functions, each with a proof that its call comes to just these answers, and the row that joins them to the given statement; no condition beside the statement's own. Written for this claim by this session's programs (pf.py, pack.py) over the kit's print. -/
import Derived.Test.YtbnifpfnjhdenaaZRiffleEven0
import Derived.Test.YtbnifpfnjhdenaaZRiffleEven1
import Derived.Test.YtbnifpfnjhdenaaZRiffleEven2
import Derived.Test.YtbnifpfnjhdenaaZRiffleEven3
import Derived.Test.YtbnifpfnjhdenaaZRiffleEven4
import Derived.Test.YtbnifpfnjhdenaaZRiffleEven5
section
set_option linter.unusedVariables false
set_option linter.unusedSimpArgs false
namespace Go.Proofs.Ytbnifpfnjhdenaa.Pl
open Go.RowKit Go.Proofs.Ytbnifpfnjhdenaa.Q Go.Proofs.YtbnifpfnjhdenaaW.PrintWords Go.Proofs.YtbnifpfnjhdenaaW.PrintLast
def Tn (p q : List Int) : List Int → List Int → List Int → Nat → Nat → Prop
 | [], [], [], u, n => n = u
 | b :: bs, v :: vs, w :: ws, u, n => ∃ m, draw1 p b u = some (v, m) ∧ u ≤ m ∧ (∀ i, u ≤ i → i + 1 < m → rd q (i : Int) = rd p (i : Int)) ∧ (b ≠ 1 → rd q ((m - 1 : Nat) : Int) = rd p ((m - 1 : Nat) : Int) - v + w) ∧ Tn p q bs vs ws m n
 | _, _, _, _, _ => False
def Bytes (p : List Int) : Prop := ∀ x ∈ p, 0 ≤ x ∧ x ≤ 255
theorem bytes_rd {p : List Int} (h : Bytes p) (i : Nat) : 0 ≤ rd p (i : Int) ∧ rd p (i : Int) ≤ 255 := by
 by_cases hi : i < p.length
 ·exact h _ (rd_mem p (i : Int) (by simpa using hi))
 ·rw [rd_nat, List.getD_eq_getElem?_getD, List.getElem?_eq_none (by omega)]
  exact ⟨by decide, by decide⟩
theorem turn_one (x b w : Int) (hx : 0 ≤ x) (h1 : 1 ≤ b) (h2 : b ≤ 256) (ht : x < 256 - 256 % b) (hw0 : 0 ≤ w) (hw : w < b) :
  0 ≤ x - Int.tmod x b + w ∧ x - Int.tmod x b + w ≤ 255 ∧ x - Int.tmod x b + w < 256 - 256 % b ∧ Int.tmod (x - Int.tmod x b + w) b = w := by
 rw [Int.tmod_eq_emod_of_nonneg hx]
 have e1 := Int.mul_ediv_add_emod x b
 have e2 := Int.mul_ediv_add_emod 256 b
 have m1 := Int.emod_nonneg x (show b ≠ 0 by omega)
 have m2 := Int.emod_lt_of_pos x (show 0 < b by omega)
 have q0 := Int.ediv_nonneg hx (show 0 ≤ b by omega)
 have m3 := Int.emod_nonneg 256 (show b ≠ 0 by omega)
 have hq : x / b < 256 / b := by
  have : x < 256 / b * b := by rw [Int.mul_comm]; omega
  exact Int.ediv_lt_of_lt_mul (by omega) this
 have hmul : b * (x / b) + b ≤ b * (256 / b) := by
  have h := Int.mul_le_mul_of_nonneg_left (show x / b + 1 ≤ 256 / b by omega) (show 0 ≤ b by omega)
  rw [Int.mul_add, Int.mul_one] at h
  exact h
 have hnn : 0 ≤ b * (x / b) := Int.mul_nonneg (by omega) q0
 have ey : x - x % b + w = b * (x / b) + w := by omega
 rw [ey]
 refine ⟨by omega, by omega, by omega, ?_⟩
 rw [Int.tmod_eq_emod_of_nonneg (by omega), Int.mul_add_emod_self_left]
 exact Int.emod_eq_of_lt hw0 hw
def Valid : List Int → List Int → Prop
 | [], [] => True
 | b :: bs, w :: ws => 0 ≤ w ∧ w < b ∧ Valid bs ws
 | _, _ => False
theorem draw1_valid (p : List Int) (hp : Bytes p) (b : Int) (h1 : 1 ≤ b) (u : Nat) (hu : u ≤ p.length) (v : Int) (m : Nat) (h : draw1 p b u = some (v, m)) : 0 ≤ v ∧ v < b := by
 by_cases hb : b = 1
 ·subst hb
  rw [draw1_one] at h
  simp only [Option.some.injEq, Prod.mk.injEq] at h
  omega
 ·rw [draw1_iff p b hb u hu] at h
  obtain ⟨_, _, _, _, rfl⟩ := h
  have hx := bytes_rd hp (m - 1)
  rw [Int.tmod_eq_emod_of_nonneg hx.1]
  exact ⟨Int.emod_nonneg _ (by omega), Int.emod_lt_of_pos _ (by omega)⟩
theorem dr_valid (p : List Int) (hp : Bytes p) : ∀ (bs : List Int) (u : Nat), AllOk bs → u ≤ p.length → ∀ r, dr p bs u = some r → Valid bs r.1 := by
 intro bs
 induction bs with
 | nil => intro u _ hu r h; obtain rfl := Option.some.inj h; trivial
 | cons b bs ih =>
  intro u hb hu r h
  rw [dr] at h
  obtain ⟨⟨v, n⟩, h1, h2⟩ := Option.bind_eq_some_iff.1 h
  obtain ⟨s, h3, rfl⟩ := Option.map_eq_some_iff.1 h2
  have a := draw1_le p b u hu h1
  have hv := draw1_valid p hp b (hb b List.mem_cons_self).1 u hu v n h1
  exact ⟨hv.1, hv.2, ih n (fun x hx => hb x (List.mem_cons_of_mem _ hx)) a.2.1 s h3⟩
theorem Tn.dr {p q : List Int} : ∀ {bs vs ws : List Int} {u n : Nat}, Tn p q bs vs ws u n → dr p bs u = some (vs, n)
 | [], [], [], u, n, h => by rw [Pl.dr]; rw [show n = u from h]
 | b :: bs, v :: vs, w :: ws, u, n, h => by
  obtain ⟨m, h1, _, _, _, h5⟩ := h
  rw [Pl.dr, h1, Option.bind_some, Tn.dr h5]
  rfl
 | [], _ :: _, _, _, _, h => h.elim
 | [], [], _ :: _, _, _, h => h.elim
 | _ :: _, [], _, _, _, h => h.elim
 | _ :: _, _ :: _, [], _, _, h => h.elim
theorem back_one {p q : List Int} (hp : Bytes p) (hl : q.length = p.length) (b v w : Int) (u m : Nat) (ob : 1 ≤ b ∧ b ≤ 256) (hv : 0 ≤ w ∧ w < b) (hu : u ≤ p.length) (h1 : draw1 p b u = some (v, m))
  (h3 : ∀ i, u ≤ i → i + 1 < m → rd q (i : Int) = rd p (i : Int)) (h4 : b ≠ 1 → rd q ((m - 1 : Nat) : Int) = rd p ((m - 1 : Nat) : Int) - v + w) : draw1 q b u = some (w, m) := by
 by_cases hb1 : b = 1
 ·subst hb1
  have hw : w = 0 := by omega
  rw [draw1_one] at h1 ⊢
  simp only [Option.some.injEq, Prod.mk.injEq] at h1 ⊢
  exact ⟨hw.symm, h1.2⟩
 ·rw [draw1_iff p b hb1 u hu] at h1
  obtain ⟨k1, k2, k3, k4, k5⟩ := h1
  have hx := bytes_rd hp (m - 1)
  have ht := turn_one _ b w hx.1 ob.1 ob.2 k3 hv.1 hv.2
  have e := h4 hb1
  rw [k5] at e
  rw [← e] at ht
  rw [draw1_iff q b hb1 u (by omega)]
  refine ⟨k1, by omega, ht.2.2.1, fun i h6 h7 => ?_, ht.2.2.2.symm⟩
  unfold taken
  rw [h3 i h6 (by omega)]
  exact k4 i h6 h7
theorem Tn.back {p q : List Int} (hp : Bytes p) (hl : q.length = p.length) : ∀ {bs vs ws : List Int} {u n : Nat}, AllOk bs → Valid bs ws → u ≤ p.length → Tn p q bs vs ws u n → Tn q p bs ws vs u n
 | [], [], [], u, n, _, _, _, h => h
 | b :: bs, v :: vs, w :: ws, u, n, hb, hv, hu, h => by
  obtain ⟨m, h1, h2, h3, h4, h5⟩ := h
  have a := draw1_le p b u hu h1
  have ob := hb b List.mem_cons_self
  exact ⟨m, back_one hp hl b v w u m ob ⟨hv.1, hv.2.1⟩ hu h1 h3 h4, h2, fun i h6 h7 => (h3 i h6 h7).symm, fun hb1 => by rw [h4 hb1]; omega, Tn.back hp hl (fun x hx => hb x (List.mem_cons_of_mem _ hx)) hv.2.2 a.2.1 h5⟩
 | [], _ :: _, _, _, _, _, _, _, h => h.elim
 | [], [], _ :: _, _, _, _, _, _, h => h.elim
 | _ :: _, [], _, _, _, _, _, _, h => h.elim
 | _ :: _, _ :: _, [], _, _, _, _, _, h => h.elim
theorem Tn.on {p r q : List Int} (hp : Bytes p) (hl : r.length = p.length) : ∀ {bs vs zs ws : List Int} {u n n' : Nat}, AllOk bs → Valid bs zs → u ≤ p.length → Tn p r bs vs zs u n → Tn r q bs zs ws u n' → Tn p q bs vs ws u n
 | [], [], [], [], u, n, n', _, _, _, h, _ => h
 | b :: bs, v :: vs, z :: zs, w :: ws, u, n, n', hb, hv, hu, h, h' => by
  obtain ⟨m, h1, h2, h3, h4, h5⟩ := h
  obtain ⟨m', k1, k2, k3, k4, k5⟩ := h'
  have a := draw1_le p b u hu h1
  have ob := hb b List.mem_cons_self
  have e := back_one hp hl b v z u m ob ⟨hv.1, hv.2.1⟩ hu h1 h3 h4
  have e1 : m' = m := by
   rw [e] at k1
   simp only [Option.some.injEq, Prod.mk.injEq] at k1
   exact k1.2.symm
  subst e1
  refine ⟨m', h1, h2, fun i h6 h7 => by rw [k3 i h6 h7, h3 i h6 h7], fun hb1 => by rw [k4 hb1, h4 hb1]; omega, Tn.on hp hl (fun x hx => hb x (List.mem_cons_of_mem _ hx)) hv.2.2 a.2.1 h5 k5⟩
 | [], _ :: _, _, _, _, _, _, _, _, _, h, _ => h.elim
 | [], [], _ :: _, _, _, _, _, _, _, _, h, _ => h.elim
 | _ :: _, [], _, _, _, _, _, _, _, _, h, _ => h.elim
 | _ :: _, _ :: _, [], _, _, _, _, _, _, _, h, _ => h.elim
 | [], [], [], _ :: _, _, _, _, _, _, _, _, h => h.elim
 | _ :: _, _ :: _, _ :: _, [], _, _, _, _, _, _, _, h => h.elim
theorem Tn.same {p q r : List Int} : ∀ {bs vs ws : List Int} {u n n' : Nat}, u ≤ p.length → Tn p q bs vs ws u n → Tn p r bs vs ws u n' → ∀ i, u ≤ i → i < n → rd q (i : Int) = rd r (i : Int)
 | [], [], [], u, n, n', _, h, _, i, h1, h2 => by
  have : n = u := h
  omega
 | b :: bs, v :: vs, w :: ws, u, n, n', hu, h, g, i, i1, i2 => by
  obtain ⟨m, h1, h2, h3, h4, h5⟩ := h
  obtain ⟨m', g1, g2, g3, g4, g5⟩ := g
  have e1 : m' = m := by
   rw [h1] at g1
   simp only [Option.some.injEq, Prod.mk.injEq] at g1
   exact g1.2.symm
  subst e1
  have a := draw1_le p b u hu h1
  by_cases c : m' ≤ i
  ·exact Tn.same a.2.1 h5 g5 i c i2
  ·by_cases c2 : i + 1 < m'
   ·rw [h3 i i1 c2, g3 i i1 c2]
   ·have hb : b ≠ 1 := by
     intro hb
     subst hb
     rw [draw1_one] at h1
     simp only [Option.some.injEq, Prod.mk.injEq] at h1
     omega
    have : i = m' - 1 := by omega
    rw [this, h4 hb, g4 hb]
 | [], _ :: _, _, _, _, _, _, h, _, _, _, _ => h.elim
 | [], [], _ :: _, _, _, _, _, h, _, _, _, _ => h.elim
 | _ :: _, [], _, _, _, _, _, h, _, _, _, _ => h.elim
 | _ :: _, _ :: _, [], _, _, _, _, h, _, _, _, _ => h.elim
theorem turned_bytes (p bs ws : List Int) (hp : Bytes p) (L : List (Int × Int)) : Bytes (turned p bs ws L) := by
 unfold turned
 suffices h : ∀ (M : List ((Int × Int) × Nat)) (acc : List Int), Bytes acc → Bytes (M.foldl (fun acc x => turnStep p bs ws acc x.2 x.1.1 x.1.2) acc) from h _ _ hp
 intro M
 induction M with
 | nil => intro acc h; exact h
 | cons x M ih =>
  intro acc h
  rw [List.foldl_cons]
  refine ih _ ?_
  unfold turnStep
  split
  ·intro y hy
   rcases List.mem_or_eq_of_mem_set hy with hy | rfl
   ·exact h y hy
   ·unfold turnByte
    rw [u8wrap]
    omega
  ·exact h
theorem rd_set_eq (l : List Int) (i : Nat) (x : Int) (h : i < l.length) : rd (l.set i x) (i : Int) = x := by rw [rd_lt _ i (by rw [List.length_set]; exact h), List.getElem_set_self]
theorem rd_set_ne' (l : List Int) (i j : Nat) (x : Int) (h : i ≠ j) : rd (l.set i x) (j : Int) = rd l (j : Int) := by
 rw [rd_nat, rd_nat, List.getD_eq_getElem?_getD, List.getD_eq_getElem?_getD, List.getElem?_set_ne h]
theorem turned_tn (p bs ws : List Int) (hb : AllOk bs) (hp : Bytes p) (hw : ws.length = bs.length) : ∀ (rem i u : Nat) (L : List (Int × Int)) (r : List Int × Nat), i + rem = bs.length → L.length = i → u ≤ p.length → Valid (bs.drop i) (ws.drop i) → dr p (bs.drop i) u = some r → (∀ j, u ≤ j → rd (turned p bs ws L) (j : Int) = rd p (j : Int)) →
  Tn p (turned p bs ws (run p (bs.drop i) u L).1) (bs.drop i) r.1 (ws.drop i) u r.2 ∧ (∀ j, j < u → rd (turned p bs ws (run p (bs.drop i) u L).1) (j : Int) = rd (turned p bs ws L) (j : Int)) ∧ (∀ j, r.2 ≤ j → rd (turned p bs ws (run p (bs.drop i) u L).1) (j : Int) = rd p (j : Int)) := by
 intro rem
 induction rem with
 | zero =>
  intro i u L r hi hL hu hV hd hacc
  have e1 : bs.drop i = [] := List.drop_eq_nil_of_le (by omega)
  have e2 : ws.drop i = [] := List.drop_eq_nil_of_le (by omega)
  rw [e1] at hd ⊢
  rw [e2]
  obtain rfl := Option.some.inj hd
  exact ⟨rfl, fun j _ => rfl, hacc⟩
 | succ rem ih =>
  intro i u L r hi hL hu hV hd hacc
  have ob := allOk_at hb i (by omega)
  rw [drop_rd bs i (by omega), drop_rd ws i (by omega)] at hV
  rw [drop_rd bs i (by omega)] at hd ⊢
  rw [drop_rd ws i (by omega)]
  rw [dr] at hd
  obtain ⟨⟨v, m⟩, h1, h2⟩ := Option.bind_eq_some_iff.1 hd
  obtain ⟨s, h3, rfl⟩ := Option.map_eq_some_iff.1 h2
  have a := draw1_le p _ u hu h1
  have hlen := turned_len p bs ws L
  have hs := turned_snoc p bs ws L v ((m : Int) - 1)
  unfold turnStep at hs
  rw [hL, ← rd_nat bs i, ← rd_nat ws i] at hs
  rw [run, h1]
  simp only
  have step : (∀ j, m ≤ j → rd (turned p bs ws (L ++ [(v, (m : Int) - 1)])) (j : Int) = rd p (j : Int)) ∧ (∀ j, j + 1 < m ∨ rd bs (i : Int) = 1 → rd (turned p bs ws (L ++ [(v, (m : Int) - 1)])) (j : Int) = rd (turned p bs ws L) (j : Int)) ∧ (rd bs (i : Int) ≠ 1 → rd (turned p bs ws (L ++ [(v, (m : Int) - 1)])) ((m - 1 : Nat) : Int) = rd p ((m - 1 : Nat) : Int) - v + rd ws (i : Int)) := by
   by_cases hb1 : rd bs (i : Int) = 1
   ·rw [if_neg (by omega)] at hs
    rw [hs]
    exact ⟨fun j hj => hacc j (by omega), fun j _ => rfl, fun h => absurd hb1 h⟩
   ·rw [if_pos (by omega)] at hs
    have hm := a.2.2 hb1
    have em : ((m : Int) - 1).toNat = m - 1 := by omega
    rw [em, ← rd_nat p (m - 1)] at hs
    have hx := bytes_rd hp (m - 1)
    have hd1 := h1
    rw [draw1_iff p _ hb1 u hu] at hd1
    obtain ⟨_, _, k3, _, k5⟩ := hd1
    have ht := turn_one _ _ (rd ws (i : Int)) hx.1 ob.1 ob.2 k3 hV.1 hV.2.1
    rw [← k5] at ht
    have eb : turnByte (rd p ((m - 1 : Nat) : Int)) v (rd ws (i : Int)) = rd p ((m - 1 : Nat) : Int) - v + rd ws (i : Int) := by
     have hv := draw1_valid p hp _ ob.1 u hu v m h1
     unfold turnByte
     rw [u8wrap, w64 (x := rd p ((m - 1 : Nat) : Int)) (by omega) (by omega), w64 (x := rd p ((m - 1 : Nat) : Int) - v) (by omega) (by omega), w64 (by omega) (by omega)]
     omega
    rw [hs, eb]
    refine ⟨fun j hj => ?_, fun j hj => ?_, fun _ => ?_⟩
    ·rw [rd_set_ne' _ _ _ _ (by omega)]
     exact hacc j (by omega)
    ·rw [rd_set_ne' _ _ _ _ (by omega)]
    ·rw [rd_set_eq _ _ _ (by omega)]
  obtain ⟨r1, r2, r3⟩ := ih (i + 1) m (L ++ [(v, (m : Int) - 1)]) s (by omega) (by simp; omega) a.2.1 hV.2.2 h3 step.1
  refine ⟨⟨m, h1, a.1, fun j j1 j2 => ?_, fun hb1 => ?_, r1⟩, fun j hj => ?_, r3⟩
  ·rw [r2 j (by omega), step.2.1 j (Or.inl j2)]
   exact hacc j j1
  ·have hm := a.2.2 hb1
   rw [r2 (m - 1) (by omega)]
   exact step.2.2 hb1
  ·rw [r2 j (by omega)]
   by_cases hb1 : rd bs (i : Int) = 1
   ·exact step.2.1 j (Or.inr hb1)
   ·have hm := a.2.2 hb1
    exact step.2.1 j (Or.inl (by omega))
theorem valid_badT : ∀ (bs ws : List Int), AllOk bs → Valid bs ws → ws.length = bs.length ∧ badT bs ws = false := by
 have key : ∀ (bs ws : List Int), Valid bs ws → ws.length = bs.length ∧ ∀ i, i < bs.length → 0 ≤ ws.getD i 0 ∧ ws.getD i 0 < bs.getD i 0 := by
  intro bs
  induction bs with
  | nil =>
   intro ws h
   cases ws with
   | nil => exact ⟨rfl, fun i hi => by simp at hi⟩
   | cons w ws => exact h.elim
  | cons b bs ih =>
   intro ws h
   cases ws with
   | nil => exact h.elim
   | cons w ws =>
    obtain ⟨r1, r2⟩ := ih ws h.2.2
    refine ⟨by simp [r1], fun i hi => ?_⟩
    cases i with
    | zero => exact ⟨h.1, h.2.1⟩
    | succ i => simpa using r2 i (by simpa using hi)
 intro bs ws hb h
 obtain ⟨r1, r2⟩ := key bs ws h
 refine ⟨r1, List.any_eq_false.2 fun i hi => ?_⟩
 have hi' := List.mem_range.1 hi
 have := r2 i hi'
 have ob := allOk_at hb i hi'
 rw [rd_nat] at ob
 unfold badAt
 rw [okBound_of _ ob.1 ob.2, decide_eq_false (show ¬ ws.getD i 0 < 0 by omega), decide_eq_false (show ¬ ws.getD i 0 ≥ bs.getD i 0 by omega)]
 decide
theorem turnA_some (p bs ws : List Int) (hp : Bytes p) (hb : AllOk bs) (hv : Valid bs ws) {r : List Int × Nat} (hr : dr p bs 0 = some r) : ∃ q, turnA p bs ws = (q, 0) ∧ Bytes q ∧ q.length = p.length ∧ Tn p q bs r.1 ws 0 r.2 ∧ ∀ j, r.2 ≤ j → rd q (j : Int) = rd p (j : Int) := by
 obtain ⟨h1, h2⟩ := valid_badT bs ws hb hv
 have h3 := run_dr p bs 0 []
 rw [hr] at h3
 simp only at h3
 obtain ⟨t1, t2, t3⟩ := turned_tn p bs ws hb hp h1 bs.length 0 0 [] r (by omega) rfl (by omega) (by simpa using hv) (by simpa using hr) (fun j _ => rfl)
 rw [List.drop_zero, List.drop_zero] at t1
 rw [List.drop_zero] at t3
 refine ⟨turned p bs ws (run p bs 0 []).1, ?_, turned_bytes p bs ws hp _, turned_len _ _ _ _, t1, t3⟩
 unfold turnA turnR
 rw [if_pos ⟨h1, h2⟩, if_pos h3.1]
theorem ext_rd {a b : List Int} (hl : a.length = b.length) (h : ∀ i, i < a.length → rd a (i : Int) = rd b (i : Int)) : a = b := by
 apply List.ext_getElem hl
 intro i h1 h2
 rw [← rd_lt a i h1, ← rd_lt b i h2]
 exact h i h1
end Go.Proofs.Ytbnifpfnjhdenaa.Pl
end
section
namespace Go.Proofs.Ytbnifpfnjhdenaa.Q
open Go.RowKit Go.Proofs.YtbnifpfnjhdenaaW.PrintWords Go.Proofs.YtbnifpfnjhdenaaW.PrintLast Go.Proofs.YtbnifpfnjhdenaaW.PrintMore
open Go.Proofs.YtbnifpfnjhdenaaW.PrintLast renaming i64_w → jG, i32_w → jH
open Go.Proofs.YtbnifpfnjhdenaaW.PrintMore renaming max_three → jO, min_three → jP
open Go.Proofs.YtbnifpfnjhdenaaW.PrintWords renaming below_size → ja, below_step → jd, blk_below → jm, blk_drew → jo, blk_alloc → jp, blk_drewN → jq, gate_callee → jr, blk_put → jv, gate_dst → jx, box_event → jD, below_drew1 → jJ, gate_guard → jM, below_set → jN
open Go.Proofs.YtbnifpfnjhdenaaW.PrintWords.Kd renaming R_below → jb, int → jc, R_mono → je, R_far → jf, R_base → jg, R_elder' → jh, R_reads' → ji, R_lt → jj, R_new' → jk, R_lower → jl, R_slice → jn, C_below → js, R_drew → jt, R_types → ju, R → jw, R_after → jy, R_over' → jz, slice → jA, R_typed → jB, S_below → jC, S_mono → jE, S_far → jF, fresh' → jI, S_elder' → jK, at_int → jL, S_reads' → jQ
attribute [local go_sem] max2_int min2_int max_two min_two jO jP max_four min_four
set_option linter.unusedVariables false
set_option linter.unusedSimpArgs false
def churnref11_Check.l0 : Nat → List Int → List Bool → Int → Option (Int)
 | 0, _, _, _ => none
 | k + 1, x0, x3, x4 => if x4 < (x0.length : Int) then (if 0 ≤ x4 then (if (rd x0 x4) < 0 then (some 110) else (if (rd x0 x4) ≥ (x0.length : Int) then (some 110) else (if 0 ≤ (rd x0 x4) then (if (rd x0 x4) < (x3.length : Int) then (if rdOf false x3 (rd x0 x4) = true then (some 110) else (churnref11_Check.l0 k x0 (x3.set ((rd x0 x4) : Int).toNat true) (wrap64 (x4 + 1)))) else (none)) else (none)))) else (none)) else (some 0)
end Go.Proofs.Ytbnifpfnjhdenaa.Q
end
section
set_option linter.unusedVariables false
set_option linter.unusedSimpArgs false
namespace Go.Proofs.Ytbnifpfnjhdenaa.Pl
open Go.RowKit Go.Proofs.Ytbnifpfnjhdenaa.Q Go.Proofs.YtbnifpfnjhdenaaW.PrintWords Go.Proofs.YtbnifpfnjhdenaaW.PrintLast
def Fits (l : List Int) : Prop := (∀ x ∈ l, 0 ≤ x ∧ x < (l.length : Int)) ∧ l.Nodup
instance (l : List Int) : Decidable (Fits l) := by unfold Fits; infer_instance
def Seen (n : Nat) (seen : List Bool) (met : List Int) : Prop := seen.length = n ∧ ∀ v : Nat, v < n → (seen.getD v false = true ↔ (v : Int) ∈ met)
theorem Seen.start (n : Nat) : Seen n (List.replicate n false) [] := by
 refine ⟨by simp, fun v hv => ?_⟩
 simp [List.getD_eq_getElem?_getD, List.getElem?_replicate, hv]
theorem Seen.next {n : Nat} {seen : List Bool} {met : List Int} (h : Seen n seen met) (x : Int) (h0 : 0 ≤ x) (hx : x < n) : Seen n (seen.set x.toNat true) (met ++ [x]) := by
 refine ⟨by rw [List.length_set]; exact h.1, fun v hv => ?_⟩
 have hl := h.1
 rw [List.getD_eq_getElem?_getD, List.getElem?_set]
 by_cases e : x.toNat = v
 ·have : (v : Int) = x := by omega
  simp [e, this, hl, hv]
 ·have h1 := h.2 v hv
  rw [List.getD_eq_getElem?_getD] at h1
  simp only [e, if_false, h1, List.mem_append, List.mem_singleton]
  constructor
  ·exact Or.inl
  ·rintro (h2 | h2)
   ·exact h2
   ·omega
theorem Seen.at_ {n : Nat} {seen : List Bool} {met : List Int} (h : Seen n seen met) (x : Int) (h0 : 0 ≤ x) (hx : x < n) : (rdOf false seen x = true ↔ x ∈ met) := by
 have := h.2 x.toNat (by omega)
 rw [show ((x.toNat : Nat) : Int) = x from by omega] at this
 exact this
theorem fits_split (l : List Int) (i : Nat) (h : i < l.length) (hp : ∀ x ∈ l.take i, 0 ≤ x ∧ x < (l.length : Int)) (hn : (l.take i).Nodup) :
  (Fits l → 0 ≤ rd l (i : Int) ∧ rd l (i : Int) < (l.length : Int) ∧ rd l (i : Int) ∉ l.take i) := by
 intro hf
 have hm : rd l (i : Int) ∈ l := rd_mem l _ (by simpa using h)
 refine ⟨(hf.1 _ hm).1, (hf.1 _ hm).2, fun hc => ?_⟩
 have h2 : (l.take (i + 1)).Nodup := (List.take_sublist _ _).nodup hf.2
 rw [take_rd l i h, List.nodup_append] at h2
 exact h2.2.2 _ hc _ (List.mem_singleton.2 rfl) rfl
theorem fits_loops (l : List Int) (hl : l.length ≤ 9223372036854775000) (d : Nat) : ∀ (i : Nat) (seen : List Bool), i + d = l.length → Seen l.length seen (l.take i) →
  (∀ x ∈ l.take i, 0 ≤ x ∧ x < (l.length : Int)) → (l.take i).Nodup →
  Ev (fun k => perm_fits.l0 k l seen l (l.length : Int) (i : Int)) (decide (Fits l)) ∧ Ev (fun k => churnref11_Check.l0 k l seen (i : Int)) (if Fits l then 0 else 110) := by
 induction d with
 | zero =>
  intro i seen hi hs hp hn
  have hf : Fits l := by
   have h1 : l.take i = l := List.take_of_length_le (by omega)
   rw [h1] at hp hn
   exact ⟨hp, hn⟩
  rw [if_pos hf, decide_eq_true hf]
  exact ⟨Ev.step (f := fun _ => some true) (fun k => by rw [perm_fits.l0, if_neg (by omega)]) (ev_some rfl), Ev.step (f := fun _ => some 0) (fun k => by rw [churnref11_Check.l0, if_neg (by omega)]) (ev_some rfl)⟩
 | succ d ih =>
  intro i seen hi hs hp hn
  have hsp := fits_split l i (by omega) hp hn
  have hlen := hs.1
  by_cases h1 : rd l (i : Int) < 0
  ·have hf : ¬ Fits l := fun h => by have := (hsp h).1; omega
   rw [if_neg hf, decide_eq_false hf]
   exact ⟨Ev.step (f := fun _ => some false) (fun k => by rw [perm_fits.l0, if_pos (by omega), if_pos (by omega), if_pos (by omega), if_pos h1]) (ev_some rfl),
    Ev.step (f := fun _ => some 110) (fun k => by rw [churnref11_Check.l0, if_pos (by omega), if_pos (by omega), if_pos h1]) (ev_some rfl)⟩
  ·by_cases h2 : rd l (i : Int) ≥ (l.length : Int)
   ·have hf : ¬ Fits l := fun h => by have := (hsp h).2.1; omega
    rw [if_neg hf, decide_eq_false hf]
    exact ⟨Ev.step (f := fun _ => some false) (fun k => by rw [perm_fits.l0, if_pos (by omega), if_pos (by omega), if_pos (by omega), if_neg h1, if_pos h2]) (ev_some rfl),
     Ev.step (f := fun _ => some 110) (fun k => by rw [churnref11_Check.l0, if_pos (by omega), if_pos (by omega), if_neg h1, if_pos h2]) (ev_some rfl)⟩
   ·have hat := hs.at_ (rd l (i : Int)) (by omega) (by omega)
    by_cases h3 : rdOf false seen (rd l (i : Int)) = true
    ·have hf : ¬ Fits l := fun h => (hsp h).2.2 (hat.1 h3)
     rw [if_neg hf, decide_eq_false hf]
     exact ⟨Ev.step (f := fun _ => some false) (fun k => by rw [perm_fits.l0, if_pos (by omega), if_pos (by omega), if_pos (by omega), if_neg h1, if_neg h2, if_pos (by omega), if_pos (by omega), if_pos h3]) (ev_some rfl),
      Ev.step (f := fun _ => some 110) (fun k => by rw [churnref11_Check.l0, if_pos (by omega), if_pos (by omega), if_neg h1, if_neg h2, if_pos (by omega), if_pos (by omega), if_pos h3]) (ev_some rfl)⟩
    ·have hnx := hs.next (rd l (i : Int)) (by omega) (by omega)
     rw [← take_rd l i (by omega)] at hnx
     obtain ⟨e1, e2⟩ := ih (i + 1) _ (by omega) hnx (by
      rw [take_rd l i (by omega)]
      intro x hx
      rcases List.mem_append.1 hx with hx | hx
      ·exact hp x hx
      ·have := List.mem_singleton.1 hx
       subst this
       exact ⟨by omega, by omega⟩) (by
      rw [take_rd l i (by omega), List.nodup_append]
      refine ⟨hn, by simp, fun a ha b hb hab => ?_⟩
      have := List.mem_singleton.1 hb
      subst this
      subst hab
      exact h3 (hat.2 ha))
     refine ⟨Ev.step (fun k => ?_) e1, Ev.step (fun k => ?_) e2⟩
     ·rw [perm_fits.l0, if_pos (by omega), if_pos (by omega), if_pos (by omega), if_neg h1, if_neg h2, if_pos (by omega), if_pos (by omega), if_neg h3, w64 (by omega) (by omega)]
      rfl
     ·rw [churnref11_Check.l0, if_pos (by omega), if_pos (by omega), if_neg h1, if_neg h2, if_pos (by omega), if_pos (by omega), if_neg h3, w64 (by omega) (by omega)]
      rfl
theorem fits_ev (l : List Int) (hl : l.length ≤ 281474976710656) : Ev (fun k => perm_fits.f k l) (decide (Fits l)) := by
 unfold perm_fits.f
 refine ev_pos (by omega) (ev_pos (by omega) ?_)
 exact (fits_loops l (by omega) l.length 0 _ (by omega) (by simpa using Seen.start l.length) (by simp) (by simp)).1
def pick (p q : List Int) : List Int := p.map fun i => rd q i
end Go.Proofs.Ytbnifpfnjhdenaa.Pl
end
section
set_option linter.unusedVariables false
set_option linter.unusedSimpArgs false
namespace Go.Proofs.Ytbnifpfnjhdenaa.Pl
open Go.RowKit Go.Proofs.Ytbnifpfnjhdenaa.Q Go.Proofs.YtbnifpfnjhdenaaW.PrintWords Go.Proofs.YtbnifpfnjhdenaaW.PrintLast
def iota (n : Nat) : List Int := (List.range n).map fun i : Nat => (i : Int)
theorem iota_len (n : Nat) : (iota n).length = n := by simp [iota]
theorem iota_get (n i : Nat) (h : i < (iota n).length) : (iota n)[i] = (i : Int) := by simp [iota]
theorem iota_succ (n : Nat) : iota (n + 1) = iota n ++ [(n : Int)] := by simp [iota, List.range_succ]
theorem mx_nat (n : Nat) : mx (n : Int) 0 = (n : Int) := by unfold mx; split <;> omega
theorem mx_neg (n : Int) (h : n ≤ 0) : mx n 0 = 0 := by unfold mx; split <;> omega
theorem identity_ev (n : Nat) (hn : n ≤ 17592186044415) : Ev (fun k => perm_Identity.f k (n : Int)) (iota n) := by
 unfold perm_Identity.f
 rw [mx_nat]
 have key : ∀ (d i : Nat), i + d = n → Ev (fun k => perm_Identity.l0 k (iota i) (n : Int) (i : Int)) (iota n) := by
  intro d
  induction d with
  | zero =>
   intro i hi
   have : i = n := by omega
   subst this
   exact Ev.step (f := fun _ => some (iota i)) (fun k => by rw [perm_Identity.l0, if_neg (by omega)]) (Ev.now _)
  | succ d ih =>
   intro i hi
   have hl := iota_len i
   refine Ev.step (fun k => ?_) (ih (i + 1) (by omega))
   rw [perm_Identity.l0, if_pos (by omega), if_pos (by omega), w64 (by omega) (by omega), iota_succ]
   rfl
 have := key n 0 (by omega)
 simpa [iota] using this
theorem fits_inj {p : List Int} (h : Fits p) {i j : Nat} (hi : i < p.length) (hj : j < p.length) (e : p[i] = p[j]) : i = j :=
 (List.getElem_inj h.2).1 e
theorem nodup_bound : ∀ (n : Nat) (l : List Int), l.Nodup → (∀ x ∈ l, 0 ≤ x ∧ x < (n : Int)) → l.length ≤ n
 | 0, l, _, h => by
  cases l with
  | nil => simp
  | cons x l => have := h x (by simp); omega
 | n + 1, l, hn, h => by
  by_cases hm : (n : Int) ∈ l
  ·have h1 := nodup_bound n (l.erase (n : Int)) (hn.erase _) (fun x hx => by
    have := (hn.mem_erase_iff).1 hx
    have := h x this.2
    omega)
   rw [List.length_erase_of_mem hm] at h1
   omega
  ·have h1 := nodup_bound n l hn (fun x hx => by
    have := h x hx
    have : x ≠ (n : Int) := fun e => hm (e ▸ hx)
    omega)
   omega
theorem fits_all {p : List Int} (h : Fits p) (v : Nat) (hv : v < p.length) : ∃ (i : Nat) (hi : i < p.length), p[i] = (v : Int) := by
 by_cases hm : (v : Int) ∈ p
 ·obtain ⟨i, hi, e⟩ := List.getElem_of_mem hm
  exact ⟨i, hi, e⟩
 ·have := nodup_bound p.length ((v : Int) :: p) (List.nodup_cons.2 ⟨hm, h.2⟩) (fun x hx => by
   rcases List.mem_cons.1 hx with rfl | hx
   ·omega
   ·exact h.1 x hx)
  simp only [List.length_cons] at this
  omega
theorem nodup_get {l : List Int} (h : ∀ (i j : Nat) (hi : i < l.length) (hj : j < l.length), i < j → l[i] ≠ l[j]) : l.Nodup := by
 unfold List.Nodup
 rw [List.pairwise_iff_getElem]
 exact h
theorem fits_iota (n : Nat) : Fits (iota n) := by
 refine ⟨fun x hx => ?_, ?_⟩
 ·simp only [iota, List.mem_map, List.mem_range] at hx
  obtain ⟨i, hi, rfl⟩ := hx
  rw [iota_len]
  omega
 ·refine nodup_get fun i j hi hj hij => ?_
  rw [iota_get, iota_get]
  omega
theorem pick_len (p q : List Int) : (pick p q).length = p.length := by simp [pick]
theorem pick_get (p q : List Int) (i : Nat) (hi : i < p.length) : (pick p q)[i]'(by rw [pick_len]; exact hi) = rd q p[i] := by simp [pick]
theorem rd_get (q : List Int) (x : Int) (h0 : 0 ≤ x) (h1 : x < (q.length : Int)) : rd q x = q[x.toNat]'(by omega) := by
 unfold rd
 simp [List.getD_eq_getElem?_getD, show x.toNat < q.length by omega]
def IsInv (p r : List Int) : Prop := r.length = p.length ∧ ∀ (i : Nat) (hi : i < p.length), rd r p[i] = (i : Int)
theorem IsInv.range {p r : List Int} (fp : Fits p) (h : IsInv p r) (v : Nat) (hv : v < r.length) : ∃ (i : Nat) (hi : i < p.length), p[i] = (v : Int) ∧ r[v] = (i : Int) := by
 obtain ⟨i, hi, e⟩ := fits_all fp v (by rw [← h.1]; exact hv)
 refine ⟨i, hi, e, ?_⟩
 have := h.2 i hi
 rw [e, rd_lt r v hv] at this
 exact this
theorem IsInv.right {p r : List Int} (fp : Fits p) (h : IsInv p r) : pick p r = iota p.length := by
 apply List.ext_getElem
 ·simp [pick, iota]
 ·intro i h1 h2
  have hi : i < p.length := by simpa [pick] using h1
  rw [pick_get p r i hi, h.2 i hi, iota_get]
theorem IsInv.left {p r : List Int} (fp : Fits p) (h : IsInv p r) : pick r p = iota p.length := by
 apply List.ext_getElem
 ·simp [pick, iota, h.1]
 ·intro v h1 h2
  have hv : v < r.length := by simpa [pick] using h1
  obtain ⟨i, hi, e1, e2⟩ := h.range fp v hv
  rw [pick_get r p v hv, e2, rd_lt p i hi, e1, iota_get]
theorem perm_check_ev (p : List Int) (hl : p.length ≤ 281474976710656) : Ev (fun k => perm_Check.f k p) (if Fits p then 0 else 110) := by
 unfold perm_Check.f
 refine ev_bind (fits_ev p hl) ?_
 by_cases f : Fits p
 ·exact ev_pos (by simp [f]) (ev_some (by simp [f]))
 ·exact ev_neg (by simp [f]) (ev_some (by simp [f]))
end Go.Proofs.Ytbnifpfnjhdenaa.Pl
end
section
set_option linter.unusedVariables false
set_option linter.unusedSimpArgs false
namespace Go.Proofs.Ytbnifpfnjhdenaa.Pl
open Go.RowKit Go.Proofs.Ytbnifpfnjhdenaa.Q Go.Proofs.YtbnifpfnjhdenaaW.PrintWords Go.Proofs.YtbnifpfnjhdenaaW.PrintLast
def boundsL : Nat → List Int
  | 0 => []
  | 1 => []
  | n + 2 => ((n + 2 : Nat) : Int) :: boundsL (n + 1)
theorem boundsL_len : ∀ n, (boundsL n).length = n - 1
  | 0 => rfl
  | 1 => rfl
  | n + 2 => by rw [boundsL, List.length_cons, boundsL_len (n + 1)]; omega
theorem boundsL_at : ∀ (n k : Nat), k + 1 < n → rd (boundsL n) (k : Int) = (n : Int) - (k : Int)
  | 0, k, h => by omega
  | 1, k, h => by omega
  | n + 2, 0, h => by rw [boundsL]; simp [rd]
  | n + 2, k + 1, h => by
    have := boundsL_at (n + 1) k (by omega)
    rw [boundsL]
    have e : rd (((n + 2 : Nat) : Int) :: boundsL (n + 1)) ((k + 1 : Nat) : Int) = rd (boundsL (n + 1)) (k : Int) := by rw [rd_nat, rd_nat]; rfl
    rw [e, this]
    omega
theorem bounds_ev (n : Int) (hn : n ≤ 17592186044415) : Ev (fun k => perm_Bounds.f k n) (boundsL n.toNat) := by
  unfold perm_Bounds.f
  by_cases h0 : n ≤ 1
  · have : boundsL n.toNat = [] := List.eq_nil_of_length_eq_zero (by rw [boundsL_len]; omega)
    rw [this]
    exact Ev.step (f := fun _ => some []) (fun k => by rw [perm_Bounds.l0, if_neg (by omega)]) (Ev.now _)
  · obtain ⟨m, rfl⟩ : ∃ m : Nat, n = (m : Int) := ⟨n.toNat, by omega⟩
    have key : ∀ (j : Nat) (acc : List Int), acc.length + j ≤ 17592186044415 → Ev (fun k => perm_Bounds.l0 k acc (j : Int)) (acc ++ boundsL j) := by
      intro j
      induction j with
      | zero => intro acc h; exact Ev.step (f := fun _ => some acc) (fun k => by rw [perm_Bounds.l0, if_neg (by omega)]) (ev_some (by simp [boundsL]))
      | succ j ih =>
        intro acc h
        by_cases hj : j = 0
        · subst hj
          exact Ev.step (f := fun _ => some acc) (fun k => by rw [perm_Bounds.l0, if_neg (by omega)]) (ev_some (by simp [boundsL]))
        · obtain ⟨j, rfl⟩ : ∃ i, j = i + 1 := ⟨j - 1, by omega⟩
          refine Ev.step (f := fun k => perm_Bounds.l0 k (acc ++ [((j + 1 + 1 : Nat) : Int)]) ((j + 1 : Nat) : Int)) (fun k => ?_) (ev_to (ih _ (by simp; omega)) (by simp [boundsL]; omega))
          rw [perm_Bounds.l0, if_pos (by omega), if_pos (by omega), w64 (by omega) (by omega), show ((j + 1 + 1 : Nat) : Int) - 1 = ((j + 1 : Nat) : Int) by omega]
    exact key m [] (by simp; omega)
def FitD (n : Int) (l : List Int) : Prop := ∀ k : Nat, k < l.length → 0 ≤ rd l (k : Int) ∧ rd l (k : Int) < n - (k : Int)
instance (n : Int) (l : List Int) : Decidable (FitD n l) := by unfold FitD; infer_instance
def swp (a : List Int) (i j : Nat) : List Int := (a.set i (rd a (j : Int))).set j (rd a (i : Int))
theorem swp_len (a : List Int) (i j : Nat) : (swp a i j).length = a.length := by simp [swp]
def fromL : List Int → Nat → List Int → List Int
  | a, _, [] => a
  | a, i, d :: ds => fromL (swp a i d.toNat) (i - 1) ds
theorem fromL_len : ∀ (l a : List Int) (i : Nat), (fromL a i l).length = a.length
  | [], _, _ => rfl
  | d :: ds, a, i => by rw [fromL, fromL_len ds, swp_len]
theorem from_walk (n : Nat) (l : List Int) (hn : l.length + 1 = n ∨ l = []) (hl : n ≤ 17592186044000) (hf : FitD (n : Int) l) :
    ∀ (d i : Nat) (a : List Int), i + d = l.length → a.length = n → Ev (fun k => perm_From.l1 k (n : Int) a l (l.length : Int) (i : Int)) (fromL a (n - 1 - i) (l.drop i), 0) := by
  intro d
  induction d with
  | zero =>
    intro i a hi ha
    rw [List.drop_eq_nil_of_le (by omega)]
    exact Ev.step (f := fun _ => some (a, 0)) (fun k => by rw [perm_From.l1, if_neg (by omega)]) (Ev.now _)
  | succ d ih =>
    intro i a hi ha
    have hn' : l.length + 1 = n := by rcases hn with h | h; · exact h
                                      · subst h; simp at hi
    obtain ⟨f1, f2⟩ := hf i (by omega)
    rw [drop_rd l i (by omega), fromL, show n - 1 - i - 1 = n - 1 - (i + 1) by omega]
    refine Ev.step (f := fun k => perm_From.l1 k (n : Int) (swp a (n - 1 - i) (rd l (i : Int)).toNat) l (l.length : Int) ((i + 1 : Nat) : Int)) (fun k => ?_) (ih (i + 1) _ (by omega) (by rw [swp_len, ha]))
    have e : wrap64 (wrap64 ((n : Int) - 1) - (i : Int)) = ((n - 1 - i : Nat) : Int) := by rw [w64 (x := (n : Int) - 1) (by omega) (by omega), w64 (by omega) (by omega)]; omega
    rw [perm_From.l1, if_pos (by omega), if_pos (by omega), if_pos (by omega), if_pos (by omega), if_pos (by omega), e, if_pos (by omega), if_pos (by omega), w64 (by omega) (by omega)]
    unfold swp
    rw [Int.toNat_of_nonneg f1]
    rfl
theorem from_chk (n : Nat) (l : List Int) (hl : l.length ≤ 17592186044000) (hl2 : n ≤ 17592186044000) {R : List Int × Int} (hR : FitD (n : Int) l → Ev (fun k => (perm_Identity.f k (n : Int)).bind fun t107 => (perm_From.l1 k (n : Int) t107 l (l.length : Int) 0)) R) :
    ∀ (d i : Nat), i + d = l.length → (∀ k : Nat, k < i → 0 ≤ rd l (k : Int) ∧ rd l (k : Int) < (n : Int) - (k : Int)) → Ev (fun k => perm_From.l0 k (n : Int) l l (l.length : Int) (i : Int)) (if FitD (n : Int) l then R else ([], 110)) := by
  intro d
  induction d with
  | zero =>
    intro i hi hk
    have hf : FitD (n : Int) l := fun k h => hk k (by omega)
    rw [if_pos hf]
    refine Ev.step (fun k => ?_) (hR hf)
    rw [perm_From.l0, if_neg (by omega)]
  | succ d ih =>
    intro i hi hk
    by_cases h1 : rd l (i : Int) < 0
    · rw [if_neg (fun hf : FitD _ l => by have := (hf i (by omega)).1; omega)]
      exact Ev.step (f := fun _ => some ([], 110)) (fun k => by rw [perm_From.l0, if_pos (by omega), if_pos (by omega), if_pos (by omega), if_pos h1]) (Ev.now _)
    · by_cases h2 : rd l (i : Int) ≥ (n : Int) - (i : Int)
      · rw [if_neg (fun hf : FitD _ l => by have := (hf i (by omega)).2; omega)]
        exact Ev.step (f := fun _ => some ([], 110)) (fun k => by rw [perm_From.l0, if_pos (by omega), if_pos (by omega), if_pos (by omega), if_neg h1, w64 (x := (n : Int) - (i : Int)) (by omega) (by omega), if_pos h2]) (Ev.now _)
      · refine Ev.step (fun k => ?_) (ih (i + 1) (by omega) (fun k h => ?_))
        · rw [perm_From.l0, if_pos (by omega), if_pos (by omega), if_pos (by omega), if_neg h1, w64 (x := (n : Int) - (i : Int)) (by omega) (by omega), if_neg h2, w64 (by omega) (by omega)]
          rfl
        · by_cases hki : k = i
          · subst hki; exact ⟨by omega, by omega⟩
          · exact hk k (by omega)
def fromA (n : Int) (l : List Int) : List Int × Int := if n < 0 then ([], 2) else if (l.length : Int) = mx (n - 1) 0 ∧ FitD n l then (fromL (iota n.toNat) (n.toNat - 1) l, 0) else ([], 110)
theorem mx_pos (x : Int) (h : 0 ≤ x) : mx x 0 = x := by
  obtain ⟨n, rfl⟩ : ∃ n : Nat, x = (n : Int) := ⟨x.toNat, by omega⟩
  exact mx_nat n
theorem from_ev (n : Int) (l : List Int) (hn : -9223372036854775808 ≤ n ∧ n ≤ 9223372036854775807) (hl : l.length ≤ 17592186043904) : Ev (fun k => perm_From.f k n l) (fromA n l) := by
  unfold perm_From.f fromA
  by_cases h0 : n < 0
  · rw [if_pos h0]; exact ev_pos h0 (Ev.now _)
  · rw [if_neg h0]
    refine ev_neg h0 ?_
    rw [w64 (by omega) (by omega)]
    by_cases hm : (l.length : Int) = mx (n - 1) 0
    · refine ev_pos hm ?_
      have hb : n ≤ 17592186043905 := by
        by_cases h1 : n ≤ 1
        · omega
        · rw [mx_pos _ (by omega)] at hm; omega
      have hn' : l.length + 1 = n.toNat ∨ l = [] := by
        by_cases h1 : n ≤ 1
        · rw [mx_neg _ (by omega)] at hm
          exact Or.inr (List.eq_nil_of_length_eq_zero (by omega))
        · rw [mx_pos _ (by omega)] at hm; omega
      obtain ⟨m, rfl⟩ : ∃ m : Nat, n = (m : Int) := ⟨n.toNat, by omega⟩
      refine ev_to (from_chk m l (by omega) (by omega) (R := (fromL (iota m) (m - 1) l, 0)) (fun hf => ?_) l.length 0 (by omega) (fun k h => by omega)) ?_
      · refine ev_bind (identity_ev m (by omega)) ?_
        exact from_walk m l (by simpa using hn') (by omega) hf l.length 0 _ (by omega) (iota_len m)
      · by_cases hf : FitD (m : Int) l
        · rw [if_pos hf, if_pos ⟨hm, hf⟩]
          rfl
        · rw [if_neg hf, if_neg (fun h => hf h.2)]
    · rw [if_neg (fun h => hm h.1)]
      exact ev_neg hm (Ev.now _)
end Go.Proofs.Ytbnifpfnjhdenaa.Pl
end
section
set_option linter.unusedVariables false
set_option linter.unusedSimpArgs false
namespace Go.Proofs.Ytbnifpfnjhdenaa.Pl
open Go.RowKit Go.Proofs.Ytbnifpfnjhdenaa.Q Go.Proofs.YtbnifpfnjhdenaaW.PrintWords Go.Proofs.YtbnifpfnjhdenaaW.PrintLast
theorem swp_get (a : List Int) (i j m : Nat) (hi : i < a.length) (hj : j < a.length) (hm : m < a.length) : rd (swp a i j) (m : Int) = if m = j then rd a (i : Int) else if m = i then rd a (j : Int) else rd a (m : Int) := by
 rw [rd_lt _ m (by rw [swp_len]; exact hm)]
 unfold swp
 rw [List.getElem_set]
 by_cases h1 : m = j
 ·subst h1; rw [if_pos rfl, if_pos rfl]
 ·rw [if_neg (fun h => h1 h.symm), if_neg h1, List.getElem_set]
  by_cases h2 : m = i
  ·subst h2; rw [if_pos rfl, if_pos rfl]
  ·rw [if_neg (fun h => h2 h.symm), if_neg h2, rd_lt _ m hm]
theorem fits_rd {a : List Int} (fa : Fits a) (m : Nat) (hm : m < a.length) : 0 ≤ rd a (m : Int) ∧ rd a (m : Int) < (a.length : Int) := fa.1 _ (rd_mem a (m : Int) (by simpa using hm))
theorem fits_rd_inj {a : List Int} (fa : Fits a) (i j : Nat) (hi : i < a.length) (hj : j < a.length) (e : rd a (i : Int) = rd a (j : Int)) : i = j := by
 rw [rd_lt a i hi, rd_lt a j hj] at e
 exact fits_inj fa hi hj e
theorem fits_of_rd {a : List Int} (h1 : ∀ m : Nat, m < a.length → 0 ≤ rd a (m : Int) ∧ rd a (m : Int) < (a.length : Int)) (h2 : ∀ i j : Nat, i < a.length → j < a.length → rd a (i : Int) = rd a (j : Int) → i = j) : Fits a := by
 refine ⟨fun x hx => ?_, nodup_get fun i j hi hj hij e => ?_⟩
 ·obtain ⟨m, hm, rfl⟩ := List.getElem_of_mem hx
  have := h1 m hm
  rw [rd_lt a m hm] at this
  exact this
 ·have := h2 i j hi hj (by rw [rd_lt a i hi, rd_lt a j hj]; exact e)
  omega
theorem fits_swp {a : List Int} (fa : Fits a) (i j : Nat) (hi : i < a.length) (hj : j < a.length) : Fits (swp a i j) := by
 refine fits_of_rd (fun m hm => ?_) (fun x y hx hy e => ?_)
 ·rw [swp_len] at hm ⊢
  rw [swp_get a i j m hi hj hm]
  split
  ·exact fits_rd fa i hi
  ·split
   ·exact fits_rd fa j hj
   ·exact fits_rd fa m hm
 ·rw [swp_len] at hx hy
  rw [swp_get a i j x hi hj hx, swp_get a i j y hi hj hy] at e
  by_cases x1 : x = j
  ·by_cases y1 : y = j
   ·omega
   ·rw [if_pos x1, if_neg y1] at e
    by_cases y2 : y = i
    ·rw [if_pos y2] at e
     have := fits_rd_inj fa i j hi hj e
     omega
    ·rw [if_neg y2] at e
     have := fits_rd_inj fa i y hi hy e
     omega
  ·rw [if_neg x1] at e
   by_cases y1 : y = j
   ·rw [if_pos y1] at e
    by_cases x2 : x = i
    ·rw [if_pos x2] at e
     have := fits_rd_inj fa j i hj hi e
     omega
    ·rw [if_neg x2] at e
     have := fits_rd_inj fa x i hx hi e
     omega
   ·rw [if_neg y1] at e
    by_cases x2 : x = i
    ·rw [if_pos x2] at e
     by_cases y2 : y = i
     ·omega
     ·rw [if_neg y2] at e
      have := fits_rd_inj fa j y hj hy e
      omega
    ·rw [if_neg x2] at e
     by_cases y2 : y = i
     ·rw [if_pos y2] at e
      have := fits_rd_inj fa x j hx hj e
      omega
     ·rw [if_neg y2] at e
      exact fits_rd_inj fa x y hx hy e
def At (a r : List Int) : Prop := r.length = a.length ∧ ∀ m : Nat, m < a.length → rd r (rd a (m : Int)) = (m : Int)
theorem rd_set_same (r : List Int) (x v : Int) (h0 : 0 ≤ x) (h1 : x < (r.length : Int)) : rd (r.set x.toNat v) x = v := by
 rw [rd_get _ _ h0 (by rw [List.length_set]; exact h1), List.getElem_set, if_pos rfl]
theorem rd_set_ne (r : List Int) (x y v : Int) (h0 : 0 ≤ x) (h1 : x < (r.length : Int)) (hy : 0 ≤ y) (h : x ≠ y) : rd (r.set y.toNat v) x = rd r x := by
 rw [rd_get _ _ h0 (by rw [List.length_set]; exact h1), List.getElem_set, if_neg (by omega), ← rd_get r x h0 h1]
theorem at_swp_prog {a r : List Int} (fa : Fits a) (h : At a r) (i j : Nat) (hi : i < a.length) (hj : j < a.length) : At (swp a i j) ((r.set (rd a (j : Int)).toNat (i : Int)).set (rd a (i : Int)).toNat (j : Int)) := by
 have bi := fits_rd fa i hi
 have bj := fits_rd fa j hj
 refine ⟨by rw [swp_len]; simp [h.1], fun m hm => ?_⟩
 rw [swp_len] at hm
 have bm := fits_rd fa m hm
 have hl := h.1
 rw [swp_get a i j m hi hj hm]
 by_cases h1 : m = j
 ·rw [if_pos h1, rd_set_same _ _ _ bi.1 (by rw [List.length_set]; omega)]
  omega
 ·rw [if_neg h1]
  by_cases h2 : m = i
  ·rw [if_pos h2, rd_set_ne _ _ _ _ bj.1 (by rw [List.length_set]; omega) bi.1 (fun e => h1 (by have := fits_rd_inj fa j i hj hi e; omega)), rd_set_same _ _ _ bj.1 (by omega)]
   omega
  ·rw [if_neg h2, rd_set_ne _ _ _ _ bm.1 (by rw [List.length_set]; omega) bi.1 (fun e => h2 (fits_rd_inj fa m i hm hi e)), rd_set_ne _ _ _ _ bm.1 (by omega) bj.1 (fun e => h1 (fits_rd_inj fa m j hm hj e))]
   exact h.2 m hm
theorem rd_iota (n m : Nat) (h : m < n) : rd (iota n) (m : Int) = (m : Int) := by rw [rd_lt _ m (by rw [iota_len]; exact h), iota_get]
theorem at_iota (n : Nat) : At (iota n) (iota n) := ⟨rfl, fun m hm => by rw [iota_len] at hm; rw [rd_iota n m hm, rd_iota n m hm]⟩
def pos (a : List Int) (x : Int) : Nat := a.idxOf x
theorem pos_spec {a : List Int} (fa : Fits a) (x : Int) (h0 : 0 ≤ x) (h1 : x < (a.length : Int)) : pos a x < a.length ∧ rd a (pos a x : Int) = x := by
 obtain ⟨i, hi, e⟩ := fits_all fa x.toNat (by omega)
 have hx : x ∈ a := by
  have : a[i] = x := by rw [e]; omega
  exact this ▸ List.getElem_mem hi
 have hlt : a.idxOf x < a.length := List.idxOf_lt_length_of_mem hx
 exact ⟨hlt, by unfold pos; rw [rd_lt _ _ hlt]; exact List.getElem_idxOf hlt⟩
theorem pos_at {a r : List Int} (fa : Fits a) (h : At a r) (x : Int) (h0 : 0 ≤ x) (h1 : x < (a.length : Int)) : rd r x = (pos a x : Int) := by
 obtain ⟨p1, p2⟩ := pos_spec fa x h0 h1
 have := h.2 _ p1
 rw [p2] at this
 exact this
theorem pos_rd {a : List Int} (fa : Fits a) (m : Nat) (hm : m < a.length) : pos a (rd a (m : Int)) = m := by
 have b := fits_rd fa m hm
 obtain ⟨p1, p2⟩ := pos_spec fa _ b.1 b.2
 exact fits_rd_inj fa _ _ p1 hm p2
def drawsL (p : List Int) : List Int → Nat → List Int
 | _, 0 => []
 | a, i + 1 => (pos a (rd p ((i + 1 : Nat) : Int)) : Int) :: drawsL p (swp a (i + 1) (pos a (rd p ((i + 1 : Nat) : Int)))) i
theorem drawsL_len (p : List Int) : ∀ (i : Nat) (a : List Int), (drawsL p a i).length = i
 | 0, _ => rfl
 | i + 1, a => by rw [drawsL, List.length_cons, drawsL_len p i]
def drawsA (p : List Int) : List Int × Int := if Fits p then (drawsL p (iota p.length) (p.length - 1), 0) else ([], 110)
theorem draws_walk (p : List Int) (hl : p.length ≤ 17592186044000) (fp : Fits p) : ∀ (i : Nat) (a r D : List Int), (i < p.length ∨ i = 0) → Fits a → a.length = p.length → At a r → D.length + i ≤ p.length →
  Ev (fun k => perm_Draws.l0 k p a r D (i : Int)) (D ++ drawsL p a i, 0) := by
 intro i
 induction i with
 | zero =>
  intro a r D hi fa ha hr hD
  exact Ev.step (f := fun _ => some (D, 0)) (fun k => by rw [perm_Draws.l0, if_neg (by omega)]) (ev_some (by simp [drawsL]))
 | succ i ih =>
  intro a r D hi fa ha hr hD
  have hip : i + 1 < p.length := by omega
  have bp := fits_rd fp (i + 1) hip
  obtain ⟨p1, p2⟩ := pos_spec fa (rd p ((i + 1 : Nat) : Int)) bp.1 (by omega)
  have hpos := pos_at fa hr (rd p ((i + 1 : Nat) : Int)) bp.1 (by omega)
  have hrl := hr.1
  have f2 := fits_swp fa (i + 1) _ (by omega) p1
  have h2 := at_swp_prog fa hr (i + 1) (pos a (rd p ((i + 1 : Nat) : Int))) (by omega) p1
  have := ih (swp a (i + 1) (pos a (rd p ((i + 1 : Nat) : Int)))) _ (D ++ [(pos a (rd p ((i + 1 : Nat) : Int)) : Int)]) (by omega) f2 (by rw [swp_len, ha]) h2 (by simp; omega)
  rw [List.append_assoc] at this
  rw [drawsL]
  refine Ev.step (fun k => ?_) this
  have s1 := swp_get a (i + 1) (pos a (rd p ((i + 1 : Nat) : Int))) (i + 1) (by omega) p1 (by omega)
  have s2 := swp_get a (i + 1) (pos a (rd p ((i + 1 : Nat) : Int))) (pos a (rd p ((i + 1 : Nat) : Int))) (by omega) p1 p1
  rw [if_pos rfl] at s2
  have s1' : rd (swp a (i + 1) (pos a (rd p ((i + 1 : Nat) : Int)))) ((i + 1 : Nat) : Int) = rd a (pos a (rd p ((i + 1 : Nat) : Int)) : Int) := by
   rw [s1]
   by_cases e : i + 1 = pos a (rd p ((i + 1 : Nat) : Int))
   ·rw [if_pos e, ← e]
   ·rw [if_neg e, if_pos rfl]
  have b1 := fits_rd fa (i + 1) (by omega)
  have b2 := fits_rd fa _ p1
  have esw : ((a.set ((i + 1 : Nat) : Int).toNat (rd a (pos a (rd p ((i + 1 : Nat) : Int)) : Int))).set ((pos a (rd p ((i + 1 : Nat) : Int)) : Int)).toNat (rd a ((i + 1 : Nat) : Int)) : List Int) = swp a (i + 1) (pos a (rd p ((i + 1 : Nat) : Int))) := by unfold swp; simp
  rw [perm_Draws.l0, if_pos (by omega), if_pos (by omega), if_pos (by omega), if_pos (by omega), if_pos (by omega), hpos, if_pos (by omega), if_pos (by omega), if_pos (by omega), if_pos (by omega), Option.bind_some, esw, s1', s2, if_pos (by omega), if_pos (by omega), if_pos (by omega), if_pos (by omega), w64 (by omega) (by omega), show ((i + 1 : Nat) : Int) - 1 = (i : Int) by omega]
theorem draws_all (p : List Int) (hl : p.length ≤ 17592186044000) : Ev (fun k => perm_Draws.f k p) (drawsA p) := by
 unfold perm_Draws.f drawsA
 refine ev_bind (fits_ev p (by omega)) ?_
 by_cases fp : Fits p
 ·rw [if_pos fp]
  refine ev_pos (by simp [fp]) (ev_bind (identity_ev p.length (by omega)) (ev_bind (identity_ev p.length (by omega)) ?_))
  rw [w64 (by omega) (by omega)]
  by_cases h0 : p.length = 0
  ·rw [h0]
   exact Ev.step (f := fun _ => some ([], 0)) (fun k => by rw [perm_Draws.l0, if_neg (by omega)]) (Ev.now _)
  ·have := draws_walk p hl fp (p.length - 1) (iota p.length) (iota p.length) [] (by omega) (fits_iota _) (iota_len _) (at_iota _) (by simp)
   rw [show ((p.length - 1 : Nat) : Int) = (p.length : Int) - 1 by omega] at this
   exact this
 ·rw [if_neg fp]
  exact ev_neg (by simp [fp]) (Ev.now _)
end Go.Proofs.Ytbnifpfnjhdenaa.Pl
end
section
set_option linter.unusedVariables false
set_option linter.unusedSimpArgs false
namespace Go.Proofs.Ytbnifpfnjhdenaa.Pure
open Go.RowKit Go.Proofs.Ytbnifpfnjhdenaa.Q Go.Proofs.YtbnifpfnjhdenaaW.PrintWords Go.Proofs.YtbnifpfnjhdenaaW.PrintLast Go.Proofs.Ytbnifpfnjhdenaa.Pl
theorem from_draws (p : List Int) (fp : Fits p) : ∀ (i : Nat) (a : List Int), (i < p.length ∨ i = 0) → Fits a → a.length = p.length → (∀ m : Nat, i < m → m < p.length → rd a (m : Int) = rd p (m : Int)) →
  FitD ((i : Int) + 1) (drawsL p a i) ∧ fromL a i (drawsL p a i) = p := by
 intro i
 induction i with
 | zero =>
  intro a hi fa ha hm
  refine ⟨fun k hk => by simp [drawsL] at hk, ?_⟩
  rw [drawsL, fromL]
  apply List.ext_getElem ha
  intro m h1 h2
  rw [← rd_lt a m h1, ← rd_lt p m h2]
  by_cases h0 : m = 0
  ·subst h0
   have b := fits_rd fp 0 h2
   obtain ⟨p1, p2⟩ := pos_spec fa (rd p ((0 : Nat) : Int)) b.1 (by omega)
   by_cases e : pos a (rd p ((0 : Nat) : Int)) = 0
   ·rw [e] at p2
    exact p2
   ·have := hm (pos a (rd p ((0 : Nat) : Int))) (by omega) (by omega)
    rw [p2] at this
    have := fits_rd_inj fp 0 _ h2 (by omega) this
    omega
  ·exact hm m (by omega) h2
 | succ i ih =>
  intro a hi fa ha hm
  have hip : i + 1 < p.length := by omega
  have bp := fits_rd fp (i + 1) hip
  obtain ⟨p1, p2⟩ := pos_spec fa (rd p ((i + 1 : Nat) : Int)) bp.1 (by omega)
  have hle : pos a (rd p ((i + 1 : Nat) : Int)) ≤ i + 1 := by
   rcases Nat.lt_or_ge (i + 1) (pos a (rd p ((i + 1 : Nat) : Int))) with h | h
   ·have := hm _ h (by omega)
    rw [p2] at this
    have := fits_rd_inj fp _ _ hip (by omega) this
    omega
   ·exact h
  have := ih (swp a (i + 1) (pos a (rd p ((i + 1 : Nat) : Int)))) (by omega) (fits_swp fa _ _ (by omega) p1) (by rw [swp_len, ha]) (fun m h1 h2 => by
   rw [swp_get a _ _ m (by omega) p1 (by omega)]
   by_cases e1 : m = pos a (rd p ((i + 1 : Nat) : Int))
   ·have e2 : m = i + 1 := by omega
    have e3 : pos a (rd p ((i + 1 : Nat) : Int)) = i + 1 := by omega
    rw [if_pos e1]
    rw [e3] at p2
    rw [e2, p2]
   ·rw [if_neg e1]
    by_cases e2 : m = i + 1
    ·rw [if_pos e2, p2, e2]
    ·rw [if_neg e2]
     exact hm m (by omega) h2)
  rw [drawsL]
  refine ⟨fun k hk => ?_, ?_⟩
  ·cases k with
   | zero =>
    rw [rd_nat]
    simp only [List.getD_cons_zero]
    omega
   | succ k =>
    have := this.1 k (by simpa using hk)
    rw [rd_nat] at this ⊢
    simp only [List.getD_cons_succ]
    omega
  ·rw [fromL, Int.toNat_natCast, Nat.add_sub_cancel]
   exact this.2
theorem draws_from : ∀ (i : Nat) (l a : List Int), l.length = i → FitD ((i : Int) + 1) l → Fits a → (i < a.length ∨ i = 0) →
  Fits (fromL a i l) ∧ (∀ m : Nat, i < m → m < a.length → rd (fromL a i l) (m : Int) = rd a (m : Int)) ∧ drawsL (fromL a i l) a i = l := by
 intro i
 induction i with
 | zero =>
  intro l a hl hf fa hi
  obtain rfl := List.eq_nil_of_length_eq_zero hl
  exact ⟨fa, fun m _ _ => rfl, rfl⟩
 | succ i ih =>
  intro l a hl hf fa hi
  cases l with
  | nil => simp at hl
  | cons d ds =>
   have h0 := hf 0 (by simp)
   rw [rd_nat] at h0
   simp only [List.getD_cons_zero] at h0
   have hd : d.toNat < a.length := by omega
   have hf' : FitD ((i : Int) + 1) ds := fun k hk => by
    have := hf (k + 1) (by simpa using hk)
    rw [rd_nat] at this ⊢
    simp only [List.getD_cons_succ] at this
    omega
   have ia : i + 1 < a.length := by omega
   obtain ⟨r1, r2, r3⟩ := ih ds (swp a (i + 1) d.toNat) (by simpa using hl) hf' (fits_swp fa _ _ ia hd) (by rw [swp_len]; omega)
   rw [fromL, Nat.add_sub_cancel]
   rw [swp_len] at r2
   have top : rd (fromL (swp a (i + 1) d.toNat) i ds) ((i + 1 : Nat) : Int) = rd a (d.toNat : Int) := by
    rw [r2 (i + 1) (by omega) ia, swp_get a _ _ (i + 1) ia hd ia]
    by_cases e : i + 1 = d.toNat
    ·rw [if_pos e, ← e]
    ·rw [if_neg e, if_pos rfl]
   refine ⟨r1, fun m h1 h2 => ?_, ?_⟩
   ·rw [r2 m (by omega) h2, swp_get a _ _ m ia hd h2, if_neg (by omega), if_neg (by omega)]
   ·rw [drawsL, top, pos_rd fa _ hd, r3, Int.toNat_of_nonneg h0.1]
end Go.Proofs.Ytbnifpfnjhdenaa.Pure
end
section
set_option linter.unusedVariables false
set_option linter.unusedSimpArgs false
namespace Go.Proofs.Ytbnifpfnjhdenaa.Pl
open Go.RowKit Go.Proofs.YtbnifpfnjhdenaaW.PrintWords Go.Proofs.YtbnifpfnjhdenaaW.PrintLast
def total : List Int → Int
 | [] => 0
 | x :: l => x + total l
def psum (l : List Int) (j : Nat) : Int := total (l.take j)
theorem total_append (a b : List Int) : total (a ++ b) = total a + total b := by
 induction a with
 | nil => simp [total]
 | cons x a ih => simp [total, ih]; omega
theorem psum_succ (l : List Int) (j : Nat) (h : j < l.length) : psum l (j + 1) = psum l j + l[j] := by
 unfold psum
 rw [List.take_succ_eq_append_getElem h, total_append]
 simp [total]
theorem psum_zero (l : List Int) : psum l 0 = 0 := rfl
theorem psum_all (l : List Int) (j : Nat) (h : l.length ≤ j) : psum l j = total l := by
 unfold psum
 rw [List.take_of_length_le h]
def Nonneg (l : List Int) : Prop := ∀ x ∈ l, 0 ≤ x
theorem Nonneg.at_ {l : List Int} (h : Nonneg l) (j : Nat) (hj : j < l.length) : 0 ≤ l[j] := h _ (List.getElem_mem hj)
theorem psum_mono {l : List Int} (h : Nonneg l) (i : Nat) : ∀ d, psum l i ≤ psum l (i + d) := by
 intro d
 induction d with
 | zero => exact Int.le_refl _
 | succ d ih =>
  by_cases hl : i + d < l.length
  ·have := psum_succ l (i + d) hl
   have := h.at_ (i + d) hl
   rw [show i + (d + 1) = i + d + 1 from rfl]
   omega
  ·rw [psum_all l (i + d) (by omega)] at ih
   rw [psum_all l (i + (d + 1)) (by omega)]
   exact ih
theorem psum_le {l : List Int} (h : Nonneg l) (i j : Nat) (hij : i ≤ j) : psum l i ≤ psum l j := by
 have := psum_mono h i (j - i)
 rwa [show i + (j - i) = j from by omega] at this
theorem psum_nonneg {l : List Int} (h : Nonneg l) (j : Nat) : 0 ≤ psum l j := by
 have := psum_le h 0 j (Nat.zero_le _)
 rwa [psum_zero] at this
theorem psum_total {l : List Int} (h : Nonneg l) (j : Nat) : psum l j ≤ total l := by
 rcases Nat.lt_or_ge j l.length with hl | hl
 ·have := psum_le h j l.length (by omega)
  rwa [psum_all l l.length (Nat.le_refl _)] at this
 ·rw [psum_all l j hl]; exact Int.le_refl _
theorem total_nonneg {l : List Int} (h : Nonneg l) : 0 ≤ total l := by
 have := psum_nonneg h l.length
 rwa [psum_all l l.length (Nat.le_refl _)] at this
theorem place_unique {l : List Int} (h : Nonneg l) {i j : Nat} {o p : Int} (hi : i < l.length) (hj : j < l.length) (ho : 0 ≤ o) (ho' : o < l[i]) (hp : 0 ≤ p) (hp' : p < l[j]) (e : psum l i + o = psum l j + p) : i = j ∧ o = p := by
 rcases Nat.lt_trichotomy i j with hlt | rfl | hgt
 ·have := psum_le h (i + 1) j hlt
  rw [psum_succ l i hi] at this
  omega
 ·exact ⟨rfl, by omega⟩
 ·have := psum_le h (j + 1) i hgt
  rw [psum_succ l j hj] at this
  omega
theorem place_exists {l : List Int} (h : Nonneg l) (d : Int) (h0 : 0 ≤ d) (ht : d < total l) : ∃ (j : Nat) (hj : j < l.length) (o : Int), 0 ≤ o ∧ o < l[j] ∧ d = psum l j + o := by
 have key : ∀ n : Nat, n ≤ l.length → (∃ (j : Nat) (hj : j < l.length) (o : Int), 0 ≤ o ∧ o < l[j] ∧ d = psum l j + o) ∨ psum l n ≤ d := by
  intro n
  induction n with
  | zero => intro _; right; rw [psum_zero]; exact h0
  | succ n ih =>
   intro hn
   rcases ih (by omega) with h1 | h1
   ·exact .inl h1
   ·by_cases h2 : d < psum l (n + 1)
    ·left
     rw [psum_succ l n (by omega)] at h2
     exact ⟨n, by omega, d - psum l n, by omega, by omega, by omega⟩
    ·right; omega
 rcases key l.length (Nat.le_refl _) with h1 | h1
 ·exact h1
 ·rw [psum_all l l.length (Nat.le_refl _)] at h1; omega
def dec (l : List Int) (j : Nat) : List Int := l.set j (l.getD j 0 - 1)
theorem dec_length (l : List Int) (j : Nat) : (dec l j).length = l.length := by simp [dec]
theorem dec_get (l : List Int) (j i : Nat) (hi : i < l.length) : (dec l j)[i]'(by rw [dec_length]; exact hi) = if j = i then l[i] - 1 else l[i] := by
 unfold dec
 rw [List.getElem_set]
 by_cases e : j = i
 ·subst e; simp [hi]
 ·simp [e]
theorem dec_getD (l : List Int) (j i : Nat) (hi : i < l.length) : (dec l j).getD i 0 = if j = i then l.getD i 0 - 1 else l.getD i 0 := by
 rw [List.getD_eq_getElem?_getD, List.getElem?_eq_getElem (by rw [dec_length]; exact hi), Option.getD_some, dec_get l j i hi]
 simp [List.getD_eq_getElem?_getD, hi]
theorem total_set (l : List Int) (j : Nat) (v : Int) (hj : j < l.length) : total (l.set j v) = total l - l[j] + v := by
 induction l generalizing j with
 | nil => simp at hj
 | cons x l ih =>
  cases j with
  | zero => simp [total]; omega
  | succ j =>
   simp at hj
   simp [total, ih j hj]
   omega
theorem dec_total (l : List Int) (j : Nat) (hj : j < l.length) : total (dec l j) = total l - 1 := by
 unfold dec
 rw [total_set l j _ hj]
 simp [List.getD_eq_getElem?_getD, hj]
 omega
theorem dec_nonneg {l : List Int} (h : Nonneg l) (j : Nat) (hj : j < l.length) (hp : 0 < l[j]) : Nonneg (dec l j) := by
 intro x hx
 obtain ⟨i, hi, rfl⟩ := List.getElem_of_mem hx
 rw [dec_length] at hi
 rw [dec_get l j i hi]
 split
 ·rename_i e; subst e; omega
 ·exact h.at_ i hi
inductive Pat : List Int → List Int → List (Nat × Int) → Prop
 | nil (l : List Int) : Pat l [] []
 | cons {l ds : List Int} {P : List (Nat × Int)} {d o : Int} {j : Nat} (hj : j < l.length) (h0 : 0 ≤ o) (h1 : o < l[j]) (hd : d = psum l j + o) (t : Pat (dec l j) ds P) : Pat l (d :: ds) ((j, o) :: P)
def vis (j : Nat) (P : List (Nat × Int)) : List Int := (P.filter fun x => x.1 == j).map (·.2)
theorem vis_nil (j : Nat) : vis j [] = [] := rfl
theorem vis_cons (i j : Nat) (o : Int) (P : List (Nat × Int)) : vis i ((j, o) :: P) = if j = i then o :: vis i P else vis i P := by
 unfold vis
 by_cases e : j = i
 ·simp [e]
 ·simp [e]
theorem Pat.len {l ds : List Int} {P : List (Nat × Int)} (h : Pat l ds P) : P.length = ds.length := by
 induction h with
 | nil => rfl
 | cons => simp_all
theorem Pat.range {l ds : List Int} {P : List (Nat × Int)} (h : Pat l ds P) : ∀ x ∈ P, x.1 < l.length := by
 induction h with
 | nil => simp
 | cons hj h0 h1 hd t ih =>
  intro x hx
  rcases List.mem_cons.1 hx with rfl | hx
  ·exact hj
  ·have := ih x hx
   rwa [dec_length] at this
theorem Pat.unique {l ds : List Int} {P Q : List (Nat × Int)} (hn : Nonneg l) (h : Pat l ds P) (h' : Pat l ds Q) : P = Q := by
 induction h generalizing Q with
 | nil => cases h'; rfl
 | cons hj h0 h1 hd t ih =>
  cases h' with
  | cons hj' h0' h1' hd' t' =>
   obtain ⟨rfl, rfl⟩ := place_unique hn hj hj' h0 h1 h0' h1' (by omega)
   rw [ih (dec_nonneg hn _ hj (by omega)) t']
theorem Pat.draws {l ds es : List Int} {P : List (Nat × Int)} (h : Pat l ds P) (h' : Pat l es P) : ds = es := by
 induction h generalizing es with
 | nil => cases h'; rfl
 | cons hj h0 h1 hd t ih =>
  cases h' with
  | cons hj' h0' h1' hd' t' => rw [ih t', hd, hd']
theorem Pat.bound {l ds : List Int} {P : List (Nat × Int)} (hn : Nonneg l) (h : Pat l ds P) : ∀ (i : Nat) (hi : i < ds.length), 0 ≤ ds[i] ∧ ds[i] < total l - i := by
 induction h with
 | nil => intro i hi; simp at hi
 | @cons l ds P d o j hj h0 h1 hd t ih =>
  intro i hi
  have hnn := dec_nonneg hn j hj (by omega)
  cases i with
  | zero =>
   have a := psum_nonneg hn j
   have b := psum_total hn (j + 1)
   rw [psum_succ l j hj] at b
   simp only [List.getElem_cons_zero]
   omega
  | succ i =>
   have := ih hnn i (by simpa using hi)
   rw [dec_total l j hj] at this
   simp only [List.getElem_cons_succ]
   omega
theorem Pat.count {l ds : List Int} {P : List (Nat × Int)} (hn : Nonneg l) (h : Pat l ds P) (ht : total l = ds.length) : ∀ j : Nat, j < l.length → ((vis j P).length : Int) = l.getD j 0 := by
 induction h with
 | nil l =>
  intro j hj
  have a := psum_le hn (j + 1) l.length (by omega)
  rw [psum_succ l j hj, psum_all l l.length (Nat.le_refl _)] at a
  have b := psum_nonneg hn j
  have c := hn.at_ j hj
  simp at ht
  simp [vis_nil, List.getD_eq_getElem?_getD, hj]
  omega
 | @cons l ds P d o i hi h0 h1 hd t ih =>
  intro j hj
  have hnn := dec_nonneg hn i hi (by omega)
  have := ih hnn (by rw [dec_total l i hi, ht]; simp) j (by rw [dec_length]; exact hj)
  rw [dec_getD l i j hj] at this
  rw [vis_cons]
  by_cases e : i = j
  ·simp [e] at this ⊢
   omega
  ·simp [e] at this ⊢
   exact this
theorem Pat.count_le {l ds : List Int} {P : List (Nat × Int)} (hn : Nonneg l) (h : Pat l ds P) : ∀ j : Nat, j < l.length → ((vis j P).length : Int) ≤ l.getD j 0 := by
 induction h with
 | nil l =>
  intro j hj
  have c := hn.at_ j hj
  simp [vis_nil, List.getD_eq_getElem?_getD, hj]
  exact c
 | @cons l ds P d o i hi h0 h1 hd t ih =>
  intro j hj
  have hnn := dec_nonneg hn i hi (by omega)
  have := ih hnn j (by rw [dec_length]; exact hj)
  rw [dec_getD l i j hj] at this
  rw [vis_cons]
  by_cases e : i = j
  ·simp [e] at this ⊢
   omega
  ·simp [e] at this ⊢
   exact this
theorem Pat.offs {l ds : List Int} {P : List (Nat × Int)} (hn : Nonneg l) (h : Pat l ds P) : ∀ (j k : Nat), j < l.length → (hk : k < (vis j P).length) → 0 ≤ (vis j P)[k] ∧ (vis j P)[k] < l.getD j 0 - k := by
 induction h with
 | nil => intro j k hj hk; simp [vis_nil] at hk
 | @cons l ds P d o i hi h0 h1 hd t ih =>
  intro j k hj hk
  have hnn := dec_nonneg hn i hi (by omega)
  have hh := fun k' => ih hnn j k' (by rw [dec_length]; exact hj)
  rw [dec_getD l i j hj] at hh
  by_cases e : i = j
  ·subst e
   simp only [vis_cons, if_true] at hk ⊢
   simp only [if_true] at hh
   cases k with
   | zero =>
    simp [List.getD_eq_getElem?_getD, hi]
    omega
   | succ k =>
    have := hh k (by simpa using hk)
    simp only [List.getElem_cons_succ]
    omega
  ·simp only [vis_cons, if_neg e] at hk ⊢
   simp only [if_neg e] at hh
   exact hh k hk
def Rdo (nx : Nat → Nat) (off : List Int) (P : List (Nat × Int)) : Prop := ∀ (j k : Nat), (hk : k < (vis j P).length) → (vis j P)[k] = off.getD (nx j + k) 0
theorem Rdo.cons {nx : Nat → Nat} {off : List Int} {P : List (Nat × Int)} {j : Nat} {o : Int} (ho : o = off.getD (nx j) 0) (h : Rdo (fun i => if i = j then nx j + 1 else nx i) off P) : Rdo nx off ((j, o) :: P) := by
 intro i k hk
 by_cases e : j = i
 ·subst e
  simp only [vis_cons, if_true] at hk ⊢
  cases k with
  | zero => simpa using ho
  | succ k =>
   have := h j k (by simpa using hk)
   simp only [if_true] at this
   simp only [List.getElem_cons_succ, this]
   congr 1
   omega
 ·simp only [vis_cons, if_neg e] at hk ⊢
  have := h i k hk
  simp only [if_neg (Ne.symm e)] at this
  exact this
theorem Rdo.uncons {nx : Nat → Nat} {off : List Int} {P : List (Nat × Int)} {j : Nat} {o : Int} (h : Rdo nx off ((j, o) :: P)) : o = off.getD (nx j) 0 ∧ Rdo (fun i => if i = j then nx j + 1 else nx i) off P := by
 constructor
 ·have := h j 0 (by simp [vis_cons])
  simpa [vis_cons] using this
 ·intro i k hk
  by_cases e : i = j
  ·subst e
   have := h i (k + 1) (by simp only [vis_cons, if_true, List.length_cons]; omega)
   simp only [vis_cons, if_true, List.getElem_cons_succ] at this
   simp only [if_true, this]
   congr 1
   omega
  ·have := h i k (by simpa [vis_cons, Ne.symm e] using hk)
   simp only [vis_cons, if_neg (Ne.symm e)] at this
   simp only [if_neg e]
   exact this
def allOff (m : Nat) (P : List (Nat × Int)) : List Int := (List.range m).flatMap fun j => vis j P
theorem allOff_succ (m : Nat) (P : List (Nat × Int)) : allOff (m + 1) P = allOff m P ++ vis m P := by
 unfold allOff
 rw [List.range_succ, List.flatMap_append]
 simp
theorem allOff_len (m : Nat) (P : List (Nat × Int)) (s : List Int) (hm : m ≤ s.length) (hc : ∀ j, j < s.length → ((vis j P).length : Int) = s.getD j 0) : ((allOff m P).length : Int) = psum s m := by
 induction m with
 | zero => simp [allOff, psum_zero]
 | succ m ih =>
  have h1 := ih (by omega)
  have h2 := hc m (by omega)
  have h3 := psum_succ s m (by omega)
  have h4 : s.getD m 0 = s[m] := by simp [List.getD_eq_getElem?_getD, show m < s.length by omega]
  rw [allOff_succ, List.length_append]
  omega
def start (s : List Int) (j : Nat) : Nat := (psum s j).toNat
theorem allOff_at (m : Nat) (P : List (Nat × Int)) (s : List Int) (hn : Nonneg s) (hm : m ≤ s.length) (hc : ∀ j, j < s.length → ((vis j P).length : Int) = s.getD j 0) (j k : Nat) (hj : j < m) (hk : k < (vis j P).length) :
  (allOff m P).getD (start s j + k) 0 = (vis j P)[k] := by
 induction m with
 | zero => omega
 | succ m ih =>
  have hl := allOff_len m P s (by omega) hc
  rw [allOff_succ, List.getD_eq_getElem?_getD]
  have h0 := psum_nonneg hn j
  by_cases e : j = m
  ·subst e
   have hs : start s j = (allOff j P).length := by unfold start; omega
   rw [hs, List.getElem?_append_right (by omega)]
   simp [hk]
  ·have hjm : j < m := by omega
   have h1 := psum_le hn (j + 1) m (by omega)
   rw [psum_succ s j (by omega)] at h1
   have h2 := hc j (by omega)
   have h3 : s.getD j 0 = s[j] := by simp [List.getD_eq_getElem?_getD, show j < s.length by omega]
   rw [List.getElem?_append_left (by unfold start; omega), ← List.getD_eq_getElem?_getD]
   exact ih (by omega) hjm
theorem vis_none {l ds : List Int} {P : List (Nat × Int)} (h : ∀ x ∈ P, x.1 < l.length) (j : Nat) (hj : l.length ≤ j) : vis j P = [] := by
 unfold vis
 simp only [List.map_eq_nil_iff, List.filter_eq_nil_iff]
 intro x hx
 have := h x hx
 simp
 omega
theorem rdo_all {s ds : List Int} {P : List (Nat × Int)} (hn : Nonneg s) (h : Pat s ds P) (ht : total s = ds.length) : Rdo (start s) (allOff s.length P) P := by
 intro j k hk
 have hj : j < s.length := by
  rcases Nat.lt_or_ge j s.length with h1 | h1
  ·exact h1
  ·rw [vis_none (l := s) (ds := ds) h.range j h1] at hk
   simp at hk
 exact (allOff_at s.length P s hn (Nat.le_refl _) (h.count hn ht) j k hj hk).symm
theorem all_rdo {s ds off : List Int} {P : List (Nat × Int)} (hn : Nonneg s) (h : Pat s ds P) (ht : total s = ds.length) (ho : off.length = ds.length) (hr : Rdo (start s) off P) : allOff s.length P = off := by
 have hc := h.count hn ht
 have hl := allOff_len s.length P s (Nat.le_refl _) hc
 rw [psum_all s s.length (Nat.le_refl _)] at hl
 apply List.ext_getElem (by omega)
 intro i h1 h2
 obtain ⟨j, hj, o, o0, o1, e⟩ := place_exists hn (i : Int) (by omega) (by omega)
 have h0 := psum_nonneg hn j
 have hcj := hc j hj
 have h3 : s.getD j 0 = s[j] := by simp [List.getD_eq_getElem?_getD, hj]
 have hk : o.toNat < (vis j P).length := by omega
 have hi : i = start s j + o.toNat := by unfold start; omega
 have a := allOff_at s.length P s hn (Nat.le_refl _) hc j o.toNat hj hk
 have b := hr j o.toNat hk
 rw [← hi] at a b
 rw [b] at a
 simpa [List.getD_eq_getElem?_getD, h1, h2] using a
theorem draws_exist (off : List Int) : ∀ (c : List Nat) (l : List Int) (nx : Nat → Nat), Nonneg l → (∀ j ∈ c, j < l.length) → (∀ j, j < l.length → ((c.filter (· == j)).length : Int) ≤ l.getD j 0) →
  (∀ j k : Nat, j < l.length → (k : Int) < l.getD j 0 → 0 ≤ off.getD (nx j + k) 0 ∧ off.getD (nx j + k) 0 < l.getD j 0 - k) →
  ∃ ds P, Pat l ds P ∧ P.map (·.1) = c ∧ Rdo nx off P := by
 intro c
 induction c with
 | nil => intro l nx hn hr hc ho; exact ⟨[], [], .nil l, rfl, fun j k hk => by simp [vis_nil] at hk⟩
 | cons j c ih =>
  intro l nx hn hr hc ho
  have hj : j < l.length := hr j (by simp)
  have hg : l.getD j 0 = l[j] := by simp [List.getD_eq_getElem?_getD, hj]
  have hp : 0 < l[j] := by
   have := hc j hj
   rw [hg] at this
   simp at this
   omega
  have h0 := ho j 0 hj (by omega)
  simp only [Nat.add_zero] at h0
  obtain ⟨ds, P, h1, h2, h3⟩ := ih (dec l j) (fun i => if i = j then nx j + 1 else nx i) (dec_nonneg hn j hj hp) (fun i hi => by rw [dec_length]; exact hr i (by simp [hi])) (fun i hi => by
   rw [dec_length] at hi
   have := hc i hi
   rw [dec_getD l j i hi]
   by_cases e : j = i
   ·simp [e] at this ⊢
    omega
   ·simp [e] at this ⊢
    exact this) (fun i k hi hk => by
   rw [dec_length] at hi
   rw [dec_getD l j i hi] at hk ⊢
   by_cases e : j = i
   ·subst e
    simp only [if_true] at hk ⊢
    have := ho j (k + 1) hj (by omega)
    rw [show nx j + (k + 1) = nx j + 1 + k from by omega] at this
    omega
   ·simp only [if_neg e, if_neg (Ne.symm e)] at hk ⊢
    exact ho i k hi hk)
  refine ⟨(psum l j + off.getD (nx j) 0) :: ds, (j, off.getD (nx j) 0) :: P, .cons hj h0.1 (by omega) rfl h1, by simp [h2], Rdo.cons rfl h3⟩
theorem pat_exists : ∀ (ds l : List Int), Nonneg l → (∀ (i : Nat) (hi : i < ds.length), 0 ≤ ds[i] ∧ ds[i] < total l - i) → ∃ P, Pat l ds P := by
 intro ds
 induction ds with
 | nil => intro l _ _; exact ⟨[], .nil l⟩
 | cons d ds ih =>
  intro l hn h
  have h0 := h 0 (by simp)
  simp only [List.getElem_cons_zero] at h0
  obtain ⟨j, hj, o, o0, o1, e⟩ := place_exists hn d h0.1 (by omega)
  obtain ⟨P, hP⟩ := ih (dec l j) (dec_nonneg hn j hj (by omega)) (fun i hi => by
   have := h (i + 1) (by simpa using hi)
   simp only [List.getElem_cons_succ] at this
   rw [dec_total l j hj]
   omega)
  exact ⟨_, .cons hj o0 o1 e hP⟩
end Go.Proofs.Ytbnifpfnjhdenaa.Pl
end
section
set_option linter.unusedVariables false
set_option linter.unusedSimpArgs false
namespace Go.Proofs.Ytbnifpfnjhdenaa.Pl
open Go.RowKit Go.Proofs.Ytbnifpfnjhdenaa.Q Go.Proofs.YtbnifpfnjhdenaaW.PrintWords Go.Proofs.YtbnifpfnjhdenaaW.PrintLast
structure OkS (s : List Int) : Prop where
 one : 1 ≤ s.length
 most : s.length ≤ 64
 each : ∀ x ∈ s, 0 ≤ x ∧ x ≤ 256
 all : Go.Proofs.Ytbnifpfnjhdenaa.Pl.total s ≤ 256
theorem OkS.nonneg {s : List Int} (h : OkS s) : Nonneg s := fun x hx => (h.each x hx).1
theorem psum_up (s : List Int) (hb : ∀ x ∈ s, 0 ≤ x ∧ x ≤ 256) : ∀ i : Nat, i ≤ s.length → 0 ≤ psum s i ∧ psum s i ≤ 256 * i := by
 intro i
 induction i with
 | zero => intro _; simp [psum_zero]
 | succ i ih =>
  intro hi
  have h1 := ih (by omega)
  have h2 := hb _ (List.getElem_mem (show i < s.length by omega))
  have h3 := psum_succ s i (by omega)
  omega
theorem total_ev (s : List Int) (hl : s.length ≤ 9223372036854775000) : ∃ (n : Int) (b : Bool), Ev (fun k => braid_total.f k s) (n, b) ∧ (b = true ↔ OkS s) ∧ (OkS s → n = total s) := by
 unfold braid_total.f
 by_cases h1 : s.length < 1
 ·exact ⟨0, false, ev_pos (by omega) (Ev.step (f := fun _ => some (0, false)) (fun k => by rw [braid_total.j0, if_pos rfl]) (Ev.now _)), by simp; intro h; have := h.one; omega, fun h => by have := h.one; omega⟩
 ·by_cases h2 : s.length > 64
  ·exact ⟨0, false, ev_neg (by omega) (Ev.step (f := fun _ => some (0, false)) (fun k => by rw [braid_total.j0, if_pos (by simp; omega)]) (Ev.now _)), by simp; intro h; have := h.most; omega, fun h => by have := h.most; omega⟩
  ·have key : ∀ (d i : Nat), i + d = s.length → (∀ x ∈ s.take i, 0 ≤ x ∧ x ≤ 256) → ∃ (n : Int) (b : Bool), Ev (fun k => braid_total.l0 k (psum s i) s (s.length : Int) (i : Int)) (n, b) ∧ (b = true ↔ OkS s) ∧ (OkS s → n = total s) := by
    intro d
    induction d with
    | zero =>
     intro i hi hb
     rw [List.take_of_length_le (by omega)] at hb
     refine ⟨psum s i, decide (psum s i ≤ 256), Ev.step (f := fun _ => some (psum s i, decide (psum s i ≤ 256))) (fun k => by rw [braid_total.l0, if_neg (by omega)]) (Ev.now _), ?_, fun _ => psum_all s i (by omega)⟩
     rw [psum_all s i (by omega)]
     exact ⟨fun h => ⟨by omega, by omega, hb, by simpa using h⟩, fun h => by simpa using h.all⟩
    | succ d ih =>
     intro i hi hb
     have hm := rd_mem s (i : Int) (by simp; omega)
     have hlt : i < s.length := by omega
     by_cases c1 : rd s (i : Int) < 0
     ·exact ⟨0, false, Ev.step (f := fun _ => some (0, false)) (fun k => by rw [braid_total.l0, if_pos (by omega), if_pos (by omega), if_pos (by omega), if_pos c1]) (Ev.now _), by simp; intro h; have := (h.each _ hm).1; omega, fun h => by have := (h.each _ hm).1; omega⟩
     ·by_cases c2 : rd s (i : Int) > 256
      ·exact ⟨0, false, Ev.step (f := fun _ => some (0, false)) (fun k => by rw [braid_total.l0, if_pos (by omega), if_pos (by omega), if_pos (by omega), if_neg c1, if_pos c2]) (Ev.now _), by simp; intro h; have := (h.each _ hm).2; omega, fun h => by have := (h.each _ hm).2; omega⟩
      ·have hb' : ∀ x ∈ s.take (i + 1), 0 ≤ x ∧ x ≤ 256 := by
        rw [take_rd s i hlt]
        intro x hx
        rcases List.mem_append.1 hx with hx | hx
        ·exact hb x hx
        ·have := List.mem_singleton.1 hx; subst this; omega
       obtain ⟨n, b, e, r⟩ := ih (i + 1) (by omega) hb'
       have hps : psum s (i + 1) = psum s i + rd s (i : Int) := by rw [psum_succ s i hlt, rd_lt s i hlt]
       have hup := psum_up (s.take (i + 1)) hb' (i + 1) (by rw [List.length_take]; omega)
       have hpp : psum (s.take (i + 1)) (i + 1) = psum s (i + 1) := by unfold psum; rw [List.take_take, Nat.min_self]
       rw [hpp] at hup
       have hpos : 0 ≤ psum s i := by
        have := psum_up (s.take (i + 1)) hb' i (by rw [List.length_take]; omega)
        have hq : psum (s.take (i + 1)) i = psum s i := by unfold psum; rw [List.take_take, Nat.min_eq_left (by omega)]
        rw [hq] at this
        exact this.1
       refine ⟨n, b, Ev.step (fun k => ?_) e, r⟩
       rw [braid_total.l0, if_pos (by omega), if_pos (by omega), if_pos (by omega), if_neg c1, if_neg c2, w64 (by omega) (by omega), w64 (by omega) (by omega), hps]
       rfl
   obtain ⟨n, b, e, r⟩ := key s.length 0 (by omega) (by simp)
   refine ⟨n, b, ev_neg (by omega) (Ev.step (fun k => ?_) e), r⟩
   rw [braid_total.j0, if_neg (by simp; omega)]
   simp [psum_zero]
def fsts (P : List (Nat × Int)) : List Int := P.map fun x => (x.1 : Int)
theorem fsts_append (P Q : List (Nat × Int)) : fsts (P ++ Q) = fsts P ++ fsts Q := by simp [fsts]
theorem vis_append (j : Nat) (P Q : List (Nat × Int)) : vis j (P ++ Q) = vis j P ++ vis j Q := by simp [vis]
def visits (m : Nat) (P : List (Nat × Int)) : List (List Int) := (List.range m).map fun j => vis j P
theorem visits_len (m : Nat) (P : List (Nat × Int)) : (visits m P).length = m := by simp [visits]
theorem visits_get (m : Nat) (P : List (Nat × Int)) (j : Nat) (hj : j < m) : rd_L3 (visits m P) (j : Int) = vis j P := by simp [rd_L3, visits, hj]
theorem visits_set (m : Nat) (P : List (Nat × Int)) (j : Nat) (hj : j < m) (o : Int) : (visits m P).set j (vis j P ++ [o]) = visits m (P ++ [(j, o)]) := by
 apply List.ext_getElem
 ·simp [visits]
 ·intro i h1 h2
  rw [List.getElem_set]
  have hi : i < m := by simpa [visits] using h2
  by_cases e : j = i
  ·subst e; simp [visits, vis_append, vis_cons, vis_nil]
  ·simp [visits, vis_append, vis_cons, vis_nil, e]
theorem visits_nil (m : Nat) : visits m [] = List.replicate m [] := by
 apply List.ext_getElem
 ·simp [visits]
 ·intro i h1 h2; simp [visits, vis_nil]
theorem vis_le (j : Nat) (P : List (Nat × Int)) : (vis j P).length ≤ P.length := by
 unfold vis
 rw [List.length_map]
 exact List.length_filter_le _ _
theorem allOff_le (P : List (Nat × Int)) (m : Nat) : (allOff m P).length ≤ m * P.length := by
 induction m with
 | zero => simp [allOff]
 | succ m ih =>
  rw [allOff_succ, List.length_append, Nat.succ_mul]
  have := vis_le m P
  omega
theorem pat_flat (c : List Int) (m : Nat) (P : List (Nat × Int)) (hm : m ≤ 64) (hP : P.length ≤ 256) : Ev (fun k => braid_Pattern.l2 k c [] (visits m P) ((visits m P).length : Int) 0) (c, allOff m P, 0) := by
 have key : ∀ (d i : Nat), i + d = m → Ev (fun k => braid_Pattern.l2 k c (allOff i P) (visits m P) ((visits m P).length : Int) (i : Int)) (c, allOff m P, 0) := by
  intro d
  induction d with
  | zero =>
   intro i hi
   have : i = m := by omega
   subst this
   exact Ev.step (f := fun _ => some (c, allOff i P, 0)) (fun k => by rw [braid_Pattern.l2, if_neg (by rw [visits_len]; omega)]) (Ev.now _)
  | succ d ih =>
   intro i hi
   have hlen := visits_len m P
   have h1 := vis_le i P
   have h2 := allOff_le P i
   have h3 : i * P.length ≤ 64 * 256 := Nat.mul_le_mul (by omega) hP
   refine Ev.step (fun k => ?_) (ih (i + 1) (by omega))
   rw [braid_Pattern.l2, if_pos (by omega), if_pos (by omega), if_pos (by omega), visits_get m P i (by omega), if_pos (by omega), w64 (by omega) (by omega), allOff_succ]
   rfl
 have := key m 0 (by omega)
 simpa [allOff] using this
theorem pat_find (x4 : List Int) (n : Int) (left : List Int) (Pd : List (Nat × Int)) (ds : List Int) (i : Nat) (R : List Int × List Int × Int) (hn : Nonneg left) (hm : left.length ≤ 64) (ht : total left ≤ 256) (hx : x4.length ≤ 1000) (hPd : Pd.length ≤ 1000) (hi : i < ds.length) (hds : ds.length ≤ 256)
  (j : Nat) (hj : j < left.length) (o : Int) (o0 : 0 ≤ o) (o1 : o < left[j])
  (next : Ev (fun k => braid_Pattern.l0 k (x4 ++ [(j : Int)]) [] n (dec left j) (visits left.length (Pd ++ [(j, o)])) ds (ds.length : Int) ((i + 1 : Nat) : Int)) R) :
  ∀ (t a : Nat), a + t = j → Ev (fun k => braid_Pattern.l1 k x4 [] n left (visits left.length Pd) (psum left j + o - psum left a) (a : Int) ds (ds.length : Int) (i : Int)) R := by
 intro t
 induction t with
 | zero =>
  intro a ha
  have : a = j := by omega
  subst this
  have hv := visits_get left.length Pd a hj
  have hvl := vis_le a Pd
  have hr : rd left (a : Int) = left[a] := rd_lt left a hj
  have hlt := psum_total hn (a + 1)
  have hge := psum_nonneg hn a
  rw [psum_succ left a hj] at hlt
  have hpos := hn.at_ a hj
  refine Ev.step (fun k => ?_) next
  have hdec : left.set ((a : Int).toNat) (wrap64 (rd left (a : Int) - 1)) = dec left a := by
   rw [w64 (by rw [hr]; omega) (by rw [hr]; omega), hr]
   simp [dec, List.getD_eq_getElem?_getD, hj]
  rw [braid_Pattern.l1, if_pos (by omega), if_pos (by omega), if_neg (by rw [hr]; omega), if_pos (by omega), if_pos (by rw [visits_len]; omega), hv, if_pos (by omega), hdec, w64 (by omega) (by omega),
   show psum left a + o - psum left a = o from by omega, show ((a : Int).toNat) = a from by omega, visits_set left.length Pd a hj o]
  rfl
 | succ t ih =>
  intro a ha
  have hal : a < left.length := by omega
  have hr : rd left (a : Int) = left[a] := rd_lt left a hal
  have h1 := psum_succ left a hal
  have h2 := psum_le hn (a + 1) j (by omega)
  have h3 := psum_total hn (j + 1)
  rw [psum_succ left j hj] at h3
  have h4 := psum_nonneg hn a
  have h5 := hn.at_ a hal
  refine Ev.step (fun k => ?_) (ih (a + 1) (by omega))
  rw [braid_Pattern.l1, if_pos (by omega), if_pos (by omega), if_pos (by rw [hr]; omega), w64 (by rw [hr]; omega) (by rw [hr]; omega), w64 (by omega) (by omega), hr, h1,
   show psum left j + o - psum left a - left[a] = psum left j + o - (psum left a + left[a]) from by omega]
  rfl
theorem pat_loop (ds : List Int) (m : Nat) (hm : m ≤ 64) (hds : ds.length ≤ 256) : ∀ (rem i : Nat) (left : List Int) (Pd : List (Nat × Int)), i + rem = ds.length → total left = rem → Nonneg left → left.length = m → Pd.length = i →
  (∃ P, Pat left (ds.drop i) P ∧ Ev (fun k => braid_Pattern.l0 k (fsts Pd) [] (ds.length : Int) left (visits m Pd) ds (ds.length : Int) (i : Int)) (fsts (Pd ++ P), allOff m (Pd ++ P), 0)) ∨
  ((∃ t, i ≤ t ∧ ∃ h : t < ds.length, ds[t] < 0 ∨ (ds.length : Int) - t ≤ ds[t]) ∧ Ev (fun k => braid_Pattern.l0 k (fsts Pd) [] (ds.length : Int) left (visits m Pd) ds (ds.length : Int) (i : Int)) ([], [], 2)) := by
 intro rem
 induction rem with
 | zero =>
  intro i left Pd hi ht hn hl hPd
  left
  refine ⟨[], by rw [List.drop_of_length_le (by omega)]; exact .nil left, ?_⟩
  rw [List.append_nil]
  refine Ev.step (fun k => ?_) (pat_flat (fsts Pd) m Pd hm (by omega))
  rw [braid_Pattern.l0, if_neg (by omega)]
 | succ rem ih =>
  intro i left Pd hi ht hn hl hPd
  have hlt : i < ds.length := by omega
  have hr : rd ds (i : Int) = ds[i] := rd_lt ds i hlt
  have hw : wrap64 ((ds.length : Int) - (i : Int)) = (ds.length : Int) - i := w64 (by omega) (by omega)
  by_cases c1 : ds[i] < 0
  ·right
   refine ⟨⟨i, by omega, hlt, .inl c1⟩, ?_⟩
   refine Ev.step (f := fun k => braid_Pattern.j2 k (fsts Pd) [] (ds.length : Int) left (visits m Pd) (rd ds (i : Int)) ds (ds.length : Int) (i : Int) true) (fun k => ?_) (Ev.step (f := fun _ => some ([], [], 2)) (fun k => by rw [braid_Pattern.j2, if_pos rfl]) (Ev.now _))
   rw [braid_Pattern.l0, if_pos (by omega), if_pos (by omega), if_pos (by omega), if_pos (by rw [hr]; exact c1)]
  ·by_cases c2 : (ds.length : Int) - i ≤ ds[i]
   ·right
    refine ⟨⟨i, by omega, hlt, .inr c2⟩, ?_⟩
    refine Ev.step (f := fun k => braid_Pattern.j2 k (fsts Pd) [] (ds.length : Int) left (visits m Pd) (rd ds (i : Int)) ds (ds.length : Int) (i : Int) true) (fun k => ?_) (Ev.step (f := fun _ => some ([], [], 2)) (fun k => by rw [braid_Pattern.j2, if_pos rfl]) (Ev.now _))
    rw [braid_Pattern.l0, if_pos (by omega), if_pos (by omega), if_pos (by omega), if_neg (by rw [hr]; exact c1), hw, decide_eq_true (show rd ds (i : Int) ≥ (ds.length : Int) - i by rw [hr]; exact c2)]
   ·obtain ⟨j, hj, o, o0, o1, e⟩ := place_exists hn ds[i] (by omega) (by omega)
    have hdrop : ds.drop i = ds[i] :: ds.drop (i + 1) := List.drop_eq_getElem_cons hlt
    have hstep : ∀ R, Ev (fun k => braid_Pattern.l0 k (fsts (Pd ++ [(j, o)])) [] (ds.length : Int) (dec left j) (visits m (Pd ++ [(j, o)])) ds (ds.length : Int) ((i + 1 : Nat) : Int)) R →
      Ev (fun k => braid_Pattern.l0 k (fsts Pd) [] (ds.length : Int) left (visits m Pd) ds (ds.length : Int) (i : Int)) R := by
     intro R hR
     subst hl
     have hR' : Ev (fun k => braid_Pattern.l0 k (fsts Pd ++ [(j : Int)]) [] (ds.length : Int) (dec left j) (visits left.length (Pd ++ [(j, o)])) ds (ds.length : Int) ((i + 1 : Nat) : Int)) R := by
      rw [fsts_append] at hR
      exact hR
     have h0 := pat_find (fsts Pd) (ds.length : Int) left Pd ds i R hn (by omega) (by omega) (by simp [fsts]; omega) (by omega) hlt hds j hj o o0 o1 hR' j 0 (by omega)
     refine Ev.step (f := fun k => braid_Pattern.j2 k (fsts Pd) [] (ds.length : Int) left (visits left.length Pd) (rd ds (i : Int)) ds (ds.length : Int) (i : Int) false) (fun k => ?_) (Ev.step (fun k => ?_) h0)
     ·rw [braid_Pattern.l0, if_pos (by omega), if_pos (by omega), if_pos (by omega), if_neg (by rw [hr]; exact c1), hw, decide_eq_false (show ¬ rd ds (i : Int) ≥ (ds.length : Int) - i by rw [hr]; exact c2)]
     ·rw [braid_Pattern.j2, if_neg (by simp), hr, e, psum_zero, Int.sub_zero]
      rfl
    rcases ih (i + 1) (dec left j) (Pd ++ [(j, o)]) (by omega) (by rw [dec_total left j hj]; omega) (dec_nonneg hn j hj (by omega)) (by rw [dec_length]; exact hl) (by simp; omega) with ⟨P, hP, hE⟩ | ⟨⟨t, h1, h2, h3⟩, hE⟩
    ·left
     refine ⟨(j, o) :: P, by rw [hdrop]; exact .cons hj o0 o1 e hP, ?_⟩
     have := hstep _ hE
     rwa [List.append_assoc, List.singleton_append] at this
    ·right
     exact ⟨⟨t, by omega, h2, h3⟩, hstep _ hE⟩
def OkD (s ds : List Int) : Prop := OkS s ∧ (ds.length : Int) = total s ∧ ∀ (t : Nat) (h : t < ds.length), 0 ≤ ds[t] ∧ ds[t] < (ds.length : Int) - t
theorem pattern_good (s ds : List Int) (hs : OkS s) (hl : (ds.length : Int) = total s) : (∃ P, Pat s ds P ∧ Ev (fun k => braid_Pattern.f k s ds) (fsts P, allOff s.length P, 0)) ∨ (¬ OkD s ds ∧ Ev (fun k => braid_Pattern.f k s ds) ([], [], 2)) := by
 have hm := hs.most
 obtain ⟨n, b, e, hb, hn⟩ := total_ev s (by omega)
 have hbt := hb.2 hs
 have hnt := hn hs
 subst hbt
 have hal := hs.all
 have hin : ∀ R, Ev (fun k => braid_Pattern.l0 k (fsts []) [] (ds.length : Int) s (visits s.length []) ds (ds.length : Int) ((0 : Nat) : Int)) R → Ev (fun k => braid_Pattern.f k s ds) R := by
  intro R hR
  unfold braid_Pattern.f
  refine ev_bind e (ev_pos rfl (Ev.step (fun k => ?_) hR))
  rw [braid_Pattern.j0, if_neg (by simp; omega)]
  simp only [Option.bind_some, List.nil_append, List.length_nil]
  rw [if_pos (by omega), if_pos (by omega), if_pos (by omega), visits_nil, show ((s.length : Int).toNat) = s.length from by omega, show n = (ds.length : Int) from by omega]
  rfl
 rcases pat_loop ds s.length hm (by omega) ds.length 0 s [] (by omega) (by omega) hs.nonneg rfl rfl with ⟨P, hP, hE⟩ | ⟨⟨t, h1, h2, h3⟩, hE⟩
 ·left
  rw [List.nil_append] at hE
  exact ⟨P, by simpa using hP, hin _ hE⟩
 ·right
  refine ⟨fun h => ?_, hin _ hE⟩
  have := h.2.2 t h2
  omega
end Go.Proofs.Ytbnifpfnjhdenaa.Pl
end
section
set_option linter.unusedVariables false
set_option linter.unusedSimpArgs false
namespace Go.Proofs.Ytbnifpfnjhdenaa.Pl
open Go.RowKit Go.Proofs.Ytbnifpfnjhdenaa.Q Go.Proofs.YtbnifpfnjhdenaaW.PrintWords Go.Proofs.YtbnifpfnjhdenaaW.PrintLast
def tab (m : Nat) (f : Nat → Int) : List Int := (List.range m).map f
theorem tab_len (m : Nat) (f : Nat → Int) : (tab m f).length = m := by simp [tab]
theorem tab_rd (m : Nat) (f : Nat → Int) (j : Nat) (hj : j < m) : rd (tab m f) (j : Int) = f j := by simp [rd, tab, hj]
theorem tab_set (m : Nat) (f : Nat → Int) (j : Nat) (v : Int) : (tab m f).set j v = tab m (fun i => if i = j then v else f i) := by
 apply List.ext_getElem
 ·simp [tab]
 ·intro i h1 h2
  rw [List.getElem_set]
  by_cases e : j = i
  ·subst e; simp [tab]
  ·simp [tab, e, Ne.symm e]
theorem tab_congr (m : Nat) (f g : Nat → Int) (h : ∀ j, j < m → f j = g j) : tab m f = tab m g := by
 unfold tab
 exact List.map_congr_left fun j hj => h j (List.mem_range.1 hj)
def Told (l : List Int) (nx : Nat → Nat) (c off ds : List Int) (P : List (Nat × Int)) : Prop := Pat l ds P ∧ fsts P = c ∧ Rdo nx off P
theorem Told.head {l : List Int} {nx : Nat → Nat} {x : Int} {c off ds : List Int} {P : List (Nat × Int)} (h : Told l nx (x :: c) off ds P) :
  ∃ (j : Nat) (hj : j < l.length) (o : Int) (es : List Int) (Q : List (Nat × Int)), x = (j : Int) ∧ o = off.getD (nx j) 0 ∧ 0 ≤ o ∧ o < l[j] ∧ ds = (psum l j + o) :: es ∧ P = (j, o) :: Q ∧ Told (dec l j) (fun i => if i = j then nx j + 1 else nx i) c off es Q := by
 obtain ⟨h1, h2, h3⟩ := h
 cases h1 with
 | nil => simp [fsts] at h2
 | @cons _ es Q d o j hj h0 h1 hd t =>
  obtain ⟨a, b⟩ := h3.uncons
  simp [fsts] at h2
  exact ⟨j, hj, o, es, Q, h2.1.symm, a, h0, h1, by rw [hd], rfl, t, by simp [fsts]; exact h2.2, b⟩
theorem draws_sum (s off left nxl out c : List Int) (j : Nat) (o : Int) (n i : Int) (R : List Int × Int) (hj : j < left.length) (hn : Nonneg left) (hb : total left ≤ 256) (hm : left.length ≤ 64) (h0 : 0 ≤ o) (h1 : o ≤ 256)
  (next : Ev (fun k => if out.length < 17592186044416 then (if 0 ≤ (j : Int) then (if (j : Int) < (left.length : Int) then (if (j : Int) < (nxl.length : Int) then (braid_Draws.l1 k s off (left.set ((j : Int) : Int).toNat (wrap64 ((rd left (j : Int)) - 1))) (nxl.set ((j : Int) : Int).toNat (wrap64 ((rd nxl (j : Int)) + 1))) (out ++ [psum left j + o]) c n (wrap64 (i + 1))) else (none)) else (none)) else (none)) else (none)) R) :
  Ev (fun k => braid_Draws.l2 k s off left nxl out (j : Int) o c n i (left.take j) ((left.take j).length : Int) 0) R := by
 have key : ∀ (t a : Nat), a + t = j → Ev (fun k => braid_Draws.l2 k s off left nxl out (j : Int) (psum left a + o) c n i (left.take j) ((left.take j).length : Int) (a : Int)) R := by
  intro t
  induction t with
  | zero =>
   intro a ha
   have : a = j := by omega
   subst this
   refine Ev.step (fun k => ?_) next
   rw [braid_Draws.l2, if_neg (by rw [List.length_take]; omega)]
  | succ t ih =>
   intro a ha
   have hlt : (left.take j).length = j := by rw [List.length_take]; omega
   have hr : rd (left.take j) (a : Int) = left[a] := by
    rw [rd_lt _ a (by omega)]
    simp
   have h2 := psum_succ left a (by omega)
   have h3 := psum_nonneg hn a
   have h4 := psum_total hn (a + 1)
   have h5 := hn.at_ a (by omega)
   refine Ev.step (fun k => ?_) (ih (a + 1) (by omega))
   rw [braid_Draws.l2, if_pos (by omega), if_pos (by omega), if_pos (by omega), hr, w64 (by omega) (by omega), w64 (by omega) (by omega), h2, show psum left a + o + left[a] = psum left a + left[a] + o from by omega]
   rfl
 have := key j 0 (by omega)
 rw [psum_zero, Int.zero_add] at this
 exact this
theorem draws_loop (s off c : List Int) (m : Nat) (hs : s.length = m) (hm : m ≤ 64) (hc : c.length ≤ 256) (hoff : off.length ≤ 256) (hsn : Nonneg s) (hso : total s ≤ off.length) :
  ∀ (rem i : Nat) (left : List Int) (nx : Nat → Nat) (out : List Int), i + rem = c.length → Nonneg left → total left ≤ 256 → left.length = m → out.length ≤ 256 → (∀ x ∈ left, x ≤ 256) → (∀ j, j < m → (nx j : Int) + left.getD j 0 = psum s (j + 1)) → out.length = i →
  (∃ ds P, Told left nx (c.drop i) off ds P ∧ Ev (fun k => braid_Draws.l1 k s off left (tab m fun j => nx j) out c (c.length : Int) (i : Int)) (out ++ ds, 0)) ∨
  ((¬ ∃ ds P, Told left nx (c.drop i) off ds P) ∧ Ev (fun k => braid_Draws.l1 k s off left (tab m fun j => nx j) out c (c.length : Int) (i : Int)) ([], 2)) := by
 intro rem
 induction rem with
 | zero =>
  intro i left nx out hi hn hb hl ho hmx hnx hout
  left
  refine ⟨[], [], ⟨.nil left, by rw [List.drop_of_length_le (by omega)]; rfl, fun j k hk => by simp [vis_nil] at hk⟩, ?_⟩
  rw [List.append_nil]
  exact Ev.step (f := fun _ => some (out, 0)) (fun k => by rw [braid_Draws.l1, if_neg (by omega)]) (Ev.now _)
 | succ rem ih =>
  intro i left nx out hi hn hb hl ho hmx hnx hout
  have hlt : i < c.length := by omega
  have hr : rd c (i : Int) = c[i] := rd_lt c i hlt
  have hdrop : c.drop i = c[i] :: c.drop (i + 1) := List.drop_eq_getElem_cons hlt
  have bad3 : ∀ x : Bool, x = true → Ev (fun k => braid_Draws.j3 k s off left (tab m fun j => nx j) out c[i] c (c.length : Int) (i : Int) x) ([], 2) := fun x hx => Ev.step (f := fun _ => some ([], 2)) (fun k => by rw [braid_Draws.j3, if_pos hx]) (Ev.now _)
  by_cases c1 : c[i] < 0
  ·right
   refine ⟨?_, Ev.step (fun k => ?_) (bad3 true rfl)⟩
   ·rintro ⟨ds, P, h⟩
    rw [hdrop] at h
    obtain ⟨j, hj, o, es, Q, e, _⟩ := h.head
    omega
   ·rw [braid_Draws.l1, if_pos (by omega), if_pos (by omega), if_pos (by omega), hr, if_pos c1]
  ·by_cases c2 : c[i] ≥ (s.length : Int)
   ·right
    refine ⟨?_, Ev.step (fun k => ?_) (bad3 true rfl)⟩
    ·rintro ⟨ds, P, h⟩
     rw [hdrop] at h
     obtain ⟨j, hj, o, es, Q, e, _⟩ := h.head
     omega
    ·rw [braid_Draws.l1, if_pos (by omega), if_pos (by omega), if_pos (by omega), hr, if_neg c1, if_pos c2]
   ·obtain ⟨j, hj⟩ : ∃ j : Nat, c[i] = (j : Int) := ⟨c[i].toNat, by omega⟩
    have hjm : j < m := by omega
    have hjl : j < left.length := by omega
    have hrl : rd left (j : Int) = left[j] := rd_lt left j hjl
    have hrn : rd (tab m fun j => (nx j : Int)) (j : Int) = (nx j : Int) := tab_rd m _ j hjm
    have htl := tab_len m fun j => (nx j : Int)
    have hgl : left.getD j 0 = left[j] := by simp [List.getD_eq_getElem?_getD, hjl]
    have hpos := hn.at_ j hjl
    have hjx := hnx j hjm
    have hps := psum_total hsn (j + 1)
    have hmj := hmx _ (List.getElem_mem hjl)
    have step3 : ∀ R, Ev (fun k => braid_Draws.j3 k s off left (tab m fun j => nx j) out (j : Int) c (c.length : Int) (i : Int) (left[j] == 0)) R → Ev (fun k => braid_Draws.l1 k s off left (tab m fun j => nx j) out c (c.length : Int) (i : Int)) R := by
     intro R hR
     refine Ev.step (fun k => ?_) hR
     rw [braid_Draws.l1, if_pos (by omega), if_pos (by omega), if_pos (by omega), hr, hj, if_neg (by omega), if_neg (by omega), if_pos (by omega), if_pos (by omega), hrl]
    by_cases c3 : left[j] = 0
    ·right
     refine ⟨?_, step3 _ (by rw [← hj]; exact bad3 _ (by simpa using c3))⟩
     rintro ⟨ds, P, h⟩
     rw [hdrop] at h
     obtain ⟨j', hj', o, es, Q, e, eo, o0, o1, _⟩ := h.head
     have : j' = j := by omega
     subst this
     omega
    ·have hno : nx j < off.length := by omega
     have hro : rd off (nx j : Int) = off[nx j] := rd_lt off (nx j) hno
     have hgo : off.getD (nx j) 0 = off[nx j] := by simp [List.getD_eq_getElem?_getD, hno]
     have c3' : (left[j] == 0) = false := by simpa using c3
     have bad4 : ∀ x : Bool, x = true → Ev (fun k => braid_Draws.j4 k s off left (tab m fun j => nx j) out (j : Int) off[nx j] c (c.length : Int) (i : Int) x) ([], 2) := fun x hx => Ev.step (f := fun _ => some ([], 2)) (fun k => by rw [braid_Draws.j4, if_pos hx]) (Ev.now _)
     by_cases c4 : off[nx j] < 0
     ·right
      refine ⟨?_, step3 _ (Ev.step (fun k => ?_) (bad4 true rfl))⟩
      ·rintro ⟨ds, P, h⟩
       rw [hdrop] at h
       obtain ⟨j', hj', o, es, Q, e, eo, o0, o1, _⟩ := h.head
       have : j' = j := by omega
       subst this
       omega
      ·rw [braid_Draws.j3, if_neg (by simp [c3]), if_pos (by omega), if_pos (by omega), hrn, if_pos (by omega), if_pos (by omega), hro, if_pos c4]
     ·have step4 : ∀ R, Ev (fun k => braid_Draws.j4 k s off left (tab m fun j => nx j) out (j : Int) off[nx j] c (c.length : Int) (i : Int) (decide (off[nx j] ≥ left[j]))) R → Ev (fun k => braid_Draws.l1 k s off left (tab m fun j => nx j) out c (c.length : Int) (i : Int)) R := by
       intro R hR
       refine step3 _ (Ev.step (fun k => ?_) hR)
       rw [braid_Draws.j3, if_neg (by simp [c3]), if_pos (by omega), if_pos (by omega), hrn, if_pos (by omega), if_pos (by omega), hro, if_neg c4, if_pos (by omega), hrl]
      by_cases c5 : off[nx j] ≥ left[j]
      ·right
       refine ⟨?_, step4 _ (bad4 _ (by simpa using c5))⟩
       rintro ⟨ds, P, h⟩
       rw [hdrop] at h
       obtain ⟨j', hj', o, es, Q, e, eo, o0, o1, _⟩ := h.head
       have : j' = j := by omega
       subst this
       omega
      ·have hdec : left.set j (wrap64 (left[j] - 1)) = dec left j := by
        rw [w64 (by omega) (by omega)]
        unfold dec
        rw [hgl]
       have hnxs : (tab m fun j => (nx j : Int)).set j (wrap64 ((nx j : Int) + 1)) = tab m (fun i => ((if i = j then nx j + 1 else nx i : Nat) : Int)) := by
        rw [w64 (by omega) (by omega), tab_set]
        refine tab_congr m _ _ fun a ha => ?_
        by_cases e : a = j
        ·simp [e]
        ·simp [e]
       have step5 : ∀ R, Ev (fun k => braid_Draws.l1 k s off (dec left j) (tab m (fun i => ((if i = j then nx j + 1 else nx i : Nat) : Int))) (out ++ [psum left j + off[nx j]]) c (c.length : Int) ((i + 1 : Nat) : Int)) R →
         Ev (fun k => braid_Draws.l1 k s off left (tab m fun j => nx j) out c (c.length : Int) (i : Int)) R := by
        intro R hR
        have h6 := draws_sum s off left (tab m fun j => (nx j : Int)) out c j off[nx j] (c.length : Int) (i : Int) R hjl hn hb (by omega) (by omega) (by omega) (by
         refine ev_pos (by omega) (ev_pos (by omega) (ev_pos (by omega) (ev_pos (by omega) ?_)))
         rw [hrl, hrn, show ((j : Int) : Int).toNat = j from by omega, hdec, hnxs, w64 (by omega) (by omega)]
         exact hR)
        refine step4 _ (Ev.step (fun k => ?_) h6)
        rw [braid_Draws.j4, if_neg (by simp; omega), if_pos (by omega), if_pos (by omega), show ((j : Int) : Int).toNat = j from by omega]
        rfl
       have hnn := dec_nonneg hn j hjl (by omega)
       rcases ih (i + 1) (dec left j) (fun a => if a = j then nx j + 1 else nx a) (out ++ [psum left j + off[nx j]]) (by omega) hnn (by rw [dec_total left j hjl]; omega) (by rw [dec_length]; exact hl) (by simp; omega) (by
         intro x hx
         obtain ⟨a, ha, rfl⟩ := List.getElem_of_mem hx
         rw [dec_length] at ha
         rw [dec_get left j a ha]
         have := hmx _ (List.getElem_mem ha)
         split <;> omega) (by
         intro a ha
         rw [dec_getD left j a (by omega)]
         have := hnx a ha
         by_cases e : a = j
         ·subst e
          simp only [if_true]
          omega
         ·simp only [if_neg e, if_neg (Ne.symm e)]
          exact this) (by simp; omega) with ⟨ds, P, hP, hE⟩ | ⟨hP, hE⟩
       ·left
        refine ⟨(psum left j + off[nx j]) :: ds, (j, off[nx j]) :: P, ?_, ?_⟩
        ·rw [hdrop]
         exact ⟨.cons hjl (by omega) (by omega) rfl hP.1, by simp only [fsts, List.map_cons]; rw [← hj]; have := hP.2.1; unfold fsts at this; rw [this], Rdo.cons hgo.symm hP.2.2⟩
        ·have := step5 _ hE
         rwa [List.append_assoc, List.singleton_append] at this
       ·right
        refine ⟨?_, step5 _ hE⟩
        rintro ⟨ds, P, h⟩
        rw [hdrop] at h
        obtain ⟨j', hj', o, es, Q, e, eo, o0, o1, _, _, ht⟩ := h.head
        have : j' = j := by omega
        subst this
        exact hP ⟨es, Q, ht⟩
theorem draws_good (s c off : List Int) (hs : OkS s) (hc : (c.length : Int) = total s) (ho : (off.length : Int) = total s) :
  (∃ ds P, Told s (start s) c off ds P ∧ Ev (fun k => braid_Draws.f k s c off) (ds, 0)) ∨ ((¬ ∃ ds P, Told s (start s) c off ds P) ∧ Ev (fun k => braid_Draws.f k s c off) ([], 2)) := by
 have hm := hs.most
 have hal := hs.all
 have hone := hs.one
 obtain ⟨n, b, e, hb, hn⟩ := total_ev s (by omega)
 have hbt := hb.2 hs
 have hnt := hn hs
 subst hbt
 have hnn := hs.nonneg
 have hin : ∀ R, Ev (fun k => braid_Draws.l1 k s off s (tab s.length fun j => (start s j : Nat)) [] c (c.length : Int) ((0 : Nat) : Int)) R → Ev (fun k => braid_Draws.f k s c off) R := by
  intro R hR
  have key : ∀ (d a : Nat), a + d = s.length → 1 ≤ a → Ev (fun k => braid_Draws.l0 k s c off n s (tab s.length fun j => if j < a then psum s j else 0) (a : Int)) R := by
   intro d
   induction d with
   | zero =>
    intro a ha h1
    refine Ev.step (fun k => ?_) hR
    rw [braid_Draws.l0, if_neg (by omega), if_pos (by omega), if_pos (by omega)]
    have : (tab s.length fun j => if j < a then psum s j else 0) = tab s.length fun j => ((start s j : Nat) : Int) := tab_congr _ _ _ fun j hj => by
     have := psum_nonneg hnn j
     unfold start
     rw [if_pos (by omega)]
     omega
    rw [this]
    rfl
   | succ d ih =>
    intro a ha h1
    have htl := tab_len s.length fun j => if j < a then psum s j else 0
    have hw : wrap64 ((a : Int) - 1) = ((a - 1 : Nat) : Int) := by rw [w64 (by omega) (by omega)]; omega
    have h2 := psum_succ s (a - 1) (by omega)
    rw [show a - 1 + 1 = a from by omega] at h2
    have h3 := psum_nonneg hnn a
    have h4 := psum_total hnn a
    refine Ev.step (fun k => ?_) (ih (a + 1) (by omega) (by omega))
    rw [braid_Draws.l0, if_pos (by omega), hw, if_pos (by omega), if_pos (by omega), if_pos (by omega), if_pos (by omega), if_pos (by omega), tab_rd _ _ (a - 1) (by omega), rd_lt s (a - 1) (by omega), if_pos (by omega), ← h2, w64 (by omega) (by omega), w64 (by omega) (by omega),
     show ((a : Int) : Int).toNat = a from by omega, tab_set]
    have : (tab s.length fun i => if i = a then psum s a else if i < a then psum s i else 0) = tab s.length fun j => if j < a + 1 then psum s j else 0 := tab_congr _ _ _ fun j hj => by
     by_cases e : j = a
     ·subst e; simp
     ·by_cases e2 : j < a
      ·simp [e, e2, show j < a + 1 from by omega]
      ·simp [e, e2, show ¬ j < a + 1 from by omega]
    rw [this]
    rfl
  have h1 := key (s.length - 1) 1 (by omega) (by omega)
  unfold braid_Draws.f
  refine ev_bind e (ev_pos rfl (ev_pos (by omega) (Ev.step (fun k => ?_) h1)))
  rw [braid_Draws.j0, if_neg (by simp; omega)]
  simp only [Option.bind_some, List.nil_append, List.length_nil]
  have hrep : (tab s.length fun j => if j < 1 then psum s j else 0) = List.replicate s.length 0 := by
   apply List.ext_getElem
   ·simp [tab]
   ·intro i h1 h2
    simp only [tab, List.getElem_map, List.getElem_range, List.getElem_replicate]
    split
    ·rename_i h
     rw [show i = 0 from by omega, psum_zero]
    ·rfl
  rw [if_pos (by omega), if_pos (by omega), if_pos (by omega), show ((s.length : Int).toNat) = s.length from by omega, hrep]
  rfl
 rcases draws_loop s off c s.length rfl hm (by omega) (by omega) hnn (by omega) c.length 0 s (start s) [] (by omega) hnn hal rfl (by simp) (fun x hx => (hs.each x hx).2) (by
  intro j hj
  have := psum_nonneg hnn j
  rw [psum_succ s j hj]
  unfold start
  simp [List.getD_eq_getElem?_getD, hj]
  omega) rfl with ⟨ds, P, hP, hE⟩ | ⟨hP, hE⟩
 ·left
  rw [List.nil_append] at hE
  exact ⟨ds, P, by simpa using hP, hin _ hE⟩
 ·right
  exact ⟨by simpa using hP, hin _ hE⟩
end Go.Proofs.Ytbnifpfnjhdenaa.Pl
end
section
set_option linter.unusedVariables false
set_option linter.unusedSimpArgs false
namespace Go.Proofs.Ytbnifpfnjhdenaa.Pl
open Go.RowKit Go.Proofs.Ytbnifpfnjhdenaa.Q Go.Proofs.YtbnifpfnjhdenaaW.PrintWords Go.Proofs.YtbnifpfnjhdenaaW.PrintLast
structure Good (s ds : List Int) (P : List (Nat × Int)) : Prop where
 sizes : OkS s
 len : (ds.length : Int) = total s
 pat : Pat s ds P
theorem Good.le {s ds : List Int} {P : List (Nat × Int)} (g : Good s ds P) : ds.length ≤ 256 ∧ P.length = ds.length ∧ (fsts P).length = ds.length ∧ (allOff s.length P).length = ds.length := by
 have h1 := g.sizes.all
 have h2 := g.len
 have h3 := g.pat.len
 have h4 := allOff_len s.length P s (Nat.le_refl _) (g.pat.count g.sizes.nonneg h2.symm)
 rw [psum_all s s.length (Nat.le_refl _)] at h4
 exact ⟨by omega, h3, by simp [fsts]; exact h3, by omega⟩
theorem Good.pattern {s ds : List Int} {P : List (Nat × Int)} (g : Good s ds P) : Ev (fun k => braid_Pattern.f k s ds) (fsts P, allOff s.length P, 0) := by
 rcases pattern_good s ds g.sizes g.len with ⟨Q, h1, h2⟩ | ⟨h1, _⟩
 ·rw [g.pat.unique g.sizes.nonneg h1]
  exact h2
 ·refine absurd ⟨g.sizes, g.len, fun t ht => ?_⟩ h1
  have := g.pat.bound g.sizes.nonneg t ht
  rw [← g.len] at this
  exact this
theorem told_unique (off : List Int) : ∀ (A B : List (Nat × Int)) (nx : Nat → Nat), A.map (·.1) = B.map (·.1) → Rdo nx off A → Rdo nx off B → A = B := by
 intro A
 induction A with
 | nil => intro B nx e _ _; cases B with
  | nil => rfl
  | cons b B => simp at e
 | cons a A ih =>
  intro B nx e ha hb
  cases B with
  | nil => simp at e
  | cons b B =>
   obtain ⟨j, o⟩ := a
   obtain ⟨i, p⟩ := b
   simp only [List.map_cons, List.cons.injEq] at e
   obtain ⟨rfl, e2⟩ := e
   obtain ⟨a1, a2⟩ := ha.uncons
   obtain ⟨b1, b2⟩ := hb.uncons
   rw [a1, b1, ih B _ e2 a2 b2]
theorem Good.back {s ds : List Int} {P : List (Nat × Int)} (g : Good s ds P) : Ev (fun k => braid_Draws.f k s (fsts P) (allOff s.length P)) (ds, 0) := by
 have hle := g.le
 have hl := g.len
 have hT : Told s (start s) (fsts P) (allOff s.length P) ds P := ⟨g.pat, rfl, rdo_all g.sizes.nonneg g.pat g.len.symm⟩
 rcases draws_good s (fsts P) (allOff s.length P) g.sizes (by omega) (by omega) with ⟨es, Q, h1, h2⟩ | ⟨h1, _⟩
 ·have hPQ : P = Q := by
   have e1 : P.map (·.1) = Q.map (·.1) := by
    have := h1.2.1
    unfold fsts at this
    have h3 : ∀ (A B : List (Nat × Int)), A.map (fun x => (x.1 : Int)) = B.map (fun x => (x.1 : Int)) → A.map (·.1) = B.map (·.1) := by
     intro A
     induction A with
     | nil => intro B h; cases B with
      | nil => rfl
      | cons b B => simp at h
     | cons a A ih => intro B h; cases B with
      | nil => simp at h
      | cons b B =>
       simp only [List.map_cons, List.cons.injEq] at h ⊢
       exact ⟨by omega, ih B h.2⟩
    exact (h3 Q P this).symm
   exact told_unique _ _ _ _ e1 hT.2.2 h1.2.2
  subst hPQ
  rw [g.pat.draws h1.1]
  exact h2
 ·exact absurd ⟨ds, P, hT⟩ h1
theorem Good.inj {s ds es : List Int} {P Q : List (Nat × Int)} (g : Good s ds P) (g' : Good s es Q) (h1 : fsts P = fsts Q) (h2 : allOff s.length P = allOff s.length Q) : ds = es := by
 have a := g.back
 have b := g'.back
 rw [h1, h2] at a
 obtain ⟨K1, e1⟩ := a
 obtain ⟨K2, e2⟩ := b
 have x := e1 (max K1 K2) (Nat.le_max_left _ _)
 have y := e2 (max K1 K2) (Nat.le_max_right _ _)
 rw [x] at y
 exact congrArg Prod.fst (Option.some.inj y)
theorem Good.same {s ds es : List Int} {P Q : List (Nat × Int)} (g : Good s ds P) (g' : Good s es Q) (h : ds = es) : P = Q := by
 subst h
 exact g.pat.unique g.sizes.nonneg g'.pat
end Go.Proofs.Ytbnifpfnjhdenaa.Pl
end
section
set_option linter.unusedVariables false
set_option linter.unusedSimpArgs false
namespace Go.Proofs.Ytbnifpfnjhdenaa.Pl
open Go.RowKit Go.Proofs.Ytbnifpfnjhdenaa.Q Go.Proofs.YtbnifpfnjhdenaaW.PrintWords Go.Proofs.YtbnifpfnjhdenaaW.PrintLast
def szf (n m j : Nat) : Nat := n / m + (if j < n % m then 1 else 0)
def sz (n m : Nat) : List Int := tab m fun j => (szf n m j : Int)
theorem sz_len (n m : Nat) : (sz n m).length = m := tab_len _ _
theorem sizes_bad (n m : Int) (h : ¬ (0 ≤ n ∧ n ≤ 256 ∧ 1 ≤ m ∧ m ≤ 64)) : Ev (fun k => braid_Sizes.f k n m) ([], 2) := by
 have bad : ∀ b, b = true → Ev (fun k => braid_Sizes.j0 k n m b) ([], 2) := fun b hb => Ev.step (f := fun _ => some ([], 2)) (fun k => by rw [braid_Sizes.j0, if_pos hb]) (Ev.now _)
 unfold braid_Sizes.f
 by_cases h1 : n < 0
 ·exact ev_pos h1 (bad _ rfl)
 refine ev_neg h1 ?_
 by_cases h2 : n > 256
 ·exact ev_pos h2 (bad _ rfl)
 refine ev_neg h2 ?_
 by_cases h3 : m < 1
 ·exact ev_pos h3 (bad _ rfl)
 exact ev_neg h3 (bad _ (by simp; omega))
theorem sizes_good (n m : Nat) (hn : n ≤ 256) (h1 : 1 ≤ m) (h2 : m ≤ 64) : Ev (fun k => braid_Sizes.f k (n : Int) (m : Int)) (sz n m, 0) := by
 unfold braid_Sizes.f
 refine ev_neg (by omega) (ev_neg (by omega) (ev_neg (by omega) ?_))
 refine Ev.step (fun k => by rw [braid_Sizes.j0, if_neg (by simp; omega), if_pos (by omega), if_pos (by omega), Option.bind_some]) ?_
 have hd : n / m ≤ 256 := Nat.le_trans (Nat.div_le_self _ _) hn
 obtain ⟨q, hq⟩ : ∃ q, n / m = q := ⟨_, rfl⟩
 obtain ⟨r, hr0⟩ : ∃ r, n % m = r := ⟨_, rfl⟩
 have t1 : Int.tdiv (n : Int) (m : Int) = (q : Int) := by rw [← hq]; rfl
 have t2 : Int.tmod (n : Int) (m : Int) = (r : Int) := by rw [← hr0]; rfl
 have hz : ∀ j, (szf n m j : Int) = (q : Int) + (if j < r then 1 else 0) := fun j => by unfold szf; rw [hq, hr0]; split <;> simp
 rw [hq] at hd
 have key : ∀ (d i : Nat), i + d = m → Ev (fun k => braid_Sizes.l0 k (n : Int) (m : Int) (tab m fun j => if j < i then (szf n m j : Int) else 0) (m : Int) (i : Int)) (sz n m, 0) := by
  intro d
  induction d with
  | zero =>
   intro i hi
   have e : (tab m fun j => if j < i then (szf n m j : Int) else 0) = sz n m := tab_congr _ _ _ (fun j hj => by rw [if_pos (by omega)])
   rw [e]
   exact Ev.step (f := fun _ => some (sz n m, 0)) (fun k => by rw [braid_Sizes.l0, if_neg (by omega)]) (Ev.now _)
  | succ d ih =>
   intro i hi
   refine Ev.step (fun k => by rw [braid_Sizes.l0, if_pos (by omega), if_neg (by omega), if_pos (by omega), if_pos (by rw [tab_len]; omega), Option.bind_some, t1, t2, Int.toNat_natCast, tab_set, w64 (x := (q : Int)) (by omega) (by omega), w64 (x := (i : Int) + 1) (by omega) (by omega)]) ?_
   have next := ih (i + 1) (by omega)
   by_cases h : i < r
   ·refine ev_pos (by omega) ?_
    rw [tab_rd _ _ i (by omega), if_pos rfl, w64 (by omega) (by omega), tab_set]
    have e : (tab m fun j => if j = i then (q : Int) + 1 else if j = i then (q : Int) else if j < i then (szf n m j : Int) else 0) = tab m fun j => if j < i + 1 then (szf n m j : Int) else 0 :=
     tab_congr _ _ _ (fun j hj => by
      by_cases e1 : j = i
      ·subst e1
       rw [if_pos rfl, if_pos (by omega)]
       rw [hz]; simp [h]
      ·rw [if_neg e1, if_neg e1]
       by_cases e2 : j < i
       ·rw [if_pos e2, if_pos (by omega)]
       ·rw [if_neg e2, if_neg (by omega)])
    rw [e]
    exact next
   ·refine ev_neg (by omega) ?_
    have e : (tab m fun j => if j = i then (q : Int) else if j < i then (szf n m j : Int) else 0) = tab m fun j => if j < i + 1 then (szf n m j : Int) else 0 :=
     tab_congr _ _ _ (fun j hj => by
      by_cases e1 : j = i
      ·subst e1
       rw [if_pos rfl, if_pos (by omega)]
       rw [hz]; simp [h]
      ·rw [if_neg e1]
       by_cases e2 : j < i
       ·rw [if_pos e2, if_pos (by omega)]
       ·rw [if_neg e2, if_neg (by omega)])
    rw [e]
    exact next
 have hr : (List.replicate ((m : Int) : Int).toNat (0 : Int)) = tab m fun j => if j < 0 then (szf n m j : Int) else 0 := by
  simp [tab, List.map_const']
 rw [hr, tab_len]
 exact key m 0 (by omega)
theorem tab_succ (m : Nat) (f : Nat → Int) : tab (m + 1) f = tab m f ++ [f m] := by simp [tab, List.range_succ]
def bnd (n : Nat) : List Int := tab n fun i => (n : Int) - i
theorem bounds_good (n : Nat) (hn : n ≤ 256) : Ev (fun k => braid_Bounds.f k (n : Int)) (bnd n) := by
 unfold braid_Bounds.f
 by_cases h : n < 1
 ·refine ev_pos (by omega) ?_
  obtain rfl : n = 0 := by omega
  exact Ev.step (f := fun _ => some []) (fun k => by rw [braid_Bounds.j0, if_pos rfl]) (Ev.now _)
 refine ev_neg (by omega) (Ev.step (fun k => by rw [braid_Bounds.j0, if_neg (by simp; omega), if_pos (by omega), if_pos (by omega)]) ?_)
 have key : ∀ (d i : Nat), i + d = n → Ev (fun k => braid_Bounds.l0 k (tab i fun j => (n : Int) - j) ((n : Int) - i)) (bnd n) := by
  intro d
  induction d with
  | zero =>
   intro i hi
   obtain rfl : i = n := by omega
   exact Ev.step (f := fun _ => some (bnd i)) (fun k => by rw [braid_Bounds.l0, if_neg (by omega)]; rfl) (Ev.now _)
  | succ d ih =>
   intro i hi
   have := ih (i + 1) (by omega)
   rw [tab_succ] at this
   have e : wrap64 ((n : Int) - i - 1) = (n : Int) - ((i + 1 : Nat) : Int) := by rw [w64 (by omega) (by omega)]; omega
   exact Ev.step (fun k => by rw [braid_Bounds.l0, if_pos (by omega), if_pos (by rw [tab_len]; omega), e]) this
 have := key n 0 (by omega)
 simpa [tab] using this
theorem sz_get (n m j : Nat) (hj : j < m) : (sz n m)[j]'(by rw [sz_len]; exact hj) = (szf n m j : Int) := by simp [sz, tab]
theorem szf_le (n m j : Nat) (hn : n ≤ 256) (h1 : 1 ≤ m) : szf n m j ≤ 256 := by
 unfold szf
 have h3 := Nat.div_add_mod n m
 by_cases h : j < n % m
 ·rw [if_pos h]
  have : m * (n / m) ≥ n / m := Nat.le_mul_of_pos_left _ h1
  omega
 ·rw [if_neg h]
  have := Nat.div_le_self n m
  omega
theorem sz_psum (n m : Nat) (h1 : 1 ≤ m) : ∀ j, j ≤ m → psum (sz n m) j = ((j * (n / m) + min j (n % m) : Nat) : Int) := by
 intro j
 induction j with
 | zero => intro _; simp [psum_zero]
 | succ j ih =>
  intro hj
  rw [psum_succ _ _ (by rw [sz_len]; omega), ih (by omega), sz_get _ _ _ (by omega), Nat.succ_mul]
  unfold szf
  by_cases h : j < n % m
  ·rw [if_pos h]; omega
  ·rw [if_neg h]; omega
theorem sz_total (n m : Nat) (h1 : 1 ≤ m) : total (sz n m) = n := by
 have := sz_psum n m h1 m (Nat.le_refl _)
 rw [psum_all _ _ (by rw [sz_len]; exact Nat.le_refl _)] at this
 rw [this]
 have h3 := Nat.div_add_mod n m
 have h4 := Nat.mod_lt n h1
 omega
theorem sz_ok (n m : Nat) (hn : n ≤ 256) (h1 : 1 ≤ m) (h2 : m ≤ 64) : OkS (sz n m) := by
 refine ⟨by rw [sz_len]; exact h1, by rw [sz_len]; exact h2, fun x hx => ?_, by rw [sz_total n m h1]; omega⟩
 obtain ⟨j, hj, rfl⟩ := List.getElem_of_mem hx
 rw [sz_len] at hj
 rw [sz_get n m j hj]
 have := szf_le n m j hn h1
 omega
def ints (C : List Nat) : List Int := C.map fun j : Nat => (j : Int)
theorem ints_len (C : List Nat) : (ints C).length = C.length := by simp [ints]
theorem ints_rd (C : List Nat) (i : Nat) (h : i < C.length) : rd (ints C) (i : Int) = (C[i] : Int) := by simp [rd, ints, h]
def cn (C : List Nat) (j i : Nat) : Nat := (C.take i).count j
theorem cn_zero (C : List Nat) (j : Nat) : cn C j 0 = 0 := by simp [cn]
theorem cn_succ (C : List Nat) (j i : Nat) (h : i < C.length) : cn C j (i + 1) = cn C j i + if j = C[i] then 1 else 0 := by
 unfold cn
 rw [List.take_succ_eq_append_getElem h, List.count_append]
 congr 1
 rw [List.count_singleton]
 by_cases e : C[i] = j
 ·simp [e]
 ·simp [e, show ¬ j = C[i] from fun h => e h.symm]
theorem cn_le (C : List Nat) (j i : Nat) : cn C j i ≤ C.count j := (List.take_sublist i C).count_le j
theorem cn_mono (C : List Nat) (j i t : Nat) (h : i ≤ t) : cn C j i ≤ cn C j t := by
 unfold cn
 have : C.take i = (C.take t).take i := by rw [List.take_take, Nat.min_eq_left h]
 rw [this]
 exact (List.take_sublist i (C.take t)).count_le j
theorem cn_at (C : List Nat) (i : Nat) (h : i < C.length) : cn C C[i] (i + 1) = cn C C[i] i + 1 := by rw [cn_succ C _ i h, if_pos rfl]
theorem cn_lt (C : List Nat) (i : Nat) (h : i < C.length) : cn C C[i] i < C.count C[i] := by
 have := cn_at C i h
 have := cn_le C C[i] (i + 1)
 omega
theorem cn_all (C : List Nat) (j i : Nat) (h : C.length ≤ i) : cn C j i = C.count j := by unfold cn; rw [List.take_of_length_le h]
theorem cn_len (C : List Nat) (j i : Nat) : cn C j i ≤ i := Nat.le_trans List.count_le_length (by simp; omega)
def seg (a : Int) (t : Nat) : List Int := tab t fun i => a + i
end Go.Proofs.Ytbnifpfnjhdenaa.Pl
end
section
set_option linter.unusedVariables false
set_option linter.unusedSimpArgs false
namespace Go.Proofs.Ytbnifpfnjhdenaa.Pl
open Go.RowKit Go.Proofs.Ytbnifpfnjhdenaa.Q Go.Proofs.YtbnifpfnjhdenaaW.PrintWords Go.Proofs.YtbnifpfnjhdenaaW.PrintLast
theorem Good.exists {s ds : List Int} (h : OkD s ds) : ∃ P, Good s ds P := by
 obtain ⟨P, hP⟩ := pat_exists ds s h.1.nonneg (fun i hi => by
  have := h.2.2 i hi
  have e := h.2.1
  omega)
 exact ⟨P, h.1, h.2.1, hP⟩
end Go.Proofs.Ytbnifpfnjhdenaa.Pl
end
section
set_option linter.unusedVariables false
set_option linter.unusedSimpArgs false
namespace Go.Proofs.Ytbnifpfnjhdenaa.Pl
open Go.RowKit Go.Proofs.Ytbnifpfnjhdenaa.Q Go.Proofs.YtbnifpfnjhdenaaW.PrintWords Go.Proofs.YtbnifpfnjhdenaaW.PrintLast
def piece (l : List Int) (q j : Nat) : List Int := (l.take ((j + 1) * q)).drop (j * q)
def pieces (l : List Int) (q c : Nat) : List (List Int) := (List.range c).map (piece l q)
def noiseOf (p : List Int) : List Int := p.take 18
def restOf (p : List Int) : List Int := (p.drop 18).drop ((p.length - 18) / 2)
def braidOf (p : List Int) : List Int := (p.drop 18).take ((p.length - 18) / 2)
def qOf (p : List Int) (c : Nat) : Nat := (restOf p).length / c
theorem restOf_len (p : List Int) : (restOf p).length = (p.length - 18) - (p.length - 18) / 2 := by simp [restOf]; omega
theorem qmul_le (p : List Int) (c j : Nat) (hj : j ≤ c) : j * qOf p c ≤ (restOf p).length :=
 Nat.le_trans (Nat.mul_le_mul_right _ hj) (by rw [Nat.mul_comm]; exact Nat.div_mul_le_self _ _)
theorem piece_len (p : List Int) (c j : Nat) (hj : j < c) : (piece (restOf p) (qOf p c) j).length = qOf p c := by
 have := qmul_le p c (j + 1) hj
 unfold piece
 rw [List.length_drop, List.length_take, Nat.min_eq_left this, Nat.succ_mul]
 omega
theorem pieces_succ (l : List Int) (q c : Nat) : pieces l q (c + 1) = pieces l q c ++ [piece l q c] := by
 unfold pieces
 rw [List.range_succ, List.map_append]
 rfl
def splitS (p : List Int) (c : Int) : List Int × List Int × (List (List Int)) × Int :=
 if c < 1 ∨ c > 64 then ([], [], [], 2) else if p.length < 18 then ([], [], [], 3) else (noiseOf p, braidOf p, pieces (restOf p) (qOf p c.toNat) c.toNat, 0)
theorem clone_val (l : List Int) (h : l.length < 140737488355328) : slices_Clone_byte_byte.f l = some l := by
 unfold slices_Clone_byte_byte.f
 rw [if_pos h]
theorem split_ev (p : List Int) (c : Int) (hp : p.length ≤ 140737488351232) : Ev (fun k => tape_Split.f k p c) (splitS p c) := by
 unfold tape_Split.f splitS
 by_cases h1 : c < 1
 ·rw [if_pos (by omega)]
  exact ev_pos h1 (Ev.step (f := fun _ => some ([], [], [], 2)) (fun k => by rw [tape_Split.j0, if_pos rfl]) (Ev.now _))
 ·refine ev_neg h1 ?_
  by_cases h2 : c > 64
  ·rw [if_pos (by omega)]
   exact Ev.step (f := fun _ => some ([], [], [], 2)) (fun k => by rw [tape_Split.j0, if_pos (by simpa using h2)]) (Ev.now _)
  ·rw [if_neg (by omega)]
   by_cases h3 : p.length < 18
   ·rw [if_pos h3]
    exact Ev.step (f := fun _ => some ([], [], [], 3)) (fun k => by rw [tape_Split.j0, if_neg (by simp; omega), if_pos (by omega)]) (Ev.now _)
   ·rw [if_neg h3]
    obtain ⟨n, rfl⟩ := Int.eq_ofNat_of_zero_le (show 0 ≤ c by omega)
    simp only [Int.toNat_natCast]
    have hrl := restOf_len p
    have key : ∀ (d j : Nat), j + d = n → Ev (fun k => tape_Split.l0 k (restOf p) (qOf p n : Int) (n : Int) (j : Int) (noiseOf p) (braidOf p) (pieces (restOf p) (qOf p n) j)) (noiseOf p, braidOf p, pieces (restOf p) (qOf p n) n, 0) := by
     intro d
     induction d with
     | zero =>
      intro j hj
      have : j = n := by omega
      subst this
      exact Ev.step (f := fun _ => some (noiseOf p, braidOf p, pieces (restOf p) (qOf p j) j, 0)) (fun k => by rw [tape_Split.l0, if_neg (by omega)]) (Ev.now _)
     | succ d ih =>
      intro j hj
      have a1 := qmul_le p n (j + 1) (by omega)
      have a2 : j * qOf p n ≤ (j + 1) * qOf p n := Nat.mul_le_mul_right _ (by omega)
      have hpl := piece_len p n j (by omega)
      have hql : qOf p n ≤ (restOf p).length := Nat.div_le_self _ _
      have hcl := clone_val (piece (restOf p) (qOf p n) j) (by omega)
      have b1 : (j : Int) < (n : Int) := by omega
      have b2 : (0 : Int) ≤ ((j * qOf p n : Nat) : Int) := by omega
      have b3 : ((j * qOf p n : Nat) : Int) ≤ (((j + 1) * qOf p n : Nat) : Int) := by omega
      have b4 : (((j + 1) * qOf p n : Nat) : Int) ≤ ((restOf p).length : Int) := by omega
      have b5 : j * qOf p n ≤ 9223372036854775807 := by omega
      have b6 : (j + 1) * qOf p n ≤ 9223372036854775807 := by omega
      have b8 : (pieces (restOf p) (qOf p n) j).length < 5864062014805 := by simp [pieces]; omega
      have b10 : j + 1 ≤ 9223372036854775807 := by omega
      have b9 : j + 1 + d = n := by omega
      have b7 : wrap64 ((j : Int) + 1) = ((j + 1 : Nat) : Int) := w64n (x := j + 1) b10
      have e1 : wrap64 ((j : Int) * (qOf p n : Int)) = ((j * qOf p n : Nat) : Int) := by rw [← Int.natCast_mul]; exact w64n b5
      have e2 : wrap64 (wrap64 ((j : Int) + 1) * (qOf p n : Int)) = (((j + 1) * qOf p n : Nat) : Int) := by
       rw [b7, ← Int.natCast_mul]
       exact w64n b6
      refine Ev.step (fun k => ?_) (ih (j + 1) b9)
      rw [tape_Split.l0, if_pos b1, e1, e2, if_pos b2, if_pos b3, if_pos b4, Int.toNat_natCast, Int.toNat_natCast, show ((restOf p).take ((j + 1) * qOf p n)).drop (j * qOf p n) = piece (restOf p) (qOf p n) j from rfl, hcl, Option.bind_some,
       if_pos b8, b7, pieces_succ]
    have h0 := key n 0 (by omega)
    have hd : (p.drop 18).length = p.length - 18 := by simp
    have g1 : ¬ ((p.length : Int) < 18) := by omega
    have g2 : (18 : Int) ≤ (p.length : Int) := by omega
    have g3 : (0 : Int) ≤ (((p.length - 18) / 2 : Nat) : Int) := by omega
    have g4 : (((p.length - 18) / 2 : Nat) : Int) ≤ ((p.drop 18).length : Int) := by rw [hd]; omega
    have g5 : (p.take 18).length < 140737488355328 := by simp; omega
    have g6 : ((p.drop 18).take ((p.length - 18) / 2)).length < 140737488355328 := by simp; omega
    have g7 : ¬ ((n : Int) = 0) := by omega
    have g8 : ¬ (decide ((n : Int) > 64) = true) := by simpa using h2
    have g9 : (restOf p).length ≤ 9223372036854775807 := by omega
    have hw : wrap64 (((p.drop 18).length : Int) / 2) = (((p.length - 18) / 2 : Nat) : Int) := by rw [hd, w64 (by omega) (by omega)]; omega
    refine Ev.step (fun k => ?_) h0
    have hq : wrap64 (((restOf p).length : Int) / (n : Int)) = (qOf p n : Int) := by
     rw [← Int.natCast_ediv]
     exact w64n (Nat.le_trans (Nat.div_le_self _ _) g9)
    rw [tape_Split.j0, if_neg g8, if_neg g1, if_pos g2, Option.bind_some, hw, clone_val _ g5, Option.bind_some, if_pos g3, if_pos g4, Int.toNat_natCast, clone_val _ g6, Option.bind_some, Option.bind_some, if_neg g7]
    show tape_Split.l0 k (restOf p) (wrap64 (((restOf p).length : Int) / (n : Int))) _ _ _ _ _ = _
    rw [hq]
    rfl
end Go.Proofs.Ytbnifpfnjhdenaa.Pl
end
section
set_option linter.unusedVariables false
set_option linter.unusedSimpArgs false
namespace Go.Proofs.Ytbnifpfnjhdenaa.Pl
open Go.RowKit Go.Proofs.Ytbnifpfnjhdenaa.Q Go.Proofs.YtbnifpfnjhdenaaW.PrintWords Go.Proofs.YtbnifpfnjhdenaaW.PrintLast Go.Proofs.Ytbnifpfnjhdenaa.Pure
theorem anyOk' {bs : List Int} (h : AllOk bs) : ¬ (bs.any fun b => !okBound b) = true := by
 intro hc
 obtain ⟨b, hb, e⟩ := List.any_eq_true.1 hc
 have := h b hb
 rw [okBound_of b this.1 this.2] at e
 exact absurd e (by decide)
theorem drA_some {p bs : List Int} (h : AllOk bs) {r : List Int × Nat} (e : dr p bs 0 = some r) : drA p bs = (r.1, (r.2 : Int), 0) := by
 unfold drA
 rw [if_neg (anyOk' h), e]
theorem drA_none {p bs : List Int} (h : AllOk bs) (e : dr p bs 0 = none) : drA p bs = ([], 0, 3) := by
 unfold drA
 rw [if_neg (anyOk' h), e]
theorem drw_fA (p bs : List Int) (hp : Bytes p) (hl : p.length ≤ 140737488351232) (hbl : bs.length ≤ 17592186043904) : draw_All.f p bs = some (drA p bs) := by
 rw [drw_all_f p bs hp hl hbl, allA_dr]
theorem boundsL_ok : ∀ n : Nat, n ≤ 256 → AllOk (boundsL n)
 | 0, _ => fun b hb => by simp [boundsL] at hb
 | 1, _ => fun b hb => by simp [boundsL] at hb
 | n + 2, h => fun b hb => by
  rw [boundsL] at hb
  rcases List.mem_cons.1 hb with rfl | hb
  ·omega
  ·exact boundsL_ok (n + 1) (by omega) b hb
theorem bnd_len (n : Nat) : (bnd n).length = n := tab_len _ _
theorem bnd_rd (n i : Nat) (h : i < n) : rd (bnd n) (i : Int) = (n : Int) - i := tab_rd _ _ i h
theorem bnd_ok (n : Nat) (h : n ≤ 256) : AllOk (bnd n) := by
 intro b hb
 obtain ⟨i, hi, rfl⟩ := List.mem_map.1 hb
 have := List.mem_range.1 hi
 omega
theorem rd_cons (x : Int) (xs : List Int) (i : Nat) : rd (x :: xs) ((i + 1 : Nat) : Int) = rd xs (i : Int) := by rw [rd_nat, rd_nat, List.getD_cons_succ]
theorem valid_rd : ∀ (bs ws : List Int), Valid bs ws → ws.length = bs.length ∧ ∀ i : Nat, i < bs.length → 0 ≤ rd ws (i : Int) ∧ rd ws (i : Int) < rd bs (i : Int)
 | [], [], _ => ⟨rfl, fun i h => by simp at h⟩
 | b :: bs, w :: ws, h => by
  obtain ⟨h1, h2⟩ := valid_rd bs ws h.2.2
  refine ⟨by simp [h1], fun i hi => ?_⟩
  cases i with
  | zero => exact ⟨h.1, h.2.1⟩
  | succ i => rw [rd_cons, rd_cons]; exact h2 i (by simpa using hi)
 | [], _ :: _, h => h.elim
 | _ :: _, [], h => h.elim
theorem rd_valid : ∀ (bs ws : List Int), ws.length = bs.length → (∀ i : Nat, i < bs.length → 0 ≤ rd ws (i : Int) ∧ rd ws (i : Int) < rd bs (i : Int)) → Valid bs ws
 | [], [], _, _ => trivial
 | b :: bs, w :: ws, hl, h => by
  have h0 := h 0 (by simp)
  refine ⟨h0.1, h0.2, rd_valid bs ws (by simpa using hl) fun i hi => ?_⟩
  have := h (i + 1) (by simpa using hi)
  rwa [rd_cons, rd_cons] at this
 | [], _ :: _, hl, _ => by simp at hl
 | _ :: _, [], hl, _ => by simp at hl
theorem boundsL_fit {s : Nat} {ws : List Int} (h : Valid (boundsL s) ws) : ws.length = s - 1 ∧ FitD (s : Int) ws := by
 obtain ⟨h1, h2⟩ := valid_rd _ _ h
 rw [boundsL_len] at h1 h2
 refine ⟨h1, fun k hk => ?_⟩
 have := h2 k (by omega)
 rw [boundsL_at s k (by omega)] at this
 exact this
theorem fit_boundsL {s : Nat} {ws : List Int} (h1 : ws.length = s - 1) (h : FitD (s : Int) ws) : Valid (boundsL s) ws := by
 refine rd_valid _ _ (by rw [boundsL_len]; exact h1) fun k hk => ?_
 rw [boundsL_len] at hk
 rw [boundsL_at s k (by omega)]
 exact h k (by omega)
theorem bnd_okD {s ws : List Int} (hs : OkS s) (h : Valid (bnd (total s).toNat) ws) : OkD s ws := by
 obtain ⟨h1, h2⟩ := valid_rd _ _ h
 have h0 := total_nonneg hs.nonneg
 rw [bnd_len] at h1 h2
 refine ⟨hs, by omega, fun t ht => ?_⟩
 have := h2 t (by omega)
 rw [bnd_rd _ t (by omega), rd_lt ws t ht] at this
 omega
theorem okD_bnd {s ws : List Int} (h : OkD s ws) : Valid (bnd (total s).toNat) ws := by
 have h1 := h.2.1
 refine rd_valid _ _ (by rw [bnd_len]; omega) fun k hk => ?_
 rw [bnd_len] at hk
 have := h.2.2 k (by omega)
 rw [bnd_rd _ k hk, rd_lt ws k (by omega)]
 omega
def permOf (l : List Int) (s : Nat) : Option (List Int) := (dr l (boundsL s) 0).map fun r => fromL (iota s) (s - 1) r.1
def permsG (f : Nat → Option (List Int)) : Nat → Nat → List (List Int) → Option (List (List Int))
 | 0, _, L => some L
 | d + 1, j, L => (f j).bind fun q => permsG f d (j + 1) (L ++ [q])
theorem permsG_some (f : Nat → Option (List Int)) : ∀ (d j : Nat) (L own : List (List Int)), L.length = j → permsG f d j L = some own →
  own.length = j + d ∧ (∀ i, i < j → own[i]? = L[i]?) ∧ ∀ i, j ≤ i → i < j + d → own[i]? = f i := by
 intro d
 induction d with
 | zero =>
  intro j L own hL h
  obtain rfl := Option.some.inj h
  exact ⟨by omega, fun i _ => rfl, fun i h1 h2 => by omega⟩
 | succ d ih =>
  intro j L own hL h
  rw [permsG] at h
  obtain ⟨q, hq, h⟩ := Option.bind_eq_some_iff.1 h
  obtain ⟨h1, h2, h3⟩ := ih (j + 1) (L ++ [q]) own (by simp [hL]) h
  refine ⟨by omega, fun i hi => ?_, fun i hi1 hi2 => ?_⟩
  ·rw [h2 i (by omega), List.getElem?_append_left (by omega)]
  ·by_cases e : i = j
   ·subst e
    rw [h2 i (by omega), List.getElem?_append_right (by omega), hL, hq]
    simp
   ·exact h3 i (by omega) (by omega)
theorem permsG_of (f : Nat → Option (List Int)) (g : Nat → List Int) : ∀ (d j : Nat) (L : List (List Int)), (∀ i, j ≤ i → i < j + d → f i = some (g i)) → permsG f d j L = some (L ++ (List.range' j d).map g) := by
 intro d
 induction d with
 | zero => intro j L h; simp [permsG]
 | succ d ih =>
  intro j L h
  rw [permsG, h j (Nat.le_refl _) (by omega), Option.bind_some, ih (j + 1) _ (fun i h1 h2 => h i (by omega) (by omega)), List.range'_succ, List.map_cons]
  simp
theorem permOf_fits {l : List Int} (hl : Bytes l) {s : Nat} (hs : s ≤ 256) {q : List Int} (h : permOf l s = some q) : q.length = s ∧ Fits q ∧ ∃ ds u, dr l (boundsL s) 0 = some (ds, u) ∧ Valid (boundsL s) ds ∧ fromL (iota s) (s - 1) ds = q ∧ drawsL q (iota s) (s - 1) = ds := by
 unfold permOf at h
 obtain ⟨⟨ds, u⟩, h1, rfl⟩ := Option.map_eq_some_iff.1 h
 have hv := dr_valid l hl (boundsL s) 0 (boundsL_ok s hs) (by omega) _ h1
 simp only at hv
 obtain ⟨f1, f2⟩ := boundsL_fit hv
 simp only [fromL_len, iota_len]
 by_cases h0 : s = 0
 ·subst h0
  obtain rfl := List.eq_nil_of_length_eq_zero f1
  exact ⟨trivial, ⟨by simp [fromL, iota], by simp [fromL, iota]⟩, [], u, h1, hv, rfl, rfl⟩
 ·have := draws_from (s - 1) ds (iota s) f1 (by rw [show ((s - 1 : Nat) : Int) + 1 = (s : Int) by omega]; exact f2) (fits_iota _) (by rw [iota_len]; omega)
  exact ⟨trivial, this.1, ds, u, h1, hv, rfl, this.2.2⟩
structure Lay (p : List Int) (n c : Nat) (ds : List Int) (P : List (Nat × Int)) (own : List (List Int)) : Prop where
 long : 18 ≤ p.length
 most : n ≤ 256
 one : 1 ≤ c
 chunks : c ≤ 64
 draws : ∃ u, dr (braidOf p) (bnd n) 0 = some (ds, u)
 good : Good (sz n c) ds P
 owns : permsG (fun j => permOf (piece (restOf p) (qOf p c) j) (szf n c j)) c 0 [] = some own
theorem bytes_sub {p q : List Int} (h : Bytes p) (hs : q.Sublist p) : Bytes q := fun x hx => h x (hs.subset hx)
theorem bytes_braid {p : List Int} (h : Bytes p) : Bytes (braidOf p) := bytes_sub h ((List.take_sublist _ _).trans (List.drop_sublist _ _))
theorem bytes_rest {p : List Int} (h : Bytes p) : Bytes (restOf p) := bytes_sub h ((List.drop_sublist _ _).trans (List.drop_sublist _ _))
theorem bytes_piece {p : List Int} (h : Bytes p) (q j : Nat) : Bytes (piece (restOf p) q j) := bytes_sub (bytes_rest h) ((List.drop_sublist _ _).trans (List.take_sublist _ _))
theorem braid_le (p : List Int) : (braidOf p).length ≤ p.length := by unfold braidOf; rw [List.length_take, List.length_drop]; omega
theorem piece_le (p : List Int) (q j : Nat) : (piece (restOf p) q j).length ≤ p.length := by
 unfold piece restOf
 rw [List.length_drop, List.length_take, List.length_drop, List.length_drop]
 omega
theorem pieces_rd (l : List Int) (q c j : Nat) (h : j < c) : (pieces l q c).getD j [] = piece l q j := by simp [pieces, h]
theorem pieces_len (l : List Int) (q c : Nat) : (pieces l q c).length = c := by simp [pieces]
theorem Lay.own {p : List Int} (hp : Bytes p) {n c : Nat} {ds : List Int} {P : List (Nat × Int)} {own : List (List Int)} (h : Lay p n c ds P own) :
  own.length = c ∧ ∀ j, j < c → permOf (piece (restOf p) (qOf p c) j) (szf n c j) = some (own.getD j []) ∧ (own.getD j []).length = szf n c j ∧ Fits (own.getD j []) := by
 obtain ⟨h1, _, h3⟩ := permsG_some _ c 0 [] own rfl h.owns
 refine ⟨by omega, fun j hj => ?_⟩
 have e := h3 j (by omega) (by omega)
 have hj' : j < own.length := by omega
 have e2 : own[j]? = some (own.getD j []) := by rw [List.getD_eq_getElem?_getD, List.getElem?_eq_getElem hj', Option.getD_some]
 rw [e2] at e
 obtain ⟨f1, f2, _⟩ := permOf_fits (bytes_piece hp _ _) (szf_le n c j h.most h.one) e.symm
 exact ⟨e.symm, f1, f2⟩
theorem perm_step_ok {l : List Int} (hl : Bytes l) (hle : l.length ≤ 140737488351232) (s : Nat) (hs : s ≤ 256) {q : List Int} (h : permOf l s = some q) :
  ∃ ds u, draw_All.f l (boundsL s) = some (ds, u, 0) ∧ Ev (fun k => perm_From.f k (s : Int) ds) (q, 0) := by
 obtain ⟨h1, h2, ds, u, h3, h4, h5, h6⟩ := permOf_fits hl hs h
 obtain ⟨f1, f2⟩ := boundsL_fit h4
 refine ⟨ds, (u : Int), ?_, ev_to (from_ev (s : Int) ds (by omega) (by omega)) ?_⟩
 ·rw [drw_fA l _ hl hle (by rw [boundsL_len]; omega), drA_some (boundsL_ok s hs) h3]
 ·unfold fromA
  have hm : ((ds.length : Nat) : Int) = mx ((s : Int) - 1) 0 := by unfold mx; split <;> omega
  rw [if_neg (by omega), if_pos ⟨hm, f2⟩, Int.toNat_natCast, h5]
theorem perm_step_no {l : List Int} (hl : Bytes l) (hle : l.length ≤ 140737488351232) (s : Nat) (hs : s ≤ 256) (h : permOf l s = none) : draw_All.f l (boundsL s) = some ([], 0, 3) := by
 unfold permOf at h
 rw [drw_fA l _ hl hle (by rw [boundsL_len]; omega), drA_none (boundsL_ok s hs) (Option.map_eq_none_iff.1 h)]
theorem bounds_ev' (s : Nat) (hs : s ≤ 256) : Ev (fun k => perm_Bounds.f k (s : Int)) (boundsL s) := by
 have := bounds_ev (s : Int) (by omega)
 rwa [Int.toNat_natCast] at this
theorem sz_bounds (n c j : Nat) (hn : n ≤ 256) (h1 : 1 ≤ c) (hc : c ≤ 64) : 0 ≤ psum (sz n c) j ∧ psum (sz n c) j ≤ n := by
 have ok := sz_ok n c hn h1 hc
 have := psum_total ok.nonneg j
 rw [sz_total n c h1] at this
 exact ⟨psum_nonneg ok.nonneg j, this⟩
theorem sz_rd (n c j : Nat) (hj : j < c) : rd (sz n c) (j : Int) = (szf n c j : Int) := tab_rd _ _ j hj
theorem read_loop {p : List Int} (hp : Bytes p) (hl : p.length ≤ 140737488351232) (n c : Nat) (hn : n ≤ 256) (h1 : 1 ≤ c) (hc : c ≤ 64) (ds : List Int)
  {R : List (List Int) → List Int × List Int × List (List Int) × List Int × List Int × List Int × List Int × List (List Int) × Int}
  (hR : ∀ own, permsG (fun j => permOf (piece (restOf p) (qOf p c) j) (szf n c j)) c 0 [] = some own → Ev (fun k => (braid_Pattern.f k (sz n c) ds).bind fun bt228 => (some (noiseOf p, braidOf p, pieces (restOf p) (qOf p c) c, sz n c, (tab c fun j => psum (sz n c) j), bt228.1, bt228.2.1, own, bt228.2.2))) (R own)) :
  ∀ (d j : Nat) (L : List (List Int)), j + d = c → L.length = j → permsG (fun j => permOf (piece (restOf p) (qOf p c) j) (szf n c j)) c 0 [] = permsG (fun j => permOf (piece (restOf p) (qOf p c) j) (szf n c j)) d j L →
  Ev (fun k => riffle_read.l0 k L ds (psum (sz n c) j) (sz n c) (c : Int) (j : Int) (noiseOf p) (braidOf p) (pieces (restOf p) (qOf p c) c) (sz n c) (tab j fun j => psum (sz n c) j))
   (match permsG (fun j => permOf (piece (restOf p) (qOf p c) j) (szf n c j)) d j L with | some own => R own | none => ([], [], [], [], [], [], [], [], 3)) := by
 intro d
 induction d with
 | zero =>
  intro j L hj hL hg
  obtain rfl : j = c := by omega
  rw [hg] at hR
  rw [permsG] at hR ⊢
  exact Ev.step (fun k => by rw [riffle_read.l0, if_neg (by omega)]) (hR L rfl)
 | succ d ih =>
  intro j L hj hL hg
  rw [hg] at hR ih
  rw [permsG] at hR ih ⊢
  have hjc : j < c := by omega
  have hs := szf_le n c j hn h1
  have hsl := sz_len n c
  have htl := tab_len j fun j => psum (sz n c) j
  have hpb := sz_bounds n c j hn h1 hc
  have hrd := sz_rd n c j hjc
  have hps : psum (sz n c) (j + 1) = psum (sz n c) j + (szf n c j : Int) := by rw [psum_succ _ j (by omega), sz_get n c j hjc]
  have hby := bytes_piece hp (qOf p c) j
  have hpl := piece_le p (qOf p c) j
  have hpp : rd_L3 (pieces (restOf p) (qOf p c) c) (j : Int) = piece (restOf p) (qOf p c) j := pieces_rd _ _ _ _ hjc
  have hplen := pieces_len (restOf p) (qOf p c) c
  refine Ev.step (fun k => by rw [riffle_read.l0, if_pos (by omega), if_pos (by omega), if_pos (by omega), if_pos (by omega), if_pos (by omega), hrd]) (ev_bind (bounds_ev' _ hs) ?_)
  cases hq : permOf (piece (restOf p) (qOf p c) j) (szf n c j) with
  | none =>
   refine ev_bind0 (a := ([], 0, 3)) (by
    show draw_All.f ((pieces (restOf p) (qOf p c) c).getD j []) _ = _
    rw [pieces_rd _ _ _ _ hjc]
    exact perm_step_no hby (by omega) _ hs hq) (ev_neg (by decide) (Ev.now _))
  | some q =>
   obtain ⟨es, u, e1, e2⟩ := perm_step_ok hby (by omega) _ hs hq
   refine ev_bind0 (a := (es, u, 0)) (by
    show draw_All.f ((pieces (restOf p) (qOf p c) c).getD j []) _ = _
    rw [pieces_rd _ _ _ _ hjc]
    exact e1) (ev_pos rfl (ev_bind e2 (ev_pos rfl (ev_pos (by omega) ?_))))
   rw [w64 (x := psum (sz n c) j + (szf n c j : Int)) (by omega) (by omega), w64 (x := (j : Int) + 1) (by omega) (by omega), ← hps]
   have := ih (j + 1) (L ++ [q]) (by omega) (by simp [hL]) (by rw [hq]; rfl)
   rw [tab_succ] at this
   exact this
theorem splitS_ok {p : List Int} {c : Nat} (h : 18 ≤ p.length) (h1 : 1 ≤ c) (hc : c ≤ 64) : splitS p (c : Int) = (noiseOf p, braidOf p, pieces (restOf p) (qOf p c) c, 0) := by
 unfold splitS
 rw [if_neg (by omega), if_neg (by omega), Int.toNat_natCast]
theorem read_bad (p : List Int) (n m : Int) (h : ¬ (0 ≤ n ∧ n ≤ 256 ∧ 1 ≤ m ∧ m ≤ 64)) : Ev (fun k => riffle_read.f k p n m) ([], [], [], [], [], [], [], [], 2) := by
 unfold riffle_read.f
 exact ev_bind (sizes_bad n m h) (ev_neg (by decide) (Ev.now _))
theorem sz_fit {n c : Nat} (hn : n ≤ 256) (h1 : 1 ≤ c) (hc : c ≤ 64) {ds : List Int} (h : Valid (bnd n) ds) : ∃ P, Good (sz n c) ds P := by
 refine Good.exists (bnd_okD (sz_ok n c hn h1 hc) ?_)
 rw [sz_total n c h1, Int.toNat_natCast]
 exact h
theorem read_ev {p : List Int} (hp : Bytes p) (hl : p.length ≤ 140737488351232) (n c : Nat) (hn : n ≤ 256) (h1 : 1 ≤ c) (hc : c ≤ 64) :
  (∃ ds P own, Lay p n c ds P own ∧ Ev (fun k => riffle_read.f k p n c) (noiseOf p, braidOf p, pieces (restOf p) (qOf p c) c, sz n c, (tab c fun j => psum (sz n c) j), fsts P, allOff c P, own, 0)) ∨
  ((¬ ∃ ds P own, Lay p n c ds P own) ∧ Ev (fun k => riffle_read.f k p n c) ([], [], [], [], [], [], [], [], 3)) := by
 by_cases h18 : p.length < 18
 ·refine .inr ⟨fun ⟨_, _, _, h⟩ => by have := h.long; omega, ?_⟩
  unfold riffle_read.f
  refine ev_bind (sizes_good n c hn h1 hc) (ev_pos rfl (ev_bind (split_ev p c hl) ?_))
  unfold splitS
  rw [if_neg (by omega), if_pos h18]
  exact ev_neg (by decide) (Ev.now _)
 have hbl := braid_le p
 have hD := drw_fA (braidOf p) (bnd n) (bytes_braid hp) (by omega) (by rw [bnd_len]; omega)
 have start : ∀ R, Ev (fun k => (if (drA (braidOf p) (bnd n)).2.2 = 0 then (riffle_read.l0 k ([] : List (List Int)) (drA (braidOf p) (bnd n)).1 0 (sz n c) ((sz n c).length : Int) 0 (noiseOf p) (braidOf p) (pieces (restOf p) (qOf p c) c) (sz n c) ([] : List Int)) else (some (([] : List Int), ([] : List Int), ([] : List (List Int)), ([] : List Int), ([] : List Int), ([] : List Int), ([] : List Int), ([] : List (List Int)), (drA (braidOf p) (bnd n)).2.2)))) R → Ev (fun k => riffle_read.f k p n c) R := by
  intro R hR
  unfold riffle_read.f
  refine ev_bind (sizes_good n c hn h1 hc) (ev_pos rfl (ev_bind (split_ev p c hl) ?_))
  rw [splitS_ok (by omega) h1 hc]
  exact ev_pos rfl (ev_bind (bounds_good n hn) (ev_bind0 hD hR))
 cases hd : dr (braidOf p) (bnd n) 0 with
 | none =>
  refine .inr ⟨fun ⟨_, _, _, h⟩ => ?_, start _ ?_⟩
  ·obtain ⟨u, hu⟩ := h.draws
   rw [hd] at hu
   exact absurd hu (by simp)
  ·rw [drA_none (bnd_ok n hn) hd]
   exact ev_neg (by decide) (Ev.now _)
 | some r =>
  obtain ⟨ds, u⟩ := r
  have hv := dr_valid _ (bytes_braid hp) (bnd n) 0 (bnd_ok n hn) (by omega) _ hd
  obtain ⟨P, g⟩ := sz_fit hn h1 hc hv
  have key := read_loop hp hl n c hn h1 hc ds (R := fun own => (noiseOf p, braidOf p, pieces (restOf p) (qOf p c) c, sz n c, (tab c fun j => psum (sz n c) j), fsts P, allOff c P, own, 0))
   (fun own _ => ev_bind g.pattern (ev_some (by rw [sz_len]))) c 0 [] (by omega) rfl rfl
  have key' := start _ (by
   rw [drA_some (bnd_ok n hn) hd, sz_len]
   exact ev_pos rfl key)
  cases ho : permsG (fun j => permOf (piece (restOf p) (qOf p c) j) (szf n c j)) c 0 [] with
  | none =>
   rw [ho] at key'
   refine .inr ⟨fun ⟨_, _, _, h⟩ => ?_, key'⟩
   have := h.owns
   rw [ho] at this
   exact absurd this (by simp)
  | some own =>
   rw [ho] at key'
   exact .inl ⟨ds, P, own, ⟨by omega, hn, h1, hc, ⟨u, hd⟩, g, ho⟩, key'⟩
end Go.Proofs.Ytbnifpfnjhdenaa.Pl
end
section
set_option linter.unusedVariables false
set_option linter.unusedSimpArgs false
namespace Go.Proofs.Ytbnifpfnjhdenaa.Pl
open Go.RowKit Go.Proofs.Ytbnifpfnjhdenaa.Q Go.Proofs.YtbnifpfnjhdenaaW.PrintWords Go.Proofs.YtbnifpfnjhdenaaW.PrintLast Go.Proofs.Ytbnifpfnjhdenaa.Pure
def ordAt (C : List Nat) (p : Nat → Int) (own : List (List Int)) (i : Nat) : Int := p (C.getD i 0) + rd (own.getD (C.getD i 0) []) (cn C (C.getD i 0) i : Int)
def ordL (C : List Nat) (p : Nat → Int) (own : List (List Int)) : List Int := tab C.length (ordAt C p own)
theorem ordL_len (C : List Nat) (p : Nat → Int) (own : List (List Int)) : (ordL C p own).length = C.length := tab_len _ _
theorem ordL_rd (C : List Nat) (p : Nat → Int) (own : List (List Int)) (i : Nat) (h : i < C.length) : rd (ordL C p own) (i : Int) = ordAt C p own i := tab_rd _ _ i h
theorem vis_cnt (j : Nat) (P : List (Nat × Int)) : (vis j P).length = (P.map (·.1)).count j := by
 unfold vis
 rw [List.length_map, ← List.countP_eq_length_filter, List.count_eq_countP, List.countP_map]
 rfl
theorem fsts_int (P : List (Nat × Int)) : fsts P = ints (P.map (·.1)) := by simp [fsts, ints]
theorem cn_get (C : List Nat) (i : Nat) (h : i < C.length) : C.getD i 0 = C[i] := by rw [List.getD_eq_getElem?_getD, List.getElem?_eq_getElem h, Option.getD_some]
structure PatC (C : List Nat) (n c : Nat) : Prop where
 len : C.length = n
 lt : ∀ j ∈ C, j < c
 cnt : ∀ j, j < c → C.count j = szf n c j
theorem Good.patC {n c : Nat} {ds : List Int} {P : List (Nat × Int)} (h1 : 1 ≤ c) (g : Good (sz n c) ds P) : PatC (P.map (·.1)) n c := by
 have hle := g.le
 have hl := g.len
 rw [sz_total n c h1] at hl
 refine ⟨by rw [List.length_map]; omega, fun j hj => ?_, fun j hj => ?_⟩
 ·obtain ⟨x, hx, rfl⟩ := List.mem_map.1 hj
  have := g.pat.range x hx
  rwa [sz_len] at this
 ·have := g.pat.count g.sizes.nonneg g.len.symm j (by rw [sz_len]; exact hj)
  rw [← vis_cnt]
  have e : (sz n c).getD j 0 = (szf n c j : Int) := by rw [← rd_nat, sz_rd n c j hj]
  omega
theorem PatC.at_ {C : List Nat} {n c : Nat} (h : PatC C n c) (i : Nat) (hi : i < n) : C.getD i 0 < c ∧ cn C (C.getD i 0) i < szf n c (C.getD i 0) := by
 have hl := h.len
 rw [cn_get C i (by omega)]
 have h1 := h.lt _ (List.getElem_mem (show i < C.length by omega))
 have h2 := cn_lt C i (by omega)
 rw [h.cnt _ h1] at h2
 exact ⟨h1, h2⟩
theorem ordAt_bounds {p : List Int} (hp : Bytes p) {n c : Nat} {ds : List Int} {P : List (Nat × Int)} {own : List (List Int)} (h : Lay p n c ds P own) (i : Nat) (hi : i < n) :
  ∃ o : Int, ordAt (P.map (·.1)) (psum (sz n c)) own i = psum (sz n c) ((P.map (·.1)).getD i 0) + o ∧ rd (own.getD ((P.map (·.1)).getD i 0) []) (cn (P.map (·.1)) ((P.map (·.1)).getD i 0) i : Int) = o ∧ 0 ≤ o ∧ o < szf n c ((P.map (·.1)).getD i 0) := by
 obtain ⟨h1, h2⟩ := (h.good.patC h.one).at_ i hi
 obtain ⟨_, w⟩ := h.own hp
 obtain ⟨_, w2, w3⟩ := w _ h1
 have := fits_rd w3 _ (by rw [w2]; exact h2)
 rw [w2] at this
 exact ⟨_, rfl, rfl, this.1, this.2⟩
theorem Lay.lens {p : List Int} {n c : Nat} {ds : List Int} {P : List (Nat × Int)} {own : List (List Int)} (h : Lay p n c ds P own) : P.length = n ∧ (P.map (·.1)).length = n ∧ ds.length = n := by
 have := (h.good.patC h.one).len
 have hle := h.good.le
 rw [List.length_map] at this
 exact ⟨this, by rw [List.length_map]; exact this, by omega⟩
theorem ordL_fits {p : List Int} (hp : Bytes p) {n c : Nat} {ds : List Int} {P : List (Nat × Int)} {own : List (List Int)} (h : Lay p n c ds P own) : Fits (ordL (P.map (·.1)) (psum (sz n c)) own) := by
 have hl := h.lens.2.1
 have hC := h.good.patC h.one
 have ok := h.good.sizes
 have hown := h.own hp
 have hz := sz_len n c
 refine fits_of_rd (fun m hm => ?_) (fun i j hi hj e => ?_)
 ·rw [ordL_len, hl] at hm
  rw [ordL_rd _ _ _ m (by omega), ordL_len, hl]
  obtain ⟨o, e, _, o0, o1⟩ := ordAt_bounds hp h m hm
  have hc := (hC.at_ m hm).1
  rw [e]
  have a1 := psum_succ (sz n c) _ (show (P.map (·.1)).getD m 0 < (sz n c).length by rw [hz]; exact hc)
  rw [sz_get n c _ hc] at a1
  have a2 := sz_bounds n c ((P.map (·.1)).getD m 0) h.most h.one h.chunks
  have a3 := sz_bounds n c ((P.map (·.1)).getD m 0 + 1) h.most h.one h.chunks
  omega
 ·rw [ordL_len, hl] at hi hj
  rw [ordL_rd _ _ _ i (by omega), ordL_rd _ _ _ j (by omega)] at e
  obtain ⟨o, e1, r1, o0, o1⟩ := ordAt_bounds hp h i hi
  obtain ⟨q, e2, r2, q0, q1⟩ := ordAt_bounds hp h j hj
  have ci := hC.at_ i hi
  have cj := hC.at_ j hj
  rw [e1, e2] at e
  obtain ⟨u1, u2⟩ := place_unique ok.nonneg (by rw [hz]; exact ci.1) (by rw [hz]; exact cj.1) o0 (by rw [sz_get n c _ ci.1]; exact o1) q0 (by rw [sz_get n c _ cj.1]; exact q1) e
  obtain ⟨_, w2, w3⟩ := hown.2 _ ci.1
  rw [← r1, ← r2, ← u1] at u2
  have u3 := fits_rd_inj w3 _ _ (by rw [w2]; exact ci.2) (by rw [w2, u1]; exact cj.2) u2
  generalize hD : (P.map (·.1)) = C at *
  have key : ∀ a b : Nat, a < n → b < n → C.getD a 0 = C.getD b 0 → cn C (C.getD a 0) a = cn C (C.getD a 0) b → ¬ a < b := by
   intro a b ha hb hab hcn hlt
   have s1 := cn_at C a (by omega)
   rw [cn_get C a (by omega)] at hcn
   have s2 := cn_mono C C[a] (a + 1) b hlt
   omega
  have k1 := key i j hi hj u1 u3
  have k2 := key j i hj hi u1.symm (by rw [← u1]; exact u3.symm)
  omega
theorem order_loop {p : List Int} (hp : Bytes p) {n c : Nat} {ds : List Int} {P : List (Nat × Int)} {own : List (List Int)} (h : Lay p n c ds P own) (y0 y1 : List Int) (y2 : List (List Int)) (y3 : List Int) :
  ∀ (d i : Nat), i + d = n → Ev (fun k => riffle_Order.l0 k own (tab c fun j => (cn (P.map (·.1)) j i : Int)) (tab n fun t => if t < i then ordAt (P.map (·.1)) (psum (sz n c)) own t else 0) (fsts P) ((fsts P).length : Int) (i : Int) y0 y1 y2 y3 (tab c fun j => psum (sz n c) j))
   (ordL (P.map (·.1)) (psum (sz n c)) own, 0) := by
 have hl := h.lens
 have hC := h.good.patC h.one
 have hown := h.own hp
 have hfl : (fsts P).length = n := by simp [fsts]; exact hl.1
 have hcc := h.chunks
 have hn := h.most
 intro d
 induction d with
 | zero =>
  intro i hi
  obtain rfl : i = n := by omega
  have e : (tab i fun t => if t < i then ordAt (P.map (·.1)) (psum (sz i c)) own t else 0) = ordL (P.map (·.1)) (psum (sz i c)) own := by
   unfold ordL
   rw [hl.2.1]
   exact tab_congr _ _ _ fun j hj => by rw [if_pos hj]
  rw [e]
  exact Ev.step (f := fun _ => some (ordL (P.map (·.1)) (psum (sz i c)) own, 0)) (fun k => by rw [riffle_Order.l0, if_neg (by omega)]) (Ev.now _)
 | succ d ih =>
  intro i hi
  have hin : i < n := by omega
  obtain ⟨c1, c2⟩ := hC.at_ i hin
  obtain ⟨o, e1, r1, o0, o1⟩ := ordAt_bounds hp h i hin
  obtain ⟨_, w2, w3⟩ := hown.2 _ c1
  have hr : rd (fsts P) (i : Int) = (((P.map (·.1)).getD i 0 : Nat) : Int) := by
   rw [fsts_int, ints_rd _ i (by omega), cn_get _ i (by omega)]
  have hcs : ∀ j, cn (P.map (·.1)) j (i + 1) = cn (P.map (·.1)) j i + if j = (P.map (·.1)).getD i 0 then 1 else 0 := fun j => by
   rw [cn_succ _ j i (by omega), cn_get _ i (by omega)]
  generalize hj : (P.map (·.1)).getD i 0 = j at *
  have t1 := tab_len c fun j => (cn (P.map (·.1)) j i : Int)
  have t2 := tab_len c fun j => psum (sz n c) j
  have t3 := tab_len n fun t => if t < i then ordAt (P.map (·.1)) (psum (sz n c)) own t else 0
  have g1 : rd (tab c fun j => (cn (P.map (·.1)) j i : Int)) (j : Int) = (cn (P.map (·.1)) j i : Int) := tab_rd _ _ j c1
  have g2 : rd (tab c fun j => psum (sz n c) j) (j : Int) = psum (sz n c) j := tab_rd _ _ j c1
  have pb := sz_bounds n c j h.most h.one h.chunks
  have sl := szf_le n c j h.most h.one
  have ho : rd_L3 own (j : Int) = own.getD j [] := rfl
  have hcl := cn_len (P.map (·.1)) j i
  refine Ev.step (fun k => ?_) (ih (i + 1) (by omega))
  rw [riffle_Order.l0, if_pos (by omega), if_pos (by omega), if_pos (by omega), hr, if_pos (by omega), if_pos (by omega), if_pos (by omega), if_pos (by omega), g1, if_pos (by omega), ho, if_pos (by omega), if_pos (by omega), g2, r1, Int.toNat_natCast, Int.toNat_natCast, w64 (x := (cn (P.map (·.1)) j i : Int) + 1) (by omega) (by omega), w64 (x := psum (sz n c) j + o) (by omega) (by omega), w64 (x := (i : Int) + 1) (by omega) (by omega), tab_set, tab_set, ← e1]
  have q1 : (tab c fun t => if t = j then (cn (P.map (·.1)) j i : Int) + 1 else (cn (P.map (·.1)) t i : Int)) = tab c fun j => (cn (P.map (·.1)) j (i + 1) : Int) := tab_congr _ _ _ fun t ht => by
   rw [hcs t]
   by_cases e : t = j
   ·rw [if_pos e, if_pos e, e]; omega
   ·rw [if_neg e, if_neg e]; omega
  have q2 : (tab n fun t => if t = i then ordAt (P.map (·.1)) (psum (sz n c)) own i else if t < i then ordAt (P.map (·.1)) (psum (sz n c)) own t else 0) = tab n fun t => if t < i + 1 then ordAt (P.map (·.1)) (psum (sz n c)) own t else 0 := tab_congr _ _ _ fun t ht => by
   by_cases e : t = i
   ·rw [if_pos e, if_pos (by omega), e]
   ·rw [if_neg e]
    by_cases e2 : t < i
    ·rw [if_pos e2, if_pos (by omega)]
    ·rw [if_neg e2, if_neg (by omega)]
  rw [q1, q2]
  rfl
theorem tab_zero (n : Nat) : List.replicate n (0 : Int) = tab n fun _ => 0 := by
 apply List.ext_getElem
 ·simp [tab]
 ·intro i h1 h2; simp [tab]
theorem order_bad (p : List Int) (n m : Int) (h : ¬ (0 ≤ n ∧ n ≤ 256 ∧ 1 ≤ m ∧ m ≤ 64)) : Ev (fun k => riffle_Order.f k p n m) ([], 2) := by
 unfold riffle_Order.f
 exact ev_bind (read_bad p n m h) (ev_neg (by decide) (Ev.now _))
theorem Lay.order {p : List Int} (hp : Bytes p) {n c : Nat} {ds : List Int} {P : List (Nat × Int)} {own : List (List Int)} (h : Lay p n c ds P own)
  (hr : Ev (fun k => riffle_read.f k p n c) (noiseOf p, braidOf p, pieces (restOf p) (qOf p c) c, sz n c, (tab c fun j => psum (sz n c) j), fsts P, allOff c P, own, 0)) : Ev (fun k => riffle_Order.f k p n c) (ordL (P.map (·.1)) (psum (sz n c)) own, 0) := by
 unfold riffle_Order.f
 have hz := sz_len n c
 have hn := h.most
 have hc := h.chunks
 refine ev_bind hr (ev_pos rfl (ev_pos (show (0 : Int) ≤ ((sz n c).length : Int) by omega) (ev_pos (show (((sz n c).length : Int) : Int).toNat ≤ 35184372088832 by omega) (ev_pos (show (0 : Int) ≤ (n : Int) by omega) (ev_pos (show ((n : Int) : Int).toNat ≤ 35184372088832 by omega) ?_)))))
 have := order_loop hp h (noiseOf p) (braidOf p) (pieces (restOf p) (qOf p c) c) (sz n c) n 0 (by omega)
 rw [hz, Int.toNat_natCast, Int.toNat_natCast, tab_zero, tab_zero]
 have e1 : (tab c fun j => (cn (P.map (·.1)) j 0 : Int)) = tab c fun _ => 0 := tab_congr _ _ _ fun j _ => by rw [cn_zero]; rfl
 have e2 : (tab n fun t => if t < 0 then ordAt (P.map (·.1)) (psum (sz n c)) own t else 0) = tab n fun _ => 0 := tab_congr _ _ _ fun j _ => by rw [if_neg (by omega)]
 rw [e1, e2] at this
 exact this
theorem order_ev {p : List Int} (hp : Bytes p) (hl : p.length ≤ 140737488351232) (n c : Nat) (hn : n ≤ 256) (h1 : 1 ≤ c) (hc : c ≤ 64) :
  (∃ ds P own, Lay p n c ds P own ∧ Ev (fun k => riffle_Order.f k p n c) (ordL (P.map (·.1)) (psum (sz n c)) own, 0)) ∨
  ((¬ ∃ ds P own, Lay p n c ds P own) ∧ Ev (fun k => riffle_Order.f k p n c) ([], 3)) := by
 rcases read_ev hp hl n c hn h1 hc with ⟨ds, P, own, h, e⟩ | ⟨h, e⟩
 ·exact .inl ⟨ds, P, own, h, h.order hp e⟩
 ·refine .inr ⟨h, ?_⟩
  unfold riffle_Order.f
  exact ev_bind e (ev_neg (by decide) (Ev.now _))
theorem Lay.same {p : List Int} {n c : Nat} {ds es : List Int} {P Q : List (Nat × Int)} {own won : List (List Int)} (h : Lay p n c ds P own) (h' : Lay p n c es Q won) : ds = es ∧ P = Q ∧ own = won := by
 obtain ⟨u, hu⟩ := h.draws
 obtain ⟨v, hv⟩ := h'.draws
 rw [hu] at hv
 simp only [Option.some.injEq, Prod.mk.injEq] at hv
 have e := h.owns
 rw [h'.owns] at e
 exact ⟨hv.1, h.good.same h'.good hv.1, (Option.some.inj e).symm⟩
end Go.Proofs.Ytbnifpfnjhdenaa.Pl
end
section
set_option linter.unusedVariables false
set_option linter.unusedSimpArgs false
namespace Go.Proofs.Ytbnifpfnjhdenaa.Pure
open Go.RowKit Go.Proofs.Ytbnifpfnjhdenaa.Q Go.Proofs.YtbnifpfnjhdenaaW.PrintWords Go.Proofs.YtbnifpfnjhdenaaW.PrintLast Go.Proofs.Ytbnifpfnjhdenaa.Pl
theorem ext_tail {a b : List Int} (hl : a.length = b.length) (n : Nat) (h1 : ∀ i, i < n → rd a (i : Int) = rd b (i : Int)) (h2 : ∀ i, n ≤ i → rd a (i : Int) = rd b (i : Int)) : a = b :=
 ext_rd hl fun i _ => by
  by_cases c : i < n
  ·exact h1 i c
  ·exact h2 i (by omega)
end Go.Proofs.Ytbnifpfnjhdenaa.Pure
end
section
set_option linter.unusedVariables false
set_option linter.unusedSimpArgs false
namespace Go.Proofs.Ytbnifpfnjhdenaa.Pl
open Go.RowKit Go.Proofs.Ytbnifpfnjhdenaa.Q Go.Proofs.YtbnifpfnjhdenaaW.PrintWords Go.Proofs.YtbnifpfnjhdenaaW.PrintLast Go.Proofs.Ytbnifpfnjhdenaa.Pure
def trn (p bs ws : List Int) : List Int := (turnA p bs ws).1
theorem trn_spec {p bs ws vs : List Int} {m : Nat} (hp : Bytes p) (hB : AllOk bs) (hV : Valid bs ws) (hr : dr p bs 0 = some (vs, m)) :
  turnA p bs ws = (trn p bs ws, 0) ∧ Bytes (trn p bs ws) ∧ (trn p bs ws).length = p.length ∧ Tn p (trn p bs ws) bs vs ws 0 m ∧ ∀ i : Nat, m ≤ i → rd (trn p bs ws) (i : Int) = rd p (i : Int) := by
 obtain ⟨q, eq, bq, lq, tq, sq⟩ := turnA_some p bs ws hp hB hV hr
 have e : trn p bs ws = q := by unfold trn; rw [eq]
 rw [e]
 exact ⟨eq, bq, lq, tq, sq⟩
theorem trn_dr {p bs ws vs : List Int} {m : Nat} (hp : Bytes p) (hB : AllOk bs) (hV : Valid bs ws) (hr : dr p bs 0 = some (vs, m)) : dr (trn p bs ws) bs 0 = some (ws, m) := by
 obtain ⟨_, bq, lq, tq, sq⟩ := trn_spec hp hB hV hr
 exact Tn.dr (Tn.back hp lq hB hV (by omega) tq)
theorem trn_back {p bs ws vs : List Int} {m : Nat} (hp : Bytes p) (hB : AllOk bs) (hV : Valid bs ws) (hr : dr p bs 0 = some (vs, m)) : trn (trn p bs ws) bs vs = p := by
 obtain ⟨_, bq, lq, tq, sq⟩ := trn_spec hp hB hV hr
 have back := Tn.back hp lq hB hV (by omega) tq
 have hv : Valid bs vs := dr_valid p hp bs 0 hB (by omega) _ hr
 have hm := dr_le p bs 0 (by omega) _ hr
 obtain ⟨_, b1, l1, t1, s1⟩ := trn_spec bq hB hv (trn_dr hp hB hV hr)
 exact ext_tail (by omega) m (fun i hi => Tn.same (by omega) t1 back i (by omega) hi) (fun i hi => by rw [s1 i hi, sq i hi])
theorem trn_on {p bs zs ws vs : List Int} {m : Nat} (hp : Bytes p) (hB : AllOk bs) (hz : Valid bs zs) (hV : Valid bs ws) (hr : dr p bs 0 = some (vs, m)) : trn (trn p bs zs) bs ws = trn p bs ws := by
 obtain ⟨_, b2, l2, t2, s2⟩ := trn_spec hp hB hz hr
 obtain ⟨_, b3, l3, t3, s3⟩ := trn_spec b2 hB hV (trn_dr hp hB hz hr)
 obtain ⟨_, bq, lq, tq, sq⟩ := trn_spec hp hB hV hr
 have ton := Tn.on hp l2 hB hz (by omega) t2 t3
 exact ext_tail (by omega) m (fun i hi => Tn.same (by omega) ton tq i (by omega) hi) (fun i hi => by rw [s3 i hi, s2 i hi, sq i hi])
theorem drw_trn {p bs ws vs : List Int} {m : Nat} (hp : Bytes p) (hl : p.length ≤ 140737488351232) (hbl : bs.length ≤ 17592186043904) (hB : AllOk bs) (hV : Valid bs ws) (hr : dr p bs 0 = some (vs, m)) : draw_Turn.f p bs ws = some (trn p bs ws, 0) := by
 rw [drw_turn_f p bs ws hp hl hbl, (trn_spec hp hB hV hr).1]
def mkk (p B F : List Int) : List Int := p.take 18 ++ (B ++ (F ++ (restOf p).drop F.length))
theorem len3 {p : List Int} (h : 18 ≤ p.length) : (p.take 18).length = 18 ∧ (braidOf p).length = (p.length - 18) / 2 ∧ 18 + (braidOf p).length + (restOf p).length = p.length := by
 have := restOf_len p
 have b : (braidOf p).length = (p.length - 18) / 2 := by unfold braidOf; rw [List.length_take, List.length_drop]; omega
 exact ⟨by rw [List.length_take]; omega, b, by omega⟩
theorem mkk_len {p B F : List Int} (h : 18 ≤ p.length) (hB : B.length = (braidOf p).length) (hF : F.length ≤ (restOf p).length) : (mkk p B F).length = p.length := by
 obtain ⟨h1, h2, h3⟩ := len3 h
 unfold mkk
 rw [List.length_append, List.length_append, List.length_append, List.length_drop, h1]
 omega
theorem mkk_noise {p B F : List Int} (h : 18 ≤ p.length) : (mkk p B F).take 18 = p.take 18 := by
 have h1 := (len3 h).1
 unfold mkk
 rw [List.take_append_of_le_length (by omega), List.take_of_length_le (by omega)]
theorem mkk_drop {p B F : List Int} (h : 18 ≤ p.length) : (mkk p B F).drop 18 = B ++ (F ++ (restOf p).drop F.length) := by
 have h1 := (len3 h).1
 unfold mkk
 rw [List.drop_append_of_le_length (by omega), List.drop_of_length_le (by omega), List.nil_append]
theorem mkk_braid {p B F : List Int} (h : 18 ≤ p.length) (hB : B.length = (braidOf p).length) (hF : F.length ≤ (restOf p).length) : braidOf (mkk p B F) = B := by
 obtain ⟨h1, h2, h3⟩ := len3 h
 have hl := mkk_len h hB hF
 unfold braidOf
 rw [hl, mkk_drop h, List.take_append_of_le_length (by omega), List.take_of_length_le (by omega)]
theorem mkk_rest {p B F : List Int} (h : 18 ≤ p.length) (hB : B.length = (braidOf p).length) (hF : F.length ≤ (restOf p).length) : restOf (mkk p B F) = F ++ (restOf p).drop F.length := by
 obtain ⟨h1, h2, h3⟩ := len3 h
 have hl := mkk_len h hB hF
 show ((mkk p B F).drop 18).drop (((mkk p B F).length - 18) / 2) = _
 rw [hl, mkk_drop h, List.drop_append_of_le_length (by omega), List.drop_of_length_le (by omega), List.nil_append]
theorem mkk_mkk {p B F B' F' : List Int} (h : 18 ≤ p.length) (hB : B.length = (braidOf p).length) (hF : F.length ≤ (restOf p).length) (hl : F'.length = F.length) : mkk (mkk p B F) B' F' = mkk p B' F' := by
 have e : (restOf (mkk p B F)).drop F'.length = (restOf p).drop F'.length := by
  rw [mkk_rest h hB hF, hl, List.drop_append_of_le_length (by omega), List.drop_of_length_le (by omega), List.nil_append]
 show (mkk p B F).take 18 ++ (B' ++ (F' ++ (restOf (mkk p B F)).drop F'.length)) = p.take 18 ++ (B' ++ (F' ++ (restOf p).drop F'.length))
 rw [mkk_noise h, e]
theorem mkk_self (p : List Int) (m : Nat) (h : 18 ≤ p.length) (hm : m ≤ (restOf p).length) : mkk p (braidOf p) ((restOf p).take m) = p := by
 have e : ((restOf p).take m).length = m := by rw [List.length_take]; omega
 unfold mkk
 rw [e, List.take_append_drop]
 unfold braidOf restOf
 rw [List.take_append_drop, List.take_append_drop]
theorem bytes_app {a b : List Int} (ha : Bytes a) (hb : Bytes b) : Bytes (a ++ b) := fun x hx => (List.mem_append.1 hx).elim (ha x) (hb x)
theorem mkk_bytes {p B F : List Int} (hp : Bytes p) (hB : Bytes B) (hF : Bytes F) : Bytes (mkk p B F) :=
 bytes_app (bytes_sub hp (List.take_sublist _ _)) (bytes_app hB (bytes_app hF (bytes_sub (bytes_rest hp) (List.drop_sublist _ _))))
theorem cpy_at {F y T : List Int} {off : Nat} (ho : off = F.length) (hy : y.length ≤ T.length) : cpy (F ++ T) off y = F ++ (y ++ T.drop y.length) ∧ cpn (F ++ T) off y = y.length := by
 subst ho
 have e : y.take ((F ++ T).length - F.length) = y := List.take_of_length_le (by rw [List.length_append]; omega)
 unfold cpy cpn
 rw [e]
 refine ⟨?_, rfl⟩
 rw [List.take_append_of_le_length (by omega), List.take_of_length_le (by omega), List.drop_append, List.drop_of_length_le (by omega), List.nil_append, show F.length + y.length - F.length = y.length by omega]
theorem cpy_first {p B : List Int} (h : 18 ≤ p.length) (hB : B.length = (braidOf p).length) : cpy p 18 B = mkk p B [] ∧ cpn p 18 B = B.length := by
 obtain ⟨h1, h2, h3⟩ := len3 h
 have e : p = p.take 18 ++ p.drop 18 := (List.take_append_drop 18 p).symm
 have hd : (p.drop 18).length = p.length - 18 := by simp
 obtain ⟨c1, c2⟩ := cpy_at (F := p.take 18) (y := B) (T := p.drop 18) (off := 18) h1.symm (by omega)
 rw [← e] at c1 c2
 refine ⟨?_, c2⟩
 rw [c1, hB, h2]
 rfl
theorem cpy_next {p B F y : List Int} (h : 18 ≤ p.length) (hy : F.length + y.length ≤ (restOf p).length) : cpy (mkk p B F) (18 + B.length + F.length) y = mkk p B (F ++ y) ∧ cpn (mkk p B F) (18 + B.length + F.length) y = y.length := by
 have h1 := (len3 h).1
 have e : mkk p B F = (p.take 18 ++ (B ++ F)) ++ (restOf p).drop F.length := by unfold mkk; simp [List.append_assoc]
 obtain ⟨c1, c2⟩ := cpy_at (F := p.take 18 ++ (B ++ F)) (y := y) (T := (restOf p).drop F.length) (off := 18 + B.length + F.length) (by simp only [List.length_append, h1]; omega) (by rw [List.length_drop]; omega)
 rw [← e] at c1 c2
 refine ⟨?_, c2⟩
 rw [c1]
 unfold mkk
 rw [List.drop_drop, List.length_append]
 simp [List.append_assoc]
theorem piece_eq (l : List Int) (q j : Nat) : piece l q j = (l.drop (j * q)).take q := by
 unfold piece
 rw [List.drop_take, Nat.succ_mul, show j * q + q - j * q = q by omega]
theorem flat_len (q : Nat) : ∀ (R : List (List Int)), (∀ x ∈ R, x.length = q) → R.flatten.length = R.length * q
 | [], _ => by simp
 | x :: R, h => by
  rw [List.flatten_cons, List.length_append, flat_len q R (fun y hy => h y (List.mem_cons_of_mem _ hy)), h x List.mem_cons_self, List.length_cons, Nat.succ_mul]
  omega
theorem flat_piece (q : Nat) : ∀ (R : List (List Int)) (T : List Int) (j : Nat), (∀ x ∈ R, x.length = q) → j < R.length → piece (R.flatten ++ T) q j = R.getD j []
 | [], _, _, _, hj => by simp at hj
 | x :: R, T, j, h, hj => by
  have hx := h x List.mem_cons_self
  rw [piece_eq, List.flatten_cons, List.append_assoc]
  cases j with
  | zero =>
   rw [Nat.zero_mul, List.drop_zero, List.take_append_of_le_length (by omega), List.take_of_length_le (by omega)]
   rfl
  | succ j =>
   have ih := flat_piece q R T j (fun y hy => h y (List.mem_cons_of_mem _ hy)) (by simpa using hj)
   rw [piece_eq] at ih
   rw [Nat.succ_mul, List.drop_append, List.drop_of_length_le (by omega), List.nil_append, show j * q + q - x.length = j * q by omega, ih, List.getD_cons_succ]
theorem pieces_flat (l : List Int) (q : Nat) : ∀ c : Nat, c * q ≤ l.length → (pieces l q c).flatten = l.take (c * q)
 | 0, _ => by simp [pieces]
 | c + 1, h => by
  have e : (c + 1) * q = c * q + q := Nat.succ_mul _ _
  rw [pieces_succ, List.flatten_append, pieces_flat l q c (by omega), List.flatten_cons, List.flatten_nil, List.append_nil, piece_eq, e, List.take_add]
def tapeOf (p B : List Int) (R : List (List Int)) : List Int := mkk p B R.flatten
structure Fitting (p : List Int) (c : Nat) (B : List Int) (R : List (List Int)) : Prop where
 long : 18 ≤ p.length
 braid : B.length = (braidOf p).length
 num : R.length = c
 each : ∀ x ∈ R, x.length = qOf p c
theorem Fitting.flat {p B : List Int} {c : Nat} {R : List (List Int)} (h : Fitting p c B R) : R.flatten.length = c * qOf p c ∧ R.flatten.length ≤ (restOf p).length := by
 have := flat_len (qOf p c) R h.each
 rw [h.num] at this
 exact ⟨this, by rw [this]; exact qmul_le p c c (Nat.le_refl _)⟩
theorem mk_len {p B : List Int} {c : Nat} {R : List (List Int)} (h : Fitting p c B R) : (tapeOf p B R).length = p.length := mkk_len h.long h.braid h.flat.2
theorem mk_braid {p B : List Int} {c : Nat} {R : List (List Int)} (h : Fitting p c B R) : braidOf (tapeOf p B R) = B := mkk_braid h.long h.braid h.flat.2
theorem mk_q {p B : List Int} {c : Nat} {R : List (List Int)} (h : Fitting p c B R) : qOf (tapeOf p B R) c = qOf p c := by
 unfold qOf
 rw [restOf_len, restOf_len, mk_len h]
theorem mk_piece {p B : List Int} {c : Nat} {R : List (List Int)} (h : Fitting p c B R) (j : Nat) (hj : j < c) : piece (restOf (tapeOf p B R)) (qOf (tapeOf p B R) c) j = R.getD j [] := by
 rw [mk_q h]
 show piece (restOf (mkk p B R.flatten)) (qOf p c) j = _
 rw [mkk_rest h.long h.braid h.flat.2]
 exact flat_piece (qOf p c) R _ j h.each (by rw [h.num]; exact hj)
theorem mk_mk {p B B' : List Int} {c : Nat} {R R' : List (List Int)} (h : Fitting p c B R) (h' : Fitting p c B' R') : tapeOf (tapeOf p B R) B' R' = tapeOf p B' R' :=
 mkk_mkk h.long h.braid h.flat.2 (by rw [h.flat.1, h'.flat.1])
theorem mk_self {p : List Int} {c : Nat} (h : 18 ≤ p.length) : tapeOf p (braidOf p) (pieces (restOf p) (qOf p c) c) = p := by
 unfold tapeOf
 have hq := qmul_le p c c (Nat.le_refl _)
 rw [pieces_flat _ _ _ hq]
 exact mkk_self p _ h hq
theorem Fitting.on {p B B' : List Int} {c : Nat} {R R' : List (List Int)} (h : Fitting p c B R) (h' : Fitting p c B' R') : Fitting (tapeOf p B R) c B' R' :=
 ⟨by rw [mk_len h]; exact h.long, by rw [mk_braid h, h.braid, h'.braid], h'.num, fun x hx => by rw [mk_q h]; exact h'.each x hx⟩
open Classical in
noncomputable def chk (n c : Nat) (x : Int) : Nat := if h : ∃ j, j < c ∧ psum (sz n c) j ≤ x ∧ x < psum (sz n c) j + szf n c j then h.choose else 0
structure Fit3 (n c : Nat) : Prop where
 most : n ≤ 256
 one : 1 ≤ c
 chunks : c ≤ 64
theorem Lay.fit3 {p : List Int} {n c : Nat} {ds : List Int} {P : List (Nat × Int)} {own : List (List Int)} (h : Lay p n c ds P own) : Fit3 n c := ⟨h.most, h.one, h.chunks⟩
theorem Fit3.ok {n c : Nat} (h : Fit3 n c) : OkS (sz n c) := sz_ok n c h.most h.one h.chunks
theorem chk_spec {n c : Nat} (h : Fit3 n c) (x : Int) (h0 : 0 ≤ x) (h1 : x < n) : chk n c x < c ∧ psum (sz n c) (chk n c x) ≤ x ∧ x < psum (sz n c) (chk n c x) + szf n c (chk n c x) := by
 have hz := sz_len n c
 obtain ⟨j, hj, o, o0, o1, e⟩ := place_exists h.ok.nonneg x h0 (by rw [sz_total n c h.one]; exact h1)
 have hjc : j < c := by omega
 rw [sz_get n c j hjc] at o1
 have hex : ∃ j, j < c ∧ psum (sz n c) j ≤ x ∧ x < psum (sz n c) j + szf n c j := ⟨j, hjc, by omega, by omega⟩
 unfold chk
 rw [dif_pos hex]
 exact hex.choose_spec
theorem chk_unique {n c : Nat} (h : Fit3 n c) (x : Int) (h0 : 0 ≤ x) (h1 : x < n) (j : Nat) (hj : j < c) (hx0 : psum (sz n c) j ≤ x) (hx1 : x < psum (sz n c) j + szf n c j) : chk n c x = j := by
 obtain ⟨a, b, d⟩ := chk_spec h x h0 h1
 have hz := sz_len n c
 exact (place_unique h.ok.nonneg (i := chk n c x) (j := j) (o := x - psum (sz n c) (chk n c x)) (p := x - psum (sz n c) j) (by omega) (by omega) (by omega) (by rw [sz_get n c _ a]; omega) (by omega) (by rw [sz_get n c _ hj]; omega) (by omega)).1
noncomputable def chOf (n c : Nat) (w : List Int) : List Nat := w.map (chk n c)
noncomputable def ownOf (n c : Nat) (w : List Int) (j : Nat) : List Int := (w.filter fun x => chk n c x == j).map fun x => x - psum (sz n c) j
theorem ownOf_append (n c : Nat) (a b : List Int) (j : Nat) : ownOf n c (a ++ b) j = ownOf n c a j ++ ownOf n c b j := by simp [ownOf]
theorem ownOf_one (n c : Nat) (x : Int) (j : Nat) : ownOf n c [x] j = if chk n c x = j then [x - psum (sz n c) j] else [] := by
 unfold ownOf
 by_cases h : chk n c x = j
 ·rw [if_pos h]; simp [h]
 ·rw [if_neg h]; simp [h]
theorem ownOf_len (n c : Nat) (w : List Int) (j : Nat) : (ownOf n c w j).length = (chOf n c w).count j := by
 unfold ownOf chOf
 rw [List.length_map, ← List.countP_eq_length_filter, List.count_eq_countP, List.countP_map]
 rfl
theorem ownOf_le (n c : Nat) (w : List Int) (j : Nat) : (ownOf n c w j).length ≤ w.length := by
 unfold ownOf
 rw [List.length_map]
 exact List.length_filter_le _ _
theorem nodup_sub_len : ∀ (a l : List Int), a.Nodup → (∀ x ∈ a, x ∈ l) → a.length ≤ l.length
 | [], _, _, _ => by simp
 | x :: a, l, hn, hs => by
  have hx := hs x List.mem_cons_self
  have hn' := List.nodup_cons.1 hn
  have ih := nodup_sub_len a (l.erase x) hn'.2 (fun y hy => (List.mem_erase_of_ne (fun e : y = x => hn'.1 (by rw [← e]; exact hy))).2 (hs y (List.mem_cons_of_mem _ hy)))
  rw [List.length_erase_of_mem hx] at ih
  have : 0 < l.length := List.length_pos_of_mem hx
  rw [List.length_cons]
  omega
theorem ownOf_fits {n c : Nat} (h : Fit3 n c) {w : List Int} (fw : Fits w) (hl : w.length = n) (j : Nat) (hj : j < c) : (ownOf n c w j).length = szf n c j ∧ Fits (ownOf n c w j) := by
 have hb := fw.1
 rw [hl] at hb
 have range : ∀ y ∈ ownOf n c w j, 0 ≤ y ∧ y < (szf n c j : Int) := by
  intro y hy
  obtain ⟨x, hx, rfl⟩ := List.mem_map.1 hy
  obtain ⟨hxw, hxj⟩ := List.mem_filter.1 hx
  have := chk_spec h x (hb x hxw).1 (hb x hxw).2
  rw [beq_iff_eq.1 hxj] at this
  omega
 have nod : (ownOf n c w j).Nodup := by
  unfold ownOf List.Nodup
  rw [List.pairwise_map]
  exact (fw.2.filter _).imp fun hab => by omega
 have le1 := nodup_bound (szf n c j) _ nod range
 have le2 : szf n c j ≤ (ownOf n c w j).length := by
  have := nodup_sub_len (iota (szf n c j)) (ownOf n c w j) (fits_iota _).2 (by
   intro v hv
   obtain ⟨m, hm, rfl⟩ := List.mem_map.1 hv
   have hm := List.mem_range.1 hm
   have a1 := psum_succ (sz n c) j (by rw [sz_len]; exact hj)
   rw [sz_get n c j hj] at a1
   have a2 := sz_bounds n c (j + 1) h.most h.one h.chunks
   have a3 := sz_bounds n c j h.most h.one h.chunks
   obtain ⟨i, hi, e⟩ := fits_all fw (psum (sz n c) j + m).toNat (by omega)
   have hx : w[i] = psum (sz n c) j + m := by rw [e]; omega
   refine List.mem_map.2 ⟨psum (sz n c) j + m, List.mem_filter.2 ⟨hx ▸ List.getElem_mem hi, ?_⟩, by omega⟩
   rw [beq_iff_eq]
   exact chk_unique h _ (by omega) (by omega) j hj (by omega) (by omega))
  rwa [iota_len] at this
 exact ⟨by omega, fun y hy => by have := range y hy; omega, nod⟩
theorem Good.with {n c : Nat} (h : Fit3 n c) {w es : List Int} {Q : List (Nat × Int)} (fw : Fits w) (hl : w.length = n) (g' : Good (sz n c) es Q) : ∃ xs R, Good (sz n c) xs R ∧ R.map (·.1) = chOf n c w ∧ allOff c R = allOff c Q := by
 have hz := sz_len n c
 have hn := g'.sizes.nonneg
 have hc' := g'.pat.count hn g'.len.symm
 have hgd : ∀ j, j < c → (sz n c).getD j 0 = (szf n c j : Int) := fun j hj => by rw [← rd_nat, sz_rd n c j hj]
 obtain ⟨xs, R, h1, h2, h3⟩ := draws_exist (allOff (sz n c).length Q) (chOf n c w) (sz n c) (start (sz n c)) hn (by
  intro j hj
  obtain ⟨x, hx, rfl⟩ := List.mem_map.1 hj
  have := fw.1 x hx
  rw [hz]
  exact (chk_spec h x this.1 (by omega)).1) (by
  intro j hj
  rw [hz] at hj
  have e : ((chOf n c w).filter (· == j)).length = (chOf n c w).count j := (List.count_eq_length_filter ..).symm
  rw [e, ← ownOf_len, (ownOf_fits h fw hl j hj).1, hgd j hj]
  omega) (by
  intro j k hj hk
  have h4 := hc' j hj
  have hk' : k < (vis j Q).length := by omega
  rw [allOff_at (sz n c).length Q (sz n c) hn (Nat.le_refl _) hc' j k hj hk']
  exact g'.pat.offs hn j k hj hk')
 have hlen : xs.length = n := by
  have a := h1.len
  have b := congrArg List.length h2
  simp [chOf, hl] at b
  omega
 have G : Good (sz n c) xs R := ⟨g'.sizes, by rw [hlen, sz_total n c h.one], h1⟩
 have := g'.le
 have h5 := G.len
 have h6 := g'.len
 have h7 := all_rdo hn h1 G.len.symm (by omega) h3
 rw [hz] at h7
 exact ⟨xs, R, G, h2, h7⟩
theorem filter_get (q : Int → Bool) : ∀ (w : List Int) (i : Nat) (h : i < w.length), q w[i] = true → (w.filter q)[(w.take i).countP q]? = some w[i]
 | [], i, h, _ => by simp at h
 | x :: w, 0, h, hq => by
  simp only [List.getElem_cons_zero] at hq
  simp [hq]
 | x :: w, i + 1, h, hq => by
  simp only [List.getElem_cons_succ] at hq ⊢
  have ih := filter_get q w i (by simpa using h) hq
  rw [List.take_succ_cons, List.countP_cons, List.filter_cons]
  by_cases hx : q x = true
  ·rw [if_pos hx, if_pos hx, List.getElem?_cons_succ]; exact ih
  ·rw [if_neg hx, if_neg hx]; exact ih
theorem ordL_own {n c : Nat} (h : Fit3 n c) {w : List Int} (fw : Fits w) (hl : w.length = n) : ordL (chOf n c w) (psum (sz n c)) ((List.range c).map (ownOf n c w)) = w := by
 have hcl : (chOf n c w).length = n := by simp [chOf, hl]
 apply ext_rd (by rw [ordL_len, hcl, hl])
 intro i hi
 rw [ordL_len, hcl] at hi
 rw [ordL_rd _ _ _ i (by omega)]
 have hb := fw.1 _ (List.getElem_mem (show i < w.length by omega))
 obtain ⟨s1, s2, s3⟩ := chk_spec h _ hb.1 (by omega)
 have hch : (chOf n c w).getD i 0 = chk n c w[i] := by rw [cn_get _ i (by omega)]; simp [chOf]
 unfold ordAt
 rw [hch]
 have hown : ((List.range c).map (ownOf n c w)).getD (chk n c w[i]) [] = ownOf n c w (chk n c w[i]) := by simp [s1]
 rw [hown]
 have hcn : cn (chOf n c w) (chk n c w[i]) i = (w.take i).countP fun x => chk n c x == chk n c w[i] := by
  unfold cn chOf
  rw [← List.map_take, List.count_eq_countP, List.countP_map]
  rfl
 have hg := filter_get (fun x => chk n c x == chk n c w[i]) w i (by omega) (by simp)
 rw [hcn, rd_nat, List.getD_eq_getElem?_getD]
 unfold ownOf
 rw [List.getElem?_map, hg, rd_lt w i (by omega)]
 simp only [Option.map_some, Option.getD_some]
 omega
theorem chOf_ord {p : List Int} (hp : Bytes p) {n c : Nat} {ds : List Int} {P : List (Nat × Int)} {own : List (List Int)} (h : Lay p n c ds P own) : chOf n c (ordL (P.map (·.1)) (psum (sz n c)) own) = P.map (·.1) := by
 have hl := h.lens.2.1
 have hC := h.good.patC h.one
 have fo := ordL_fits hp h
 apply List.ext_getElem (by simp [chOf, ordL_len, hl])
 intro i h1 h2
 have hin : i < n := by omega
 obtain ⟨o, e1, r1, o0, o1⟩ := ordAt_bounds hp h i hin
 have hc := hC.at_ i hin
 have hm : (ordL (P.map (·.1)) (psum (sz n c)) own)[i]'(by rw [ordL_len]; omega) = ordAt (P.map (·.1)) (psum (sz n c)) own i := by
  rw [← rd_lt, ordL_rd _ _ _ i (by omega)]
 have hb := fo.1 _ (List.getElem_mem (show i < (ordL (P.map (·.1)) (psum (sz n c)) own).length by rw [ordL_len]; omega))
 have hol : (ordL (P.map (·.1)) (psum (sz n c)) own).length = n := by rw [ordL_len]; exact hl
 have hb1 : 0 ≤ ordAt (P.map (·.1)) (psum (sz n c)) own i := by rw [← hm]; exact hb.1
 have hb2 : ordAt (P.map (·.1)) (psum (sz n c)) own i < n := by rw [← hm]; have := hb.2; omega
 have e3 : (chOf n c (ordL (P.map (·.1)) (psum (sz n c)) own))[i]'h1 = chk n c ((ordL (P.map (·.1)) (psum (sz n c)) own)[i]'(by omega)) := by
  show (List.map _ _)[i] = _
  exact List.getElem_map _
 rw [e3, hm, ← cn_get _ i (by omega)]
 exact chk_unique h.fit3 _ hb1 hb2 _ hc.1 (by omega) (by omega)
theorem ownOf_ord {p : List Int} (hp : Bytes p) {n c : Nat} {ds : List Int} {P : List (Nat × Int)} {own : List (List Int)} (h : Lay p n c ds P own) (j : Nat) (hj : j < c) : ownOf n c (ordL (P.map (·.1)) (psum (sz n c)) own) j = own.getD j [] := by
 have hl := h.lens.2.1
 have hC := h.good.patC h.one
 obtain ⟨_, w2, w3⟩ := (h.own hp).2 j hj
 have hch := chOf_ord hp h
 have hol : (ordL (P.map (·.1)) (psum (sz n c)) own).length = n := by rw [ordL_len]; exact hl
 have key : ∀ i : Nat, i ≤ n → ownOf n c ((ordL (P.map (·.1)) (psum (sz n c)) own).take i) j = (own.getD j []).take (cn (P.map (·.1)) j i) := by
  intro i
  induction i with
  | zero => intro _; simp [ownOf, cn_zero]
  | succ i ih =>
   intro hi
   have hin : i < n := by omega
   obtain ⟨o, e1, r1, o0, o1⟩ := ordAt_bounds hp h i hin
   have hc := hC.at_ i hin
   have hcx : chk n c (rd (ordL (P.map (·.1)) (psum (sz n c)) own) (i : Int)) = (P.map (·.1)).getD i 0 := by
    have := congrArg (fun l => l.getD i 0) hch
    simp only [chOf] at this
    rw [← this, List.getD_eq_getElem?_getD, List.getElem?_map, List.getElem?_eq_getElem (by omega), rd_lt _ i (by omega)]
    rfl
   rw [take_rd _ i (by omega), ownOf_append, ih (by omega), ownOf_one, hcx, cn_succ _ j i (by omega), ← cn_get _ i (by omega)]
   by_cases e : (P.map (·.1)).getD i 0 = j
   ·rw [if_pos e, if_pos e.symm, ordL_rd _ _ _ i (by omega), e1]
    rw [e] at r1 hc ⊢
    rw [take_rd _ _ (by omega), r1]
    congr 2
    omega
   ·rw [if_neg e, if_neg (fun x => e x.symm), List.append_nil, Nat.add_zero]
 have := key n (Nat.le_refl _)
 rw [List.take_of_length_le (by omega), cn_all _ j n (by omega), hC.cnt j hj, List.take_of_length_le (by omega)] at this
 exact this
end Go.Proofs.Ytbnifpfnjhdenaa.Pl
end
section
set_option linter.unusedVariables false
set_option linter.unusedSimpArgs false
namespace Go.Proofs.Ytbnifpfnjhdenaa.Pl
open Go.RowKit Go.Proofs.Ytbnifpfnjhdenaa.Q Go.Proofs.YtbnifpfnjhdenaaW.PrintWords Go.Proofs.YtbnifpfnjhdenaaW.PrintLast Go.Proofs.Ytbnifpfnjhdenaa.Pure
noncomputable def dlOf (n c : Nat) (w : List Int) (j : Nat) : List Int := drawsL (ownOf n c w j) (iota (szf n c j)) (szf n c j - 1)
noncomputable def partsOf (p : List Int) (n c : Nat) (w : List Int) : List (List Int) := (List.range c).map fun j => trn (piece (restOf p) (qOf p c) j) (boundsL (szf n c j)) (dlOf n c w j)
noncomputable def turnT (p : List Int) (n c : Nat) (es w : List Int) : List Int := tapeOf p (trn (braidOf p) (bnd n) es) (partsOf p n c w)
theorem dlOf_fit {n c : Nat} (h : Fit3 n c) {w : List Int} (fw : Fits w) (hl : w.length = n) (j : Nat) (hj : j < c) : Valid (boundsL (szf n c j)) (dlOf n c w j) ∧ fromL (iota (szf n c j)) (szf n c j - 1) (dlOf n c w j) = ownOf n c w j := by
 obtain ⟨l1, f1⟩ := ownOf_fits h fw hl j hj
 have hd := from_draws (ownOf n c w j) f1 (szf n c j - 1) (iota (szf n c j)) (by omega) (fits_iota _) (by rw [iota_len, l1]) (fun m h1 h2 => by omega)
 refine ⟨fit_boundsL (drawsL_len _ _ _) fun k hk => ?_, hd.2⟩
 unfold dlOf at hk ⊢
 have := hd.1 k hk
 rw [drawsL_len] at hk
 omega
theorem Lay.part {p : List Int} (hp : Bytes p) {n c : Nat} {ds : List Int} {P : List (Nat × Int)} {own : List (List Int)} (h : Lay p n c ds P own) (j : Nat) (hj : j < c) : ∃ vs m, dr (piece (restOf p) (qOf p c) j) (boundsL (szf n c j)) 0 = some (vs, m) ∧ vs = drawsL (own.getD j []) (iota (szf n c j)) (szf n c j - 1) := by
 obtain ⟨e1, _, _⟩ := (h.own hp).2 j hj
 obtain ⟨_, _, vs, m, d1, d2, d3, d4⟩ := permOf_fits (bytes_piece hp _ _) (szf_le n c j h.most h.one) e1
 exact ⟨vs, m, d1, d4.symm⟩
theorem Lay.valid {p : List Int} {n c : Nat} {ds : List Int} {P : List (Nat × Int)} {own : List (List Int)} (h : Lay p n c ds P own) {es : List Int} {R : List (Nat × Int)} (g : Good (sz n c) es R) : Valid (bnd n) es := by
 have hd : OkD (sz n c) es := ⟨g.sizes, g.len, fun t ht => by
  have := g.pat.bound g.sizes.nonneg t ht
  rw [← g.len] at this
  exact this⟩
 have := okD_bnd hd
 rwa [sz_total n c h.one, Int.toNat_natCast] at this
theorem turn_fitting {p : List Int} (hp : Bytes p) {n c : Nat} {ds : List Int} {P : List (Nat × Int)} {own : List (List Int)} (h : Lay p n c ds P own) {es : List Int} {R : List (Nat × Int)} (g : Good (sz n c) es R) {w : List Int} (fw : Fits w) (hl : w.length = n) :
  Fitting p c (trn (braidOf p) (bnd n) es) (partsOf p n c w) ∧ Bytes (turnT p n c es w) := by
 obtain ⟨u, hd⟩ := h.draws
 obtain ⟨_, b1, b2, _⟩ := trn_spec (bytes_braid hp) (bnd_ok n h.most) (h.valid g) hd
 have each : ∀ x ∈ partsOf p n c w, x.length = qOf p c ∧ Bytes x := by
  intro x hx
  obtain ⟨j, hj, rfl⟩ := List.mem_map.1 hx
  have hj := List.mem_range.1 hj
  obtain ⟨vs, m, d1, _⟩ := h.part hp j hj
  obtain ⟨_, c1, c2, _⟩ := trn_spec (bytes_piece hp _ _) (boundsL_ok _ (szf_le n c j h.most h.one)) (dlOf_fit h.fit3 fw hl j hj).1 d1
  exact ⟨by rw [c2]; exact piece_len p c j hj, c1⟩
 refine ⟨⟨h.long, b2, by simp [partsOf], fun x hx => (each x hx).1⟩, mkk_bytes hp b1 fun x hx => ?_⟩
 obtain ⟨y, hy, hxy⟩ := List.mem_flatten.1 hx
 exact (each y hy).2 x hxy
theorem partsOf_getD (p : List Int) (n c : Nat) (w : List Int) (j : Nat) (hj : j < c) : (partsOf p n c w).getD j [] = trn (piece (restOf p) (qOf p c) j) (boundsL (szf n c j)) (dlOf n c w j) := by simp [partsOf, hj]
theorem turn_lay {p : List Int} (hp : Bytes p) {n c : Nat} {ds : List Int} {P : List (Nat × Int)} {own : List (List Int)} (h : Lay p n c ds P own) {es : List Int} {R : List (Nat × Int)} (g : Good (sz n c) es R) {w : List Int} (fw : Fits w) (hl : w.length = n) :
  Lay (turnT p n c es w) n c es R ((List.range c).map (ownOf n c w)) := by
 obtain ⟨F, hb⟩ := turn_fitting hp h g fw hl
 obtain ⟨u, hd⟩ := h.draws
 refine ⟨?_, h.most, h.one, h.chunks, ⟨u, ?_⟩, g, ?_⟩
 ·show 18 ≤ (tapeOf p _ _).length
  rw [mk_len F]
  exact h.long
 ·show dr (braidOf (tapeOf p _ _)) _ _ = _
  rw [mk_braid F]
  exact trn_dr (bytes_braid hp) (bnd_ok n h.most) (h.valid g) hd
 ·have := permsG_of (fun j => permOf (piece (restOf (turnT p n c es w)) (qOf (turnT p n c es w) c) j) (szf n c j)) (ownOf n c w) c 0 [] (fun j _ hj => by
   have hj : j < c := by omega
   show permOf (piece (restOf (tapeOf p _ _)) (qOf (tapeOf p _ _) c) j) _ = _
   rw [mk_piece F j hj, partsOf_getD p n c w j hj]
   obtain ⟨vs, m, d1, _⟩ := h.part hp j hj
   obtain ⟨v1, v2⟩ := dlOf_fit h.fit3 fw hl j hj
   unfold permOf
   rw [trn_dr (bytes_piece hp _ _) (boundsL_ok _ (szf_le n c j h.most h.one)) v1 d1, Option.map_some, v2])
  rw [this, List.nil_append, List.range_eq_range']
theorem turn_on {p : List Int} (hp : Bytes p) {n c : Nat} {ds : List Int} {P : List (Nat × Int)} {own : List (List Int)} (h : Lay p n c ds P own) {es fs : List Int} {R U : List (Nat × Int)} (g : Good (sz n c) es R) (g' : Good (sz n c) fs U) {z w : List Int} (fz : Fits z) (hz : z.length = n) (fw : Fits w) (hl : w.length = n) :
  turnT (turnT p n c es z) n c fs w = turnT p n c fs w := by
 obtain ⟨F, hb⟩ := turn_fitting hp h g fz hz
 obtain ⟨F', hb'⟩ := turn_fitting hp h g' fw hl
 obtain ⟨u, hd⟩ := h.draws
 have e1 : trn (braidOf (turnT p n c es z)) (bnd n) fs = trn (braidOf p) (bnd n) fs := by
  show trn (braidOf (tapeOf p _ _)) _ _ = _
  rw [mk_braid F]
  exact trn_on (bytes_braid hp) (bnd_ok n h.most) (h.valid g) (h.valid g') hd
 have e2 : partsOf (turnT p n c es z) n c w = partsOf p n c w := by
  unfold partsOf
  refine List.map_congr_left fun j hj => ?_
  have hj := List.mem_range.1 hj
  obtain ⟨vs, m, d1, _⟩ := h.part hp j hj
  show trn (piece (restOf (tapeOf p _ _)) (qOf (tapeOf p _ _) c) j) _ _ = _
  rw [mk_piece F j hj, partsOf_getD p n c z j hj]
  exact trn_on (bytes_piece hp _ _) (boundsL_ok _ (szf_le n c j h.most h.one)) (dlOf_fit h.fit3 fz hz j hj).1 (dlOf_fit h.fit3 fw hl j hj).1 d1
 show tapeOf (turnT p n c es z) _ _ = tapeOf p _ _
 rw [e1, e2]
 exact mk_mk F F'
theorem turn_self {p : List Int} (hp : Bytes p) {n c : Nat} {ds : List Int} {P : List (Nat × Int)} {own : List (List Int)} (h : Lay p n c ds P own) : turnT p n c ds (ordL (P.map (·.1)) (psum (sz n c)) own) = p := by
 obtain ⟨u, hd⟩ := h.draws
 have same : ∀ {l bs vs : List Int} {m : Nat}, Bytes l → AllOk bs → Valid bs vs → dr l bs 0 = some (vs, m) → trn l bs vs = l := fun hl hB hV hr => by
  have a := trn_on hl hB hV hV hr
  have b := trn_back hl hB hV hr
  rw [a] at b
  exact b
 have e1 : trn (braidOf p) (bnd n) ds = braidOf p := same (bytes_braid hp) (bnd_ok n h.most) (h.valid h.good) hd
 have e2 : partsOf p n c (ordL (P.map (·.1)) (psum (sz n c)) own) = pieces (restOf p) (qOf p c) c := by
  unfold partsOf pieces
  refine List.map_congr_left fun j hj => ?_
  have hj := List.mem_range.1 hj
  obtain ⟨vs, m, d1, d2⟩ := h.part hp j hj
  have hv := (dlOf_fit h.fit3 (ordL_fits hp h) (by rw [ordL_len]; exact h.lens.2.1) j hj).1
  unfold dlOf at hv ⊢
  rw [ownOf_ord hp h j hj, ← d2] at hv ⊢
  exact same (bytes_piece hp _ _) (boundsL_ok _ (szf_le n c j h.most h.one)) hv d1
 unfold turnT
 rw [e1, e2]
 exact mk_self h.long
theorem cut_of_ev {n c : Nat} (h : Fit3 n c) (y0 y1 : List Int) (y2 : List (List Int)) (x : Int) (h0 : 0 ≤ x) (h1 : x < n) : Ev (fun k => riffle_cut_of.f k y0 y1 y2 (sz n c) (tab c fun j => psum (sz n c) j) x) (chk n c x : Int) := by
 obtain ⟨s1, s2, s3⟩ := chk_spec h x h0 h1
 have hz := sz_len n c
 have ht := tab_len c fun j => psum (sz n c) j
 have hm := h.most
 have hc := h.chunks
 unfold riffle_cut_of.f
 have key : ∀ (d a : Nat), a + d = chk n c x → Ev (fun k => riffle_cut_of.l0 k x (a : Int) y0 y1 y2 (sz n c) (tab c fun j => psum (sz n c) j)) (chk n c x : Int) := by
  intro d
  induction d with
  | zero =>
   intro a ha
   obtain rfl : a = chk n c x := by omega
   have b := sz_bounds n c (chk n c x) h.most h.one h.chunks
   have l := szf_le n c (chk n c x) h.most h.one
   refine Ev.step (f := fun _ => some (chk n c x : Int)) (fun k => ?_) (Ev.now _)
   rw [riffle_cut_of.l0, if_pos (by omega), if_pos (by omega), if_pos (by omega), tab_rd _ _ _ s1, sz_rd n c _ s1, w64 (by omega) (by omega), if_neg (by omega)]
  | succ d ih =>
   intro a ha
   have hac : a < c := by omega
   have b := sz_bounds n c a h.most h.one h.chunks
   have b' := sz_bounds n c (a + 1) h.most h.one h.chunks
   have e := psum_succ (sz n c) a (by omega)
   rw [sz_get n c a hac] at e
   have le := psum_le h.ok.nonneg (a + 1) (chk n c x) (by omega)
   refine Ev.step (fun k => ?_) (ih (a + 1) (by omega))
   rw [riffle_cut_of.l0, if_pos (by omega), if_pos (by omega), if_pos (by omega), tab_rd _ _ _ hac, sz_rd n c _ hac, w64 (by omega) (by omega), if_pos (by omega), w64 (by omega) (by omega)]
   rfl
 exact key (chk n c x) 0 (by omega)
theorem ownTo_rd (n c : Nat) (w : List Int) (j : Nat) (hj : j < c) : ((List.range c).map (ownOf n c w)).getD j [] = ownOf n c w j := by simp [hj]
theorem wq (b x q : Nat) (h : 18 + b + x + q ≤ 9223372036854775807) : wrap64 (((18 + b + x : Nat) : Int) + (q : Int)) = ((18 + b + (x + q) : Nat) : Int) := by
 rw [w64 (by omega) (by omega)]
 omega
theorem w18 (x q : Nat) (h : x ≤ 140737488351232) : wrap64 ((18 : Int) + (x : Int)) = ((18 + x + 0 * q : Nat) : Int) := by
 rw [w64 (by omega) (by omega), Nat.zero_mul]
 omega
theorem turn_l1 {p : List Int} (hp : Bytes p) (hpl : p.length ≤ 140737488351232) {n c : Nat} {ds : List Int} {P : List (Nat × Int)} {own : List (List Int)} (h : Lay p n c ds P own) {es : List Int} {R : List (Nat × Int)} (g : Good (sz n c) es R) {w : List Int} (fw : Fits w) (hl : w.length = n) (y0 y1 y3 y4 : List Int) :
  ∀ (d j : Nat), j + d = c → Ev (fun k => riffle_Turn.l1 k ((List.range c).map (ownOf n c w)) (mkk p (trn (braidOf p) (bnd n) es) ((partsOf p n c w).take j).flatten) ((18 + (braidOf p).length + j * qOf p c : Nat) : Int) (sz n c) (c : Int) (j : Int) y0 y1 (pieces (restOf p) (qOf p c) c) y3 y4) (turnT p n c es w, 0) := by
 obtain ⟨F, hb⟩ := turn_fitting hp h g fw hl
 have hz := sz_len n c
 have hm := h.most
 have hc := h.chunks
 have hpn := F.num
 obtain ⟨t1, t2, t3⟩ := len3 h.long
 have flat : ∀ j, j ≤ c → ((partsOf p n c w).take j).flatten.length = j * qOf p c := fun j hj => by
  rw [flat_len (qOf p c) _ (fun x hx => F.each x (List.mem_of_mem_take hx)), List.length_take]
  congr 1
  omega
 intro d
 induction d with
 | zero =>
  intro j hj
  obtain rfl : j = c := by omega
  have e : (partsOf p n j w).take j = partsOf p n j w := List.take_of_length_le (by omega)
  rw [e]
  exact Ev.step (f := fun _ => some (turnT p n j es w, 0)) (fun k => by rw [riffle_Turn.l1, if_neg (by omega)]; rfl) (Ev.now _)
 | succ d ih =>
  intro j hj
  have hjc : j < c := by omega
  obtain ⟨l1, f1⟩ := ownOf_fits h.fit3 fw hl j hjc
  have sl := szf_le n c j h.most h.one
  obtain ⟨vs, m, d1, _⟩ := h.part hp j hjc
  have hv := (dlOf_fit h.fit3 fw hl j hjc).1
  have hpl' := piece_le p (qOf p c) j
  have htn := drw_trn (bytes_piece hp _ _) (by omega) (by rw [boundsL_len]; omega) (boundsL_ok _ sl) hv d1
  have hq := qmul_le p c (j + 1) hjc
  have hsm : (j + 1) * qOf p c = j * qOf p c + qOf p c := Nat.succ_mul _ _
  have hdr := draws_all (ownOf n c w j) (by omega)
  unfold drawsA at hdr
  rw [if_pos f1, l1] at hdr
  have ylen : (trn (piece (restOf p) (qOf p c) j) (boundsL (szf n c j)) (dlOf n c w j)).length = qOf p c := by
   rw [← partsOf_getD p n c w j hjc]
   refine F.each _ ?_
   rw [List.getD_eq_getElem?_getD, List.getElem?_eq_getElem (by omega), Option.getD_some]
   exact List.getElem_mem _
  have fl := flat j (by omega)
  obtain ⟨c1, c2⟩ := cpy_next (p := p) (B := trn (braidOf p) (bnd n) es) (F := ((partsOf p n c w).take j).flatten) (y := trn (piece (restOf p) (qOf p c) j) (boundsL (szf n c j)) (dlOf n c w j)) h.long (by rw [fl, ylen]; omega)
  rw [F.braid, fl] at c1 c2
  have hnext : ((partsOf p n c w).take j).flatten ++ trn (piece (restOf p) (qOf p c) j) (boundsL (szf n c j)) (dlOf n c w j) = ((partsOf p n c w).take (j + 1)).flatten := by
   rw [List.take_succ_eq_append_getElem (by omega), List.flatten_append, List.flatten_cons, List.flatten_nil, List.append_nil]
   congr 1
   rw [← partsOf_getD p n c w j hjc, List.getD_eq_getElem?_getD, List.getElem?_eq_getElem (by omega), Option.getD_some]
  have olen : (mkk p (trn (braidOf p) (bnd n) es) ((partsOf p n c w).take j).flatten).length = p.length := mkk_len h.long F.braid (by rw [fl]; omega)
  have hol : ((List.range c).map (ownOf n c w)).length = c := by simp
  have hplen := pieces_len (restOf p) (qOf p c) c
  refine Ev.step (fun k => by rw [riffle_Turn.l1, if_pos (by omega), if_pos (by omega), if_pos (by omega), if_pos (by omega)]) ?_
  refine ev_bind (a := (dlOf n c w j, 0)) (by
   show Ev (fun k => perm_Draws.f k (((List.range c).map (ownOf n c w)).getD j [])) _
   rw [ownTo_rd n c w j hjc]
   exact hdr) (ev_pos rfl (ev_pos (by omega) ?_))
  rw [sz_rd n c j hjc]
  refine ev_bind (bounds_ev' _ sl) (ev_bind0 (a := (trn (piece (restOf p) (qOf p c) j) (boundsL (szf n c j)) (dlOf n c w j), 0)) (by
   show draw_Turn.f ((pieces (restOf p) (qOf p c) c).getD j []) _ _ = _
   rw [pieces_rd _ _ _ _ hjc]
   exact htn) (ev_pos rfl (ev_pos (by omega) (ev_pos (by omega) ?_))))
  rw [Int.toNat_natCast, c1, c2, hnext, ylen, w64 (x := (j : Int) + 1) (by omega) (by omega), wq _ _ _ (by omega)]
  have := ih (j + 1) (by omega)
  rw [hsm] at this
  exact this
theorem turn_l0 {p : List Int} (hp : Bytes p) (hpl : p.length ≤ 140737488351232) {n c : Nat} {ds : List Int} {P : List (Nat × Int)} {own : List (List Int)} (h : Lay p n c ds P own) {es : List Int} {R : List (Nat × Int)} (g : Good (sz n c) es R) {w : List Int} (fw : Fits w) (hl : w.length = n) (hR : R.map (·.1) = chOf n c w) (hO : allOff c R = allOff c P) :
  ∀ (d i : Nat), i + d = n → Ev (fun k => riffle_Turn.l0 k p (n : Int) (allOff c P) (tab n fun t => if t < i then (chk n c (rd w (t : Int)) : Int) else 0) ((List.range c).map (ownOf n c (w.take i))) w (n : Int) (i : Int) (noiseOf p) (braidOf p) (pieces (restOf p) (qOf p c) c) (sz n c) (tab c fun j => psum (sz n c) j)) (turnT p n c es w, 0) := by
 obtain ⟨F, hb⟩ := turn_fitting hp h g fw hl
 have hz := sz_len n c
 have hm := h.most
 have hc := h.chunks
 obtain ⟨t1, t2, t3⟩ := len3 h.long
 obtain ⟨u, hd⟩ := h.draws
 intro d
 induction d with
 | zero =>
  intro i hi
  obtain rfl : i = n := by omega
  have e1 : (tab i fun t => if t < i then (chk i c (rd w (t : Int)) : Int) else 0) = fsts R := by
   rw [fsts_int, hR]
   apply ext_rd (by rw [tab_len, ints_len]; simp [chOf, hl])
   intro t ht
   rw [tab_len] at ht
   rw [tab_rd _ _ t ht, if_pos ht, ints_rd _ t (by simp [chOf, hl]; exact ht), rd_lt w t (by omega)]
   simp [chOf]
  have e2 : w.take i = w := List.take_of_length_le (by omega)
  rw [e1, e2]
  have hbk := g.back
  rw [hz, hO] at hbk
  have hbl := braid_le p
  have htn := drw_trn (bytes_braid hp) (by omega) (by rw [bnd_len]; omega) (bnd_ok i h.most) (h.valid g) hd
  obtain ⟨c1, c2⟩ := cpy_first (p := p) (B := trn (braidOf p) (bnd i) es) h.long F.braid
  refine Ev.step (fun k => by rw [riffle_Turn.l0, if_neg (by omega)]) (ev_bind hbk (ev_pos rfl (ev_bind (bounds_good i hm) (ev_bind0 htn (ev_pos rfl (ev_bind0 rfl (ev_pos (show ([] : List Int).length + p.length < 140737488355328 by simp; omega) (ev_bind0 rfl ?_))))))))
  have hn18 : (noiseOf p).length = 18 := t1
  rw [List.nil_append, hn18, show (((18 : Nat) : Int)).toNat = 18 from rfl, c1, c2]
  refine ev_pos (by omega) (ev_pos (by have := h.long; omega) ?_)
  rw [show ((18 : Nat) : Int) = (18 : Int) from rfl, F.braid, w18 _ (qOf p c) (by omega), hz]
  exact turn_l1 hp hpl h g fw hl (noiseOf p) (braidOf p) (sz i c) (tab c fun j => psum (sz i c) j) c 0 (by omega)
 | succ d ih =>
  intro i hi
  have hin : i < n := by omega
  have hb1 := fw.1 _ (rd_mem w (i : Int) (by simp; omega))
  rw [hl] at hb1
  have hcut := cut_of_ev h.fit3 (noiseOf p) (braidOf p) (pieces (restOf p) (qOf p c) c) (rd w (i : Int)) hb1.1 hb1.2
  obtain ⟨s1, s2, s3⟩ := chk_spec h.fit3 _ hb1.1 hb1.2
  have b1 := sz_bounds n c (chk n c (rd w (i : Int))) h.most h.one h.chunks
  have ht1 := tab_len n fun t => if t < i then (chk n c (rd w (t : Int)) : Int) else 0
  have ht2 := tab_len c fun j => psum (sz n c) j
  have hol : ((List.range c).map (ownOf n c (w.take i))).length = c := by simp
  have hle : (ownOf n c (w.take i) (chk n c (rd w (i : Int)))).length ≤ n := Nat.le_trans (ownOf_le _ _ _ _) (by rw [List.length_take]; omega)
  have hro : rd_L3 ((List.range c).map (ownOf n c (w.take i))) (chk n c (rd w (i : Int)) : Int) = ownOf n c (w.take i) (chk n c (rd w (i : Int))) := ownTo_rd n c _ _ s1
  refine Ev.step (fun k => by rw [riffle_Turn.l0, if_pos (by omega), if_pos (by omega), if_pos (by omega)]) (ev_bind hcut ?_)
  refine ev_pos (by omega) (ev_pos (by omega) (ev_pos (by omega) (ev_pos (by omega) ?_)))
  rw [hro, tab_rd _ _ _ s1, w64 (x := rd w (i : Int) - psum (sz n c) (chk n c (rd w (i : Int)))) (by omega) (by omega), w64 (x := (i : Int) + 1) (by omega) (by omega), Int.toNat_natCast, Int.toNat_natCast]
  refine ev_pos (by omega) ?_
  have q1 : (tab n fun t => if t < i then (chk n c (rd w (t : Int)) : Int) else 0).set i (chk n c (rd w (i : Int)) : Int) = tab n fun t => if t < i + 1 then (chk n c (rd w (t : Int)) : Int) else 0 := by
   rw [tab_set]
   exact tab_congr _ _ _ fun t ht => by
    by_cases e : t = i
    ·rw [if_pos e, if_pos (by omega), e]
    ·rw [if_neg e]
     by_cases e2 : t < i
     ·rw [if_pos e2, if_pos (by omega)]
     ·rw [if_neg e2, if_neg (by omega)]
  have q2 : ((List.range c).map (ownOf n c (w.take i))).set (chk n c (rd w (i : Int))) (ownOf n c (w.take i) (chk n c (rd w (i : Int))) ++ [rd w (i : Int) - psum (sz n c) (chk n c (rd w (i : Int)))]) = (List.range c).map (ownOf n c (w.take (i + 1))) := by
   rw [take_rd w i (by omega)]
   apply List.ext_getElem (by simp)
   intro j h1 h2
   rw [List.getElem_set]
   simp only [List.getElem_map, List.getElem_range]
   rw [ownOf_append, ownOf_one]
   by_cases e : chk n c (rd w (i : Int)) = j
   ·rw [if_pos e, if_pos e, e]
   ·rw [if_neg e, if_neg e, List.append_nil]
  rw [q1, q2]
  exact ih (i + 1) (by omega)
theorem turn_bad (p : List Int) (n m : Int) (w : List Int) (h : ¬ ((0 ≤ n ∧ n ≤ 256 ∧ 1 ≤ m ∧ m ≤ 64) ∧ (w.length : Int) = n)) : Ev (fun k => riffle_Turn.f k p n m w) ([], 2) := by
 have bad : ∀ b, b = true → Ev (fun k => riffle_Turn.j0 k p n m w b) ([], 2) := fun b hb => Ev.step (f := fun _ => some ([], 2)) (fun k => by rw [riffle_Turn.j0, if_pos hb]) (Ev.now _)
 unfold riffle_Turn.f
 by_cases hf : 0 ≤ n ∧ n ≤ 256 ∧ 1 ≤ m ∧ m ≤ 64
 ·obtain ⟨a, rfl⟩ : ∃ a : Nat, n = (a : Int) := ⟨n.toNat, by omega⟩
  obtain ⟨b, rfl⟩ : ∃ b : Nat, m = (b : Int) := ⟨m.toNat, by omega⟩
  exact ev_bind (sizes_good a b (by omega) (by omega) (by omega)) (ev_pos rfl (bad _ (by rw [bne_iff_ne]; exact fun e => h ⟨hf, e⟩)))
 ·exact ev_bind (sizes_bad n m hf) (ev_neg (by decide) (bad _ rfl))
theorem turn_start {p w : List Int} {n c : Nat} (h3 : Fit3 n c) (hl : w.length = n) {R : List Int × Int} (hR : Ev (fun k => ((perm_Check.f k w).bind fun t383 => (if t383 = 0 then ((riffle_read.f k p n c).bind fun bt384 => (if bt384.2.2.2.2.2.2.2.2 = 0 then (if 0 ≤ (n : Int) then (if ((n : Int) : Int).toNat ≤ 35184372088832 then (if 0 ≤ (bt384.2.2.2.1.length : Int) then (if ((bt384.2.2.2.1.length : Int) : Int).toNat ≤ 11728124029610 then (riffle_Turn.l0 k p n bt384.2.2.2.2.2.2.1 (List.replicate ((n : Int) : Int).toNat 0) (List.replicate ((bt384.2.2.2.1.length : Int) : Int).toNat []) w (w.length : Int) 0 bt384.1 bt384.2.1 bt384.2.2.1 bt384.2.2.2.1 bt384.2.2.2.2.1) else (none)) else (none)) else (none)) else (none)) else (some (([] : List Int), bt384.2.2.2.2.2.2.2.2)))) else (some (([] : List Int), t383))))) R) : Ev (fun k => riffle_Turn.f k p n c w) R := by
 unfold riffle_Turn.f
 refine ev_bind (sizes_good n c h3.most h3.one h3.chunks) (ev_pos rfl (Ev.step (fun k => ?_) hR))
 rw [riffle_Turn.j0, if_neg (by simp [hl])]
theorem turn_ev {p : List Int} (hp : Bytes p) (hpl : p.length ≤ 140737488351232) {n c : Nat} (h3 : Fit3 n c) {w : List Int} (hl : w.length = n) :
  (¬ Fits w → Ev (fun k => riffle_Turn.f k p n c w) ([], 110)) ∧
  (Fits w → (¬ ∃ ds P own, Lay p n c ds P own) → Ev (fun k => riffle_Turn.f k p n c w) ([], 3)) ∧
  (Fits w → ∀ ds P own, Lay p n c ds P own → ∃ es R, Good (sz n c) es R ∧ R.map (·.1) = chOf n c w ∧ allOff c R = allOff c P ∧ Ev (fun k => riffle_Turn.f k p n c w) (turnT p n c es w, 0)) := by
 have hck := perm_check_ev w (by have := h3.most; omega)
 refine ⟨fun fw => ?_, fun fw hn => ?_, fun fw ds P own h => ?_⟩
 ·rw [if_neg fw] at hck
  exact turn_start h3 hl (ev_bind hck (ev_neg (by decide) (Ev.now _)))
 ·rw [if_pos fw] at hck
  rcases read_ev hp hpl n c h3.most h3.one h3.chunks with ⟨ds, P, own, h, e⟩ | ⟨_, e⟩
  ·exact absurd ⟨ds, P, own, h⟩ hn
  ·exact turn_start h3 hl (ev_bind hck (ev_pos rfl (ev_bind e (ev_neg (by decide) (Ev.now _)))))
 ·rw [if_pos fw] at hck
  obtain ⟨es, R, g, g1, g2⟩ := Good.with h3 fw hl h.good
  refine ⟨es, R, g, g1, g2, ?_⟩
  rcases read_ev hp hpl n c h3.most h3.one h3.chunks with ⟨ds', P', own', h', e⟩ | ⟨hn, e⟩
  ·obtain ⟨rfl, rfl, rfl⟩ := h.same h'
   have hz := sz_len n c
   have hm := h3.most
   have hc := h3.chunks
   refine turn_start h3 hl (ev_bind hck (ev_pos rfl (ev_bind e (ev_pos rfl ?_))))
   dsimp only
   refine ev_pos (by omega) (ev_pos (by omega) (ev_pos (by omega) (ev_pos (by omega) ?_)))
   have := turn_l0 hp hpl h g fw hl g1 g2 n 0 (by omega)
   have e1 : (tab n fun t => if t < 0 then (chk n c (rd w (t : Int)) : Int) else 0) = List.replicate n 0 := by
    rw [tab_zero]
    exact tab_congr _ _ _ fun t _ => by rw [if_neg (by omega)]
   have e2 : (List.range c).map (ownOf n c (w.take 0)) = List.replicate c [] := by
    apply List.ext_getElem (by simp)
    intro j h1 h2
    simp [ownOf]
   rw [e1, e2] at this
   rw [hz, Int.toNat_natCast, Int.toNat_natCast, hl]
   exact this
  ·exact absurd ⟨ds, P, own, h⟩ hn
end Go.Proofs.Ytbnifpfnjhdenaa.Pl
end
section
set_option linter.unusedVariables false
set_option linter.unusedSimpArgs false
namespace Go.Proofs.Ytbnifpfnjhdenaa.Pure
open Go.RowKit Go.Proofs.Ytbnifpfnjhdenaa.Q Go.Proofs.YtbnifpfnjhdenaaW.PrintWords Go.Proofs.YtbnifpfnjhdenaaW.PrintLast Go.Proofs.Ytbnifpfnjhdenaa.Pl
theorem alive13e : Ev (fun k => churnlaw13_alive.f k) true := Ev.of (fun k => churnlaw13_alive.mono k) (k := 60) (by decide +kernel)
theorem same13e_yes (a : List Int) (ha : a.length ≤ 9223372036854775000) : Ev (fun k => churnlaw13_same.f k a a) true := by
 unfold churnlaw13_same.f
 refine ev_pos rfl ?_
 have key : ∀ (d i : Nat), i + d = a.length → Ev (fun k => churnlaw13_same.l0 k a a (i : Int)) true := by
  intro d
  induction d with
  | zero => intro i hi; exact Ev.step (f := fun _ => some true) (fun k => by rw [churnlaw13_same.l0, if_neg (by omega)]) (Ev.now _)
  | succ d ih =>
   intro i hi
   refine Ev.step (fun k => ?_) (ih (i + 1) (by omega))
   rw [churnlaw13_same.l0, if_pos (by omega), if_pos (by omega), if_pos (by omega), if_pos rfl, w64 (by omega) (by omega)]
   rfl
 exact key a.length 0 (by omega)
theorem even_no (p : List Int) (n c : Int) (w t o : List Int) (e f : Int) (hf : f ≠ 0) (hw : w.length ≤ 17592186043904)
  (ho : Ev (fun k => riffle_Order.f k p n c) (o, e)) (ht : Ev (fun k => riffle_Turn.f k p n c w) ([], f)) (hok : f = e ∨ ((¬ Fits w ∨ (w.length : Int) ≠ n) ∧ (f = 2 ∨ f = 110))) : Ev (fun k => churnlaw13_RiffleEven.f k p n c w t) true := by
 unfold churnlaw13_RiffleEven.f
 refine ev_bind alive13e (ev_pos rfl (ev_bind ho (ev_bind ht (ev_neg hf (ev_bind (perm_check_ev w (by omega)) ?_)))))
 have last : f = 2 ∨ f = 110 → Ev (fun _ : Nat => if f = 2 then some true else some (f == 110)) true := fun h => by
  by_cases h2 : f = 2
  ·exact ev_pos h2 (Ev.now _)
  ·exact ev_neg h2 (ev_some (by rcases h with h | h <;> simp_all))
 by_cases fw : Fits w
 ·rw [if_pos fw]
  refine ev_pos rfl (ev_pos rfl ?_)
  by_cases hfe : f = e
  ·exact ev_pos hfe (Ev.now _)
  ·refine ev_neg hfe ?_
   rcases hok with h | ⟨h, h'⟩
   ·exact absurd h hfe
   ·exact ev_neg (by rcases h with h | h; exact absurd fw h; exact h) (last h')
 ·rw [if_neg fw]
  refine ev_neg (by decide) (ev_pos rfl ?_)
  by_cases hfe : f = e
  ·exact ev_pos hfe (Ev.now _)
  ·refine ev_neg hfe ?_
   rcases hok with h | ⟨h, h'⟩
   ·exact absurd h hfe
   ·exact last h'
theorem order_at {p : List Int} (hp : Bytes p) (hl : p.length ≤ 140737488351232) {n c : Nat} {ds : List Int} {P : List (Nat × Int)} {own : List (List Int)} (h : Lay p n c ds P own) : Ev (fun k => riffle_Order.f k p n c) (ordL (P.map (·.1)) (psum (sz n c)) own, 0) := by
 rcases order_ev hp hl n c h.most h.one h.chunks with ⟨ds', P', own', h', e⟩ | ⟨hn, _⟩
 ·obtain ⟨rfl, rfl, rfl⟩ := h.same h'
  exact e
 ·exact absurd ⟨ds, P, own, h⟩ hn
theorem good_eq {n c : Nat} {es fs : List Int} {R U : List (Nat × Int)} (g : Pl.Good (sz n c) es R) (g' : Pl.Good (sz n c) fs U) (h1 : R.map (·.1) = U.map (·.1)) (h2 : allOff c R = allOff c U) : es = fs :=
 g.inj g' (by rw [fsts_int, fsts_int, h1]) (by rw [sz_len]; exact h2)
theorem turn_len {p : List Int} (hp : Bytes p) {n c : Nat} {ds : List Int} {P : List (Nat × Int)} {own : List (List Int)} (h : Lay p n c ds P own) {es : List Int} {R : List (Nat × Int)} (g : Pl.Good (sz n c) es R) {w : List Int} (fw : Fits w) (hl : w.length = n) : (turnT p n c es w).length = p.length := mk_len (turn_fitting hp h g fw hl).1
theorem RiffleEven : churnlaw13_RiffleEven.Pure := by
 intro p n c w t hp hn hc hw ht
 obtain ⟨p1, p2, p3⟩ := hp
 obtain ⟨w1, w2, w3⟩ := hw
 obtain ⟨t1, t2, t3⟩ := ht
 have hp' : Bytes p := fun x hx => wf_u8 (p3 x hx)
 have hnw := wf_i64 hn
 have hcw := wf_i64 hc
 refine Ev.rounds (g := fun k => churnlaw13_RiffleEven.f k p n c w t) (r := true) ?_
 by_cases hfit : 0 ≤ n ∧ n ≤ 256 ∧ 1 ≤ c ∧ c ≤ 64
 rotate_left
 ·exact even_no p n c w t [] 2 2 (by decide) (by omega) (order_bad p n c hfit) (turn_bad p n c w fun h => hfit h.1) (.inl rfl)
 obtain ⟨m, rfl⟩ : ∃ m : Nat, n = (m : Int) := ⟨n.toNat, by omega⟩
 obtain ⟨d, rfl⟩ : ∃ d : Nat, c = (d : Int) := ⟨c.toNat, by omega⟩
 have h3 : Fit3 m d := ⟨by omega, by omega, by omega⟩
 obtain ⟨oe, hoe⟩ : ∃ o : List Int × Int, Ev (fun k => riffle_Order.f k p m d) o := by
  rcases order_ev hp' (by omega) m d h3.most h3.one h3.chunks with ⟨_, _, _, _, e⟩ | ⟨_, e⟩
  ·exact ⟨_, e⟩
  ·exact ⟨_, e⟩
 by_cases hwl : w.length = m
 rotate_left
 ·exact even_no p m d w t oe.1 oe.2 2 (by decide) (by omega) hoe (turn_bad p m d w fun h => hwl (by omega)) (.inr ⟨.inr (by omega), .inl rfl⟩)
 obtain ⟨tv1, tv2, tv3⟩ := turn_ev hp' (by omega) h3 hwl
 by_cases fw : Fits w
 rotate_left
 ·exact even_no p m d w t oe.1 oe.2 110 (by decide) (by omega) hoe (tv1 fw) (.inr ⟨.inl fw, .inr rfl⟩)
 rcases order_ev hp' (by omega) m d h3.most h3.one h3.chunks with ⟨ds, P, own, h, eo⟩ | ⟨hno, eo⟩
 rotate_left
 ·exact even_no p m d w t [] 3 3 (by decide) (by omega) eo (tv2 fw hno) (.inl rfl)
 obtain ⟨es, R, g, g1, g2, et⟩ := tv3 fw ds P own h
 obtain ⟨_, hb⟩ := turn_fitting hp' h g fw hwl
 have hl := turn_len hp' h g fw hwl
 have hq := turn_lay hp' h g fw hwl
 have hgot := order_at hb (by omega) hq
 rw [g1, ordL_own h3 fw hwl] at hgot
 have fo := ordL_fits hp' h
 have lo : (ordL (P.map (·.1)) (psum (sz m d)) own).length = m := by rw [ordL_len]; exact h.lens.2.1
 obtain ⟨fs, U, u, u1, u2, eb⟩ := (turn_ev hb (by omega) h3 lo).2.2 fo es R _ hq
 have efs : fs = ds := good_eq u h.good (by rw [u1, chOf_ord hp' h]) (by rw [u2, g2])
 subst efs
 rw [turn_on hp' h g u fw hwl fo lo, turn_self hp' h] at eb
 unfold churnlaw13_RiffleEven.f
 refine ev_bind alive13e (ev_pos rfl (ev_bind eo (ev_bind et (ev_pos rfl (ev_bind hgot (ev_bind eb (ev_pos rfl (ev_pos rfl (ev_pos rfl ?_)))))))))
 refine ev_pos (by rw [hl]) (ev_bind (same13e_yes w (by omega)) (ev_pos rfl ?_))
 have hbne : ((strOfNums p).toList != (strOfNums p).toList) = false := by simp
 show Ev (fun k => churnlaw13_RiffleEven.j0 k t (turnT p m d es w) ((strOfNums p).toList != (strOfNums p).toList) p m d w) true
 rw [hbne]
 refine Ev.step (fun k => by rw [churnlaw13_RiffleEven.j0, if_neg (by decide)]) ?_
 by_cases htl : t.length = m
 rotate_left
 ·exact ev_bind (turn_bad p m d t fun h => htl (by omega)) (ev_neg (by decide) (ev_neg (by omega) (Ev.now _)))
 obtain ⟨tw1, tw2, tw3⟩ := turn_ev hp' (by omega) h3 htl
 by_cases ft : Fits t
 rotate_left
 ·refine ev_bind (tw1 ft) (ev_neg (by decide) (ev_pos (by omega) (ev_bind (perm_check_ev t (by omega)) (ev_some ?_))))
  rw [if_neg ft]
  rfl
 obtain ⟨zs, Z, z, z1, z2, ez⟩ := tw3 ft fs P own h
 obtain ⟨_, hbz⟩ := turn_fitting hp' h z ft htl
 have hlz := turn_len hp' h z ft htl
 have hqz := turn_lay hp' h z ft htl
 obtain ⟨ys, Y, y, y1, y2, ey⟩ := (turn_ev hbz (by omega) h3 hwl).2.2 fw zs Z _ hqz
 have eys : ys = es := good_eq y g (by rw [y1, g1]) (by rw [y2, z2, g2])
 subst eys
 rw [turn_on hp' h z y ft htl fw hwl] at ey
 exact ev_bind ez (ev_pos rfl (ev_bind ey (ev_pos rfl (ev_some (by simp)))))
end Go.Proofs.Ytbnifpfnjhdenaa.Pure
end
