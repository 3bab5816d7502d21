/- A batch's bytes with one byte turned are refused: the printed statement, proved over lists. -/
import Derived.Test.YthkcadmjfkcbgaaFrP5
import Derived.Test.YthkcadmjfkcbgaaQLFrameTurned
set_option linter.unusedVariables false
set_option linter.unusedSimpArgs false
namespace Go.Proofs.Ythkcadmjfkcbgaa.Pure
open Go.RowKit Go.Proofs.Ythkcadmjfkcbgaa.Q Go.Proofs.YthkcadmjfkcbgaaW.PrintWords Go.Proofs.YthkcadmjfkcbgaaW.PrintLast Go.Proofs.Ythkcadmjfkcbgaa.Pl

theorem encC_len (cs : List (List Int)) (h : ∀ c ∈ cs, c.length = 320) : (encC cs).length = 322 * cs.length := by
  induction cs with
  | nil => rfl
  | cons c cs ih =>
    rw [encC_cons]
    simp only [List.length_append, be_len, h c List.mem_cons_self, ih (fun d hd => h d (List.mem_cons_of_mem _ hd)), List.length_cons]
    omega
theorem encC_bys (cs : List (List Int)) (h : ∀ c ∈ cs, Bys c) : Bys (encC cs) := by
  induction cs with
  | nil => intro x hx; simp [encC] at hx
  | cons c cs ih =>
    rw [encC_cons]
    exact ((be_bys _ _).append (h c List.mem_cons_self)).append (ih fun d hd => h d (List.mem_cons_of_mem _ hd))
theorem whole_len {R E L : Int} {cs : List (List Int)} (h : Full R E L cs) : (whole R E L cs).length = 28 + 322 * cs.length := by
  simp only [whole, List.length_append, be_len, enc_len, encC_len cs h.2.2]
  omega
theorem whole_bys {R E L : Int} {cs : List (List Int)} (h : Full R E L cs) (hb : ∀ c ∈ cs, Bys c) : Bys (whole R E L cs) :=
  ((enc_bys R E L cs h.1.1 h.1.2.1).append (encC_bys cs hb)).append (be_bys _ _)
theorem sum_set (l : List Int) : ∀ (i : Nat) (x : Int), i < l.length → (l.set i x).sum = l.sum - l.getD i 0 + x := by
  induction l with
  | nil => intro i x h; simp at h
  | cons c l ih =>
    intro i x h
    cases i with
    | zero => simp; omega
    | succ i =>
      simp only [List.set_cons_succ, List.sum_cons, List.getD_cons_succ]
      rw [ih i x (by simpa using h)]
      omega
/-- Two heads of one length, each with its foot behind it, that differ in one byte: there are none. -/
theorem one_byte (p q : List Int) (hp : Bys p) (hq : Bys q) (i : Nat) (x : Int) (hx : 0 ≤ x ∧ x ≤ 255) (hi : i < p.length + 4) (hl : q.length = p.length) (hne : x ≠ (p ++ be (footV p) 4).getD i 0)
    (h : (p ++ be (footV p) 4).set i x = q ++ be (footV q) 4) : False := by
  by_cases hip : i < p.length
  · rw [List.set_append_left _ _ hip] at h
    obtain ⟨h1, h2⟩ := List.append_inj h (by simp [hl])
    have p4 : (256 : Int) ^ 4 = 4294967296 := by decide
    have f1 := footV_range p
    have f2 := footV_range q
    have hv : footV p = footV q := by
      rw [← numL_be (footV p) 4 f1.1 (by rw [p4]; exact f1.2), h2, numL_be (footV q) 4 f2.1 (by rw [p4]; exact f2.2)]
    have a1 := sumL_fst p 1 0 (by omega) (by omega)
    have a2 := sumL_fst q 1 0 (by omega) (by omega)
    obtain ⟨b1, b2, b3, b4⟩ := sumL_range p 1 0 (by omega) (by omega) (by omega) (by omega)
    obtain ⟨c1, c2, c3, c4⟩ := sumL_range q 1 0 (by omega) (by omega) (by omega) (by omega)
    unfold footV at hv
    have hs : (sumL 1 0 p).1 = (sumL 1 0 q).1 := by omega
    have e := sum_set p i x hip
    rw [h1] at e
    have hg : (p ++ be (footV p) 4).getD i 0 = p.getD i 0 := by simp [List.getD_eq_getElem?_getD, List.getElem?_append_left hip]
    rw [hg] at hne
    have hb := hp.rd (i : Int)
    have hr : rd p (i : Int) = p.getD i 0 := rd_nat p i
    rw [hr] at hb
    omega
  · rw [List.set_append_right _ _ (by omega)] at h
    obtain ⟨h1, h2⟩ := List.append_inj h (by simp [hl])
    subst h1
    have h3 : ((be (footV p) 4).set (i - p.length) x).getD (i - p.length) 0 = (be (footV p) 4).getD (i - p.length) 0 := by rw [h2]
    apply hne
    have e1 : ((be (footV p) 4).set (i - p.length) x).getD (i - p.length) 0 = x := by
      have : i - p.length < (be (footV p) 4).length := by rw [be_len]; omega
      simp [List.getD_eq_getElem?_getD, List.getElem?_set, this]
    rw [e1] at h3
    rw [h3]
    simp [List.getD_eq_getElem?_getD, List.getElem?_append_right (show p.length ≤ i by omega)]
theorem xor_ne (a b : Int) (ha : 0 ≤ a ∧ a ≤ 255) (hb : 0 ≤ b ∧ b ≤ 255) (h0 : b ≠ 0) : Go.bits .xor .u8 a b ≠ a := by
  rw [u8_xor a b ha.1 (by omega) hb.1 (by omega)]
  intro h
  have h1 : a.toNat ^^^ b.toNat = a.toNat := by omega
  have h2 : a.toNat ^^^ (a.toNat ^^^ b.toNat) = b.toNat := by rw [← Nat.xor_assoc, Nat.xor_self, Nat.zero_xor]
  rw [h1, Nat.xor_self] at h2
  omega
theorem place_ok (i : Int) (n : Nat) (hi : -9223372036854775808 ≤ i ∧ i ≤ 9223372036854775807) (hn : 0 < n) : ∃ j : Nat, churnlaw06_place.f i (n : Int) = some (j : Int) ∧ j < n := by
  unfold churnlaw06_place.f
  have key : ∀ v : Int, 0 ≤ v → ∃ j : Nat, Int.tmod v (n : Int) = (j : Int) ∧ j < n := fun v hv => by
    rw [Int.tmod_eq_emod_of_nonneg hv]
    have h1 := Int.emod_nonneg v (show (n : Int) ≠ 0 by omega)
    have h2 := Int.emod_lt_of_pos v (show (0 : Int) < n by omega)
    exact ⟨(v % n).toNat, by omega, by omega⟩
  by_cases h : i < 0
  · rw [if_pos h, if_neg (by omega), show wrap64 (i + 1) = i + 1 from w64 (by omega) (by omega), show wrap64 (-(i + 1)) = -(i + 1) from w64 (by omega) (by omega)]
    obtain ⟨j, h1, h2⟩ := key (-(i + 1)) (by omega)
    exact ⟨j, by rw [h1], h2⟩
  · rw [if_neg h, if_neg (by omega)]
    obtain ⟨j, h1, h2⟩ := key i (by omega)
    exact ⟨j, by rw [h1], h2⟩
theorem FrameTurned : churnlaw06_FrameTurned.Pure := by
  rintro ⟨R, E, L⟩ cs at_ by_ ⟨hR, hE, hL⟩ ⟨h1, h2, h3⟩ ha hbt
  have hR' := wf_i64 hR
  have ha' := wf_i64 ha
  have hb' := wf_u8 hbt
  have hby : ∀ c ∈ cs, Bys c := fun c hc x hx => wf_u8 ((h3 c hc).2.2 x hx)
  have hle : ∀ c ∈ cs, c.length ≤ 140737488355328 := fun c hc => by have := (h3 c hc).2.1; omega
  refine Ev.rounds (g := fun k => churnlaw06_FrameTurned.f k R E L cs at_ by_) (r := true) ?_
  unfold churnlaw06_FrameTurned.f
  refine ev_bind awake_ev (ev_pos rfl ?_)
  obtain ⟨b, hb, hg⟩ := great_ev cs (by omega) hle
  refine ev_bind hb ?_
  cases b with
  | true => exact ev_pos rfl (Ev.now _)
  | false =>
    refine ev_neg (by simp) ?_
    refine ev_bind (pack_ev R E L cs hby hR' (by omega)) ?_
    by_cases hz : (packF R E L cs).2 = 0
    · refine ev_pos hz ?_
      have hf := pack_full hz
      have hl := whole_len hf
      have hn := hf.2.1
      have hwb := whole_bys hf hby
      rw [full_pack hf]
      refine ev_neg (by simp only []; omega) ?_
      by_cases h0 : by_ = 0
      · have : (by_ == 0) = true := beq_iff_eq.2 h0
        rw [this]
        exact Ev.step (f := fun k => some true) (fun k => by simp only [churnlaw06_FrameTurned.j0, if_true]; rw [decide_eq_true (by omega)]) (Ev.now _)
      · have : (by_ == 0) = false := beq_eq_false_iff_ne.2 h0
        rw [this]
        obtain ⟨j, hj, hjl⟩ := place_ok at_ (whole R E L cs).length ha' (by omega)
        refine Ev.step (f := fun k => some true) (fun k => ?_) (Ev.now _)
        simp only [churnlaw06_FrameTurned.j0]
        rw [if_neg (by simp), hj, Option.bind_some, if_pos (by omega), if_pos (by omega)]
        simp only [Int.toNat_natCast]
        have hv := hwb.rd (j : Int)
        have hx := xor_u8 (rd (whole R E L cs) (j : Int)) by_ hv hb'
        have hsb : Bys ((whole R E L cs).set j (Go.bits .xor .u8 (rd (whole R E L cs) (j : Int)) by_)) := fun y hy => by
          rcases List.mem_or_eq_of_mem_set hy with h | rfl
          · exact hwb y h
          · exact hx
        rw [Read_eq _ hsb (by simp; omega), Option.bind_some]
        rcases read_cases _ hsb with ⟨R', E', L', cs', hf', hw', hr⟩ | ⟨p, e, he, p0, p1, hr⟩
        · exfalso
          have hl' := congrArg List.length hw'
          rw [List.length_set, hl, whole_len hf'] at hl'
          have hcs : cs'.length = cs.length := by omega
          have hne := xor_ne (rd (whole R E L cs) (j : Int)) by_ hv hb' h0
          refine one_byte (enc R E L cs ++ encC cs) (enc R' E' L' cs' ++ encC cs') (Bys.left hwb) (Bys.left (hw' ▸ hsb)) j _ hx ?_ ?_ ?_ hw'
          · simp only [List.length_append, enc_len, encC_len cs hf.2.2]; omega
          · simp only [List.length_append, enc_len, encC_len cs hf.2.2, encC_len cs' hf'.2.2]; omega
          · rw [← rd_nat]; exact hne
        · rw [hr]
          simp only []
          rw [if_neg he]
          rfl
    · refine ev_neg hz (ev_some ?_)
      have : (packF R E L cs).1 = [] := by
        unfold packF packL at hz ⊢
        split
        · split
          · rfl
          · split
            · rename_i a b c; rw [if_pos a, if_neg b, if_pos c] at hz; simp at hz
            · rfl
        · rfl
      rw [this]
      rfl

end Go.Proofs.Ythkcadmjfkcbgaa.Pure
