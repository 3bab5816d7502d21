/- The parts of a split tape one behind the other are the beginning of the tape, 18 bytes the noise's, the braid's half of the rest, the chunks' all of one length; fewer bytes than chunks are left over (P9.2): the printed statement, proved over lists. -/
import Derived.Test.YtangepklgeikkaaTape1
import Derived.Test.YtangepklgeikkaaQx12
set_option linter.unusedVariables false
set_option linter.unusedSimpArgs false
namespace Go.Proofs.Ytangepklgeikkaa.Pure
open Go.RowKit Go.Proofs.Ytangepklgeikkaa.Q Go.Proofs.YtangepklgeikkaaW.PrintWords Go.Proofs.YtangepklgeikkaaW.PrintLast Go.Proofs.Ytangepklgeikkaa.Pl

theorem take_piece (l : List Int) (q j : Nat) : l.take ((j + 1) * q) = l.take (j * q) ++ piece l q j := by
  have h : j * q ≤ (j + 1) * q := Nat.mul_le_mul_right _ (by omega)
  have := (List.take_append_drop (j * q) (l.take ((j + 1) * q))).symm
  rw [List.take_take, Nat.min_eq_left h] at this
  exact this
theorem pieces_flat (l : List Int) (q : Nat) : ∀ c : Nat, (pieces l q c).flatten = l.take (c * q)
  | 0 => by simp [pieces]
  | c + 1 => by rw [pieces_succ, List.flatten_append, pieces_flat l q c, take_piece]; simp
theorem parts_all (p : List Int) (n : Nat) (h : 18 ≤ p.length) : ([noiseOf p, braidOf p] ++ pieces (restOf p) (qOf p n) n).flatten = p.take (18 + ((p.length - 18) / 2 + n * qOf p n)) := by
  rw [List.flatten_append, pieces_flat]
  have e : p = p.take 18 ++ p.drop 18 := (List.take_append_drop _ _).symm
  have e2 : p.drop 18 = braidOf p ++ restOf p := (List.take_append_drop _ _).symm
  have hb : (braidOf p).length = (p.length - 18) / 2 := by simp [braidOf]; omega
  have h1 : p.take (18 + ((p.length - 18) / 2 + n * qOf p n)) = p.take 18 ++ (p.drop 18).take ((p.length - 18) / 2 + n * qOf p n) := by
    rw [List.take_add]
  rw [h1, e2, List.take_append, hb, List.take_of_length_le (l := braidOf p) (by omega)]
  simp [noiseOf]

theorem parts_l0 (p : List Int) (n : Nat) (hn1 : 1 ≤ n) (hn : n ≤ 64) (h : 18 ≤ p.length) (hp : p.length ≤ 140737488351232)
    (L : List (List Int)) (hL : L = [noiseOf p, braidOf p] ++ pieces (restOf p) (qOf p n) n)
    (next : Ev (fun k => churnlaw09_TapeParts.j2 k p false (noiseOf p) (braidOf p) (pieces (restOf p) (qOf p n) n)) true) :
    Ev (fun k => churnlaw09_TapeParts.l0 k p (n : Int) 0 [] L (L.length : Int) 0 (noiseOf p) (braidOf p) (pieces (restOf p) (qOf p n) n)) true := by
  have hrl := restOf_len p
  have hq1 := qmul_le p n n (Nat.le_refl _)
  have hq2 : (restOf p).length < n * qOf p n + n := by
    have := Nat.lt_div_mul_add (a := (restOf p).length) (b := n) (by omega)
    unfold qOf
    rw [Nat.mul_comm] at this
    exact this
  have hall := parts_all p n h
  rw [← hL] at hall
  have hlen : L.length = n + 2 := by rw [hL]; simp [pieces]
  have hcut : L.flatten.length = 18 + ((p.length - 18) / 2 + n * qOf p n) := by rw [hall, List.length_take]; omega
  have key : ∀ (d i : Nat), i + d = L.length → Ev (fun k => churnlaw09_TapeParts.l0 k p (n : Int) 0 (L.take i).flatten L (L.length : Int) (i : Int) (noiseOf p) (braidOf p) (pieces (restOf p) (qOf p n) n)) true := by
    intro d
    induction d with
    | zero =>
      intro i hi
      rw [List.take_of_length_le (by omega)]
      have b1 : ¬ ((i : Int) < (L.length : Int)) := by omega
      have b2 : ((pieces (restOf p) (qOf p n) n).length : Int) = (n : Int) := by simp [pieces]
      have b3 : ¬ ((L.flatten.length : Int) > (p.length : Int)) := by omega
      have b4 : (0 : Int) ≤ (L.flatten.length : Int) := by omega
      have b5 : (L.flatten.length : Int) ≤ (p.length : Int) := by omega
      have b6 : ¬ ((p.length : Int) - (L.flatten.length : Int) ≥ (n : Int)) := by omega
      have b7 : churnlaw09_same.f L.flatten (p.take ((L.flatten.length : Int)).toNat) = some true := by
        unfold churnlaw09_same.f
        rw [Int.toNat_natCast, hcut, ← hall]
        simp
      have b8 : wrap64 ((p.length : Int) - (L.flatten.length : Int)) = (p.length : Int) - (L.flatten.length : Int) := w64 (by omega) (by omega)
      refine Ev.step (fun k => ?_) next
      rw [churnlaw09_TapeParts.l0, if_neg b1, if_pos rfl, if_pos b2, if_neg b3, if_pos b4, if_pos b5, b7, Option.bind_some, if_pos rfl, b8, decide_eq_false b6]
    | succ d ih =>
      intro i hi
      have hlt : i < L.length := by omega
      have hr : rd_L2 L (i : Int) = L[i] := by simp [rd_L2, hlt]
      have htk : (L.take (i + 1)).flatten = (L.take i).flatten ++ L[i] := by rw [List.take_succ_eq_append_getElem hlt, List.flatten_append]; simp only [List.flatten_cons, List.flatten_nil, List.append_nil]
      have hle : (L.take (i + 1)).flatten.length ≤ L.flatten.length := by
        have : L.flatten = (L.take (i + 1)).flatten ++ (L.drop (i + 1)).flatten := by rw [← List.flatten_append, List.take_append_drop]
        rw [this, List.length_append]
        omega
      rw [htk, List.length_append] at hle
      have b1 : (i : Int) < (L.length : Int) := by omega
      have b2 : (0 : Int) ≤ (i : Int) := by omega
      have b3 : (L.take i).flatten.length + L[i].length < 140737488355328 := by omega
      have b9 : i + 1 + d = L.length := by omega
      have b10 : i + 1 ≤ 9223372036854775807 := by omega
      have b7 : wrap64 ((i : Int) + 1) = ((i + 1 : Nat) : Int) := w64n (x := i + 1) b10
      refine Ev.step (fun k => ?_) (ih (i + 1) b9)
      rw [churnlaw09_TapeParts.l0, if_pos b1, if_pos b2, if_pos b1, hr, if_pos b3, b7, htk]
  have := key L.length 0 (by omega)
  simpa using this

theorem parts_l1 (p : List Int) (n : Nat) (hn1 : 1 ≤ n) (hn : n ≤ 64) (h : 18 ≤ p.length) (hp : p.length ≤ 140737488351232) :
    Ev (fun k => churnlaw09_TapeParts.j2 k p false (noiseOf p) (braidOf p) (pieces (restOf p) (qOf p n) n)) true := by
  refine Ev.step (fun k => by rw [churnlaw09_TapeParts.j2, if_neg (by simp)]) ?_
  have hlen : (pieces (restOf p) (qOf p n) n).length = n := by simp [pieces]
  have hget : ∀ i : Nat, i < n → rd_L2 (pieces (restOf p) (qOf p n) n) (i : Int) = piece (restOf p) (qOf p n) i := fun i hi => by simp [rd_L2, pieces, hi]
  have h00 := hget 0 (by omega)
  have hpl0 := piece_len p n 0 (by omega)
  have key : ∀ (d i : Nat), i + d = n → Ev (fun k => churnlaw09_TapeParts.l1 k p (pieces (restOf p) (qOf p n) n) ((pieces (restOf p) (qOf p n) n).length : Int) (i : Int) (noiseOf p) (braidOf p) (pieces (restOf p) (qOf p n) n)) true := by
    intro d
    induction d with
    | zero =>
      intro i hi
      have b1 : ¬ ((i : Int) < ((pieces (restOf p) (qOf p n) n).length : Int)) := by omega
      have b2 : ((noiseOf p).length : Int) = 18 := by simp [noiseOf]; omega
      have b3 : (braidOf p).length = (p.length - 18) / 2 := by simp [braidOf]; omega
      have b4 : (((p.length - 18) / 2 : Nat) : Int) = Int.tdiv ((p.length : Int) - 18) 2 := by
        rw [show ((p.length : Int) - 18) = ((p.length - 18 : Nat) : Int) from by omega, show (2 : Int) = ((2 : Nat) : Int) from rfl, ← Int.ofNat_tdiv]
      have b5 : (p.length - 18) / 2 ≤ 9223372036854775807 := by omega
      have b6 : wrap64 (((p.length - 18) / 2 : Nat) : Int) = (((p.length - 18) / 2 : Nat) : Int) := w64n b5
      refine Ev.step (f := fun _ => some true) (fun k => ?_) (Ev.now _)
      rw [churnlaw09_TapeParts.l1, if_neg b1, if_pos b2, b3, w64 (x := (p.length : Int) - 18) (by omega) (by omega), ← b4, b6]
      simp
    | succ d ih =>
      intro i hi
      have hpl := piece_len p n i (by omega)
      have hgi := hget i (by omega)
      have b1 : (i : Int) < ((pieces (restOf p) (qOf p n) n).length : Int) := by omega
      have b2 : (0 : Int) ≤ (i : Int) := by omega
      have b3 : (0 : Int) < ((pieces (restOf p) (qOf p n) n).length : Int) := by omega
      have b4 : ((piece (restOf p) (qOf p n) i).length : Int) = ((piece (restOf p) (qOf p n) 0).length : Int) := by omega
      have b9 : i + 1 + d = n := by omega
      have b10 : i + 1 ≤ 9223372036854775807 := by omega
      have b7 : wrap64 ((i : Int) + 1) = ((i + 1 : Nat) : Int) := w64n (x := i + 1) b10
      refine Ev.step (fun k => ?_) (ih (i + 1) b9)
      have h00' : rd_L2 (pieces (restOf p) (qOf p n) n) 0 = piece (restOf p) (qOf p n) 0 := h00
      rw [churnlaw09_TapeParts.l1, if_pos b1, if_pos b2, if_pos b1, if_pos b3, hgi, h00', if_pos b4, b7]
  exact key n 0 (by omega)

theorem TapeParts : churnlaw09_TapeParts.Pure := by
  intro p c hm h8 hw hc
  refine Ev.rounds (g := fun k => churnlaw09_TapeParts.f k p c) (r := true) ?_
  unfold churnlaw09_TapeParts.f
  have haw : churnlaw09_awake.f = some true := by decide +kernel
  have hs := split_ev p c (by omega)
  refine ev_bind0 haw (ev_pos rfl (ev_bind hs ?_))
  unfold splitS
  have bad : ∀ b : Bool, b = true → Ev (fun k => churnlaw09_TapeParts.j0 k p c 2 b [] [] []) true := fun b hb => Ev.step (f := fun _ => some true) (fun k => by
    rw [churnlaw09_TapeParts.j0, if_pos hb, if_pos rfl]
    rfl) (Ev.now _)
  by_cases h1 : c < 1
  · rw [if_pos (.inl h1)]
    exact ev_pos h1 (bad true rfl)
  · refine ev_neg h1 ?_
    by_cases h2 : c > 64
    · rw [if_pos (.inr h2)]
      exact bad _ (decide_eq_true h2)
    · rw [if_neg (by omega)]
      by_cases h3 : p.length < 18
      · rw [if_pos h3]
        refine Ev.step (f := fun _ => some true) (fun k => ?_) (Ev.now _)
        rw [churnlaw09_TapeParts.j0, if_neg (by simpa using h2), if_pos (by omega), if_pos rfl]
        rfl
      · rw [if_neg h3]
        obtain ⟨n, rfl⟩ := Int.eq_ofNat_of_zero_le (show 0 ≤ c by omega)
        rw [Int.toNat_natCast]
        have hl := parts_l0 p n (by omega) (by omega) (by omega) (by omega) _ rfl (parts_l1 p n (by omega) (by omega) (by omega) (by omega))
        refine Ev.step (fun k => ?_) hl
        have hli : churnlaw09_lists.f (noiseOf p) (braidOf p) (pieces (restOf p) (qOf p n) n) = some ([noiseOf p, braidOf p] ++ pieces (restOf p) (qOf p n) n) := by
          unfold churnlaw09_lists.f
          rw [Option.bind_some, if_pos (by simp [pieces]; omega)]
        rw [churnlaw09_TapeParts.j0, if_neg (by simpa using h2), if_neg (by omega), hli, Option.bind_some]

end Go.Proofs.Ytangepklgeikkaa.Pure
