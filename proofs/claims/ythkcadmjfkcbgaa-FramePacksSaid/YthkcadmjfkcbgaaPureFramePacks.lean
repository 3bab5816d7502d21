/- Every batch is packed as the document says, and so it is again when the cells that were handed in have been written over: the printed statement, proved over lists. -/
import Derived.Test.YthkcadmjfkcbgaaFrP3
import Derived.Test.YthkcadmjfkcbgaaQLFramePacks
set_option linter.unusedVariables false
set_option linter.unusedSimpArgs false
namespace Go.Proofs.Ythkcadmjfkcbgaa.Pure
open Go.RowKit Go.Proofs.Ythkcadmjfkcbgaa.Q Go.Proofs.YthkcadmjfkcbgaaW.PrintWords Go.Proofs.YthkcadmjfkcbgaaW.PrintLast Go.Proofs.Ythkcadmjfkcbgaa.Pl

theorem fp_cells (L R E : Int) (want q p : List Int) (cs : List (List Int)) (hcs : ∀ c ∈ cs, Bys c) (hR : -9223372036854775808 ≤ R ∧ R ≤ 9223372036854775807) (hn : cs.length ≤ 2097152) (hq : q = want) (hp : 4 ≤ p.length) :
    Ev (fun k => churnlaw06_FramePacks.l1 k want p q (cs.length : Int) (cs.length : Int) R E L cs) true := by
  subst hq
  refine Ev.step (f := fun k => ((churnref06_Pack.f k R E L cs).bind fun bt270 => ((frame_Pack.f k R E L cs).bind fun bt274 => ((churnlaw06_same.f q q).bind fun t278 => (if t278 = true then (if bt274.2 = bt270.2 then ((churnlaw06_same.f bt274.1 bt270.1).bind fun t279 => (if t279 = true then (some (decide ((p.length : Int) ≥ 4))) else (some false))) else (some false)) else (some false)))))) (fun k => by simp only [churnlaw06_FramePacks.l1]; rw [if_neg (by omega)]) ?_
  refine ev_bind (rpack_ev R E L cs hcs (by omega)) (ev_bind (pack_ev R E L cs hcs hR (by omega)) (ev_bind0 (same_refl q) (ev_pos rfl (ev_pos rfl (ev_bind0 (same_refl _) (ev_pos rfl (ev_some (decide_eq_true (by omega)))))))))
/-- The cells are written over, byte by byte, from cell i, byte j on. -/
theorem fp_l2 (L R E : Int) (want q p : List Int) (n : Nat) (hn : n ≤ 2097152) (hR : -9223372036854775808 ≤ R ∧ R ≤ 9223372036854775807) (hq : q = want) (hp : 4 ≤ p.length) (i m : Nat) (hm : m ≤ 140737488355328) (hi : i < n)
    (next : ∀ cs : List (List Int), (∀ c ∈ cs, Bys c ∧ c.length ≤ 140737488355328) → cs.length = n → Ev (fun k => churnlaw06_FramePacks.l1 k want p q (n : Int) ((i + 1 : Nat) : Int) R E L cs) true) :
    ∀ (d j : Nat) (cs : List (List Int)), j + d = m → (∀ c ∈ cs, Bys c ∧ c.length ≤ 140737488355328) → cs.length = n → (∀ h : i < cs.length, cs[i].length = m) →
      Ev (fun k => churnlaw06_FramePacks.l2 k want p q (i : Int) (n : Int) (i : Int) (m : Int) (j : Int) R E L cs) true
  | 0, j, cs, hj, hcs, hc, hci => by
    refine Ev.step (fun k => ?_) (next cs hcs hc)
    simp only [churnlaw06_FramePacks.l2]
    rw [if_neg (by omega), show wrap64 ((i : Int) + 1) = ((i + 1 : Nat) : Int) from by rw [w64 (by omega) (by omega)]; rfl]
  | d + 1, j, cs, hj, hcs, hc, hci => by
    have hlt : i < cs.length := by omega
    have hl := hci hlt
    have hb := hcs _ (List.getElem_mem hlt)
    have hx := xor_u8 (rd cs[i] (j : Int)) 170 (hb.1.rd _) (by omega)
    refine Ev.step (f := fun k => churnlaw06_FramePacks.l2 k want p q (i : Int) (n : Int) (i : Int) (m : Int) ((j + 1 : Nat) : Int) R E L (cs.set i (cs[i].set j (Go.bits .xor .u8 (rd cs[i] (j : Int)) 170)))) (fun k => ?_) ?_
    · simp only [churnlaw06_FramePacks.l2]
      rw [if_pos (by omega), if_pos (by omega), if_pos (by omega), if_pos (by omega), rdL_nat cs i hlt, if_pos (by omega), show wrap64 ((j : Int) + 1) = ((j + 1 : Nat) : Int) from by rw [w64 (by omega) (by omega)]; rfl]
      simp only [Int.toNat_natCast]
    · refine fp_l2 L R E want q p n hn hR hq hp i m hm hi next d (j + 1) _ (by omega) ?_ (by simp; omega) ?_
      · intro c hmem
        rcases List.mem_or_eq_of_mem_set hmem with h | rfl
        · exact hcs c h
        · refine ⟨fun x hxm => ?_, by simpa using hb.2⟩
          rcases List.mem_or_eq_of_mem_set hxm with h | rfl
          · exact hb.1 x h
          · exact hx
      · intro h
        simp [hl]
theorem fp_l1 (L R E : Int) (want q p : List Int) (n : Nat) (hn : n ≤ 2097152) (hR : -9223372036854775808 ≤ R ∧ R ≤ 9223372036854775807) (hq : q = want) (hp : 4 ≤ p.length) :
    ∀ (d i : Nat) (cs : List (List Int)), i + d = n → (∀ c ∈ cs, Bys c ∧ c.length ≤ 140737488355328) → cs.length = n → Ev (fun k => churnlaw06_FramePacks.l1 k want p q (n : Int) (i : Int) R E L cs) true
  | 0, i, cs, hi, hcs, hc => by
    obtain rfl : i = n := by omega
    subst hc
    exact fp_cells L R E want q p cs (fun c h => (hcs c h).1) hR hn hq hp
  | d + 1, i, cs, hi, hcs, hc => by
    have hlt : i < cs.length := by omega
    have hb := hcs _ (List.getElem_mem hlt)
    refine Ev.step (f := fun k => churnlaw06_FramePacks.l2 k want p q (i : Int) (n : Int) (i : Int) ((cs[i]).length : Int) 0 R E L cs) (fun k => ?_) ?_
    · simp only [churnlaw06_FramePacks.l1]
      rw [if_pos (by omega), if_pos (by omega), if_pos (by omega), rdL_nat cs i hlt]
    · exact fp_l2 L R E want q p n hn hR hq hp i cs[i].length hb.2 (by omega) (fun cs' h1 h2 => fp_l1 L R E want q p n hn hR hq hp d (i + 1) cs' (by omega) h1 h2) cs[i].length 0 cs (by omega) hcs hc (fun _ => rfl)
theorem fp_l0 (L R E : Int) (want q : List Int) (n m : Nat) (hm : m ≤ 140737488355000) (cs : List (List Int)) (hc : cs.length = n) (next : ∀ p : List Int, 4 ≤ p.length → Ev (fun k => churnlaw06_FramePacks.l1 k want p q (n : Int) 0 R E L cs) true) :
    ∀ (d i : Nat) (p : List Int), i + d = m → p.length = m → Ev (fun k => churnlaw06_FramePacks.l0 k want p q (m : Int) (i : Int) R E L cs) true
  | 0, i, p, hi, hp => by
    refine Ev.step (f := fun k => churnlaw06_FramePacks.l1 k want (p ++ [85, 85, 85, 85]) q (n : Int) 0 R E L cs) (fun k => ?_) (next _ (by simp))
    simp only [churnlaw06_FramePacks.l0]
    rw [if_neg (by omega), Option.bind_some, if_pos (by simp; omega), hc]
  | d + 1, i, p, hi, hp => by
    refine Ev.step (fun k => ?_) (fp_l0 L R E want q n m hm cs hc next d (i + 1) (p.set i 85) (by omega) (by simp; omega))
    simp only [churnlaw06_FramePacks.l0]
    rw [if_pos (by omega), if_pos (by omega), if_pos (by omega), show wrap64 ((i : Int) + 1) = ((i + 1 : Nat) : Int) from by rw [w64 (by omega) (by omega)]; rfl]
    simp only [Int.toNat_natCast]
theorem packL_len (p : List Int) (cs : List (List Int)) (h : p.length ≤ 100) (hc : cs.length ≤ 256) : (packL p cs).1.length ≤ 100000 := by
  unfold packL
  split
  · rename_i hall
    have : ∀ cs : List (List Int), (cs.all fun c => decide (c.length = 320)) = true → (encC cs).length = 322 * cs.length := by
      intro cs
      induction cs with
      | nil => intro _; rfl
      | cons c cs ih =>
        intro hh
        simp only [List.all_cons, Bool.and_eq_true, decide_eq_true_eq] at hh
        rw [encC_cons]
        simp only [List.length_append, be_len, hh.1, ih (by simpa using hh.2), List.length_cons]
        omega
    simp only [List.length_append, be_len, this cs hall]
    omega
  · simp
theorem packF_len (R E L : Int) (cs : List (List Int)) : (packF R E L cs).1.length ≤ 100000 := by
  unfold packF
  split
  · split
    · simp
    · exact packL_len _ _ (by rw [enc_len]; omega) (by omega)
  · simp
theorem FramePacks : churnlaw06_FramePacks.Pure := by
  rintro ⟨R, E, L⟩ cs ⟨hR, hE, hL⟩ ⟨h1, h2, h3⟩
  have hR' := wf_i64 hR
  have hby : ∀ c ∈ cs, Bys c := fun c hc x hx => wf_u8 ((h3 c hc).2.2 x hx)
  have hle : ∀ c ∈ cs, c.length ≤ 140737488355328 := fun c hc => by have := (h3 c hc).2.1; omega
  refine Ev.rounds (g := fun k => churnlaw06_FramePacks.f k R E L cs) (r := true) ?_
  unfold churnlaw06_FramePacks.f
  refine ev_bind awake_ev (ev_pos rfl ?_)
  obtain ⟨b, hb, hg⟩ := great_ev cs (by omega) hle
  refine ev_bind hb ?_
  cases b with
  | true => exact ev_pos rfl (Ev.now _)
  | false =>
    have ht := hg rfl
    have hn : cs.length ≤ 2097152 := Nat.le_trans (totL_len cs) ht
    have hm : ∀ c ∈ cs, c.length ≤ 2097152 := fun c hc => Nat.le_trans (totL_mem cs c hc) ht
    have hlen := packF_len R E L cs
    have nx : ∀ p : List Int, 4 ≤ p.length → Ev (fun k => churnlaw06_FramePacks.l1 k (packF R E L cs).1 p (packF R E L cs).1 (cs.length : Int) 0 R E L cs) true := fun p hp =>
      fp_l1 L R E _ _ p cs.length hn hR' rfl hp cs.length 0 cs (by omega) (fun c hc => ⟨hby c hc, hle c hc⟩) rfl
    have l0 : Ev (fun k => churnlaw06_FramePacks.l0 k (packF R E L cs).1 (packF R E L cs).1 (packF R E L cs).1 ((packF R E L cs).1.length : Int) 0 R E L cs) true :=
      fp_l0 L R E _ _ cs.length (packF R E L cs).1.length (by omega) cs rfl nx (packF R E L cs).1.length 0 _ (by omega) rfl
    have j0 : Ev (fun k => churnlaw06_FramePacks.j0 k (packF R E L cs).1 (packF R E L cs).1 (packF R E L cs).1 (!true) R E L cs) true :=
      Ev.step (fun k => by simp only [churnlaw06_FramePacks.j0]; exact if_neg (by simp)) l0
    refine ev_neg (by simp) ?_
    refine ev_bind (copied_ev cs hn hm) ?_
    refine ev_bind (rpack_ev R E L cs hby (by omega)) ?_
    refine ev_bind (pack_ev R E L cs hby hR' (by omega)) ?_
    refine ev_bind (pack_ev R E L cs hby hR' (by omega)) ?_
    refine ev_pos rfl (ev_pos rfl ?_)
    refine ev_bind0 (same_refl _) (ev_pos rfl ?_)
    refine ev_bind0 (same_refl _) (ev_pos rfl ?_)
    exact ev_bind (alike_ev R E L cs (by omega)) j0

end Go.Proofs.Ythkcadmjfkcbgaa.Pure
