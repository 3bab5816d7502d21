/- A batch that is packed is read again as that batch; bytes that are read as a batch are what it is packed to; a fault's place lies in the bytes: the printed statement, proved over lists. -/
import Derived.Test.YthkcadmjfkcbgaaFrP5
import Derived.Test.YthkcadmjfkcbgaaQLFrameBack
set_option linter.unusedVariables false
set_option linter.unusedSimpArgs false
namespace Go.Proofs.Ythkcadmjfkcbgaa.Pure
open Go.RowKit Go.Proofs.Ythkcadmjfkcbgaa.Q Go.Proofs.YthkcadmjfkcbgaaW.PrintWords Go.Proofs.YthkcadmjfkcbgaaW.PrintLast Go.Proofs.Ythkcadmjfkcbgaa.Pl

theorem encC_len (cs : List (List Int)) (h : ∀ c ∈ cs, c.length = 320) : (encC cs).length = 322 * cs.length := by
  induction cs with
  | nil => rfl
  | cons c cs ih =>
    rw [encC_cons]
    simp only [List.length_append, be_len, h c List.mem_cons_self, ih (fun d hd => h d (List.mem_cons_of_mem _ hd)), List.length_cons]
    omega
theorem encC_bys (cs : List (List Int)) (h : ∀ c ∈ cs, Bys c) : Bys (encC cs) := by
  induction cs with
  | nil => intro x hx; simp [encC] at hx
  | cons c cs ih =>
    rw [encC_cons]
    exact ((be_bys _ _).append (h c List.mem_cons_self)).append (ih fun d hd => h d (List.mem_cons_of_mem _ hd))
theorem whole_len {R E L : Int} {cs : List (List Int)} (h : Full R E L cs) : (whole R E L cs).length = 28 + 322 * cs.length := by
  simp only [whole, List.length_append, be_len, enc_len, encC_len cs h.2.2]
  omega
theorem whole_bys {R E L : Int} {cs : List (List Int)} (h : Full R E L cs) (hb : ∀ c ∈ cs, Bys c) : Bys (whole R E L cs) :=
  ((enc_bys R E L cs h.1.1 h.1.2.1).append (encC_bys cs hb)).append (be_bys _ _)
theorem cells_bys {R E L : Int} {cs : List (List Int)} (h : Bys (whole R E L cs)) : ∀ c ∈ cs, Bys c := by
  have h1 : Bys (encC cs) := (Bys.left h).right
  clear h
  induction cs with
  | nil => intro c hc; cases hc
  | cons d cs ih =>
    rw [encC_cons] at h1
    intro c hc
    rcases List.mem_cons.1 hc with rfl | hc
    · exact (Bys.left h1).right
    · exact ih h1.right c hc
theorem FrameBack : churnlaw06_FrameBack.Pure := by
  rintro ⟨R, E, L⟩ cs raw ⟨hR, hE, hL⟩ ⟨h1, h2, h3⟩ ⟨r1, r2, r3⟩
  have hR' := wf_i64 hR
  have hby : ∀ c ∈ cs, Bys c := fun c hc x hx => wf_u8 ((h3 c hc).2.2 x hx)
  have hle : ∀ c ∈ cs, c.length ≤ 140737488355328 := fun c hc => by have := (h3 c hc).2.1; omega
  have hrb : Bys raw := fun x hx => wf_u8 (r3 x hx)
  refine Ev.rounds (g := fun k => churnlaw06_FrameBack.f k R E L cs raw) (r := true) ?_
  have j0 : Ev (fun k => churnlaw06_FrameBack.j0 k raw) true := by
    refine Ev.step (f := fun k => (frame_Read.f raw).bind fun bt439 => (if bt439.2.2.2.2.2 = 0 then ((frame_Pack.f k bt439.1 bt439.2.1 bt439.2.2.1 bt439.2.2.2.1).bind fun bt448 => (if bt448.2 = 0 then ((churnlaw06_same.f bt448.1 raw).bind fun t452 => (some t452)) else (some false))) else (if (bt439.2.2.2.1.length : Int) = 0 then (if (bt439.1 == 0 && (bt439.2.1 == 0 && (bt439.2.2.1 == 0))) = true then (if bt439.2.2.2.2.1 ≥ 0 then (some (decide (bt439.2.2.2.2.1 ≤ (raw.length : Int)))) else (some false)) else (some false)) else (some false)))) (fun k => by simp only [churnlaw06_FrameBack.j0]) ?_
    refine ev_bind0 (Read_eq raw hrb (by omega)) ?_
    rcases read_cases raw hrb with ⟨R, E, L, cs, hf, hw, hr⟩ | ⟨p, e, he, p0, p1, hr⟩
    · rw [hr]
      refine ev_pos rfl ?_
      have hcb := cells_bys (hw ▸ hrb)
      refine ev_bind (pack_ev R E L cs hcb (by have := hf.1; omega) (by have := hf.2.1; omega)) ?_
      rw [full_pack hf, ← hw]
      exact ev_pos rfl (ev_bind0 (same_refl raw) (Ev.now _))
    · rw [hr]
      exact ev_neg he (ev_pos rfl (ev_pos rfl (ev_pos p0 (ev_some (decide_eq_true p1)))))
  unfold churnlaw06_FrameBack.f
  refine ev_bind awake_ev (ev_pos rfl ?_)
  obtain ⟨b, hb, hg⟩ := great_ev cs (by omega) hle
  refine ev_bind hb ?_
  cases b with
  | true => exact ev_pos rfl (Ev.now _)
  | false =>
    refine ev_neg (by simp) ?_
    refine ev_bind (pack_ev R E L cs hby hR' (by omega)) ?_
    by_cases hz : (packF R E L cs).2 = 0
    · refine ev_pos hz ?_
      have hf := pack_full hz
      have hl := whole_len hf
      have hn := hf.2.1
      rw [full_pack hf]
      refine ev_bind0 (Read_eq (whole R E L cs) (whole_bys hf hby) (by omega)) ?_
      rw [read_whole hf]
      refine ev_pos rfl (ev_pos rfl ?_)
      refine ev_bind (alike_ev R E L cs (by omega)) (ev_pos rfl (ev_pos ?_ j0))
      show ((whole R E L cs).length : Int) = _
      rw [show wrap64 (322 * (cs.length : Int)) = 322 * (cs.length : Int) from w64 (by omega) (by omega), w64 (by omega) (by omega), hl]
      omega
    · exact ev_neg hz j0

end Go.Proofs.Ythkcadmjfkcbgaa.Pure
