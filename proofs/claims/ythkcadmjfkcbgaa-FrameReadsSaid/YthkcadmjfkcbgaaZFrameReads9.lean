/- Functions of the program as plain Lean functions, each with a proof that its call comes to just these answers, and the row that joins them to the given statement; no condition beside the statement's own. Written for this claim by this session's programs (pf.py, pack.py) over the kit's print. -/
import Derived.Deep.CutBlock
import Derived.Test.YthkcadmjfkcbgaaZFrameReads0
import Derived.Test.YthkcadmjfkcbgaaZFrameReads1
import Derived.Test.YthkcadmjfkcbgaaZFrameReads2
import Derived.Test.YthkcadmjfkcbgaaZFrameReads3
import Derived.Test.YthkcadmjfkcbgaaZFrameReads4
import Derived.Test.YthkcadmjfkcbgaaZFrameReads5
import Derived.Test.YthkcadmjfkcbgaaZFrameReads6
import Derived.Test.YthkcadmjfkcbgaaZFrameReads7
import Derived.Test.YthkcadmjfkcbgaaZFrameReads8
section
set_option linter.unusedVariables false
set_option linter.unusedSimpArgs false
namespace Go.Proofs.Ythkcadmjfkcbgaa.Q
open Go.RowKit Go.Proofs.YthkcadmjfkcbgaaW.PrintWords Go.Proofs.YthkcadmjfkcbgaaW.PrintLast Go.Proofs.YthkcadmjfkcbgaaW.PrintMore Go.Proofs.Ythkcadmjfkcbgaa.Pl
set_option maxHeartbeats 4000000 in
set_option maxRecDepth 100000 in
theorem reads_calls (A0 : Option Addr) (c0 : Nat) (ls : List (List Int)) (w : World) (hr0 : Kd.C (Kd.slice 5 (Kd.int .u8)) w A0 ls.length ls) (hc0 : ls.length ≤ c0) (hl : ls.length ≤ 140737488355328) (hx : ∀ x ∈ ls, Bys x ∧ x.length ≤ 140737488354000) :
    Calls Try.prog 4 #[.slice A0 ls.length c0] w fun e w' => e = .returned (.bool true) ∧ Below w.heap.size w w' := by
  have H0 := Aside0.mk hr0
  have G0 := Aside0.mk hc0
  have L0 := Aside0.mk hl
  have LX := Aside0.mk hx
  clear hr0 hc0 hl hx
  obtain ⟨ka, hka⟩ := awake_ev.rounds
  go_enter Try.func4, Try.ntmps4
  go_wp2_with (fail)
  with_reducible refine (churnlaw06_awake.calls ka true w rfl hka).mono ?_
  rintro e w1 ⟨rfl, hb⟩
  have HB := Aside0.mk hb
  clear hb hka
  go_wp2_with (fail)
  go_loopg [23] ls.length (fun gq_ v23 wq => ∃ (i : Nat), v23 = .int .i64 i ∧ Aside0 (i ≤ ls.length) ∧ Aside0 (ls.length - i ≤ gq_) ∧ Aside0 (Below w.heap.size w wq))
  case atStart => exact ⟨0, rfl, ⟨Nat.zero_le _⟩, ⟨by omega⟩, HB⟩
  case round =>
    clear HB
    obtain ⟨i, rfl, HI, HGQ, HB⟩ := hrel
    by_cases hi : i < ls.length
    · have d1 : decide ((i : Int) < (ls.length : Int)) = true := decide_eq_true (by omega)
      have d4 : decide (i < ls.length) = true := decide_eq_true hi
      have d2 : (0 : Int) ≤ (i : Int) := Int.natCast_nonneg i
      have d3 : (i : Int) < (ls.length : Int) := by omega
      have HIL := Aside0.mk hi
      clear hi
      have hC := Kd.C_below H0.out HB.out
      obtain ⟨ad, Ar, cr, rfl, p0, hcr, hraw⟩ := at_L1 hC (i : Int) d2 d3
      simp only [Int.toNat_natCast] at p0
      obtain ⟨raw, hrw⟩ : ∃ r, rd_L1 ls (i : Int) = r := ⟨_, rfl⟩
      rw [hrw] at p0 hcr hraw
      have hmem : raw ∈ ls := by rw [← hrw, rdL_nat ls i HIL.out]; exact List.getElem_mem HIL.out
      have HRW := Aside0.mk hraw
      have HRC := Aside0.mk hcr
      have HRY := Aside0.mk (LX.out raw hmem).1
      have HRL := Aside0.mk (LX.out raw hmem).2
      clear hC hraw hcr hrw hmem
      obtain ⟨W0, hW0⟩ : ∃ x, x = wr := ⟨_, rfl⟩
      subst hW0
      have HB0 := Aside0.mk (Below.refl W0.heap.size W0)
      go_wp2_with (first | ((with_reducible refine gate_dst (N := 27) rfl ?_); refine Kd.R_lit (Kd.int .u8) W0.heap.size 5 ?hg (N := 27) ?hd (xs := ([] : List Int)) (inner := []) (ok := fun _ => True) (okp := fun _ => True) ?hr ?hp (fun _ hk => hk) trivial (Below.refl _ _) (Nat.le_refl _) (by simp) ?_; (case hd => rfl); (case hg => rfl); (case hr => first | (go_simp; done) | (go_simp; rfl)); (case hp => exact (Reps.none _ _)); intro v27 w27 ho_ hb_ hg_ hn_; have HB27 := Aside0.mk hb_; have HO27 := Aside0.mk ho_; clear hb_ ho_ hg_ hn_) | ((with_reducible refine gate_builtin (b := .append) (xs := #[.tmp 27, .tmp 28]) rfl ?_); at_builtin; go_loud (refine Kd.R_app_int (k := .u8) W0.heap.size rfl (.tmp 27) (.tmp 28) 30 5 1 rfl Try.underlying30 info5 (by omega) v27 [] raw Ar raw.length cr (fun _ => True) rfl rfl trivial HO27.out (Kd.C_below HRW.out (below_step HB0.out HB27.out)) HB27.out.size ?hl ?_; (case hl => have h1 := HRL.out; simp only [List.length_nil]; omega); intro v29 w29 hr_ hg_ hat_; have HB29 := Aside0.mk (HB27.out.grown hg_ HB27.out.size (Kd.R_base HO27.out)); have HO29 := Aside0.mk hr_; clear hr_ hg_ hat_)) | ((with_reducible refine gate_builtin (b := .append) (xs := #[.tmp 29, .tmp 30]) rfl ?_); at_builtin; go_loud (refine Kd.R_app_int (k := .u8) W0.heap.size rfl (.tmp 29) (.tmp 30) 30 5 1 rfl Try.underlying30 info5 (by omega) v29 ([] ++ raw) [1, 2, 3] (some ⟨w29.heap.size, 0, none⟩) 3 3 (fun _ => True) rfl rfl trivial (Kd.R_alloc HO29.out _) (C_lit .u8 w29 [1, 2, 3] 5 (by simp)) ?hbs ?hl ?_; (case hbs => exact (HB29.out.alloc HB29.out.size _).size); (case hl => have h1 := HRL.out; simp; omega); intro v31 w31 hr_ hg_ hat_; have HB31 := Aside0.mk ((HB29.out.alloc HB29.out.size _).grown hg_ (HB29.out.alloc HB29.out.size _).size (Kd.R_base HO29.out)); have hr_ : Kd.R (Kd.int .u8) 5 w31 W0.heap.size (fun _ => True) v31 (raw ++ [1, 2, 3]) := hr_; obtain ⟨A31, c31, rfl⟩ := (RK.of hr_).lit; have hl_ : (raw ++ [1, 2, 3]).length = raw.length + 3 := (by simp); rw [hl_] at hr_; rw [hl_]; have HO31 := Aside0.mk (RK.of hr_); clear hr_ hg_ hat_ hl_; clear HB27 HO27 HB29 HO29)))
      obtain ⟨R, E, L, cs, pl, er, hrd⟩ : ∃ R E L cs pl er, rdF raw = (R, E, L, cs, pl, er) := ⟨_, _, _, _, _, _, rfl⟩
      have HSM := Aside0.mk (rd_small HRY.out hrd)
      have HRD := Aside0.mk hrd
      clear hrd p0 d1 d2 d3 d4
      with_reducible refine (want_at HRD.out HRY.out (by have := HRL.out; omega) (Kd.C_below HRW.out HB31.out) HRC.out).mono ?_
      rintro e w34 ⟨A3, c3, rfl, hv, hb⟩
      have HV := Aside0.mk hv
      have HO34 := Aside0.mk (HO31.out.below hb)
      have HB34 := Aside0.mk (below_step HB31.out hb)
      have S34 := Aside0.mk hb.size
      clear hv hb
      have hc31 := (Kd.R_reads' HO34.out).2.1
      obtain ⟨i5, hi05, -, -, -⟩ := info_parts info5
      have hcut := cut_to (P := Try.prog) 30 5 .i64 Try.underlying30 hi05 A31 (raw.length + 3) c31 (raw.length : Int) (by omega) (by omega) hc31
      simp only [Int.toNat_natCast] at hcut
      clear hi05 hc31
      go_wp2_with (fail)
      obtain ⟨W6, hW⟩ : ∃ x, w34.alloc (.cells #[.int .i64 R, .int .i64 E, .int .i64 L, .slice A3 cs.length c3] 26) = x := ⟨_, rfl⟩
      have hb : Below w34.heap.size w34 W6 := by rw [← hW]; exact below_alloc (Below.refl _ _) _
      have BX6 : Aside0 (W6.heap[w34.heap.size]? = some (.cells #[.int .i64 R, .int .i64 E, .int .i64 L, .slice A3 cs.length c3] 26 (0, 0))) := ⟨by rw [← hW]; exact blk_new _ _⟩
      have HLT6 : Aside0 (w34.heap.size < W6.heap.size) := ⟨blk_lt BX6.out⟩
      rw [hW]
      clear hW
      have HV6 := Aside0.mk (Kd.V_below HV.out hb)
      have HO6 := Aside0.mk (HO34.out.below hb)
      have HB6 := Aside0.mk (below_step HB34.out hb)
      clear hb HV HO34 HB34
      obtain ⟨g6, hg6⟩ : ∃ g, w34.heap.size = g := ⟨_, rfl⟩
      rw [hg6] at BX6 HLT6 ⊢
      with_reducible refine (got_at HRD.out HRY.out (by have := HRL.out; omega) (RK.front HO6.out).1 (RK.front HO6.out).2).mono ?_
      rintro e w43 ⟨A9, c9, rfl, hs, hb⟩
      have HS43 := Aside0.mk hs
      have HV43 := Aside0.mk (Kd.V_below HV6.out hb)
      have HO43 := Aside0.mk (HO6.out.below hb)
      have HB43 := Aside0.mk (below_step HB6.out hb)
      have X6 := Aside0.mk ((hb.block g6 HLT6.out).trans BX6.out)
      have S43 := Aside0.mk hb.size
      clear hs hb HV6 HO6 HB6 BX6
      go_wp2_with (fail)
      obtain ⟨W9, hW⟩ : ∃ x, w43.alloc (.cells #[.int .i64 R, .int .i64 E, .int .i64 L, .slice A9 cs.length c9] 26) = x := ⟨_, rfl⟩
      have hb : Below w43.heap.size w43 W9 := by rw [← hW]; exact below_alloc (Below.refl _ _) _
      have BX9 : Aside0 (W9.heap[w43.heap.size]? = some (.cells #[.int .i64 R, .int .i64 E, .int .i64 L, .slice A9 cs.length c9] 26 (0, 0))) := ⟨by rw [← hW]; exact blk_new _ _⟩
      have HLT9 : Aside0 (w43.heap.size < W9.heap.size) := ⟨blk_lt BX9.out⟩
      rw [hW]
      clear hW
      have HS9 := Aside0.mk (Kd.S_below HS43.out hb)
      have HV9 := Aside0.mk (Kd.V_below HV43.out hb)
      have HO9 := Aside0.mk (HO43.out.below hb)
      have HB9 := Aside0.mk (below_step HB43.out hb)
      have X69 := Aside0.mk ((hb.block g6 (by have h1 := S43.out; have h2 := HLT6.out; omega)).trans X6.out)
      clear hb HS43 HV43 HO43 HB43 X6
      obtain ⟨g9, hg9⟩ : ∃ g, w43.heap.size = g := ⟨_, rfl⟩
      rw [hg9] at BX9 HLT9 S43 HS9 ⊢
      with_reducible refine (got_at HRD.out HRY.out (by have := HRL.out; omega) (RK.front HO9.out).1 (RK.front HO9.out).2).mono ?_
      rintro e w52 ⟨A12, c12, rfl, hs, hb⟩
      have HS52 := Aside0.mk hs
      have HT52 := Aside0.mk (Kd.S_below HS9.out hb)
      have HV52 := Aside0.mk (Kd.V_below HV9.out hb)
      have HO52 := Aside0.mk (HO9.out.below hb)
      have HB52 := Aside0.mk (below_step HB9.out hb)
      have X62 := Aside0.mk ((hb.block g6 (by have h1 := S43.out; have h2 := HLT6.out; have h3 := HLT9.out; omega)).trans X69.out)
      have X92 := Aside0.mk ((hb.block g9 HLT9.out).trans BX9.out)
      have S52 := Aside0.mk hb.size
      clear hs hb HS9 HV9 HO9 HB9 X69 BX9
      have d5 : (er != er) = false := by simp
      have d6 : (pl != pl) = false := by simp
      go_upto_region 10 with (fail)
      obtain ⟨W12, hW⟩ : ∃ x, w52.alloc (.cells #[.int .i64 R, .int .i64 E, .int .i64 L, .slice A12 cs.length c12] 26) = x := ⟨_, rfl⟩
      have hb : Below w52.heap.size w52 W12 := by rw [← hW]; exact below_alloc (Below.refl _ _) _
      have BX12 : Aside0 (W12.heap[w52.heap.size]? = some (.cells #[.int .i64 R, .int .i64 E, .int .i64 L, .slice A12 cs.length c12] 26 (0, 0))) := ⟨by rw [← hW]; exact blk_new _ _⟩
      have HLT12 : Aside0 (w52.heap.size < W12.heap.size) := ⟨blk_lt BX12.out⟩
      rw [hW]
      clear hW
      have HS12 := Aside0.mk (Kd.S_below HS52.out hb)
      have HT12 := Aside0.mk (Kd.S_below HT52.out hb)
      have HV12 := Aside0.mk (Kd.V_below HV52.out hb)
      have HO12 := Aside0.mk (HO52.out.below hb)
      have HB12 := Aside0.mk (below_step HB52.out hb)
      have X6 := Aside0.mk ((hb.block g6 (by have h1 := S43.out; have h2 := HLT6.out; have h3 := HLT9.out; have h4 := S52.out; omega)).trans X62.out)
      have X9 := Aside0.mk ((hb.block g9 (by have h3 := HLT9.out; have h4 := S52.out; omega)).trans X92.out)
      clear hb HS52 HT52 HV52 HO52 HB52 X62 X92
      obtain ⟨g12, hg12⟩ : ∃ g, w52.heap.size = g := ⟨_, rfl⟩
      rw [hg12] at BX12 HLT12 S52 HS12 ⊢
      have X12 := BX12
      clear BX12
      have HG := Aside0.mk (show w31.heap.size ≤ g6 ∧ g6 < W6.heap.size ∧ W6.heap.size ≤ g9 ∧ g9 < W9.heap.size ∧ W9.heap.size ≤ g12 ∧ g12 < W12.heap.size from by have h1 := S34.out; have h2 := HLT6.out; have h3 := S43.out; have h4 := HLT9.out; have h5 := S52.out; have h6 := HLT12.out; omega)
      clear HLT6 HLT9 HLT12 S34 S43 S52
      obtain ⟨kal, hal⟩ := (alike_ev R E L cs (by have := HSM.out.1; omega)).rounds
      have HAL := Aside0.mk hal
      clear hal
      have HSZ := Aside0.mk (Nat.le_refl W12.heap.size)
      have q6_0 := (blk_cell X6.out 0).trans (show _ = some (.int .i64 R) from rfl)
      have q6_1 := (blk_cell X6.out 1).trans (show _ = some (.int .i64 E) from rfl)
      have q6_2 := (blk_cell X6.out 2).trans (show _ = some (.int .i64 L) from rfl)
      have q6_3 := (blk_cell X6.out 3).trans (show _ = some (.slice A3 cs.length c3) from rfl)
      have q9_0 := (blk_cell X9.out 0).trans (show _ = some (.int .i64 R) from rfl)
      have q9_1 := (blk_cell X9.out 1).trans (show _ = some (.int .i64 E) from rfl)
      have q9_2 := (blk_cell X9.out 2).trans (show _ = some (.int .i64 L) from rfl)
      have q9_3 := (blk_cell X9.out 3).trans (show _ = some (.slice A9 cs.length c9) from rfl)
      have q12_0 := (blk_cell X12.out 0).trans (show _ = some (.int .i64 R) from rfl)
      have q12_1 := (blk_cell X12.out 1).trans (show _ = some (.int .i64 E) from rfl)
      have q12_2 := (blk_cell X12.out 2).trans (show _ = some (.int .i64 L) from rfl)
      have q12_3 := (blk_cell X12.out 3).trans (show _ = some (.slice A12 cs.length c12) from rfl)
      go_wp2_with (fail)
      clear q6_0 q6_1 q6_2 q6_3 q9_0 q9_1 q9_2 q9_3 q12_0 q12_1 q12_2 q12_3
      with_reducible refine (churnlaw06_alike.calls kal R E L A9 c9 cs R E L A3 c3 cs true W12 (Kd.S_reads' HT12.out).2.2 (Kd.S_reads' HT12.out).2.1 (Kd.V_reads' HV12.out).2.2 (Kd.V_reads' HV12.out).2.1 HAL.out).mono ?_
      rintro e w67 ⟨rfl, hb⟩
      replace HS12 := Aside0.mk (Kd.S_below HS12.out hb)
      replace HT12 := Aside0.mk (Kd.S_below HT12.out hb)
      replace HV12 := Aside0.mk (Kd.V_below HV12.out hb)
      replace HO12 := Aside0.mk (HO12.out.below hb)
      replace HB12 := Aside0.mk (below_step HB12.out hb)
      replace X6 := Aside0.mk ((hb.block g6 (blk_lt X6.out)).trans X6.out)
      replace X9 := Aside0.mk ((hb.block g9 (blk_lt X9.out)).trans X9.out)
      replace X12 := Aside0.mk ((hb.block g12 (blk_lt X12.out)).trans X12.out)
      replace HSZ := Aside0.mk (Nat.le_trans HSZ.out hb.size)
      clear hb
      have q6_0 := (blk_cell X6.out 0).trans (show _ = some (.int .i64 R) from rfl)
      have q6_1 := (blk_cell X6.out 1).trans (show _ = some (.int .i64 E) from rfl)
      have q6_2 := (blk_cell X6.out 2).trans (show _ = some (.int .i64 L) from rfl)
      have q6_3 := (blk_cell X6.out 3).trans (show _ = some (.slice A3 cs.length c3) from rfl)
      have q9_0 := (blk_cell X9.out 0).trans (show _ = some (.int .i64 R) from rfl)
      have q9_1 := (blk_cell X9.out 1).trans (show _ = some (.int .i64 E) from rfl)
      have q9_2 := (blk_cell X9.out 2).trans (show _ = some (.int .i64 L) from rfl)
      have q9_3 := (blk_cell X9.out 3).trans (show _ = some (.slice A9 cs.length c9) from rfl)
      have q12_0 := (blk_cell X12.out 0).trans (show _ = some (.int .i64 R) from rfl)
      have q12_1 := (blk_cell X12.out 1).trans (show _ = some (.int .i64 E) from rfl)
      have q12_2 := (blk_cell X12.out 2).trans (show _ = some (.int .i64 L) from rfl)
      have q12_3 := (blk_cell X12.out 3).trans (show _ = some (.slice A12 cs.length c12) from rfl)
      go_wp2_with (fail)
      clear q6_0 q6_1 q6_2 q6_3 q9_0 q9_1 q9_2 q9_3 q12_0 q12_1 q12_2 q12_3
      with_reducible refine (churnlaw06_alike.calls kal R E L A12 c12 cs R E L A3 c3 cs true w67 (Kd.S_reads' HS12.out).2.2 (Kd.S_reads' HS12.out).2.1 (Kd.V_reads' HV12.out).2.2 (Kd.V_reads' HV12.out).2.1 HAL.out).mono ?_
      rintro e w73 ⟨rfl, hb⟩
      replace HS12 := Aside0.mk (Kd.S_below HS12.out hb)
      replace HT12 := Aside0.mk (Kd.S_below HT12.out hb)
      replace HV12 := Aside0.mk (Kd.V_below HV12.out hb)
      replace HO12 := Aside0.mk (HO12.out.below hb)
      replace HB12 := Aside0.mk (below_step HB12.out hb)
      replace X6 := Aside0.mk ((hb.block g6 (blk_lt X6.out)).trans X6.out)
      replace X9 := Aside0.mk ((hb.block g9 (blk_lt X9.out)).trans X9.out)
      replace X12 := Aside0.mk ((hb.block g12 (blk_lt X12.out)).trans X12.out)
      replace HSZ := Aside0.mk (Nat.le_trans HSZ.out hb.size)
      clear hb
      have HBR := Aside0.mk (Below.refl w73.heap.size w73)
      go_wp2_with (first | ((with_reducible refine gate_builtin (b := .append) (xs := #[.tmp 78, .tmp 79]) rfl ?_); at_builtin; go_loud (refine G_app_int (k := .u8) w73.heap.size rfl (.tmp 78) (.tmp 79) 30 5 1 rfl Try.underlying30 info5 (by omega) (.slice (some ⟨w73.heap.size, 0, none⟩) 0 0) [] raw Ar raw.length cr (fun _ => True) rfl rfl trivial (R_empty w73 w73.heap.size (Nat.le_refl _)) (Kd.C_below HRW.out (below_step HB12.out (below_alloc (Below.refl _ _) _))) (by simp) ?hl ?_; (case hl => have h1 := HRL.out; simp only [List.length_nil]; omega); intro v80 w80 hr_ hg_ hat_; have HB80 := Aside0.mk ((below_alloc (Below.refl _ _) _).grown hg_ (below_alloc (Below.refl _ _) _).size (fun k e => by injection e with e; exact Nat.le_of_eq e)); have HO80 := Aside0.mk hr_; clear hr_ hg_ hat_)) | ((with_reducible refine gate_builtin (b := .append) (xs := #[.tmp 80, .tmp 81]) rfl ?_); at_builtin; go_loud (refine G_app_int (k := .u8) w73.heap.size rfl (.tmp 80) (.tmp 81) 30 5 1 rfl Try.underlying30 info5 (by omega) v80 ([] ++ raw) [1, 2, 3] (some ⟨w80.heap.size, 0, none⟩) 3 3 (fun _ => True) rfl rfl trivial (Kd.R_alloc HO80.out _) (C_lit .u8 w80 [1, 2, 3] 5 (by simp)) ?hbs ?hl ?_; (case hbs => exact (HB80.out.alloc HB80.out.size _).size); (case hl => have h1 := HRL.out; simp; omega); intro v82 w82 hr_ hg_ hat_; have HB82 := Aside0.mk ((HB80.out.alloc HB80.out.size _).grown hg_ (HB80.out.alloc HB80.out.size _).size (Kd.R_base HO80.out)); have hr_ : Kd.R (Kd.int .u8) 5 w82 w73.heap.size (fun _ => True) v82 (raw ++ [1, 2, 3]) := hr_; obtain ⟨A82, c82, rfl⟩ := (RK.of hr_).lit; have hl_ : (raw ++ [1, 2, 3]).length = raw.length + 3 := (by simp); rw [hl_] at hr_; rw [hl_]; have HO82 := Aside0.mk (RK.of hr_); clear hr_ hg_ hat_ hl_ HB80 HO80)))
      have hsame : churnlaw06_same.f (raw ++ [1, 2, 3]) (raw ++ [1, 2, 3]) = some true := same_refl _
      have hb := HB82.out
      have HOn := Aside0.mk (HO12.out.below hb)
      have hl3 : (raw ++ [1, 2, 3]).length = raw.length + 3 := by simp
      have hc1 := churnlaw06_same.calls A31 c31 (raw ++ [1, 2, 3]) A82 c82 (raw ++ [1, 2, 3]) true w82 (RK.reads HOn.out).1 (RK.reads HOn.out).2 (RK.reads HO82.out).1 (RK.reads HO82.out).2 hsame
      rw [hl3] at hc1
      with_reducible refine hc1.mono ?_
      clear hc1 HOn hsame hl3
      rintro e w83 ⟨rfl, ⟨nd, hnd⟩⟩
      have hb2 : Below w82.heap.size w82 w83 := by rw [hnd]; exact pw_below_drewN (Below.refl _ _) _
      replace hb := below_step hb hb2
      clear hb2 hnd HB82 HO82 hr_
      replace HS12 := Aside0.mk (Kd.S_below HS12.out hb)
      replace HT12 := Aside0.mk (Kd.S_below HT12.out hb)
      replace HV12 := Aside0.mk (Kd.V_below HV12.out hb)
      replace HO12 := Aside0.mk (HO12.out.below hb)
      replace HB12 := Aside0.mk (below_step HB12.out hb)
      replace X6 := Aside0.mk ((hb.block g6 (blk_lt X6.out)).trans X6.out)
      replace X9 := Aside0.mk ((hb.block g9 (blk_lt X9.out)).trans X9.out)
      replace X12 := Aside0.mk ((hb.block g12 (blk_lt X12.out)).trans X12.out)
      replace HSZ := Aside0.mk (Nat.le_trans HSZ.out hb.size)
      clear hb
      go_wp2_with (fail)
      obtain ⟨wP, hwP⟩ : ∃ x, x = w83 := ⟨_, rfl⟩
      subst hwP
      go_loopg [88] (raw.length + 3) (fun gq_ v88 wq => ∃ (j : Nat) (xs : List Int), v88 = .int .i64 j ∧ Aside0 (j ≤ raw.length + 3) ∧ Aside0 (raw.length + 3 - j ≤ gq_) ∧ Aside0 (xs.length = raw.length + 3) ∧ Aside0 (RK .u8 5 wq W0.heap.size w31.heap.size (.slice A31 (raw.length + 3) c31) xs) ∧ Aside0 (∀ k, w31.heap.size ≤ k → wq.heap[k]? = wP.heap[k]?) ∧ Aside0 (Below W0.heap.size W0 wq) ∧ Aside0 (wP.heap.size ≤ wq.heap.size))
      case atStart => exact ⟨0, _, rfl, ⟨Nat.zero_le _⟩, ⟨by omega⟩, ⟨by simp⟩, HO12, ⟨fun _ _ => rfl⟩, HB12, ⟨Nat.le_refl _⟩⟩
      case round =>
        clear HO12 HB12
        obtain ⟨j, xs, rfl, HJ, HGJ, HXL, HO, HK, HBW, HSW⟩ := hrel
        by_cases hj : j < raw.length + 3
        · have d1 : decide ((j : Int) < ((raw.length + 3 : Nat) : Int)) = true := decide_eq_true (by omega)
          have d4 : decide (j < raw.length + 3) = true := decide_eq_true hj
          have d7 : decide ((j : Int) < (raw.length : Int) + 3) = true := decide_eq_true (by omega)
          have d2 : (0 : Int) ≤ (j : Int) := Int.natCast_nonneg j
          have d3 : (j : Int) < (raw.length : Int) + 3 := by omega
          have HJL := Aside0.mk hj
          obtain ⟨gi, rfl⟩ := HO.out.head (by omega)
          obtain ⟨r1, g1, l1, u1, p1, z1⟩ := HO.out.put HXL.out j hj 119
          have HR1 := Aside0.mk r1
          have HG1 := Aside0.mk g1
          have HL1 := Aside0.mk (And.intro l1 u1)
          clear r1 g1 l1 u1 hj
          go_wp2_with (fail)
          go_roundg (raw.length + 3 - (j + 1))
          case measure => have := HGJ.out; have := HJL.out; omega
          case rel => exact ⟨j + 1, xs.set j 119, by have := HJL.out; have := HRL.out; first | rfl | (rw [w64 (by omega) (by omega)]; rfl), ⟨by have := HJL.out; omega⟩, ⟨by omega⟩, ⟨by rw [List.length_set]; exact HXL.out⟩, HR1, ⟨fun k hk => (Below.heap_setCell wr ⟨gi, j, none⟩ (.int .u8 119) k (by have := HL1.out; show k ≠ gi; omega)).trans (HK.out k hk)⟩, ⟨HBW.out.setCell HL1.out.1 _⟩, ⟨Nat.le_trans HSW.out HG1.out.size⟩⟩
        · have d1 : decide ((j : Int) < ((raw.length + 3 : Nat) : Int)) = false := decide_eq_false (by omega)
          have d4 : decide (j < raw.length + 3) = false := decide_eq_false hj
          have d7 : decide ((j : Int) < (raw.length : Int) + 3) = false := decide_eq_false (by omega)
          obtain rfl : j = raw.length + 3 := by have := HJ.out; omega
          clear hj HJ HGJ HO HXL
          obtain ⟨wB, hwB⟩ : ∃ x, x = wr := ⟨_, rfl⟩
          subst hwB
          replace HS12 := Aside0.mk (Kd.S_step HS12.out (w1 := wB) (fun k hk _ => HK.out k (by have := HG.out; omega)))
          replace HT12 := Aside0.mk (Kd.S_step HT12.out (w1 := wB) (fun k hk _ => HK.out k (by have := HG.out; omega)))
          replace HV12 := Aside0.mk (Kd.V_step HV12.out (w1 := wB) (fun k hk _ => HK.out k hk.1))
          replace X6 := Aside0.mk ((HK.out g6 (by have := HG.out; omega)).trans X6.out)
          replace X9 := Aside0.mk ((HK.out g9 (by have := HG.out; omega)).trans X9.out)
          replace X12 := Aside0.mk ((HK.out g12 (by have := HG.out; omega)).trans X12.out)
          replace HSZ := Aside0.mk (Nat.le_trans HSZ.out HSW.out)
          clear HK HSW d1 d4 d7
          have q6_0 := (blk_cell X6.out 0).trans (show _ = some (.int .i64 R) from rfl)
          have q6_1 := (blk_cell X6.out 1).trans (show _ = some (.int .i64 E) from rfl)
          have q6_2 := (blk_cell X6.out 2).trans (show _ = some (.int .i64 L) from rfl)
          have q6_3 := (blk_cell X6.out 3).trans (show _ = some (.slice A3 cs.length c3) from rfl)
          have q9_0 := (blk_cell X9.out 0).trans (show _ = some (.int .i64 R) from rfl)
          have q9_1 := (blk_cell X9.out 1).trans (show _ = some (.int .i64 E) from rfl)
          have q9_2 := (blk_cell X9.out 2).trans (show _ = some (.int .i64 L) from rfl)
          have q9_3 := (blk_cell X9.out 3).trans (show _ = some (.slice A9 cs.length c9) from rfl)
          have q12_0 := (blk_cell X12.out 0).trans (show _ = some (.int .i64 R) from rfl)
          have q12_1 := (blk_cell X12.out 1).trans (show _ = some (.int .i64 E) from rfl)
          have q12_2 := (blk_cell X12.out 2).trans (show _ = some (.int .i64 L) from rfl)
          have q12_3 := (blk_cell X12.out 3).trans (show _ = some (.slice A12 cs.length c12) from rfl)
          go_upto_region 17 with (fail)
          go_wp2_with (fail)
          clear q6_0 q6_1 q6_2 q6_3 q9_0 q9_1 q9_2 q9_3 q12_0 q12_1 q12_2 q12_3
          with_reducible refine (churnlaw06_alike.calls kal R E L A9 c9 cs R E L A3 c3 cs true wB (Kd.S_reads' HT12.out).2.2 (Kd.S_reads' HT12.out).2.1 (Kd.V_reads' HV12.out).2.2 (Kd.V_reads' HV12.out).2.1 HAL.out).mono ?_
          rintro e w97 ⟨rfl, hb⟩
          have HB12 := HBW
          clear HBW
          have HO12 := Aside0.mk trivial
          replace HS12 := Aside0.mk (Kd.S_below HS12.out hb)
          replace HT12 := Aside0.mk (Kd.S_below HT12.out hb)
          replace HV12 := Aside0.mk (Kd.V_below HV12.out hb)
          replace HB12 := Aside0.mk (below_step HB12.out hb)
          replace X6 := Aside0.mk ((hb.block g6 (blk_lt X6.out)).trans X6.out)
          replace X9 := Aside0.mk ((hb.block g9 (blk_lt X9.out)).trans X9.out)
          replace X12 := Aside0.mk ((hb.block g12 (blk_lt X12.out)).trans X12.out)
          replace HSZ := Aside0.mk (Nat.le_trans HSZ.out hb.size)
          clear hb
          have q9_0 := (blk_cell X9.out 0).trans (show _ = some (.int .i64 R) from rfl)
          have q9_1 := (blk_cell X9.out 1).trans (show _ = some (.int .i64 E) from rfl)
          have q9_2 := (blk_cell X9.out 2).trans (show _ = some (.int .i64 L) from rfl)
          have q9_3 := (blk_cell X9.out 3).trans (show _ = some (.slice A9 cs.length c9) from rfl)
          have q12_0 := (blk_cell X12.out 0).trans (show _ = some (.int .i64 R) from rfl)
          have q12_1 := (blk_cell X12.out 1).trans (show _ = some (.int .i64 E) from rfl)
          have q12_2 := (blk_cell X12.out 2).trans (show _ = some (.int .i64 L) from rfl)
          have q12_3 := (blk_cell X12.out 3).trans (show _ = some (.slice A12 cs.length c12) from rfl)
          have hob := (Kd.S_R HT12.out).1
          obtain ⟨lsb, hLb, hOb, hlb, -⟩ := lists_own HT12.out
          obtain ⟨lsc, hLc, hOc, hlc, -⟩ := lists_own (Kd.S_lower (base' := W6.heap.size) HS12.out (by have := HG.out; omega))
          have h1c := lists_one hLc
          obtain ⟨Ax, cx, ex, -, -, -, hcc⟩ := own_cells hOc
          injection ex with ex1 ex2 ex3
          subst ex1
          have HLB := Aside0.mk hLb
          have HLC := Aside0.mk hLc
          have HOB := Aside0.mk hOb
          have HCC := Aside0.mk hcc
          have H1C := Aside0.mk h1c
          have HLN := Aside0.mk (And.intro hlb hlc)
          have HOBK := Aside0.mk hob
          clear hLb hLc hOb hOc hlb hlc h1c hcc ex2 ex3 hob
          go_wp2_with ((with_reducible refine gate_builtin (b := .append) (xs := #[.tmp 101, .tmp 103]) rfl ?_); at_builtin; go_loud (refine G_cells_app W6.heap.size rfl (.tmp 101) (.tmp 103) 24 30 (.slice none 0 0) 24 rfl Try.underlying24 infoBs rfl (by omega) (.slice A9 cs.length c9) lsb lsc A12 cs.length c12 rfl rfl HOB.out HLN.out.2 HCC.out H1C.out ?hbs ?hl ?_; (case hbs => have h1 := HG.out; have h2 := HSZ.out; omega); (case hl => have h1 := HSM.out.1; have h2 := HLN.out.1; omega); intro v104 w104 ho_ hg_ hat_; have HO4 := Aside0.mk ho_; have HG4 := Aside0.mk hg_; have HAT := Aside0.mk hat_; clear ho_ hg_ hat_))
          obtain ⟨hLL, hfar⟩ := two_apart HLB.out HLC.out HOBK.out (by have := HG.out; omega) (by have h1 := HG.out; have h2 := HSZ.out; omega) (by have h1 := HG.out; have h2 := HSZ.out; omega) HG4.out HAT.out
          obtain ⟨A104, c104, rfl, -, -, -, hc104⟩ := own_cells HO4.out
          with_reducible refine (apart_calls A104 (lsb.length + cs.length) c104 W6.heap.size _ (lsb ++ lsc) (cs ++ cs) w104 hLL (by have := HLN.out.1; simp; omega) hc104 (fun g e => hfar g (by rw [e]; simp [Value.ownBlock])) (by have h1 := HG.out; have h2 := HSZ.out; have h3 := HG4.out.size; omega) (by have h1 := HSM.out.1; have h2 := HLN.out.1; omega) (fun x hx => by have h1 := HSM.out.2; rcases List.mem_append.1 hx with hx | hx <;> (have := h1 x hx; omega))).mono ?_
          rintro e w105 ⟨rfl, hbA, hkA⟩
          have hz97 : W12.heap.size ≤ w97.heap.size := HSZ.out
          have hg4 := HG4.out
          have hz4 := hg4.size
          have hog := HG.out
          have low : ∀ k, k < W6.heap.size → w105.heap[k]? = w97.heap[k]? := fun k hk => (hbA.block k hk).trans (hg4.block k (by omega) (fun e => by have := (HOBK.out k e.symm).1; omega))
          have hB4 := HB12.out.grown hg4 HB12.out.size (fun k e => by have h1 := (HOBK.out k e).1; have h2 := HB31.out.size; omega)
          have hB5 : Below W0.heap.size W0 w105 := hB4.trans ⟨hbA.os, hbA.tape, hbA.output, hbA.size, fun k hk => hbA.block k (by have h2 := HB31.out.size; omega)⟩
          have HB5 := Aside0.mk hB5
          have HV5 := Aside0.mk (Kd.V_step HV12.out (w1 := w105) (fun k hk _ => low k (by omega)))
          have Y6 := Aside0.mk ((low g6 (by omega)).trans X6.out)
          have HSZ5 := Aside0.mk (show W12.heap.size ≤ w105.heap.size by have := hbA.size; omega)
          clear hLL hfar hc104 hbA hkA hz97 hg4 hz4 hog low hB4 hB5 HS12 HT12 HV12 HB12 X6 X9 X12 HSZ HLB HLC HOB HCC H1C HLN HOBK HO4 HG4 HAT q9_0 q9_1 q9_2 q9_3 q12_0 q12_1 q12_2 q12_3
          go_wp2_with (fail)
          with_reducible refine (got_at HRD.out HRY.out (by have := HRL.out; omega) (Kd.C_below HRW.out HB5.out) HRC.out).mono ?_
          rintro e w110 ⟨A16, c16, rfl, hs, hb⟩
          have HS5 := Aside0.mk hs
          replace HV5 := Aside0.mk (Kd.V_below HV5.out hb)
          replace HB5 := Aside0.mk (below_step HB5.out hb)
          replace Y6 := Aside0.mk ((hb.block g6 (blk_lt Y6.out)).trans Y6.out)
          clear hs hb
          go_upto_region 20 with (fail)
          obtain ⟨W16, hW⟩ : ∃ x, w110.alloc (.cells #[.int .i64 R, .int .i64 E, .int .i64 L, .slice A16 cs.length c16] 26) = x := ⟨_, rfl⟩
          have hb : Below w110.heap.size w110 W16 := by rw [← hW]; exact below_alloc (Below.refl _ _) _
          have BX16 : Aside0 (W16.heap[w110.heap.size]? = some (.cells #[.int .i64 R, .int .i64 E, .int .i64 L, .slice A16 cs.length c16] 26 (0, 0))) := ⟨by rw [← hW]; exact blk_new _ _⟩
          have HLT16 : Aside0 (w110.heap.size < W16.heap.size) := ⟨blk_lt BX16.out⟩
          rw [hW]
          clear hW
          have HS12 := Aside0.mk (Kd.S_below HS5.out hb)
          have HV12 := Aside0.mk (Kd.V_below HV5.out hb)
          have HB12 := Aside0.mk (below_step HB5.out hb)
          have X6 := Aside0.mk ((hb.block g6 (blk_lt Y6.out)).trans Y6.out)
          clear hb HS5 HV5 HB5 Y6
          obtain ⟨g16, hg16⟩ : ∃ g, w110.heap.size = g := ⟨_, rfl⟩
          rw [hg16] at BX16 HLT16 ⊢
          have X16 := BX16
          clear BX16
          have q6_0 := (blk_cell X6.out 0).trans (show _ = some (.int .i64 R) from rfl)
          have q6_1 := (blk_cell X6.out 1).trans (show _ = some (.int .i64 E) from rfl)
          have q6_2 := (blk_cell X6.out 2).trans (show _ = some (.int .i64 L) from rfl)
          have q6_3 := (blk_cell X6.out 3).trans (show _ = some (.slice A3 cs.length c3) from rfl)
          have q16_0 := (blk_cell X16.out 0).trans (show _ = some (.int .i64 R) from rfl)
          have q16_1 := (blk_cell X16.out 1).trans (show _ = some (.int .i64 E) from rfl)
          have q16_2 := (blk_cell X16.out 2).trans (show _ = some (.int .i64 L) from rfl)
          have q16_3 := (blk_cell X16.out 3).trans (show _ = some (.slice A16 cs.length c16) from rfl)
          go_wp2_with (fail)
          clear q6_0 q6_1 q6_2 q6_3 q16_0 q16_1 q16_2 q16_3
          with_reducible refine (churnlaw06_alike.calls kal R E L A16 c16 cs R E L A3 c3 cs true W16 (Kd.S_reads' HS12.out).2.2 (Kd.S_reads' HS12.out).2.1 (Kd.V_reads' HV12.out).2.2 (Kd.V_reads' HV12.out).2.1 HAL.out).mono ?_
          rintro e w116 ⟨rfl, hb⟩
          have HBE := Aside0.mk (below_step HB.out (below_step HB12.out hb))
          clear hb
          go_wp2_with (fail)
          go_roundg (ls.length - (i + 1))
          case measure => have := HGQ.out; have := HIL.out; omega
          case rel => exact ⟨i + 1, by have := HIL.out; have := L0.out; first | rfl | (rw [w64 (by omega) (by omega)]; rfl), ⟨by have := HIL.out; omega⟩, ⟨by omega⟩, HBE⟩
    · have d1 : decide ((i : Int) < (ls.length : Int)) = false := decide_eq_false (by omega)
      have d4 : decide (i < ls.length) = false := decide_eq_false hi
      clear hi
      go_wp2_with (fail)
      go_ret
      exact ⟨rfl, HB.out⟩
end Go.Proofs.Ythkcadmjfkcbgaa.Q
end
