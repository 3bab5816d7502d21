/- TapeScripts, walked: printed by pf/tsgen.py. -/
import Derived.Test.YtangepklgeikkaaTsR
import Derived.Test.YtangepklgeikkaaTsP
import Derived.Test.YtangepklgeikkaaTsT
import Derived.Test.YtangepklgeikkaaRcR
import Derived.Deep.RegionHeld3
import Derived.Deep.CutBlock
import Derived.Deep.CutRange
import Derived.DataElems
import Derived.Test.YtangepklgeikkaaQx6
import Derived.Test.YtangepklgeikkaaQx2
import Derived.Test.YtangepklgeikkaaQx4
import Derived.Test.YtangepklgeikkaaQx1
import Derived.Test.YtangepklgeikkaaQx5
import Derived.Test.YtangepklgeikkaaQx3
set_option linter.unusedVariables false
set_option linter.unusedSimpArgs false
namespace Go.Proofs.Ytangepklgeikkaa.Q
open Go.RowKit Go.Proofs.YtangepklgeikkaaW.PrintWords Go.Proofs.YtangepklgeikkaaW.PrintLast Go.Proofs.YtangepklgeikkaaW.PrintMore Go.Proofs.Ytangepklgeikkaa.Pl
theorem TS.start {w w1 : World} (hb : Below w.heap.size w w1) :
    TS w ((w1.alloc (.cells #[.string ⟨#[]⟩, .int .i64 0] 25)).alloc (.cells #[.slice none 0 0, .int .i64 0] 29)) (.slice (some ⟨w1.heap.size, 0, none⟩) 1 1) (.slice (some ⟨w1.heap.size + 1, 0, none⟩) 1 1) [⟨none, 0, [], 0⟩] := by
  have h1 : (w1.alloc (.cells #[.string ⟨#[]⟩, .int .i64 0] 25)).ownsRow w.heap.size 25 2 (.slice (some ⟨w1.heap.size, 0, none⟩) 1 1) 1 [.string ⟨#[]⟩, .int .i64 0] := by
    have := World.ownsRow_lit (base := w.heap.size) (e := 25) (size := 2) w1 #[.string ⟨#[]⟩, .int .i64 0] 1 hb.size (by simp [maxLen]) (by simp)
    simpa using this
  have hs : (w1.alloc (.cells #[.string ⟨#[]⟩, .int .i64 0] 25)).heap.size = w1.heap.size + 1 := by simp
  have h2 : ((w1.alloc (.cells #[.string ⟨#[]⟩, .int .i64 0] 25)).alloc (.cells #[.slice none 0 0, .int .i64 0] 29)).ownsRow w.heap.size 29 2 (.slice (some ⟨w1.heap.size + 1, 0, none⟩) 1 1) 1 [.slice none 0 0, .int .i64 0] := by
    have := World.ownsRow_lit (base := w.heap.size) (e := 29) (size := 2) (w1.alloc (.cells #[.string ⟨#[]⟩, .int .i64 0] 25)) #[.slice none 0 0, .int .i64 0] 1 (by rw [hs]; have := hb.size; omega) (by simp [maxLen]) (by simp)
    rw [hs] at this
    simpa using this
  have e0 : strOfNums [] = (⟨#[]⟩ : ByteArray) := rfl
  refine ⟨?_, ?_, ?_, ?_, ?_, by simp⟩
  · refine own_step2 ?_ (fun b hv => (below_alloc (Below.refl _ _) _).block b (by simp [Value.ownBlock] at hv; omega))
    simpa [tcell, e0] using h1
  · simpa [bcell] using h2
  · intro b hv hv2
    simp [Value.ownBlock] at hv hv2
    omega
  · intro x hx
    rw [List.mem_singleton.1 hx]
    exact BkOk.nil w
  · exact below_step (below_step hb (below_alloc (Below.refl _ _) _)) (below_alloc (Below.refl _ _) _)
theorem R_none (k : IntKind) (T base : Nat) (W : World) (hb : base ≤ W.heap.size) : Kd.R (Kd.int k) T (W.alloc (.cells #[] T)) base (fun _ => True) (.slice (some ⟨W.heap.size, 0, none⟩) 0 0) [] := by
  have h2 := World.ownsRow_lit (base := base) (e := T) (size := 1) W #[] 0 hb (by simp [maxLen]) (by simp)
  exact Kd.R_of_own (by simpa [encs] using h2) (fun _ _ => trivial)
theorem same09 (l : List Int) : churnlaw09_same.f l l = some true := by simp [churnlaw09_same.f]
theorem same09_calls {A0 A1 : Option Addr} {n c0 c1 : Nat} {l : List Int} {w : World} (h0 : Kd.C (Kd.int .u8) w A0 n l) (hc0 : n ≤ c0) (h1 : Kd.C (Kd.int .u8) w A1 l.length l ∧ l.length ≤ c1) (e : l.length = n) :
    Calls Try.prog 10 #[.slice A0 n c0, .slice A1 n c1] w fun e w' => e = .returned (.bool true) ∧ Below w.heap.size w w' := by
  subst e
  refine (churnlaw09_same.calls A0 c0 l A1 c1 l true w h0 hc0 h1.1 h1.2 (same09 l)).mono ?_
  rintro e w' ⟨rfl, hd⟩
  exact ⟨rfl, hd.below⟩
theorem ts_left_lt {w : World} {b : Bk} {m : Int} (h : BkOk w b) (hm : (b.p.length : Int) - b.at_ < m) : m > wrap64 (((strOfNums b.p).size : Int) - b.at_) := by
  have h1 := h.le
  have h2 := h.big
  rw [strOfNums_size, show wrap64 ((b.p.length : Int) - b.at_) = (b.p.length : Int) - b.at_ from w64 (by omega) (by omega)]
  omega
theorem nil_reads (W : World) : Kd.C (Kd.int .u8) W none 0 [] := Kd.C_of_reads (d := (0 : Int)) ⟨rfl, by simp, fun h => absurd h (by simp)⟩
theorem w64_range (x : Int) : -9223372036854775808 ≤ wrap64 x ∧ wrap64 x ≤ 9223372036854775807 := by unfold wrap64; omega
theorem new_lt (W : World) (o : Obj) : W.heap.size < (W.alloc o).heap.size := by simp
theorem new_kept {W wk : World} {Z : Array Value} {T : TypeId} (hb : Below (W.alloc (.cells Z T)).heap.size (W.alloc (.cells Z T)) wk) : wk.heap[W.heap.size]? = some (.cells Z T (0, 0)) :=
  (hb.block W.heap.size (by simp)).trans (blk_new2 W (.cells Z T))
theorem new_keptd {W wk : World} {Z : Array Value} {T : TypeId} (hb : Below (W.alloc (.cells Z T)).drew.heap.size (W.alloc (.cells Z T)).drew wk) : wk.heap[W.heap.size]? = some (.cells Z T (0, 0)) := new_kept (W := W) ⟨hb.os, hb.tape, hb.output, hb.size, hb.block⟩
theorem place_nat (a : Int) (n : Nat) (h0 : 0 < n) (hn : n ≤ 9223372036854775807) (ha : -9223372036854775808 ≤ a ∧ a ≤ 9223372036854775807) : ∃ r : Nat, r < n ∧ churnlaw09_place.f a (n : Int) = some (r : Int) := by
  have key : ∀ x : Int, 0 ≤ x → ∃ r : Nat, r < n ∧ Int.tmod x (n : Int) = (r : Int) := by
    intro x hx
    obtain ⟨y, rfl⟩ := Int.eq_ofNat_of_zero_le hx
    exact ⟨y % n, Nat.mod_lt _ h0, by rw [Int.tmod_eq_emod_of_nonneg (by omega)]; exact (Int.natCast_emod y n).symm⟩
  unfold churnlaw09_place.f
  by_cases h : a < 0
  · rw [if_pos h, if_neg (by omega), show wrap64 (a + 1) = a + 1 from w64 (by omega) (by omega), show wrap64 (-(a + 1)) = -(a + 1) from w64 (by omega) (by omega)]
    obtain ⟨r, h1, h2⟩ := key (-(a + 1)) (by omega)
    exact ⟨r, h1, by rw [h2]⟩
  · rw [if_neg h, if_neg (by omega)]
    obtain ⟨r, h1, h2⟩ := key a (by omega)
    exact ⟨r, h1, by rw [h2]⟩
set_option maxHeartbeats 16000000 in
set_option maxRecDepth 100000 in
theorem ts_calls (A0 : Option Addr) (c0 : Nat) (S : List (Int × Int × Int × List Int)) (w : World) (hr0 : Kd.C StepK w A0 S.length S) (hc0 : S.length ≤ c0)
    (hS : ∀ s ∈ S, (-9223372036854775808 ≤ s.2.1 ∧ s.2.1 ≤ 9223372036854775807) ∧ (-9223372036854775808 ≤ s.2.2.1 ∧ s.2.2.1 ≤ 9223372036854775807) ∧ s.2.2.2.length ≤ 140737488351232 ∧ ∀ x ∈ s.2.2.2, 0 ≤ x ∧ x ≤ 255) (hn : S.length ≤ 2932031007402) :
    Calls Try.prog 3 #[.slice A0 S.length c0] w fun e w' => e = .returned (.bool true) ∧ Below w.heap.size w w' := by
  have HR := Aside0.mk hr0
  have HC := Aside0.mk hc0
  have HS := Aside0.mk hS
  have HN := Aside0.mk hn
  clear hr0 hc0 hS hn
  go_enter Try.func3, Try.ntmps3
  go_wp2_with (fail)
  with_reducible refine (churnlaw09_awake.calls true w (by decide +kernel)).mono ?_
  rintro e_ w1 ⟨rfl, hb⟩
  have HB1 := Aside0.mk hb
  clear hb
  go_wp2_with (fail)
  have HTS := Aside0.mk (TS.start HB1.out)
  go_loopg [3, 4, 41] S.length (fun gq_ v3 v4 v41 wq => ∃ (i : Nat) (vt vb : Value) (L : List Bk), vt = v3 ∧ vb = v4 ∧ v41 = .int .i64 i ∧ Aside0 (i ≤ S.length) ∧ Aside0 (S.length - i ≤ gq_) ∧ Aside0 (L.length ≤ i + 1) ∧ Aside0 (TS w wq vt vb L))
  case atStart => exact ⟨0, _, _, _, rfl, rfl, rfl, ⟨Nat.zero_le _⟩, ⟨by omega⟩, ⟨by simp⟩, HTS⟩
  case round =>
    clear HTS HB1
    obtain ⟨i, vt, vb, L, rfl, rfl, rfl, HI, HG, HLL, HTS⟩ := hrel
    obtain ⟨gt, ct, gb, cb, rfl, rfl⟩ := HTS.out.lit
    by_cases hi : i < S.length
    · have d1 : decide ((i : Int) < (S.length : Int)) = true := decide_eq_true (by omega)
      have d2 : (0 : Int) ≤ (i : Int) := Int.natCast_nonneg i
      have d3 : (i : Int) < (S.length : Int) := by omega
      have HIL := Aside0.mk hi
      obtain ⟨⟨kd, tt, m, p⟩, hs⟩ : ∃ s, S[i]? = some s := ⟨_, List.getElem?_eq_getElem hi⟩
      obtain ⟨ad, Ap, cp, rfl, e0, e1, e2, e3, hcp, hCp⟩ := step_at HR.out hs
      have hkb : ∀ (a : Addr) (u : Value), w.cell? a = some u → wr.cell? a = some u := fun a u h => (World.cell?_of_block (HTS.out.below.block _ (World.block_lt_of_cell? w a h))).trans h
      have q0 := hkb _ _ e0
      have q1 := hkb _ _ e1
      have q2 := hkb _ _ e2
      have q3 := hkb _ _ e3
      clear hkb e0 e1 e2 e3
      have HCP0 := Aside0.mk hCp
      have HCP := Aside0.mk (Kd.C_below hCp HTS.out.below)
      have HPC := Aside0.mk hcp
      have HSI := Aside0.mk hs
      clear hs hi hCp hcp
      rw [← Addr.add_add] at q1
      change wr.cell? ⟨(ad.add (i * 4)).block, (ad.add (i * 4)).off + 1, none⟩ = _ at q1
      rw [← Addr.add_add] at q2
      change wr.cell? ⟨(ad.add (i * 4)).block, (ad.add (i * 4)).off + 2, none⟩ = _ at q2
      rw [← Addr.add_add] at q3
      change wr.cell? ⟨(ad.add (i * 4)).block, (ad.add (i * 4)).off + 3, none⟩ = _ at q3
      go_wp2_with (fail)
      obtain ⟨r, hrn, hpl⟩ := place_nat tt L.length HTS.out.pos (by have := HLL.out; have := HN.out; have := HIL.out; omega) (HS.out _ (List.mem_of_getElem? HSI.out)).1
      obtain ⟨W6, hW6⟩ : ∃ W, W = wr.alloc (.cells #[.int .i64 kd, .int .i64 tt, .int .i64 m, .slice Ap p.length cp] 32) := ⟨_, rfl⟩
      obtain ⟨g6, hg6⟩ : ∃ g, g = wr.heap.size := ⟨_, rfl⟩
      have H6 := Aside0.mk (show W6.heap[g6]? = some (.cells #[.int .i64 kd, .int .i64 tt, .int .i64 m, .slice Ap p.length cp] 32 (0, 0)) from by rw [hW6, hg6]; exact blk_new _ _)
      have hb6 : Below wr.heap.size wr W6 := by rw [hW6]; exact below_alloc (Below.refl _ _) _
      have HTSr0 := HTS
      replace HTS := Aside0.mk (HTS.out.next hb6)
      replace HCP := Aside0.mk (Kd.C_below HCP.out hb6)
      have HGT := Aside0.mk (show gt < g6 ∧ gb < g6 from by rw [hg6]; exact ⟨(HTSr0.out.ot.lt gt rfl).2, (HTSr0.out.ob.lt gb rfl).2⟩)
      rw [← hW6, ← hg6]
      clear hW6 hg6 hb6 HTSr0
      with_reducible refine (churnlaw09_place.calls tt (L.length : Int) (r : Int) W6 hpl).mono ?_
      rintro e_ W7 ⟨rfl, hd⟩
      have hb := hd.below
      replace H6 := Aside0.mk ((hb.block g6 (blk_lt H6.out)).trans H6.out)
      replace HTS := Aside0.mk (HTS.out.next hb)
      replace HCP := Aside0.mk (Kd.C_below HCP.out hb)
      have HRN := Aside0.mk hrn
      clear hd hb hpl hrn q0 q1 q2 q3
      go_upto_region 8 with (fail)
      obtain ⟨bk, hbk⟩ : ∃ b, L[r]? = some b := ⟨_, List.getElem?_eq_getElem HRN.out⟩
      obtain ⟨p0, p1, p2, p3⟩ := HTS.out.cells hbk
      have HOK := Aside0.mk (HTS.out.ok bk (List.mem_of_getElem? hbk))
      have r1 : (r : Int) < (L.length : Int) := by have := HRN.out; omega
      have r0 : (0 : Int) ≤ (r : Int) := Int.natCast_nonneg r
      go_cut [8, 9] from 50 to 57 (fun v8 v9 wc => ∃ g8 g9 : Nat, v8 = .pointer (some ⟨g8, 0, none⟩) ∧ v9 = .pointer (some ⟨g9, 0, none⟩) ∧ Aside0 (wc.heap[g8]? = some (.cells #[.string (strOfNums bk.p), .int .i64 bk.at_] 25 (0, 0))) ∧ Aside0 (wc.heap[g9]? = some (.cells #[.slice bk.A bk.p.length bk.c, .int .i64 bk.at_] 29 (0, 0))) ∧ Aside0 (W7.heap.size ≤ g8 ∧ W7.heap.size ≤ g9) ∧ Aside0 (Below W7.heap.size W7 wc))
      case first =>
        go_region_held3 (fun W => W.cell? ⟨gt, r * 2, none⟩ = some (.string (strOfNums bk.p)) ∧ W.cell? ⟨gt, r * 2 + 1, none⟩ = some (.int .i64 bk.at_) ∧ W.cell? ⟨gb, r * 2, none⟩ = some (.slice bk.A bk.p.length bk.c) ∧ W.cell? ⟨gb, r * 2 + 1, none⟩ = some (.int .i64 bk.at_)) (first | exact ⟨p0, p1, p2, p3⟩ | go_keep) (fail)
        all_goals (go_wp2_with (fail); go_meet; (case rel => exact ⟨_, _, rfl, rfl, ⟨by first | exact alloc2_old _ _ _ | exact alloc2_new _ _ _⟩, ⟨by first | exact alloc2_old _ _ _ | exact alloc2_new _ _ _⟩, ⟨by constructor <;> omega⟩, ⟨below_drew (below_alloc (below_alloc (Below.refl _ _) _) _)⟩⟩))
      case rest =>
        clear p0 p1 p2 p3
        obtain ⟨g8, g9, rfl, rfl, H8, H9, HZ8, HBc⟩ := hcut
        have H6c := Aside0.mk ((HBc.out.block g6 (blk_lt H6.out)).trans H6.out)
        have HZK := Aside0.mk (show g6 < g8 ∧ g6 < g9 from ⟨Nat.lt_of_lt_of_le (blk_lt H6.out) HZ8.out.1, Nat.lt_of_lt_of_le (blk_lt H6.out) HZ8.out.2⟩)
        replace HTS := Aside0.mk (HTS.out.next HBc.out)
        replace HCP := Aside0.mk (Kd.C_below HCP.out HBc.out)
        clear H6 HBc HZ8
        have s0 := (blk_cell H6c.out 0).trans (show _ = some (.int .i64 kd) from rfl)
        have s2 := (blk_cell H6c.out 2).trans (show _ = some (.int .i64 m) from rfl)
        have s3 := (blk_cell H6c.out 3).trans (show _ = some (.slice Ap p.length cp) from rfl)
        go_upto_block 2 with (fail)
        have F6 := Aside0.mk (show wc.cell? ⟨g6, 2, none⟩ = some (.int .i64 m) from s2)
        go_cut [3, 4] from 60 to 192 (fun v3 v4 wd => ∃ (vt vb : Value) (L2 : List Bk), vt = v3 ∧ vb = v4 ∧ Aside0 (L2.length ≤ L.length + 1) ∧ Aside0 (TS w wd vt vb L2) ∧ Aside0 (wd.cell? ⟨g6, 2, none⟩ = some (.int .i64 m)))
        case first =>
          have HBX := Aside0.mk (show BkOk w ⟨Ap, cp, p, 0⟩ from ⟨HCP0.out, HPC.out, Nat.zero_le _, (HS.out _ (List.mem_of_getElem? HSI.out)).2.2.1, (HS.out _ (List.mem_of_getElem? HSI.out)).2.2.2⟩)
          by_cases k0 : kd = 0
          · subst k0
            as_aux_lemma =>
              have s3a := cell_kept (S := fun _ => False) s3 (W2 := wc.alloc (.cells #[] 5)) ⟨(World.grownBy_alloc wc (.cells #[] 5) none).size, fun b hlt _ => (World.grownBy_alloc wc (.cells #[] 5) none).block b hlt (by simp)⟩ (fun h => h)
              go_wp2_with ((with_reducible refine gate_builtin (b := .append) (xs := #[.tmp 62, .tmp 64]) rfl ?_); at_builtin; go_loud (refine Kd.R_app_int (k := .u8) wc.heap.size rfl (.tmp 62) (.tmp 64) 27 5 1 rfl Try.underlying27 info5 (by omega) (.slice (some ⟨wc.heap.size, 0, none⟩) 0 0) [] p Ap p.length cp (fun _ => True) rfl rfl trivial (R_none .u8 5 wc.heap.size wc (Nat.le_refl _)) (Kd.C_below HCP.out (below_alloc (Below.refl _ _) _)) ?hbs ?hl ?_; (case hbs => exact (World.grownBy_alloc wc (.cells #[] 5) none).size); (case hl => have := (HS.out _ (List.mem_of_getElem? HSI.out)).2.2.1; simp only [List.length_nil]; dsimp only at this; omega); intro v65 w65 hr_ hg_ hat_; (have hbk : Below wc.heap.size wc w65 := Below.grown (below_alloc (Below.refl _ _) _) hg_ (World.grownBy_alloc wc (.cells #[] 5) none).size (fun k hk => Nat.le_of_eq (by simpa [Value.ownBlock] using hk))); (have hr_ : Kd.R (Kd.int .u8) 5 w65 wc.heap.size (fun _ => True) v65 p := hr_); have RI := Aside0.mk (RK.of hr_); obtain ⟨Ai, ci, rfl⟩ := (RK.of hr_).lit; have HB65 := Aside0.mk hbk; have ZW := Aside0.mk hbk.size; clear hr_ hg_ hat_ hbk))
              with_reducible refine (tape_New.calls _ ci p (strOfNums p) 0 w65 (RK.reads RI.out).1 (RK.reads RI.out).2 rfl).mono ?_
              rintro e_ w67 ⟨rfl, hb⟩
              replace RI := Aside0.mk (RI.out.below hb)
              replace HB65 := Aside0.mk (below_step HB65.out hb)
              have ZI := Aside0.mk hb.size
              clear hb
              go_upto_region 13 with (fail)
              obtain ⟨W12, hW12⟩ : ∃ W, W = w67.alloc (.cells #[.string (strOfNums p), .int .i64 0] 25) := ⟨_, rfl⟩
              obtain ⟨g11, hg11⟩ : ∃ g, g = w67.heap.size := ⟨_, rfl⟩
              have H11 := Aside0.mk (show W12.heap[g11]? = some (.cells #[.string (strOfNums p), .int .i64 0] 25 (0, 0)) from by rw [hW12, hg11]; exact blk_new _ _)
              have hb12 : Below w67.heap.size w67 W12 := by rw [hW12]; exact below_alloc (Below.refl _ _) _
              have Z11 := Aside0.mk (show w65.heap.size ≤ g11 from by rw [hg11]; exact ZI.out)
              replace HB65 := Aside0.mk (below_step HB65.out hb12)
              replace RI := Aside0.mk (RI.out.below hb12)
              rw [← hW12, ← hg11]
              clear hW12 hg11 hb12 s3a
              have s3b := (blk_cell ((HB65.out.block g6 (blk_lt H6c.out)).trans H6c.out) 3).trans (show _ = some (.slice Ap p.length cp) from rfl)
              go_wp2_with (fail)
              with_reducible refine (churnlaw09_same.calls _ ci p _ cp p true W12 (RK.reads RI.out).1 (RK.reads RI.out).2 (Kd.C_below HCP.out HB65.out) HPC.out (same09 p)).mono ?_
              rintro e_ W13 ⟨rfl, hd⟩
              have hb := hd.below
              replace HB65 := Aside0.mk (below_step HB65.out hb)
              replace RI := Aside0.mk (RI.out.below hb)
              replace H11 := Aside0.mk ((hb.block g11 (blk_lt H11.out)).trans H11.out)
              clear hd hb s3b s0 s2 s3
              go_wp2_with (fail)
              have HB0 := Aside0.mk (Below.refl W13.heap.size W13)
              obtain ⟨lo, hlo⟩ : ∃ lo, wc.heap.size = lo := ⟨_, rfl⟩
              go_loopg [75] p.length (fun gq_ v75 wq => ∃ (j : Nat) (l : List Int), v75 = .int .i64 j ∧ Aside0 (j ≤ p.length) ∧ Aside0 (p.length - j ≤ gq_) ∧ Aside0 (l.length = p.length) ∧ Aside0 (RK .u8 5 wq wc.heap.size w65.heap.size (.slice Ai p.length ci) l) ∧ Aside0 (Below wc.heap.size wc wq) ∧ Aside0 (wq.heap[g11]? = W13.heap[g11]?))
              case atStart => exact ⟨0, p, rfl, ⟨Nat.zero_le _⟩, ⟨by omega⟩, ⟨rfl⟩, RI, HB65, ⟨rfl⟩⟩
              case round =>
                clear RI HB65 HB0
                obtain ⟨j, l, rfl, HJ, HG2, HLN, RI, HB65, HK11⟩ := hrel
                by_cases hj : j < p.length
                · have c1 : decide ((j : Int) < (p.length : Int)) = true := decide_eq_true (by omega)
                  have c2 : (0 : Int) ≤ (j : Int) := Int.natCast_nonneg j
                  have c3 : (j : Int) < (p.length : Int) := by omega
                  have HJL := Aside0.mk hj
                  have ri := RI.out
                  obtain ⟨gi, rfl⟩ := ri.head (by omega)
                  obtain ⟨hput, hgr, hlo1, hhi1, hu, hz⟩ := ri.put HLN.out j hj 0
                  obtain ⟨y, hy⟩ : ∃ y, l.getD j 0 = y := ⟨_, rfl⟩
                  rw [hy] at hu
                  clear hj ri hput hgr hy
                  go_wp2_with (fail)
                  go_roundg (p.length - (j + 1))
                  case measure => have := HG2.out; have := HJL.out; omega
                  case rel => exact ⟨j + 1, l.set j _, by have := HJL.out; have := (HS.out _ (List.mem_of_getElem? HSI.out)).2.2.1; dsimp only at this; first | rfl | (rw [w64 (by omega) (by omega)]; rfl), ⟨by have := HJL.out; omega⟩, ⟨by omega⟩, ⟨by rw [List.length_set]; exact HLN.out⟩, ⟨(RI.out.put HLN.out j HJL.out _).1⟩, ⟨HB65.out.setCell hlo1 _⟩, ⟨(Below.heap_setCell wr ⟨gi, j, none⟩ _ g11 (by have := Z11.out; show g11 ≠ gi; omega)).trans HK11.out⟩⟩
                · have c1 : decide ((j : Int) < (p.length : Int)) = false := decide_eq_false (by omega)
                  obtain rfl : j = p.length := by have := HJ.out; omega
                  clear hj
                  have x11 : wr.heap[g11]? = some (.cells #[.string (strOfNums p), .int .i64 0] 25 (0, 0)) := HK11.out.trans H11.out
                  have p0 := (blk_cell x11 0).trans (show _ = some (.string (strOfNums p)) from rfl)
                  have p1 := (blk_cell x11 1).trans (show _ = some (.int .i64 0) from rfl)
                  have H6r := (HB65.out.block g6 (blk_lt H6c.out)).trans H6c.out
                  have p2 := (blk_cell H6r 3).trans (show _ = some (.slice Ap p.length cp) from rfl)
                  have F6r := Aside0.mk ((blk_cell H6r 2).trans (show _ = some (.int .i64 m) from rfl))
                  have B11 := Aside0.mk (show g11 < wr.heap.size ∧ g11 ≠ gt ∧ g11 ≠ gb ∧ g6 < wr.heap.size ∧ g6 ≠ gt ∧ g6 ≠ gb from by have h1 := blk_lt x11; have h2 := HGT.out; have h3 := Z11.out; have h4 := blk_lt H6r; have h5 := blk_lt H6c.out; have h6 := ZW.out; omega)
                  have BX := Aside0.mk (show BkOk w ⟨Ap, cp, p, 0⟩ from HBX.out)
                  replace HTS := Aside0.mk (HTS.out.next HB65.out)
                  clear x11 H6r RI HB65 HK11 H11 H6c Z11
                  go_wp2_with (fail)
                  have P0 := Aside0.mk p0
                  have P1 := Aside0.mk p1
                  have P2 := Aside0.mk p2
                  have HGW := Aside0.mk (show gt < wr.heap.size from (HTS.out.ot.lt gt rfl).2)
                  go_region_held3 (fun W => W.cell? ⟨g11, 0, none⟩ = some (.string (strOfNums p)) ∧ W.cell? ⟨g11, 1, none⟩ = some (.int .i64 0) ∧ W.cell? ⟨g6, 3, none⟩ = some (.slice Ap p.length cp)) (first | exact ⟨p0, p1, p2⟩ | go_keep)
                    (first | ((refine TS.step_t (b := ⟨Ap, cp, p, 0⟩) HTS.out ?hB rfl (.tmp 85) (.tmp 87) rfl rfl rfl ?hy ?hn ?_); (case hB => first | exact below_drew (below_alloc (Below.refl _ _) _) | exact below_drew (below_alloc (below_alloc (Below.refl _ _) _) _)); (case hy => intro j u hu; first | exact lit1d _ _ _ j u hu | exact lit2o _ _ _ _ j u hu | exact lit2n _ _ _ _ j u hu); (case hn => have h1 := HLL.out; have h2 := HN.out; have h3 := HIL.out; omega); intro vt1 wm hh_; have p0 := hh_.cell (by have := B11.out; omega) (by have := B11.out; omega) p0; have p1 := hh_.cell (by have := B11.out; omega) (by have := B11.out; omega) p1; have p2 := hh_.cell (by have := B11.out; omega) (by have := B11.out; omega) p2; have HH := Aside0.mk hh_; clear hh_) | ((refine TS.step_b HTS.out HH.out ?hB rfl (.tmp 89) (.tmp 93) rfl rfl rfl ?hy BX.out ?hn ?_); (case hB => first | exact Below.refl _ _ | exact below_alloc (Below.refl _ _) _); (case hy => intro j u hu; first | exact lit1 _ _ _ j u hu | exact HH.out.lit (by simp <;> omega) (by have := HGW.out; simp; omega) (lit2o _ _ _ _ j u hu) | exact HH.out.lit (by simp <;> omega) (by have := HGW.out; simp; omega) (lit2n _ _ _ _ j u hu)); (case hn => have h1 := HLL.out; have h2 := HN.out; have h3 := HIL.out; omega); intro vb1 wn hz_ hk_; have HZ := Aside0.mk hz_; have F6n := Aside0.mk (hk_ g6 2 _ (by have := B11.out; omega) (by have := B11.out; omega) (by have := B11.out; omega) F6r.out); have p0 := hk_ g11 0 _ (by have := B11.out; omega) (by have := B11.out; omega) (by have := B11.out; omega) P0.out; have p1 := hk_ g11 1 _ (by have := B11.out; omega) (by have := B11.out; omega) (by have := B11.out; omega) P1.out; have p2 := hk_ g6 3 _ (by have := B11.out; omega) (by have := B11.out; omega) (by have := B11.out; omega) P2.out; clear hz_ hk_))
                  all_goals (go_wp2_with (fail); go_meet; (case rel => exact ⟨_, _, _, rfl, rfl, ⟨by simp⟩, HZ, F6n⟩))
          · have z0 : (kd == 0) = false := by simp [k0]
            by_cases k1 : kd = 1
            · subst k1
              have t0 := (blk_cell H8.out 0).trans (show _ = some (.string (strOfNums bk.p)) from rfl)
              have t1 := (blk_cell H8.out 1).trans (show _ = some (.int .i64 bk.at_) from rfl)
              have ZK := Aside0.mk (show g6 < g8 ∧ g6 < g9 from HZK.out)
              by_cases ha : bk.at_ < bk.p.length
              · obtain ⟨y1, y2⟩ := ts_byte_mid HOK.out ha
                as_aux_lemma =>
                  have Y1 := Aside0.mk y1
                  have Y2 := Aside0.mk y2
                  have HAL := Aside0.mk ha
                  clear y1 y2 ha s0 s2 s3
                  go_wp2_with (fail)
                  with_reducible refine (tape_Tape_Byte.calls (strOfNums bk.p) bk.at_ (rd bk.p bk.at_) (strOfNums bk.p) ((bk.at_ + 1 : Nat) : Int) 0 wc Y1.out).mono ?_
                  rintro e_ w20 ⟨rfl, hb⟩
                  have HB2 := Aside0.mk hb
                  clear hb t0 t1
                  go_upto_region 23 with (fail)
                  obtain ⟨W22, hW22⟩ : ∃ W, W = w20.alloc (.cells #[.string (strOfNums bk.p), .int .i64 ((bk.at_ : Int) + 1)] 25) := ⟨_, rfl⟩
                  obtain ⟨gn, hgn⟩ : ∃ g, g = w20.heap.size := ⟨_, rfl⟩
                  have HNW := Aside0.mk (show W22.heap[gn]? = some (.cells #[.string (strOfNums bk.p), .int .i64 ((bk.at_ : Int) + 1)] 25 (0, 0)) from by rw [hW22, hgn]; exact blk_new _ _)
                  have hb22 : Below w20.heap.size w20 W22 := by rw [hW22]; exact below_alloc (Below.refl _ _) _
                  have ZN := Aside0.mk (show wc.heap.size ≤ gn from by rw [hgn]; exact HB2.out.size)
                  replace HB2 := Aside0.mk (below_step HB2.out hb22)
                  rw [← hW22, ← hgn]
                  clear hW22 hgn hb22
                  have k9 := (HB2.out.block g9 (blk_lt H9.out)).trans H9.out
                  have t2 := (blk_cell k9 0).trans (show _ = some (.slice bk.A bk.p.length bk.c) from rfl)
                  have t3 := (blk_cell k9 1).trans (show _ = some (.int .i64 bk.at_) from rfl)
                  clear k9
                  go_wp2_with (fail)
                  with_reducible refine (churnref09_Byte.calls _ bk.c bk.p bk.at_ (rd bk.p bk.at_) ((bk.at_ + 1 : Nat) : Int) 0 W22 (Kd.C_below HOK.out.reads (below_step HTS.out.below HB2.out)) HOK.out.cap Y2.out).mono ?_
                  rintro e_ W23 ⟨rfl, hd⟩
                  have hb := hd.below
                  replace HNW := Aside0.mk ((hb.block gn (blk_lt HNW.out)).trans HNW.out)
                  replace HB2 := Aside0.mk (below_step HB2.out hb)
                  clear hd hb t2 t3
                  have HLE := Aside0.mk (show bk.at_ + 1 ≤ bk.p.length from HAL.out)
                  have x9 := (HB2.out.block g9 (blk_lt H9.out)).trans H9.out
                  have x6 := (HB2.out.block g6 (blk_lt H6c.out)).trans H6c.out
                  have F6r := Aside0.mk ((blk_cell x6 2).trans (show _ = some (.int .i64 m) from rfl))
                  have X9 := Aside0.mk x9
                  have X6L := Aside0.mk (blk_lt x6)
                  have X9L := Aside0.mk (blk_lt x9)
                  clear x6
                  have a0 := (blk_cell HNW.out 0).trans (show _ = some (.string (strOfNums bk.p)) from rfl)
                  have a1 := (blk_cell HNW.out 1).trans (show _ = some (.int .i64 ((bk.at_ : Int) + 1)) from rfl)
                  have A0_ := Aside0.mk a0
                  have A1_ := Aside0.mk a1
                  have AN := Aside0.mk (blk_lt HNW.out)
                  have ZZ := Aside0.mk (show g6 < gn from Nat.lt_of_lt_of_le (blk_lt H6c.out) ZN.out)
                  have ZW9 := Aside0.mk (show w.heap.size ≤ g9 from by have h1 := (HTS.out.ot.lt gt rfl).1; have h2 := HGT.out; have h3 := ZK.out; omega)
                  clear a0 a1
                  have B11 := Aside0.mk (show (gn < W23.heap.size ∧ gn ≠ gt ∧ gn ≠ gb) ∧ (g9 < W23.heap.size ∧ g9 ≠ gt ∧ g9 ≠ gb) ∧ (g6 < W23.heap.size ∧ g6 ≠ gt ∧ g6 ≠ gb) ∧ gn ≠ g9 from by have h1 := HGT.out; have h2 := ZK.out; have h3 := ZZ.out; have h4 := AN.out; have h5 := X6L.out; have h6 := X9L.out; have h7 := ZN.out; have h8 := blk_lt H9.out; omega)
                  replace HTS := Aside0.mk (HTS.out.next HB2.out)
                  have BX := Aside0.mk (show BkOk w ⟨bk.A, bk.c, bk.p, bk.at_ + 1⟩ from ⟨HOK.out.reads, HOK.out.cap, HLE.out, HOK.out.big, HOK.out.byt⟩)
                  clear HB2
                  clear x9
                  go_upto_region 28 with (fail)
                  have p2 := (blk_cell X9.out 0).trans (show _ = some (.slice bk.A bk.p.length bk.c) from rfl)
                  have p0 := A0_.out
                  have p1 := A1_.out
                  have P0 := Aside0.mk p0
                  have P1 := Aside0.mk p1
                  have P2 := Aside0.mk p2
                  have HGW := Aside0.mk (show gt < W23.heap.size from (HTS.out.ot.lt gt rfl).2)
                  go_region_held3 (fun W => W.cell? ⟨gn, 0, none⟩ = some (.string (strOfNums bk.p)) ∧ W.cell? ⟨gn, 1, none⟩ = some (.int .i64 ((bk.at_ : Int) + 1)) ∧ W.cell? ⟨g9, 0, none⟩ = some (.slice bk.A bk.p.length bk.c)) (first | exact ⟨p0, p1, p2⟩ | go_keep)
                    (first | ((refine TS.step_t (b := ⟨bk.A, bk.c, bk.p, bk.at_ + 1⟩) HTS.out ?hB rfl (.tmp 123) (.tmp 125) rfl rfl rfl ?hy ?hn ?_); (case hB => first | exact below_drew (below_alloc (Below.refl _ _) _) | exact below_drew (below_alloc (below_alloc (Below.refl _ _) _) _)); (case hy => intro j u hu; first | exact lit1d _ _ _ j u hu | exact lit2o _ _ _ _ j u hu | exact lit2n _ _ _ _ j u hu); (case hn => have h1 := HLL.out; have h2 := HN.out; have h3 := HIL.out; omega); intro vt1 wm hh_; have p0 := hh_.cell (by have := B11.out; omega) (by have := B11.out; omega) p0; have p1 := hh_.cell (by have := B11.out; omega) (by have := B11.out; omega) p1; have p2 := hh_.cell (by have := B11.out; omega) (by have := B11.out; omega) p2; have HH := Aside0.mk hh_; clear hh_) | ((refine TS.step_b HTS.out HH.out ?hB rfl (.tmp 127) (.tmp 132) rfl rfl rfl ?hy BX.out ?hn ?_); (case hB => first | exact Below.refl _ _ | exact below_alloc (Below.refl _ _) _); (case hy => intro j u hu; first | exact lit1 _ _ _ j u hu | exact HH.out.lit (by simp <;> omega) (by have := HGW.out; simp; omega) (lit2o _ _ _ _ j u hu) | exact HH.out.lit (by simp <;> omega) (by have := HGW.out; simp; omega) (lit2n _ _ _ _ j u hu)); (case hn => have h1 := HLL.out; have h2 := HN.out; have h3 := HIL.out; omega); intro vb1 wn hz_ hk_; have HZ := Aside0.mk hz_; have F6n := Aside0.mk (hk_ g6 2 _ (by have := B11.out; omega) (by have := B11.out; omega) (by have := B11.out; omega) F6r.out); have p0 := hk_ gn 0 _ (by have := B11.out; omega) (by have := B11.out; omega) (by have := B11.out; omega) P0.out; have p1 := hk_ gn 1 _ (by have := B11.out; omega) (by have := B11.out; omega) (by have := B11.out; omega) P1.out; have p2 := hk_ g9 0 _ (by have := B11.out; omega) (by have := B11.out; omega) (by have := B11.out; omega) P2.out; clear hz_ hk_))
                  all_goals (go_wp2_with (fail); go_meet; (case rel => exact ⟨_, _, _, rfl, rfl, ⟨by simp⟩, HZ, F6n⟩))
              · obtain ⟨y1, y2⟩ := ts_byte_end HOK.out ha
                as_aux_lemma =>
                  have Y1 := Aside0.mk y1
                  have Y2 := Aside0.mk y2
                  have HAL := Aside0.mk ha
                  clear y1 y2 ha s0 s2 s3
                  go_wp2_with (fail)
                  with_reducible refine (tape_Tape_Byte.calls (strOfNums bk.p) bk.at_ 0 ⟨#[]⟩ 0 3 wc Y1.out).mono ?_
                  rintro e_ w20 ⟨rfl, hb⟩
                  have HB2 := Aside0.mk hb
                  clear hb t0 t1
                  go_upto_region 23 with (fail)
                  obtain ⟨W22, hW22⟩ : ∃ W, W = w20.alloc (.cells #[.string ⟨#[]⟩, .int .i64 0] 25) := ⟨_, rfl⟩
                  obtain ⟨gn, hgn⟩ : ∃ g, g = w20.heap.size := ⟨_, rfl⟩
                  have HNW := Aside0.mk (show W22.heap[gn]? = some (.cells #[.string ⟨#[]⟩, .int .i64 0] 25 (0, 0)) from by rw [hW22, hgn]; exact blk_new _ _)
                  have hb22 : Below w20.heap.size w20 W22 := by rw [hW22]; exact below_alloc (Below.refl _ _) _
                  have ZN := Aside0.mk (show wc.heap.size ≤ gn from by rw [hgn]; exact HB2.out.size)
                  replace HB2 := Aside0.mk (below_step HB2.out hb22)
                  rw [← hW22, ← hgn]
                  clear hW22 hgn hb22
                  have k9 := (HB2.out.block g9 (blk_lt H9.out)).trans H9.out
                  have t2 := (blk_cell k9 0).trans (show _ = some (.slice bk.A bk.p.length bk.c) from rfl)
                  have t3 := (blk_cell k9 1).trans (show _ = some (.int .i64 bk.at_) from rfl)
                  clear k9
                  go_wp2_with (fail)
                  with_reducible refine (churnref09_Byte.calls _ bk.c bk.p bk.at_ 0 0 3 W22 (Kd.C_below HOK.out.reads (below_step HTS.out.below HB2.out)) HOK.out.cap Y2.out).mono ?_
                  rintro e_ W23 ⟨rfl, hd⟩
                  have hb := hd.below
                  replace HNW := Aside0.mk ((hb.block gn (blk_lt HNW.out)).trans HNW.out)
                  replace HB2 := Aside0.mk (below_step HB2.out hb)
                  clear hd hb t2 t3
                  have x9 := (HB2.out.block g9 (blk_lt H9.out)).trans H9.out
                  have x6 := (HB2.out.block g6 (blk_lt H6c.out)).trans H6c.out
                  have F6r := Aside0.mk ((blk_cell x6 2).trans (show _ = some (.int .i64 m) from rfl))
                  have X9 := Aside0.mk x9
                  have X6L := Aside0.mk (blk_lt x6)
                  have X9L := Aside0.mk (blk_lt x9)
                  clear x6
                  have a0 := (blk_cell HNW.out 0).trans (show _ = some (.string ⟨#[]⟩) from rfl)
                  have a1 := (blk_cell HNW.out 1).trans (show _ = some (.int .i64 0) from rfl)
                  have A0_ := Aside0.mk a0
                  have A1_ := Aside0.mk a1
                  have AN := Aside0.mk (blk_lt HNW.out)
                  have ZZ := Aside0.mk (show g6 < gn from Nat.lt_of_lt_of_le (blk_lt H6c.out) ZN.out)
                  have ZW9 := Aside0.mk (show w.heap.size ≤ g9 from by have h1 := (HTS.out.ot.lt gt rfl).1; have h2 := HGT.out; have h3 := ZK.out; omega)
                  clear a0 a1
                  have B11 := Aside0.mk (show (gn < W23.heap.size ∧ gn ≠ gt ∧ gn ≠ gb) ∧ (g9 < W23.heap.size ∧ g9 ≠ gt ∧ g9 ≠ gb) ∧ (g6 < W23.heap.size ∧ g6 ≠ gt ∧ g6 ≠ gb) ∧ gn ≠ g9 from by have h1 := HGT.out; have h2 := ZK.out; have h3 := ZZ.out; have h4 := AN.out; have h5 := X6L.out; have h6 := X9L.out; have h7 := ZN.out; have h8 := blk_lt H9.out; omega)
                  replace HTS := Aside0.mk (HTS.out.next HB2.out)
                  have BX := Aside0.mk (show BkOk w ⟨none, 0, [], 0⟩ from BkOk.nil w)
                  clear HB2
                  have u0 := (blk_cell x9 0).trans (show _ = some (.slice bk.A bk.p.length bk.c) from rfl)
                  have u1 := (blk_cell x9 1).trans (show _ = some (.int .i64 bk.at_) from rfl)
                  have v0 := blk_frozen x9 0
                  have v1 := blk_frozen x9 1
                  clear x9
                  go_upto_region 28 with (fail)
                  clear u0 u1 v0 v1
                  obtain ⟨W27, hW27⟩ : ∃ W, W = (W23.setCell ⟨g9, 0, none⟩ (.slice none 0 0)).setCell ⟨g9, 1, none⟩ (.int .i64 0) := ⟨_, rfl⟩
                  replace HTS := Aside0.mk (show TS w W27 _ _ L from by rw [hW27]; have h := B11.out; exact (HTS.out.set 0 _ h.2.1.2.1 h.2.1.2.2 ZW9.out).set 1 _ h.2.1.2.1 h.2.1.2.2 ZW9.out)
                  have p0 : W27.cell? ⟨gn, 0, none⟩ = some (.string ⟨#[]⟩) := by rw [hW27]; exact set_far B11.out.2.2.2 (set_far B11.out.2.2.2 A0_.out)
                  have p1 : W27.cell? ⟨gn, 1, none⟩ = some (.int .i64 0) := by rw [hW27]; exact set_far B11.out.2.2.2 (set_far B11.out.2.2.2 A1_.out)
                  have n69 : g6 ≠ g9 := by have := ZK.out; omega
                  replace F6r := Aside0.mk (show W27.cell? ⟨g6, 2, none⟩ = some (.int .i64 m) from by rw [hW27]; exact set_far n69 (set_far n69 F6r.out))
                  have k9 := blk_set (blk_set X9.out 0 (.slice none 0 0)) 1 (.int .i64 0)
                  rw [← hW27] at k9
                  have p2 := (blk_cell k9 0).trans (show _ = some (.slice none 0 0) from rfl)
                  have zw : W27.heap.size = W23.heap.size := by rw [hW27]; simp
                  rw [← zw] at B11
                  rw [← hW27]
                  clear hW27 k9 zw n69
                  have P0 := Aside0.mk p0
                  have P1 := Aside0.mk p1
                  have P2 := Aside0.mk p2
                  have HGW := Aside0.mk (show gt < W27.heap.size from (HTS.out.ot.lt gt rfl).2)
                  go_region_held3 (fun W => W.cell? ⟨gn, 0, none⟩ = some (.string ⟨#[]⟩) ∧ W.cell? ⟨gn, 1, none⟩ = some (.int .i64 0) ∧ W.cell? ⟨g9, 0, none⟩ = some (.slice none 0 0)) (first | exact ⟨p0, p1, p2⟩ | go_keep)
                    (first | ((refine TS.step_t (b := ⟨none, 0, [], 0⟩) HTS.out ?hB rfl (.tmp 123) (.tmp 125) rfl rfl rfl ?hy ?hn ?_); (case hB => first | exact below_drew (below_alloc (Below.refl _ _) _) | exact below_drew (below_alloc (below_alloc (Below.refl _ _) _) _)); (case hy => intro j u hu; first | exact lit1d _ _ _ j u hu | exact lit2o _ _ _ _ j u hu | exact lit2n _ _ _ _ j u hu); (case hn => have h1 := HLL.out; have h2 := HN.out; have h3 := HIL.out; omega); intro vt1 wm hh_; have p0 := hh_.cell (by have := B11.out; omega) (by have := B11.out; omega) p0; have p1 := hh_.cell (by have := B11.out; omega) (by have := B11.out; omega) p1; have p2 := hh_.cell (by have := B11.out; omega) (by have := B11.out; omega) p2; have HH := Aside0.mk hh_; clear hh_) | ((refine TS.step_b HTS.out HH.out ?hB rfl (.tmp 127) (.tmp 132) rfl rfl rfl ?hy BX.out ?hn ?_); (case hB => first | exact Below.refl _ _ | exact below_alloc (Below.refl _ _) _); (case hy => intro j u hu; first | exact lit1 _ _ _ j u hu | exact HH.out.lit (by simp <;> omega) (by have := HGW.out; simp; omega) (lit2o _ _ _ _ j u hu) | exact HH.out.lit (by simp <;> omega) (by have := HGW.out; simp; omega) (lit2n _ _ _ _ j u hu)); (case hn => have h1 := HLL.out; have h2 := HN.out; have h3 := HIL.out; omega); intro vb1 wn hz_ hk_; have HZ := Aside0.mk hz_; have F6n := Aside0.mk (hk_ g6 2 _ (by have := B11.out; omega) (by have := B11.out; omega) (by have := B11.out; omega) F6r.out); have p0 := hk_ gn 0 _ (by have := B11.out; omega) (by have := B11.out; omega) (by have := B11.out; omega) P0.out; have p1 := hk_ gn 1 _ (by have := B11.out; omega) (by have := B11.out; omega) (by have := B11.out; omega) P1.out; have p2 := hk_ g9 0 _ (by have := B11.out; omega) (by have := B11.out; omega) (by have := B11.out; omega) P2.out; clear hz_ hk_))
                  all_goals (go_wp2_with (fail); go_meet; (case rel => exact ⟨_, _, _, rfl, rfl, ⟨by simp⟩, HZ, F6n⟩))
            · have z1 : (kd == 1) = false := by simp [k1]
              by_cases k2 : kd = 2
              · subst k2
                have t0 := (blk_cell H8.out 0).trans (show _ = some (.string (strOfNums bk.p)) from rfl)
                have t1 := (blk_cell H8.out 1).trans (show _ = some (.int .i64 bk.at_) from rfl)
                have ZK := Aside0.mk (show g6 < g8 ∧ g6 < g9 from HZK.out)
                by_cases m0 : m < 0
                · have y2 := (ts_take_neg (b := bk) m0).2
                  as_aux_lemma =>
                    have Y2 := Aside0.mk y2
                    have M0 := Aside0.mk m0
                    have s2w := s2
                    clear y2 s0 s2 s3
                    go_wp2_with (fail)
                    with_reducible refine (ts_refuse_neg (strOfNums bk.p) bk.at_ m wc M0.out).mono ?_
                    rintro e_ w20 ⟨rfl, hb⟩
                    have HB2 := Aside0.mk hb
                    clear hb t0 t1 s2w
                    go_upto_region 31 with (fail)
                    obtain ⟨W22, hW22⟩ : ∃ W, W = w20.alloc (.cells #[.string ⟨#[]⟩, .int .i64 0] 25) := ⟨_, rfl⟩
                    obtain ⟨gn, hgn⟩ : ∃ g, g = w20.heap.size := ⟨_, rfl⟩
                    have HNW := Aside0.mk (show W22.heap[gn]? = some (.cells #[.string ⟨#[]⟩, .int .i64 0] 25 (0, 0)) from by rw [hW22, hgn]; exact blk_new _ _)
                    have hb22 : Below w20.heap.size w20 W22 := by rw [hW22]; exact below_alloc (Below.refl _ _) _
                    have ZN := Aside0.mk (show wc.heap.size ≤ gn from by rw [hgn]; exact HB2.out.size)
                    replace HB2 := Aside0.mk (below_step HB2.out hb22)
                    rw [← hW22, ← hgn]
                    clear hW22 hgn hb22
                    have k9 := (HB2.out.block g9 (blk_lt H9.out)).trans H9.out
                    have t2 := (blk_cell k9 0).trans (show _ = some (.slice bk.A bk.p.length bk.c) from rfl)
                    have t3 := (blk_cell k9 1).trans (show _ = some (.int .i64 bk.at_) from rfl)
                    have t4 := (blk_cell ((HB2.out.block g6 (blk_lt H6c.out)).trans H6c.out) 2).trans (show _ = some (.int .i64 m) from rfl)
                    clear k9
                    go_wp2_with (fail)
                    with_reducible refine (churnref09_Take.calls _ bk.c bk.p bk.at_ m [] 0 2 W22 (Kd.C_below HOK.out.reads (below_step HTS.out.below HB2.out)) HOK.out.cap Y2.out).mono ?_
                    rintro e_ W23 ⟨v0, rfl, h0, hb⟩
                    obtain ⟨Ar, cr, rfl⟩ := (RK.of h0).lit
                    have RR := Aside0.mk (RK.of h0)
                    replace HNW := Aside0.mk ((hb.block gn (blk_lt HNW.out)).trans HNW.out)
                    replace HB2 := Aside0.mk (below_step HB2.out hb)
                    clear h0 hb t2 t3 t4
                    go_wp2_with (fail)
                    with_reducible refine (Calls.mono (same09_calls (l := []) (A0 := none) (n := 0) (c0 := 0) (nil_reads W23) (Nat.le_refl _) (RK.reads RR.out) rfl) ?_)
                    rintro e_ W24 ⟨rfl, hb⟩
                    replace HNW := Aside0.mk ((hb.block gn (blk_lt HNW.out)).trans HNW.out)
                    replace HB2 := Aside0.mk (below_step HB2.out hb)
                    clear hb RR
                    go_wp2_with (fail)
                    go_loopg [166] 0 (fun gq_ v166 wq => v166 = .int .i64 0 ∧ wq = W24)
                    case atStart => exact ⟨rfl, rfl⟩
                    case round =>
                      obtain ⟨rfl, rfl⟩ := hrel
                      go_upto_region 40 with ((with_reducible refine gate_builtin (b := .append) (xs := #[.tmp 176, .tmp 177]) rfl ?_); at_builtin; go_loud (refine Kd.R_app_int (k := .u8) wr.heap.size rfl (.tmp 176) (.tmp 177) 27 5 1 rfl Try.underlying27 info5 (by omega) (.slice none 0 0) [] [1, 2, 3] (some ⟨wr.heap.size, 0, none⟩) 3 3 (fun _ => True) rfl rfl trivial (Kd.R_nil _ _ _ _ _) (C_lit .u8 wr [1, 2, 3] 5 (by simp)) ?hbs ?hl ?_; (case hbs => exact (World.grownBy_alloc wr _ none).size); (case hl => decide); intro v39 w39 hr_ hg_ hat_; have HB3 := Aside0.mk ((HB2.out.alloc HB2.out.size _).grown hg_ (HB2.out.alloc HB2.out.size _).size (fun k hk => by simp [Value.ownBlock] at hk)); have HN3 := Aside0.mk ((hg_.block gn (Nat.lt_of_lt_of_le (blk_lt HNW.out) (World.grownBy_alloc wr _ none).size) (fun e => by simp [Value.ownBlock] at e)).trans (((below_alloc (Below.refl wr.heap.size wr) _).block gn (blk_lt HNW.out)).trans HNW.out)); clear hr_ hg_ hat_))
                      replace HB2 := HB3
                      replace HNW := HN3
                      clear HB3 HN3
                      have x9 := (HB2.out.block g9 (blk_lt H9.out)).trans H9.out
                      have x6 := (HB2.out.block g6 (blk_lt H6c.out)).trans H6c.out
                      have F6r := Aside0.mk ((blk_cell x6 2).trans (show _ = some (.int .i64 m) from rfl))
                      have X9 := Aside0.mk x9
                      have X6L := Aside0.mk (blk_lt x6)
                      have X9L := Aside0.mk (blk_lt x9)
                      clear x6
                      have a0 := (blk_cell HNW.out 0).trans (show _ = some (.string ⟨#[]⟩) from rfl)
                      have a1 := (blk_cell HNW.out 1).trans (show _ = some (.int .i64 0) from rfl)
                      have A0_ := Aside0.mk a0
                      have A1_ := Aside0.mk a1
                      have AN := Aside0.mk (blk_lt HNW.out)
                      have ZZ := Aside0.mk (show g6 < gn from Nat.lt_of_lt_of_le (blk_lt H6c.out) ZN.out)
                      have ZW9 := Aside0.mk (show w.heap.size ≤ g9 from by have h1 := (HTS.out.ot.lt gt rfl).1; have h2 := HGT.out; have h3 := ZK.out; omega)
                      clear a0 a1
                      have B11 := Aside0.mk (show (gn < w39.heap.size ∧ gn ≠ gt ∧ gn ≠ gb) ∧ (g9 < w39.heap.size ∧ g9 ≠ gt ∧ g9 ≠ gb) ∧ (g6 < w39.heap.size ∧ g6 ≠ gt ∧ g6 ≠ gb) ∧ gn ≠ g9 from by have h1 := HGT.out; have h2 := ZK.out; have h3 := ZZ.out; have h4 := AN.out; have h5 := X6L.out; have h6 := X9L.out; have h7 := ZN.out; have h8 := blk_lt H9.out; omega)
                      replace HTS := Aside0.mk (HTS.out.next HB2.out)
                      have BX := Aside0.mk (show BkOk w ⟨none, 0, [], 0⟩ from BkOk.nil w)
                      clear HB2
                      have u0 := (blk_cell x9 0).trans (show _ = some (.slice bk.A bk.p.length bk.c) from rfl)
                      have u1 := (blk_cell x9 1).trans (show _ = some (.int .i64 bk.at_) from rfl)
                      have v0 := blk_frozen x9 0
                      have v1 := blk_frozen x9 1
                      clear x9
                      go_upto_region 42 with (fail)
                      clear u0 u1 v0 v1
                      obtain ⟨W27, hW27⟩ : ∃ W, W = (w39.setCell ⟨g9, 0, none⟩ (.slice none 0 0)).setCell ⟨g9, 1, none⟩ (.int .i64 0) := ⟨_, rfl⟩
                      replace HTS := Aside0.mk (show TS w W27 _ _ L from by rw [hW27]; have h := B11.out; exact (HTS.out.set 0 _ h.2.1.2.1 h.2.1.2.2 ZW9.out).set 1 _ h.2.1.2.1 h.2.1.2.2 ZW9.out)
                      have p0 : W27.cell? ⟨gn, 0, none⟩ = some (.string ⟨#[]⟩) := by rw [hW27]; exact set_far B11.out.2.2.2 (set_far B11.out.2.2.2 A0_.out)
                      have p1 : W27.cell? ⟨gn, 1, none⟩ = some (.int .i64 0) := by rw [hW27]; exact set_far B11.out.2.2.2 (set_far B11.out.2.2.2 A1_.out)
                      have n69 : g6 ≠ g9 := by have := ZK.out; omega
                      replace F6r := Aside0.mk (show W27.cell? ⟨g6, 2, none⟩ = some (.int .i64 m) from by rw [hW27]; exact set_far n69 (set_far n69 F6r.out))
                      have k9 := blk_set (blk_set X9.out 0 (.slice none 0 0)) 1 (.int .i64 0)
                      rw [← hW27] at k9
                      have p2 := (blk_cell k9 0).trans (show _ = some (.slice none 0 0) from rfl)
                      have zw : W27.heap.size = w39.heap.size := by rw [hW27]; simp
                      rw [← zw] at B11
                      rw [← hW27]
                      clear hW27 k9 zw n69
                      have P0 := Aside0.mk p0
                      have P1 := Aside0.mk p1
                      have P2 := Aside0.mk p2
                      have HGW := Aside0.mk (show gt < W27.heap.size from (HTS.out.ot.lt gt rfl).2)
                      go_region_held3 (fun W => W.cell? ⟨gn, 0, none⟩ = some (.string ⟨#[]⟩) ∧ W.cell? ⟨gn, 1, none⟩ = some (.int .i64 0) ∧ W.cell? ⟨g9, 0, none⟩ = some (.slice none 0 0)) (first | exact ⟨p0, p1, p2⟩ | go_keep)
                        (first | ((refine TS.step_t (b := ⟨none, 0, [], 0⟩) HTS.out ?hB rfl (.tmp 182) (.tmp 184) rfl rfl rfl ?hy ?hn ?_); (case hB => first | exact below_drew (below_alloc (Below.refl _ _) _) | exact below_drew (below_alloc (below_alloc (Below.refl _ _) _) _)); (case hy => intro j u hu; first | exact lit1d _ _ _ j u hu | exact lit2o _ _ _ _ j u hu | exact lit2n _ _ _ _ j u hu); (case hn => have h1 := HLL.out; have h2 := HN.out; have h3 := HIL.out; omega); intro vt1 wm hh_; have p0 := hh_.cell (by have := B11.out; omega) (by have := B11.out; omega) p0; have p1 := hh_.cell (by have := B11.out; omega) (by have := B11.out; omega) p1; have p2 := hh_.cell (by have := B11.out; omega) (by have := B11.out; omega) p2; have HH := Aside0.mk hh_; clear hh_) | ((refine TS.step_b HTS.out HH.out ?hB rfl (.tmp 186) (.tmp 191) rfl rfl rfl ?hy BX.out ?hn ?_); (case hB => first | exact Below.refl _ _ | exact below_alloc (Below.refl _ _) _); (case hy => intro j u hu; first | exact lit1 _ _ _ j u hu | exact HH.out.lit (by simp <;> omega) (by have := HGW.out; simp; omega) (lit2o _ _ _ _ j u hu) | exact HH.out.lit (by simp <;> omega) (by have := HGW.out; simp; omega) (lit2n _ _ _ _ j u hu)); (case hn => have h1 := HLL.out; have h2 := HN.out; have h3 := HIL.out; omega); intro vb1 wn hz_ hk_; have HZ := Aside0.mk hz_; have F6n := Aside0.mk (hk_ g6 2 _ (by have := B11.out; omega) (by have := B11.out; omega) (by have := B11.out; omega) F6r.out); have p0 := hk_ gn 0 _ (by have := B11.out; omega) (by have := B11.out; omega) (by have := B11.out; omega) P0.out; have p1 := hk_ gn 1 _ (by have := B11.out; omega) (by have := B11.out; omega) (by have := B11.out; omega) P1.out; have p2 := hk_ g9 0 _ (by have := B11.out; omega) (by have := B11.out; omega) (by have := B11.out; omega) P2.out; clear hz_ hk_))
                      all_goals (go_wp2_with (fail); go_meet; (case rel => exact ⟨_, _, _, rfl, rfl, ⟨by simp⟩, HZ, F6n⟩))
                · by_cases m1 : (bk.p.length : Int) - bk.at_ < m
                  · have y2 := (ts_take_much HOK.out m0 m1).2
                    as_aux_lemma =>
                      have Y2 := Aside0.mk y2
                      have M0 := Aside0.mk m0
                      have s2w := s2
                      clear y2 s0 s2 s3
                      have M1 := Aside0.mk m1
                      go_wp2_with (fail)
                      with_reducible refine (ts_refuse_more (strOfNums bk.p) bk.at_ m wc (by have := M0.out; omega) (ts_left_lt HOK.out M1.out)).mono ?_
                      rintro e_ w20 ⟨rfl, hb⟩
                      have HB2 := Aside0.mk hb
                      clear hb t0 t1 s2w
                      go_upto_region 31 with (fail)
                      obtain ⟨W22, hW22⟩ : ∃ W, W = w20.alloc (.cells #[.string ⟨#[]⟩, .int .i64 0] 25) := ⟨_, rfl⟩
                      obtain ⟨gn, hgn⟩ : ∃ g, g = w20.heap.size := ⟨_, rfl⟩
                      have HNW := Aside0.mk (show W22.heap[gn]? = some (.cells #[.string ⟨#[]⟩, .int .i64 0] 25 (0, 0)) from by rw [hW22, hgn]; exact blk_new _ _)
                      have hb22 : Below w20.heap.size w20 W22 := by rw [hW22]; exact below_alloc (Below.refl _ _) _
                      have ZN := Aside0.mk (show wc.heap.size ≤ gn from by rw [hgn]; exact HB2.out.size)
                      replace HB2 := Aside0.mk (below_step HB2.out hb22)
                      rw [← hW22, ← hgn]
                      clear hW22 hgn hb22
                      have k9 := (HB2.out.block g9 (blk_lt H9.out)).trans H9.out
                      have t2 := (blk_cell k9 0).trans (show _ = some (.slice bk.A bk.p.length bk.c) from rfl)
                      have t3 := (blk_cell k9 1).trans (show _ = some (.int .i64 bk.at_) from rfl)
                      have t4 := (blk_cell ((HB2.out.block g6 (blk_lt H6c.out)).trans H6c.out) 2).trans (show _ = some (.int .i64 m) from rfl)
                      clear k9
                      go_wp2_with (fail)
                      with_reducible refine (churnref09_Take.calls _ bk.c bk.p bk.at_ m [] 0 3 W22 (Kd.C_below HOK.out.reads (below_step HTS.out.below HB2.out)) HOK.out.cap Y2.out).mono ?_
                      rintro e_ W23 ⟨v0, rfl, h0, hb⟩
                      obtain ⟨Ar, cr, rfl⟩ := (RK.of h0).lit
                      have RR := Aside0.mk (RK.of h0)
                      replace HNW := Aside0.mk ((hb.block gn (blk_lt HNW.out)).trans HNW.out)
                      replace HB2 := Aside0.mk (below_step HB2.out hb)
                      clear h0 hb t2 t3 t4
                      go_wp2_with (fail)
                      with_reducible refine (Calls.mono (same09_calls (l := []) (A0 := none) (n := 0) (c0 := 0) (nil_reads W23) (Nat.le_refl _) (RK.reads RR.out) rfl) ?_)
                      rintro e_ W24 ⟨rfl, hb⟩
                      replace HNW := Aside0.mk ((hb.block gn (blk_lt HNW.out)).trans HNW.out)
                      replace HB2 := Aside0.mk (below_step HB2.out hb)
                      clear hb RR
                      go_wp2_with (fail)
                      go_loopg [166] 0 (fun gq_ v166 wq => v166 = .int .i64 0 ∧ wq = W24)
                      case atStart => exact ⟨rfl, rfl⟩
                      case round =>
                        obtain ⟨rfl, rfl⟩ := hrel
                        go_upto_region 40 with ((with_reducible refine gate_builtin (b := .append) (xs := #[.tmp 176, .tmp 177]) rfl ?_); at_builtin; go_loud (refine Kd.R_app_int (k := .u8) wr.heap.size rfl (.tmp 176) (.tmp 177) 27 5 1 rfl Try.underlying27 info5 (by omega) (.slice none 0 0) [] [1, 2, 3] (some ⟨wr.heap.size, 0, none⟩) 3 3 (fun _ => True) rfl rfl trivial (Kd.R_nil _ _ _ _ _) (C_lit .u8 wr [1, 2, 3] 5 (by simp)) ?hbs ?hl ?_; (case hbs => exact (World.grownBy_alloc wr _ none).size); (case hl => decide); intro v39 w39 hr_ hg_ hat_; have HB3 := Aside0.mk ((HB2.out.alloc HB2.out.size _).grown hg_ (HB2.out.alloc HB2.out.size _).size (fun k hk => by simp [Value.ownBlock] at hk)); have HN3 := Aside0.mk ((hg_.block gn (Nat.lt_of_lt_of_le (blk_lt HNW.out) (World.grownBy_alloc wr _ none).size) (fun e => by simp [Value.ownBlock] at e)).trans (((below_alloc (Below.refl wr.heap.size wr) _).block gn (blk_lt HNW.out)).trans HNW.out)); clear hr_ hg_ hat_))
                        replace HB2 := HB3
                        replace HNW := HN3
                        clear HB3 HN3
                        have x9 := (HB2.out.block g9 (blk_lt H9.out)).trans H9.out
                        have x6 := (HB2.out.block g6 (blk_lt H6c.out)).trans H6c.out
                        have F6r := Aside0.mk ((blk_cell x6 2).trans (show _ = some (.int .i64 m) from rfl))
                        have X9 := Aside0.mk x9
                        have X6L := Aside0.mk (blk_lt x6)
                        have X9L := Aside0.mk (blk_lt x9)
                        clear x6
                        have a0 := (blk_cell HNW.out 0).trans (show _ = some (.string ⟨#[]⟩) from rfl)
                        have a1 := (blk_cell HNW.out 1).trans (show _ = some (.int .i64 0) from rfl)
                        have A0_ := Aside0.mk a0
                        have A1_ := Aside0.mk a1
                        have AN := Aside0.mk (blk_lt HNW.out)
                        have ZZ := Aside0.mk (show g6 < gn from Nat.lt_of_lt_of_le (blk_lt H6c.out) ZN.out)
                        have ZW9 := Aside0.mk (show w.heap.size ≤ g9 from by have h1 := (HTS.out.ot.lt gt rfl).1; have h2 := HGT.out; have h3 := ZK.out; omega)
                        clear a0 a1
                        have B11 := Aside0.mk (show (gn < w39.heap.size ∧ gn ≠ gt ∧ gn ≠ gb) ∧ (g9 < w39.heap.size ∧ g9 ≠ gt ∧ g9 ≠ gb) ∧ (g6 < w39.heap.size ∧ g6 ≠ gt ∧ g6 ≠ gb) ∧ gn ≠ g9 from by have h1 := HGT.out; have h2 := ZK.out; have h3 := ZZ.out; have h4 := AN.out; have h5 := X6L.out; have h6 := X9L.out; have h7 := ZN.out; have h8 := blk_lt H9.out; omega)
                        replace HTS := Aside0.mk (HTS.out.next HB2.out)
                        have BX := Aside0.mk (show BkOk w ⟨none, 0, [], 0⟩ from BkOk.nil w)
                        clear HB2
                        have u0 := (blk_cell x9 0).trans (show _ = some (.slice bk.A bk.p.length bk.c) from rfl)
                        have u1 := (blk_cell x9 1).trans (show _ = some (.int .i64 bk.at_) from rfl)
                        have v0 := blk_frozen x9 0
                        have v1 := blk_frozen x9 1
                        clear x9
                        go_upto_region 42 with (fail)
                        clear u0 u1 v0 v1
                        obtain ⟨W27, hW27⟩ : ∃ W, W = (w39.setCell ⟨g9, 0, none⟩ (.slice none 0 0)).setCell ⟨g9, 1, none⟩ (.int .i64 0) := ⟨_, rfl⟩
                        replace HTS := Aside0.mk (show TS w W27 _ _ L from by rw [hW27]; have h := B11.out; exact (HTS.out.set 0 _ h.2.1.2.1 h.2.1.2.2 ZW9.out).set 1 _ h.2.1.2.1 h.2.1.2.2 ZW9.out)
                        have p0 : W27.cell? ⟨gn, 0, none⟩ = some (.string ⟨#[]⟩) := by rw [hW27]; exact set_far B11.out.2.2.2 (set_far B11.out.2.2.2 A0_.out)
                        have p1 : W27.cell? ⟨gn, 1, none⟩ = some (.int .i64 0) := by rw [hW27]; exact set_far B11.out.2.2.2 (set_far B11.out.2.2.2 A1_.out)
                        have n69 : g6 ≠ g9 := by have := ZK.out; omega
                        replace F6r := Aside0.mk (show W27.cell? ⟨g6, 2, none⟩ = some (.int .i64 m) from by rw [hW27]; exact set_far n69 (set_far n69 F6r.out))
                        have k9 := blk_set (blk_set X9.out 0 (.slice none 0 0)) 1 (.int .i64 0)
                        rw [← hW27] at k9
                        have p2 := (blk_cell k9 0).trans (show _ = some (.slice none 0 0) from rfl)
                        have zw : W27.heap.size = w39.heap.size := by rw [hW27]; simp
                        rw [← zw] at B11
                        rw [← hW27]
                        clear hW27 k9 zw n69
                        have P0 := Aside0.mk p0
                        have P1 := Aside0.mk p1
                        have P2 := Aside0.mk p2
                        have HGW := Aside0.mk (show gt < W27.heap.size from (HTS.out.ot.lt gt rfl).2)
                        go_region_held3 (fun W => W.cell? ⟨gn, 0, none⟩ = some (.string ⟨#[]⟩) ∧ W.cell? ⟨gn, 1, none⟩ = some (.int .i64 0) ∧ W.cell? ⟨g9, 0, none⟩ = some (.slice none 0 0)) (first | exact ⟨p0, p1, p2⟩ | go_keep)
                          (first | ((refine TS.step_t (b := ⟨none, 0, [], 0⟩) HTS.out ?hB rfl (.tmp 182) (.tmp 184) rfl rfl rfl ?hy ?hn ?_); (case hB => first | exact below_drew (below_alloc (Below.refl _ _) _) | exact below_drew (below_alloc (below_alloc (Below.refl _ _) _) _)); (case hy => intro j u hu; first | exact lit1d _ _ _ j u hu | exact lit2o _ _ _ _ j u hu | exact lit2n _ _ _ _ j u hu); (case hn => have h1 := HLL.out; have h2 := HN.out; have h3 := HIL.out; omega); intro vt1 wm hh_; have p0 := hh_.cell (by have := B11.out; omega) (by have := B11.out; omega) p0; have p1 := hh_.cell (by have := B11.out; omega) (by have := B11.out; omega) p1; have p2 := hh_.cell (by have := B11.out; omega) (by have := B11.out; omega) p2; have HH := Aside0.mk hh_; clear hh_) | ((refine TS.step_b HTS.out HH.out ?hB rfl (.tmp 186) (.tmp 191) rfl rfl rfl ?hy BX.out ?hn ?_); (case hB => first | exact Below.refl _ _ | exact below_alloc (Below.refl _ _) _); (case hy => intro j u hu; first | exact lit1 _ _ _ j u hu | exact HH.out.lit (by simp <;> omega) (by have := HGW.out; simp; omega) (lit2o _ _ _ _ j u hu) | exact HH.out.lit (by simp <;> omega) (by have := HGW.out; simp; omega) (lit2n _ _ _ _ j u hu)); (case hn => have h1 := HLL.out; have h2 := HN.out; have h3 := HIL.out; omega); intro vb1 wn hz_ hk_; have HZ := Aside0.mk hz_; have F6n := Aside0.mk (hk_ g6 2 _ (by have := B11.out; omega) (by have := B11.out; omega) (by have := B11.out; omega) F6r.out); have p0 := hk_ gn 0 _ (by have := B11.out; omega) (by have := B11.out; omega) (by have := B11.out; omega) P0.out; have p1 := hk_ gn 1 _ (by have := B11.out; omega) (by have := B11.out; omega) (by have := B11.out; omega) P1.out; have p2 := hk_ g9 0 _ (by have := B11.out; omega) (by have := B11.out; omega) (by have := B11.out; omega) P2.out; clear hz_ hk_))
                        all_goals (go_wp2_with (fail); go_meet; (case rel => exact ⟨_, _, _, rfl, rfl, ⟨by simp⟩, HZ, F6n⟩))
                  · obtain ⟨q, rfl⟩ : ∃ q : Nat, m = (q : Int) := ⟨m.toNat, by omega⟩
                    as_aux_lemma =>
                      have hq : bk.at_ + q ≤ bk.p.length := by omega
                      have HQ := Aside0.mk hq
                      have y2 := ts_take_ok HOK.out hq
                      have Y2 := Aside0.mk y2
                      have M0 := Aside0.mk m0
                      have s2w := s2
                      clear y2 s0 s2 s3 hq
                      go_wp2_with (fail)
                      with_reducible refine (ts_take_mark HOK.out HQ.out wc).mono ?_
                      rintro e_ w20 ⟨gm, cm, rfl, hmk, hb⟩
                      have MK := Aside0.mk hmk
                      have GM := Aside0.mk (show wc.heap.size ≤ gm ∧ gm < w20.heap.size from ⟨hmk.lo, hmk.lt⟩)
                      obtain ⟨len, hlen⟩ : ∃ len, ((bk.p.take (bk.at_ + q)).drop bk.at_).length = len := ⟨_, rfl⟩
                      rw [hlen] at MK
                      rw [hlen]
                      have HLEN := Aside0.mk hlen
                      clear hmk hlen
                      have HB2 := Aside0.mk hb
                      clear hb t0 t1 s2w
                      go_upto_region 31 with (fail)
                      obtain ⟨W22, hW22⟩ : ∃ W, W = w20.alloc (.cells #[.string (strOfNums bk.p), .int .i64 ((bk.at_ : Int) + q)] 25) := ⟨_, rfl⟩
                      obtain ⟨gn, hgn⟩ : ∃ g, g = w20.heap.size := ⟨_, rfl⟩
                      have HNW := Aside0.mk (show W22.heap[gn]? = some (.cells #[.string (strOfNums bk.p), .int .i64 ((bk.at_ : Int) + q)] 25 (0, 0)) from by rw [hW22, hgn]; exact blk_new _ _)
                      have hb22 : Below w20.heap.size w20 W22 := by rw [hW22]; exact below_alloc (Below.refl _ _) _
                      have ZN := Aside0.mk (show wc.heap.size ≤ gn from by rw [hgn]; exact HB2.out.size)
                      replace HB2 := Aside0.mk (below_step HB2.out hb22)
                      rw [← hW22, ← hgn]
                      rw [← hgn] at GM
                      replace MK := Aside0.mk (MK.out.step (hb22.block gm (by have := GM.out; omega)))
                      clear hW22 hgn hb22
                      have k9 := (HB2.out.block g9 (blk_lt H9.out)).trans H9.out
                      have t2 := (blk_cell k9 0).trans (show _ = some (.slice bk.A bk.p.length bk.c) from rfl)
                      have t3 := (blk_cell k9 1).trans (show _ = some (.int .i64 bk.at_) from rfl)
                      have t4 := (blk_cell ((HB2.out.block g6 (blk_lt H6c.out)).trans H6c.out) 2).trans (show _ = some (.int .i64 (q : Int)) from rfl)
                      clear k9
                      go_wp2_with (fail)
                      with_reducible refine (churnref09_Take.calls _ bk.c bk.p bk.at_ (q : Int) ((bk.p.take (bk.at_ + q)).drop bk.at_) ((bk.at_ + q : Nat) : Int) 0 W22 (Kd.C_below HOK.out.reads (below_step HTS.out.below HB2.out)) HOK.out.cap Y2.out).mono ?_
                      rintro e_ W23 ⟨v0, rfl, h0, hb⟩
                      obtain ⟨Ar, cr, rfl⟩ := (RK.of h0).lit
                      have RR := Aside0.mk (RK.of h0)
                      replace HNW := Aside0.mk ((hb.block gn (blk_lt HNW.out)).trans HNW.out)
                      replace HB2 := Aside0.mk (below_step HB2.out hb)
                      replace MK := Aside0.mk (MK.out.step (hb.block gm MK.out.lt))
                      rw [HLEN.out] at RR
                      rw [HLEN.out]
                      clear h0 hb t2 t3 t4
                      go_wp2_with (fail)
                      with_reducible refine (Calls.mono (same09_calls MK.out.reads MK.out.cap (RK.reads RR.out) HLEN.out) ?_)
                      rintro e_ W24 ⟨rfl, hb⟩
                      replace HNW := Aside0.mk ((hb.block gn (blk_lt HNW.out)).trans HNW.out)
                      replace HB2 := Aside0.mk (below_step HB2.out hb)
                      replace MK := Aside0.mk (MK.out.step (hb.block gm MK.out.lt))
                      clear hb RR
                      go_wp2_with (fail)
                      go_loopg [166] len (fun gq_ v166 wq => ∃ (j : Nat) (l : List Int), v166 = .int .i64 j ∧ Aside0 (j ≤ len) ∧ Aside0 (len - j ≤ gq_) ∧ Aside0 (Mkd wq wc.heap.size gm len cm l) ∧ Aside0 (Below wc.heap.size wc wq) ∧ Aside0 (wq.heap[gn]? = W24.heap[gn]?))
                      case atStart => exact ⟨0, _, rfl, ⟨Nat.zero_le _⟩, ⟨by omega⟩, MK, HB2, ⟨rfl⟩⟩
                      case round =>
                        clear MK HB2
                        obtain ⟨j, l, rfl, HJ, HG2, MK, HB2, HKN⟩ := hrel
                        by_cases hj : j < len
                        · have c1 : decide ((j : Int) < (len : Int)) = true := decide_eq_true (by omega)
                          have c2 : (0 : Int) ≤ (j : Int) := Int.natCast_nonneg j
                          have c3 : (j : Int) < (len : Int) := by omega
                          have HJL := Aside0.mk hj
                          obtain ⟨hu, hz⟩ := MK.out.cell j hj
                          obtain ⟨y, hy⟩ : ∃ y, l.getD j 0 = y := ⟨_, rfl⟩
                          rw [hy] at hu
                          clear hj hy
                          go_wp2_with (fail)
                          go_roundg (len - (j + 1))
                          case measure => have := HG2.out; have := HJL.out; omega
                          case rel => exact ⟨j + 1, l.set j _, by have := HJL.out; have h1 := HQ.out; have h2 := HOK.out.big; have h3 := HLEN.out; simp only [List.length_drop, List.length_take] at h3; first | rfl | (rw [w64 (by omega) (by omega)]; rfl), ⟨by have := HJL.out; omega⟩, ⟨by omega⟩, ⟨MK.out.put j HJL.out _⟩, ⟨HB2.out.setCell MK.out.lo _⟩, ⟨(Below.heap_setCell wr ⟨gm, j, none⟩ _ gn (by have := GM.out; show gn ≠ gm; omega)).trans HKN.out⟩⟩
                        · have c1 : decide ((j : Int) < (len : Int)) = false := decide_eq_false (by omega)
                          obtain rfl : j = len := by have := HJ.out; omega
                          clear hj
                          replace HNW := Aside0.mk (HKN.out.trans HNW.out)
                          go_upto_region 40 with ((with_reducible refine gate_builtin (b := .append) (xs := #[.tmp 176, .tmp 177]) rfl ?_); at_builtin; go_loud (refine mark_app rfl (.tmp 176) (.tmp 177) 27 5 1 rfl Try.underlying27 info5 (by omega) (MK.out.step ((below_alloc (Below.refl wr.heap.size wr) _).block gm MK.out.lt)) [1, 2, 3] (some ⟨wr.heap.size, 0, none⟩) 3 3 rfl rfl (C_lit .u8 wr [1, 2, 3] 5 (by simp)) ?hl ?_; (case hl => have h1 := HQ.out; have h2 := HOK.out.big; have h3 := HLEN.out; simp only [List.length_drop, List.length_take] at h3; omega); intro A1 c1_ w39 hc_ hC_ hg_; have HB3 := Aside0.mk ((HB2.out.alloc HB2.out.size _).grown hg_ (HB2.out.alloc HB2.out.size _).size (fun k hk => by injection hk with hk; subst hk; exact MK.out.lo)); have HN3 := Aside0.mk ((hg_.block gn (Nat.lt_of_lt_of_le (blk_lt HNW.out) (World.grownBy_alloc wr _ none).size) (fun e => by injection e with e; have := GM.out; omega)).trans (((below_alloc (Below.refl wr.heap.size wr) _).block gn (blk_lt HNW.out)).trans HNW.out)); clear hc_ hC_ hg_))
                          replace HB2 := HB3
                          replace HNW := HN3
                          clear HB3 HN3 MK
                          have HLE := Aside0.mk (show bk.at_ + q ≤ bk.p.length from HQ.out)
                          have x9 := (HB2.out.block g9 (blk_lt H9.out)).trans H9.out
                          have x6 := (HB2.out.block g6 (blk_lt H6c.out)).trans H6c.out
                          have F6r := Aside0.mk ((blk_cell x6 2).trans (show _ = some (.int .i64 (q : Int)) from rfl))
                          have X9 := Aside0.mk x9
                          have X6L := Aside0.mk (blk_lt x6)
                          have X9L := Aside0.mk (blk_lt x9)
                          clear x6
                          have a0 := (blk_cell HNW.out 0).trans (show _ = some (.string (strOfNums bk.p)) from rfl)
                          have a1 := (blk_cell HNW.out 1).trans (show _ = some (.int .i64 ((bk.at_ : Int) + q)) from rfl)
                          have A0_ := Aside0.mk a0
                          have A1_ := Aside0.mk a1
                          have AN := Aside0.mk (blk_lt HNW.out)
                          have ZZ := Aside0.mk (show g6 < gn from Nat.lt_of_lt_of_le (blk_lt H6c.out) ZN.out)
                          have ZW9 := Aside0.mk (show w.heap.size ≤ g9 from by have h1 := (HTS.out.ot.lt gt rfl).1; have h2 := HGT.out; have h3 := ZK.out; omega)
                          clear a0 a1
                          have B11 := Aside0.mk (show (gn < w39.heap.size ∧ gn ≠ gt ∧ gn ≠ gb) ∧ (g9 < w39.heap.size ∧ g9 ≠ gt ∧ g9 ≠ gb) ∧ (g6 < w39.heap.size ∧ g6 ≠ gt ∧ g6 ≠ gb) ∧ gn ≠ g9 from by have h1 := HGT.out; have h2 := ZK.out; have h3 := ZZ.out; have h4 := AN.out; have h5 := X6L.out; have h6 := X9L.out; have h7 := ZN.out; have h8 := blk_lt H9.out; omega)
                          replace HTS := Aside0.mk (HTS.out.next HB2.out)
                          have BX := Aside0.mk (show BkOk w ⟨bk.A, bk.c, bk.p, bk.at_ + q⟩ from ⟨HOK.out.reads, HOK.out.cap, HLE.out, HOK.out.big, HOK.out.byt⟩)
                          clear HB2
                          clear x9
                          go_upto_region 42 with (fail)
                          have p2 := (blk_cell X9.out 0).trans (show _ = some (.slice bk.A bk.p.length bk.c) from rfl)
                          have p0 := A0_.out
                          have p1 := A1_.out
                          have P0 := Aside0.mk p0
                          have P1 := Aside0.mk p1
                          have P2 := Aside0.mk p2
                          have HGW := Aside0.mk (show gt < w39.heap.size from (HTS.out.ot.lt gt rfl).2)
                          go_region_held3 (fun W => W.cell? ⟨gn, 0, none⟩ = some (.string (strOfNums bk.p)) ∧ W.cell? ⟨gn, 1, none⟩ = some (.int .i64 ((bk.at_ : Int) + q)) ∧ W.cell? ⟨g9, 0, none⟩ = some (.slice bk.A bk.p.length bk.c)) (first | exact ⟨p0, p1, p2⟩ | go_keep)
                            (first | ((refine TS.step_t (b := ⟨bk.A, bk.c, bk.p, bk.at_ + q⟩) HTS.out ?hB rfl (.tmp 182) (.tmp 184) rfl rfl rfl ?hy ?hn ?_); (case hB => first | exact below_drew (below_alloc (Below.refl _ _) _) | exact below_drew (below_alloc (below_alloc (Below.refl _ _) _) _)); (case hy => intro j u hu; first | exact lit1d _ _ _ j u hu | exact lit2o _ _ _ _ j u hu | exact lit2n _ _ _ _ j u hu); (case hn => have h1 := HLL.out; have h2 := HN.out; have h3 := HIL.out; omega); intro vt1 wm hh_; have p0 := hh_.cell (by have := B11.out; omega) (by have := B11.out; omega) p0; have p1 := hh_.cell (by have := B11.out; omega) (by have := B11.out; omega) p1; have p2 := hh_.cell (by have := B11.out; omega) (by have := B11.out; omega) p2; have HH := Aside0.mk hh_; clear hh_) | ((refine TS.step_b HTS.out HH.out ?hB rfl (.tmp 186) (.tmp 191) rfl rfl rfl ?hy BX.out ?hn ?_); (case hB => first | exact Below.refl _ _ | exact below_alloc (Below.refl _ _) _); (case hy => intro j u hu; first | exact lit1 _ _ _ j u hu | exact HH.out.lit (by simp <;> omega) (by have := HGW.out; simp; omega) (lit2o _ _ _ _ j u hu) | exact HH.out.lit (by simp <;> omega) (by have := HGW.out; simp; omega) (lit2n _ _ _ _ j u hu)); (case hn => have h1 := HLL.out; have h2 := HN.out; have h3 := HIL.out; omega); intro vb1 wn hz_ hk_; have HZ := Aside0.mk hz_; have F6n := Aside0.mk (hk_ g6 2 _ (by have := B11.out; omega) (by have := B11.out; omega) (by have := B11.out; omega) F6r.out); have p0 := hk_ gn 0 _ (by have := B11.out; omega) (by have := B11.out; omega) (by have := B11.out; omega) P0.out; have p1 := hk_ gn 1 _ (by have := B11.out; omega) (by have := B11.out; omega) (by have := B11.out; omega) P1.out; have p2 := hk_ g9 0 _ (by have := B11.out; omega) (by have := B11.out; omega) (by have := B11.out; omega) P2.out; clear hz_ hk_))
                          all_goals (go_wp2_with (fail); go_meet; (case rel => exact ⟨_, _, _, rfl, rfl, ⟨by simp⟩, HZ, F6n⟩))
              · have z2 : (kd == 2) = false := by simp [k2]
                clear k0 k1 k2
                go_wp2_with (fail)
                go_meet
                case rel => exact ⟨_, _, L, rfl, rfl, ⟨by omega⟩, HTS, F6⟩
        case rest =>
          as_aux_lemma =>
            clear HTS s0 s2 s3 H8 H9 H6c F6 HCP HCP0 HGT HZK HOK
            obtain ⟨vt, vb, L2, rfl, rfl, HL2, HTS, F6⟩ := hcut
            obtain ⟨gt, ct, gb, cb, rfl, rfl⟩ := HTS.out.lit
            obtain ⟨wd, hwd⟩ : ∃ W, W = wc := ⟨_, rfl⟩
            subst hwd
            have HBD := Aside0.mk (Below.refl wd.heap.size wd)
            have G6L := Aside0.mk (World.block_lt_of_cell? wd ⟨g6, 2, none⟩ F6.out)
            go_wp2_with (fail)
            go_loopg [193] 3 (fun gq_ v193 wq => ∃ j : Nat, v193 = .int .i64 j ∧ Aside0 (j ≤ 3) ∧ Aside0 (3 - j ≤ gq_) ∧ Aside0 (Below wd.heap.size wd wq))
            case atStart => exact ⟨0, rfl, ⟨by omega⟩, ⟨by omega⟩, HBD⟩
            case round =>
              clear HBD
              obtain ⟨j, rfl, HJ, HG2, HBD⟩ := hrel
              by_cases hj : j < 3
              · have c1 : decide ((j : Int) < 3) = true := decide_eq_true (by omega)
                have HJL := Aside0.mk hj
                clear hj
                have s2 := (World.cell?_of_block (a := ⟨g6, 2, none⟩) (HBD.out.block g6 G6L.out)).trans F6.out
                obtain ⟨r2, hr2, hpl⟩ := place_nat (wrap64 (m + (j : Int))) L2.length HTS.out.pos (by have h1 := HL2.out; have h2 := HLL.out; have h3 := HN.out; have h4 := HIL.out; omega) (w64_range _)
                have HPL := Aside0.mk hpl
                have HR2 := Aside0.mk hr2
                clear hpl hr2
                go_wp2_with (fail)
                with_reducible refine (churnlaw09_place.calls _ (L2.length : Int) (r2 : Int) wr HPL.out).mono ?_
                rintro e_ W46 ⟨rfl, hd⟩
                replace HBD := Aside0.mk (below_step HBD.out hd.below)
                clear hd s2
                obtain ⟨b2, hb2⟩ : ∃ b, L2[r2]? = some b := ⟨_, List.getElem?_eq_getElem HR2.out⟩
                have HO2 := Aside0.mk (HTS.out.ok b2 (List.mem_of_getElem? hb2))
                have HBB := Aside0.mk hb2
                have r1 : (r2 : Int) < (L2.length : Int) := by have := HR2.out; omega
                have r0 : (0 : Int) ≤ (r2 : Int) := Int.natCast_nonneg r2
                have hw : wrap64 ((b2.p.length : Int) - (b2.at_ : Int)) = (b2.p.length : Int) - (b2.at_ : Int) := by have h1 := HO2.out.le; have h2 := HO2.out.big; exact w64 (by omega) (by omega)
                have hw2 : IntKind.i64.wrap ((b2.p.length : Int) - (b2.at_ : Int)) = (b2.p.length : Int) - (b2.at_ : Int) := (i64_w _).trans hw
                clear hb2
                go_upto_region 47 with (fail)
                obtain ⟨p0, p1, p2, p3⟩ := (HTS.out.next (below_drew HBD.out)).cells HBB.out
                replace HBD := Aside0.mk (below_drew HBD.out)
                go_region_held3 (fun W => W.cell? ⟨gt, r2 * 2, none⟩ = some (.string (strOfNums b2.p)) ∧ W.cell? ⟨gt, r2 * 2 + 1, none⟩ = some (.int .i64 b2.at_) ∧ W.cell? ⟨gb, r2 * 2, none⟩ = some (.slice b2.A b2.p.length b2.c) ∧ W.cell? ⟨gb, r2 * 2 + 1, none⟩ = some (.int .i64 b2.at_)) (first | exact ⟨p0, p1, p2, p3⟩ | go_keep)
                  (first
                    | ((go_at_call 15; go_loud (with_reducible refine (tape_Tape_Left.calls (strOfNums b2.p) b2.at_ _ _ (ts_left HO2.out)).mono ?_); rintro e_ wk ⟨rfl, hb⟩; (have HBD := Aside0.mk (below_step HBD.out hb)); obtain ⟨p0, p1, p2, p3⟩ := (HTS.out.next HBD.out).cells HBB.out; clear hb))
                    | ((go_at_call 16; go_loud (with_reducible refine (tape_Tape_Used.calls (strOfNums b2.p) b2.at_ b2.at_ _ rfl).mono ?_); rintro e_ wk ⟨rfl, hb⟩; (have HBD := Aside0.mk (below_step HBD.out hb)); obtain ⟨p0, p1, p2, p3⟩ := (HTS.out.next HBD.out).cells HBB.out; clear hb)))
                all_goals clear p0 p1 p2 p3 hw hw2 r0 r1
                all_goals go_wp2_with (fail)
                all_goals (go_roundg (3 - (j + 1)); (case measure => have := HG2.out; have := HJL.out; omega); (case rel => exact ⟨j + 1, by have := HJL.out; first | rfl | (rw [w64 (by omega) (by omega)]; rfl), ⟨by have := HJL.out; omega⟩, ⟨by omega⟩, HBD⟩))
              · have c1 : decide ((j : Int) < 3) = false := decide_eq_false (by omega)
                obtain rfl : j = 3 := by have := HJ.out; omega
                clear hj
                go_wp2_with (fail)
                go_roundg (S.length - (i + 1))
                case measure => have := HG.out; have := HIL.out; omega
                case rel => exact ⟨i + 1, _, _, L2, rfl, rfl, by have h3 := HN.out; have h4 := HIL.out; first | rfl | (rw [w64 (by omega) (by omega)]; rfl), ⟨by have := HIL.out; omega⟩, ⟨by omega⟩, ⟨by have h1 := HL2.out; have h2 := HLL.out; omega⟩, ⟨HTS.out.next HBD.out⟩⟩
    · have d1 : decide ((i : Int) < (S.length : Int)) = false := decide_eq_false (by omega)
      obtain rfl : i = S.length := by have := HI.out; omega
      clear hi
      as_aux_lemma =>
        obtain ⟨wd, hwd⟩ : ∃ W, W = wr := ⟨_, rfl⟩
        subst hwd
        have HBD := Aside0.mk (Below.refl wd.heap.size wd)
        go_wp2_with (fail)
        go_loopg [238] L.length (fun gq_ v238 wq => ∃ j : Nat, v238 = .int .i64 j ∧ Aside0 (j ≤ L.length) ∧ Aside0 (L.length - j ≤ gq_) ∧ Aside0 (Below wd.heap.size wd wq))
        case atStart => exact ⟨0, rfl, ⟨Nat.zero_le _⟩, ⟨by omega⟩, HBD⟩
        case round =>
          clear HBD
          obtain ⟨j, rfl, HJ, HG2, HBD⟩ := hrel
          by_cases hj : j < L.length
          · have c1 : decide ((j : Int) < (L.length : Int)) = true := decide_eq_true (by omega)
            have HJL := Aside0.mk hj
            have r1 : (j : Int) < (L.length : Int) := by omega
            have r0 : (0 : Int) ≤ (j : Int) := Int.natCast_nonneg j
            obtain ⟨b2, hb2⟩ : ∃ b, L[j]? = some b := ⟨_, List.getElem?_eq_getElem hj⟩
            have HO2 := Aside0.mk (HTS.out.ok b2 (List.mem_of_getElem? hb2))
            have HBB := Aside0.mk hb2
            obtain ⟨p0, p1, -, -⟩ := (HTS.out.next HBD.out).cells hb2
            clear hb2 hj
            go_upto_region 54 with (fail)
            obtain ⟨W53, hW53⟩ : ∃ W, W = wr.alloc (.cells #[.string (strOfNums b2.p), .int .i64 b2.at_] 25) := ⟨_, rfl⟩
            obtain ⟨g29, hg29⟩ : ∃ g, g = wr.heap.size := ⟨_, rfl⟩
            have H29 := Aside0.mk (show W53.heap[g29]? = some (.cells #[.string (strOfNums b2.p), .int .i64 b2.at_] 25 (0, 0)) from by rw [hW53, hg29]; exact blk_new _ _)
            have hb53 : Below wr.heap.size wr W53 := by rw [hW53]; exact below_alloc (Below.refl _ _) _
            replace HBD := Aside0.mk (below_step HBD.out hb53)
            rw [← hW53, ← hg29]
            clear hW53 hg29 hb53 p0 p1
            obtain ⟨q, hq⟩ : ∃ q, b2.p.length = b2.at_ + q := ⟨b2.p.length - b2.at_, by have := HO2.out.le; omega⟩
            have hq1 : (b2.p.length : Int) - (b2.at_ : Int) = (q : Int) := by omega
            have HQ := Aside0.mk (show b2.at_ + q ≤ b2.p.length from by omega)
            have HLQ := Aside0.mk hq
            have HLF := Aside0.mk (show tape_Tape_Left.f (strOfNums b2.p) b2.at_ = some (q : Int) from by rw [ts_left HO2.out, hq1])
            clear hq hq1
            go_cut [30, 32] from 243 to 250 (fun v30 v32 we => ∃ gm cm : Nat, v30 = .slice (some ⟨gm, 0, none⟩) q cm ∧ v32 = .int .i64 0 ∧ Aside0 (Kd.C (Kd.int .u8) we (some ⟨gm, 0, none⟩) q (b2.p.drop b2.at_)) ∧ Aside0 (q ≤ cm) ∧ Aside0 (Below W53.heap.size W53 we))
            case first =>
              have hd := H29.out
              have p0 : W53.cell? ⟨g29, 0, none⟩ = some (.string (strOfNums b2.p)) := (blk_cell hd 0).trans rfl
              have p1 : W53.cell? ⟨g29, 1, none⟩ = some (.int .i64 b2.at_) := (blk_cell hd 1).trans rfl
              clear hd
              have H0 := Aside0.mk (Below.refl W53.heap.size W53)
              go_region_held3 (fun W => W.cell? ⟨g29, 0, none⟩ = some (.string (strOfNums b2.p)) ∧ W.cell? ⟨g29, 1, none⟩ = some (.int .i64 b2.at_)) (first | exact ⟨p0, p1⟩ | exact ⟨set_far (Nat.ne_of_lt (Nat.lt_of_lt_of_le (blk_lt H29.out) HNB.out)) (set_far (Nat.ne_of_lt (Nat.lt_of_lt_of_le (blk_lt H29.out) HNB.out)) p0), set_far (Nat.ne_of_lt (Nat.lt_of_lt_of_le (blk_lt H29.out) HNB.out)) (set_far (Nat.ne_of_lt (Nat.lt_of_lt_of_le (blk_lt H29.out) HNB.out)) p1)⟩ | go_keep)
                (first
                  | ((go_at_call 15; go_loud (with_reducible refine (tape_Tape_Left.calls (strOfNums b2.p) b2.at_ _ _ HLF.out).mono ?_); rintro e_ wk ⟨rfl, hb⟩; (have HL1 := Aside0.mk (show Below W53.heap.size W53 wk from below_step (by first | exact Below.refl _ _ | exact below_drew (Below.refl _ _) | exact below_alloc (Below.refl _ _) _ | exact below_drew (below_alloc (Below.refl _ _) _)) hb)); (have p0 : wk.cell? ⟨g29, 0, none⟩ = some (.string (strOfNums b2.p)) := (blk_cell ((HL1.out.block g29 (blk_lt H29.out)).trans H29.out) 0).trans rfl); (have p1 : wk.cell? ⟨g29, 1, none⟩ = some (.int .i64 b2.at_) := (blk_cell ((HL1.out.block g29 (blk_lt H29.out)).trans H29.out) 1).trans rfl); (try (have HZ0 := Aside0.mk (new_keptd hb); have HNB := Aside0.mk (Nat.le_refl W53.heap.size); (try (have z0 := (blk_cell HZ0.out 0).trans (show _ = some (.string ⟨#[]⟩) from rfl); have z1 := (blk_cell HZ0.out 1).trans (show _ = some (.int .i64 0) from rfl); have y0 := blk_frozen HZ0.out 0; have y1 := blk_frozen HZ0.out 1)))); clear hb))
                  | ((go_at_call 13; go_loud (with_reducible refine (ts_take_mark HO2.out HQ.out _).mono ?_); rintro e_ wk ⟨gm, cm, rfl, hmk, hb⟩; (have hln : ((b2.p.take (b2.at_ + q)).drop b2.at_).length = q := (by have := HLQ.out; simp; omega)); (have hld : (b2.p.take (b2.at_ + q)).drop b2.at_ = b2.p.drop b2.at_ := (by rw [← HLQ.out, List.take_length])); (rw [hln] at hmk); (rw [hld] at hmk); (rw [hln]); (have HL2 := Aside0.mk (show Below W53.heap.size W53 wk from below_step (below_step HL1.out (by first | exact Below.refl _ _ | exact below_drew (Below.refl _ _) | exact below_alloc (Below.refl _ _) _ | exact below_drew (below_alloc (Below.refl _ _) _))) hb)); (have HMK := Aside0.mk hmk); (have p0 : wk.cell? ⟨g29, 0, none⟩ = some (.string (strOfNums b2.p)) := (blk_cell ((HL2.out.block g29 (blk_lt H29.out)).trans H29.out) 0).trans rfl); (have p1 : wk.cell? ⟨g29, 1, none⟩ = some (.int .i64 b2.at_) := (blk_cell ((HL2.out.block g29 (blk_lt H29.out)).trans H29.out) 1).trans rfl); (first | (have HNE := Aside0.mk (Nat.ne_of_lt (Nat.lt_of_lt_of_le (blk_lt HZ0.out) hmk.lo)); have HZ0 := Aside0.mk ((hb.block _ (blk_lt HZ0.out)).trans HZ0.out); (try (have z0 := (blk_cell HZ0.out 0).trans (show _ = some (.string ⟨#[]⟩) from rfl); have z1 := (blk_cell HZ0.out 1).trans (show _ = some (.int .i64 0) from rfl); have y0 := blk_frozen HZ0.out 0; have y1 := blk_frozen HZ0.out 1))) | (have HZ0 := Aside0.mk (new_kept hb); have HNE := Aside0.mk (Nat.ne_of_lt (Nat.lt_of_lt_of_le (new_lt _ _) hmk.lo)); have HNB := Aside0.mk HL1.out.size; (try (have z0 := (blk_cell HZ0.out 0).trans (show _ = some (.string ⟨#[]⟩) from rfl); have z1 := (blk_cell HZ0.out 1).trans (show _ = some (.int .i64 0) from rfl); have y0 := blk_frozen HZ0.out 0; have y1 := blk_frozen HZ0.out 1))) | skip); clear hb hmk hln hld)))
              all_goals (go_wp2_with (fail); go_meet; (case rel => exact ⟨_, _, rfl, rfl, ⟨by first | exact HMK.out.reads | exact Kd.C_below HMK.out.reads (below_alloc (Below.refl _ _) _) | exact (HMK.out.step ((Below.heap_setCell _ _ _ _ HNE.out.symm).trans (Below.heap_setCell _ _ _ _ HNE.out.symm))).reads⟩, ⟨HMK.out.cap⟩, ⟨by first | exact HL2.out | exact below_step HL2.out (below_alloc (Below.refl _ _) _) | exact (HL2.out.setCell HNB.out _).setCell HNB.out _⟩⟩))
            case rest =>
              obtain ⟨gm, cm, rfl, rfl, HMK, HCM, HBE⟩ := hcut
              replace HBD := Aside0.mk (below_step HBD.out HBE.out)
              clear HBE H29
              obtain ⟨i5, hi05, -, hsz5, -⟩ := info_parts info5
              have hbd : Below wd.heap.size wd wc.drew := below_drew HBD.out
              obtain ⟨-, -, p2, p3⟩ := (HTS.out.next hbd).cells HBB.out
              have a0 : (0 : Int) ≤ (b2.at_ : Int) := Int.natCast_nonneg _
              have a1 : (b2.at_ : Int) ≤ (b2.p.length : Int) := by have := HO2.out.le; omega
              have hq2 : b2.p.length - b2.at_ = q := by have := HLQ.out; omega
              have hcut2 := cut_from (P := Try.prog) 27 5 .i64 Try.underlying27 hi05 1 hsz5 b2.A b2.p.length b2.c (b2.at_ : Int) a0 a1
              simp only [Int.toNat_natCast] at hcut2
              obtain ⟨A2, hA2⟩ : ∃ A2, A2 = (if b2.c = b2.at_ then b2.A else b2.A.map (·.add (b2.at_ * 1))) := ⟨_, rfl⟩
              rw [← hA2, hq2] at hcut2
              have hrd : Kd.C (Kd.int .u8) wc.drew A2 (b2.p.drop b2.at_).length (b2.p.drop b2.at_) := by rw [hA2]; exact Kd.C_drop (k := Kd.int .u8) (Kd.C_below HO2.out.reads (below_step HTS.out.below hbd)) HO2.out.le HO2.out.cap
              have HRD := Aside0.mk hrd
              have HMK2 := Aside0.mk (Kd.C_below HMK.out (below_drew (Below.refl wc.heap.size wc)))
              have HLD := Aside0.mk (show (b2.p.drop b2.at_).length = q from by rw [List.length_drop]; exact hq2)
              have HCC := Aside0.mk (show (b2.p.drop b2.at_).length ≤ b2.c - b2.at_ from by have h1 := HO2.out.cap; have h2 := HLQ.out; rw [List.length_drop]; omega)
              replace HBD := Aside0.mk hbd
              clear hrd hA2 hbd hi05 hsz5
              go_wp2_with (fail)
              go_region_held3 (fun W => W.cell? ⟨gb, j * 2, none⟩ = some (.slice b2.A b2.p.length b2.c) ∧ W.cell? ⟨gb, j * 2 + 1, none⟩ = some (.int .i64 b2.at_)) (first | exact ⟨p2, p3⟩ | go_keep)
                (first | ((go_at_call 10; go_loud (refine Calls.mono (same09_calls HMK2.out HCM.out ⟨HRD.out, HCC.out⟩ HLD.out) ?_); rintro e_ wk ⟨rfl, hb⟩; (have HBD := Aside0.mk (below_step HBD.out hb)); obtain ⟨-, -, p2, p3⟩ := (HTS.out.next HBD.out).cells HBB.out; clear hb)))
              clear p2 p3 hcut2 hq2 a0 a1
              go_wp2_with (fail)
              go_roundg (L.length - (j + 1))
              case measure => have := HG2.out; have := HJL.out; omega
              case rel => exact ⟨j + 1, by have := HJL.out; have h1 := HLL.out; have h2 := HN.out; first | rfl | (rw [w64 (by omega) (by omega)]; rfl), ⟨by have := HJL.out; omega⟩, ⟨by omega⟩, HBD⟩
          · have c1 : decide ((j : Int) < (L.length : Int)) = false := decide_eq_false (by omega)
            obtain rfl : j = L.length := by have := HJ.out; omega
            clear hj
            go_wp2_with (fail)
            go_ret
            exact ⟨rfl, below_step HTS.out.below HBD.out⟩
end Go.Proofs.Ytangepklgeikkaa.Q
