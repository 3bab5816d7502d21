/- PermKeeps, walked: printed by pf/pkgen.py. -/
import Derived.Test.YtmbkgepfpfeahaaPkR
import Derived.Deep.RegionHeld3
import Derived.Test.YtmbkgepfpfeahaaQx6
import Derived.Test.YtmbkgepfpfeahaaQx13
import Derived.Test.YtmbkgepfpfeahaaQx22
import Derived.Test.YtmbkgepfpfeahaaQx17
import Derived.Test.YtmbkgepfpfeahaaQx11
import Derived.Test.YtmbkgepfpfeahaaQx2
import Derived.Test.YtmbkgepfpfeahaaQx1
import Derived.Test.YtmbkgepfpfeahaaQx3
set_option linter.unusedVariables false
set_option linter.unusedSimpArgs false
namespace Go.Proofs.Ytmbkgepfpfeahaa.Q
open Go.RowKit Go.Proofs.YtmbkgepfpfeahaaW.PrintWords Go.Proofs.YtmbkgepfpfeahaaW.PrintLast Go.Proofs.YtmbkgepfpfeahaaW.PrintMore Go.Proofs.Ytmbkgepfpfeahaa.Pl
theorem infoRow : (Try.prog.info? 22).map (fun i => (i.zero, i.size, i.bytes)) = some (some (.slice none 0 0), 1, 24) := by kernel_rfl
/-- The nine answers for two lists. -/
structure PkAns (k : Nat) (p q : List Int) (a b c d e f g u z : List Int) (ea eb ec ed ee ef eg : Int) : Prop where
  ha : perm_Compose.f k p q = some (a, ea)
  hb : perm_Inverse.f k p = some (b, eb)
  hc : perm_Apply_int.f k p q = some (c, ec)
  hd : perm_Draws.f k p = some (d, ed)
  he : perm_Rank.f k p = some (e, ee)
  hf : perm_Unrank.f k q = some (f, ef)
  hg : perm_From.f k ((q.length : Int) + 1) q = some (g, eg)
  hu : perm_Identity.f k ((p.length : Int) % 500) = some u
  hz : perm_Bounds.f k ((p.length : Int) % 500) = some z
  hw : churnlaw11_awake.f k = some true
  len : ∀ l, l ∈ [a, b, c, d, e, f, g, u, z] → l.length ≤ 1048577
def PkTold (p q : List Int) : Prop := (∃ k a b c d e f g u z ea eb ec ed ee ef eg, PkAns k p q a b c d e f g u z ea eb ec ed ee ef eg) ∧ ∀ l : List Int, l.length ≤ 1048577 → ∃ k, churnlaw11_same.f k l l = some true
theorem same11_calls {A0 : Option Addr} {n0 c0 : Nat} {l0 : List Int} {A1 : Option Addr} {n1 c1 : Nat} {w : World} (hr0 : Kd.C (Kd.int .i64) w A0 l0.length l0 ∧ l0.length ≤ c0) (hr1 : Kd.C (Kd.int .i64) w A1 l0.length l0 ∧ l0.length ≤ c1) (h : ∃ k, churnlaw11_same.f k l0 l0 = some true) (e0 : n0 = l0.length) (e1 : n1 = l0.length) :
    Calls Try.prog 15 #[.slice A0 n0 c0, .slice A1 n1 c1] w fun e w' => e = .returned (.bool true) ∧ Below w.heap.size w w' := by
  subst e0 e1
  obtain ⟨k, h⟩ := h
  refine (churnlaw11_same.calls k A0 c0 l0 A1 c1 l0 true w hr0.1 hr0.2 hr1.1 hr1.2 h).mono ?_
  rintro e w' ⟨rfl, ⟨q, rfl⟩⟩
  exact ⟨rfl, pw_below_drewN (Below.refl _ _) q⟩
/-- A list with two marks behind it. -/
theorem mk_reads {k : IntKind} {T lo hi : Nat} {W : World} {A : Option Addr} {n c : Nat} {xs : List Int} {m1 m2 : Int} (h : RK k T W lo hi (.slice A (n + 2) c) (xs ++ [m1, m2])) (hn : xs.length = n) :
    (Kd.C (Kd.int k) W A xs.length xs ∧ xs.length ≤ c) ∧ W.cell? ((A.getD ⟨0, 0, none⟩).add n) = some (.int k m1) ∧ W.cell? ((A.getD ⟨0, 0, none⟩).add (n + 1)) = some (.int k m2) := by
  obtain ⟨e, hc, hC⟩ := Kd.R_reads' h
  have hl : (xs ++ [m1, m2]).length = n + 2 := by simp [hn]
  obtain ⟨ad, rfl, h2⟩ := (Kd.reads_of_C (enc := Value.int k) (d := (0 : Int)) (h1 := fun _ => rfl) hC).2.2 (by omega)
  refine ⟨⟨?_, by omega⟩, ?_, ?_⟩
  · have := Kd.C_take (m := xs.length) hC (by simp)
    simpa using this
  · rw [Option.getD_some, h2 n (by omega)]
    simp [List.getD_eq_getElem?_getD, hn]
  · rw [Option.getD_some, h2 (n + 1) (by omega)]
    rw [List.getD_eq_getElem?_getD, List.getElem?_append_right (by omega)]
    simp [hn]
theorem mk_cells {k : IntKind} {T lo hi g : Nat} {W : World} {n c : Nat} {xs : List Int} {m1 m2 : Int} (h : RK k T W lo hi (.slice (some ⟨g, 0, none⟩) (n + 2) c) (xs ++ [m1, m2])) (hn : xs.length = n) :
    W.cell? ⟨g, n, none⟩ = some (.int k m1) ∧ W.cell? ⟨g, n + 1, none⟩ = some (.int k m2) := by
  obtain ⟨-, a, b⟩ := mk_reads h hn
  simp only [Option.getD_some, Addr.add_lit, Nat.zero_add] at a b
  exact ⟨a, b⟩
set_option maxHeartbeats 2000000 in
set_option maxRecDepth 100000 in
theorem pk_calls (A0 : Option Addr) (c0 : Nat) (l0 : List Int) (A1 : Option Addr) (c1 : Nat) (l1 : List Int) (w : World) (hr0 : Kd.C (Kd.int .i64) w A0 l0.length l0) (hc0 : l0.length ≤ c0) (hr1 : Kd.C (Kd.int .i64) w A1 l1.length l1) (hc1 : l1.length ≤ c1)
    (hT : PkTold l0 l1) (h0 : l0.length ≤ 1048576) (h1 : l1.length ≤ 1048576) :
    Calls Try.prog 9 #[.slice A0 l0.length c0, .slice A1 l1.length c1] w fun e w' => e = .returned (.bool true) ∧ Below w.heap.size w w' := by
  obtain ⟨⟨k, a, b, c, d, e, f, g, u, z, ea, eb, ec, ed, ee, ef, eg, hA⟩, hS⟩ := hT
  have H0 := Aside0.mk hr0
  have H1 := Aside0.mk hr1
  have G0 := Aside0.mk hc0
  have G1 := Aside0.mk hc1
  have HA := Aside0.mk hA
  have HS := Aside0.mk hS
  have L0 := Aside0.mk h0
  have L1 := Aside0.mk h1
  clear hr0 hr1 hc0 hc1 hA hS h0 h1
  go_enter Try.func9, Try.ntmps9
  go_wp2_with (fail)
  with_reducible refine (churnlaw11_awake.calls k true w HA.out.hw).mono ?_
  rintro e_ w1 ⟨rfl, hb1⟩
  have HB := Aside0.mk hb1
  have ZW1 := Aside0.mk hb1.size
  clear hb1
  go_wp2_with (first
    | ((with_reducible refine gate_dst (N := 44) rfl ?_); refine Kd.R_lit (Kd.int .i64) w1.heap.size 3 ?hg (N := 44) ?hd (xs := ([] : List Int)) (inner := []) (ok := fun _ => True) (okp := fun _ => True) ?hr ?hp (fun _ hk => hk) trivial (Below.refl _ _) (Nat.le_refl _) (by simp) ?_; (case hd => rfl); (case hg => rfl); (case hr => first | (go_simp; done) | (go_simp; rfl)); (case hp => exact (Reps.none _ _)); intro v44 w44 ho44 hb hg hn; have HB44 := Aside0.mk hb; have HO44 := Aside0.mk ho44; have HBS := Aside0.mk (below_step HB.out hb); clear hb hg hn ho44)
    | ((with_reducible refine gate_builtin (b := .append) (xs := #[.tmp 44, .tmp 45]) rfl ?_); at_builtin; go_loud (refine Kd.R_app_int (k := .i64) w1.heap.size rfl (.tmp 44) (.tmp 45) 22 3 8 rfl Try.underlying22 info3 (by omega) v44 [] l0 A0 l0.length c0 (fun _ => True) rfl rfl trivial HO44.out (Kd.C_below H0.out HBS.out) ?hbs ?hl ?_; (case hbs => exact HB44.out.size); (case hl => have h1 := L0.out; simp only [List.length_nil]; omega); intro v46 w46 hr hg hat; have HB46 := Aside0.mk (HB44.out.grown hg HB44.out.size (Kd.R_base HO44.out)); have HO46 := Aside0.mk hr; clear hr hg hat))
    | ((with_reducible refine gate_builtin (b := .append) (xs := #[.tmp 46, .tmp 47]) rfl ?_); at_builtin; go_loud (refine Kd.R_app_int (k := .i64) w1.heap.size rfl (.tmp 46) (.tmp 47) 22 3 8 rfl Try.underlying22 info3 (by omega) v46 ([] ++ l0) [-77, -78] (some ⟨w46.heap.size, 0, none⟩) 2 2 (fun _ => True) rfl rfl trivial (Kd.R_alloc HO46.out _) (C_lit .i64 w46 [-77, -78] 3 (by simp)) ?hbs ?hl ?_; (case hbs => exact (HB46.out.alloc HB46.out.size _).size); (case hl => have h1 := L0.out; simp; omega); intro v48 w48 hr hg hat; have HB48 := Aside0.mk ((HB46.out.alloc HB46.out.size _).grown hg (HB46.out.alloc HB46.out.size _).size (Kd.R_base HO46.out)); have hr : Kd.R (Kd.int .i64) 3 w48 w1.heap.size (fun _ => True) v48 (l0 ++ [-77, -78]) := hr; obtain ⟨Ap, cp, rfl, hc, -⟩ := Kd.R_reads hr; have hl : (l0 ++ [-77, -78]).length = l0.length + 2 := (by simp); rw [hl] at hr hc; try rw [hl]; have Rp := Aside0.mk (RK.of hr); have HCp := Aside0.mk hc; have HB := Aside0.mk (below_step HB.out HB48.out); have Zp := Aside0.mk HB48.out.size; clear hr hg hat hl hc; obtain ⟨i5, hi05, -, -, -⟩ := info_parts info3; have hcutp := cut_to (P := Try.prog) 22 3 .i64 Try.underlying22 hi05 Ap (l0.length + 2) cp (l0.length : Int) (by omega) (by omega) HCp.out; simp only [Int.toNat_natCast] at hcutp; clear hi05))
    | ((with_reducible refine gate_dst (N := 49) rfl ?_); refine Kd.R_lit (Kd.int .i64) w48.heap.size 3 ?hg (N := 49) ?hd (xs := ([] : List Int)) (inner := []) (ok := fun _ => True) (okp := fun _ => True) ?hr ?hp (fun _ hk => hk) trivial (Below.refl _ _) (Nat.le_refl _) (by simp) ?_; (case hd => rfl); (case hg => rfl); (case hr => first | (go_simp; done) | (go_simp; rfl)); (case hp => exact (Reps.none _ _)); intro v49 w49 ho49 hb hg hn; have HB49 := Aside0.mk hb; have HO49 := Aside0.mk ho49; have HBS := Aside0.mk (below_step HB.out hb); clear hb hg hn ho49)
    | ((with_reducible refine gate_builtin (b := .append) (xs := #[.tmp 49, .tmp 50]) rfl ?_); at_builtin; go_loud (refine Kd.R_app_int (k := .i64) w48.heap.size rfl (.tmp 49) (.tmp 50) 22 3 8 rfl Try.underlying22 info3 (by omega) v49 [] l1 A1 l1.length c1 (fun _ => True) rfl rfl trivial HO49.out (Kd.C_below H1.out HBS.out) ?hbs ?hl ?_; (case hbs => exact HB49.out.size); (case hl => have h1 := L1.out; simp only [List.length_nil]; omega); intro v51 w51 hr hg hat; have HB51 := Aside0.mk (HB49.out.grown hg HB49.out.size (Kd.R_base HO49.out)); have HO51 := Aside0.mk hr; clear hr hg hat))
    | ((with_reducible refine gate_builtin (b := .append) (xs := #[.tmp 51, .tmp 52]) rfl ?_); at_builtin; go_loud (refine Kd.R_app_int (k := .i64) w48.heap.size rfl (.tmp 51) (.tmp 52) 22 3 8 rfl Try.underlying22 info3 (by omega) v51 ([] ++ l1) [-79, -80] (some ⟨w51.heap.size, 0, none⟩) 2 2 (fun _ => True) rfl rfl trivial (Kd.R_alloc HO51.out _) (C_lit .i64 w51 [-79, -80] 3 (by simp)) ?hbs ?hl ?_; (case hbs => exact (HB51.out.alloc HB51.out.size _).size); (case hl => have h1 := L1.out; simp; omega); intro v53 w53 hr hg hat; have HB53 := Aside0.mk ((HB51.out.alloc HB51.out.size _).grown hg (HB51.out.alloc HB51.out.size _).size (Kd.R_base HO51.out)); have hr : Kd.R (Kd.int .i64) 3 w53 w48.heap.size (fun _ => True) v53 (l1 ++ [-79, -80]) := hr; obtain ⟨Aq, cq, rfl, hc, -⟩ := Kd.R_reads hr; have hl : (l1 ++ [-79, -80]).length = l1.length + 2 := (by simp); rw [hl] at hr hc; try rw [hl]; have Rq := Aside0.mk (RK.of hr); have HCq := Aside0.mk hc; have HB := Aside0.mk (below_step HB.out HB53.out); have Zq := Aside0.mk HB53.out.size; clear hr hg hat hl hc; obtain ⟨i5, hi05, -, -, -⟩ := info_parts info3; have hcutq := cut_to (P := Try.prog) 22 3 .i64 Try.underlying22 hi05 Aq (l1.length + 2) cq (l1.length : Int) (by omega) (by omega) HCq.out; simp only [Int.toNat_natCast] at hcutq; clear hi05)))
  have Rp := Aside0.mk (Rp.out.below HB53.out)
  have ZB := Aside0.mk HB.out
  clear HBS HO44 HO46 HO49 HO51 HB44 HB46 HB48 HB49 HB51 HB53 HCp HCq HB
  have r_p := Rp.out
  obtain ⟨gp, rfl⟩ := r_p.head (by omega)
  clear r_p
  have r_q := Rq.out
  obtain ⟨gq, rfl⟩ := r_q.head (by omega)
  clear r_q
  go_region
  go_wp2_with (fail)
  obtain ⟨W53, hW53⟩ : ∃ W, W = World.drew w53 := ⟨_, rfl⟩
  have hd : Below w53.heap.size w53 W53 := by rw [hW53]; exact below_drew (Below.refl _ _)
  have Rp := Aside0.mk (Rp.out.below hd)
  have Rq := Aside0.mk (Rq.out.below hd)
  have ZB := Aside0.mk (below_step ZB.out hd)
  have Z53 := Aside0.mk hd.size
  rw [← hW53]
  clear hW53 hd
  have HB := Aside0.mk (Below.refl W53.heap.size W53)
  go_loopg [9, 11] 2 (fun gq v9 v11 wq => ∃ (j : Nat) (v : Value) (ls : List Value), v = v9 ∧ v11 = .int .i64 j ∧ Aside0 (j ≤ 2) ∧ Aside0 (2 - j ≤ gq) ∧ Aside0 (PL 3 22 W53.heap.size wq v ls (List.replicate j [a, b, c, d, e, f, g, u, z]).flatten) ∧ Aside0 (ls.length = 9 * j) ∧ Aside0 (Below W53.heap.size W53 wq))
  case atStart => exact ⟨0, _, [], rfl, rfl, ⟨by omega⟩, ⟨by omega⟩, ⟨PL.start _ _ (Nat.le_refl _)⟩, ⟨rfl⟩, HB⟩
  case round =>
    clear HB
    obtain ⟨j, v, ls, rfl, rfl, HJ, HG, HP, HLS, HB⟩ := hrel
    by_cases hj : j < 2
    · have d1 : decide ((j : Int) < 2) = true := decide_eq_true (by omega)
      have HJL := Aside0.mk hj
      clear hj
      have R := Aside0.mk (Bag.nil wr)
      have WB := Aside0.mk (Below.refl wr.heap.size wr)
      go_wp2_with (fail)
      with_reducible refine (perm_Compose.calls k _ cp l0 _ cq l1 a ea wr (mk_reads (Rp.out.below HB.out) rfl).1.1 (mk_reads (Rp.out.below HB.out) rfl).1.2 (mk_reads (Rq.out.below HB.out) rfl).1.1 (mk_reads (Rq.out.below HB.out) rfl).1.2 HA.out.ha).mono ?_
      rintro e_ w54 ⟨v0, rfl, h0, hb⟩
      obtain ⟨Na, na, rfl⟩ := (RK.of h0).lit
      replace R := Aside0.mk ((R.out.next hb).add (RK.of h0))
      replace HB := Aside0.mk (below_step HB.out hb)
      replace WB := Aside0.mk (below_step WB.out hb)
      have Za := Aside0.mk hb.size
      clear h0 hb
      go_wp2_with (fail)
      with_reducible refine (perm_Inverse.calls k _ cp l0 b eb w54 (mk_reads (Rp.out.below HB.out) rfl).1.1 (mk_reads (Rp.out.below HB.out) rfl).1.2 HA.out.hb).mono ?_
      rintro e_ w55 ⟨v0, rfl, h0, hb⟩
      obtain ⟨Nb, nb, rfl⟩ := (RK.of h0).lit
      replace R := Aside0.mk ((R.out.next hb).add (RK.of h0))
      replace HB := Aside0.mk (below_step HB.out hb)
      replace WB := Aside0.mk (below_step WB.out hb)
      have Zb := Aside0.mk hb.size
      clear h0 hb
      go_wp2_with (fail)
      with_reducible refine (perm_Apply_int.calls k _ cp l0 _ cq l1 c ec w55 (mk_reads (Rp.out.below HB.out) rfl).1.1 (mk_reads (Rp.out.below HB.out) rfl).1.2 (mk_reads (Rq.out.below HB.out) rfl).1.1 (mk_reads (Rq.out.below HB.out) rfl).1.2 HA.out.hc).mono ?_
      rintro e_ w56 ⟨v0, rfl, h0, hb⟩
      obtain ⟨Nc, nc, rfl⟩ := (RK.of h0).lit
      replace R := Aside0.mk ((R.out.next hb).add (RK.of h0))
      replace HB := Aside0.mk (below_step HB.out hb)
      replace WB := Aside0.mk (below_step WB.out hb)
      have Zc := Aside0.mk hb.size
      clear h0 hb
      go_wp2_with (fail)
      with_reducible refine (perm_Draws.calls k _ cp l0 d ed w56 (mk_reads (Rp.out.below HB.out) rfl).1.1 (mk_reads (Rp.out.below HB.out) rfl).1.2 HA.out.hd).mono ?_
      rintro e_ w57 ⟨v0, rfl, h0, hb⟩
      obtain ⟨Nd, nd, rfl⟩ := (RK.of h0).lit
      replace R := Aside0.mk ((R.out.next hb).add (RK.of h0))
      replace HB := Aside0.mk (below_step HB.out hb)
      replace WB := Aside0.mk (below_step WB.out hb)
      have Zd := Aside0.mk hb.size
      clear h0 hb
      go_wp2_with (fail)
      with_reducible refine (perm_Rank.calls k _ cp l0 e ee w57 (mk_reads (Rp.out.below HB.out) rfl).1.1 (mk_reads (Rp.out.below HB.out) rfl).1.2 HA.out.he).mono ?_
      rintro e_ w58 ⟨v0, rfl, h0, hb⟩
      obtain ⟨Ne, ne, rfl⟩ := (RK.of h0).lit
      replace R := Aside0.mk ((R.out.next hb).add (RK.of h0))
      replace HB := Aside0.mk (below_step HB.out hb)
      replace WB := Aside0.mk (below_step WB.out hb)
      have Ze := Aside0.mk hb.size
      clear h0 hb
      go_wp2_with (fail)
      with_reducible refine (perm_Unrank.calls k _ cq l1 f ef w58 (mk_reads (Rq.out.below HB.out) rfl).1.1 (mk_reads (Rq.out.below HB.out) rfl).1.2 HA.out.hf).mono ?_
      rintro e_ w59 ⟨v0, rfl, h0, hb⟩
      obtain ⟨Nf, nf, rfl⟩ := (RK.of h0).lit
      replace R := Aside0.mk ((R.out.next hb).add (RK.of h0))
      replace HB := Aside0.mk (below_step HB.out hb)
      replace WB := Aside0.mk (below_step WB.out hb)
      have Zf := Aside0.mk hb.size
      clear h0 hb
      go_wp2_with (fail)
      have hl1 := L1.out
      have hl0 := L0.out
      rw [show wrap64 ((l1.length : Int) + 1) = (l1.length : Int) + 1 from w64 (by omega) (by omega)]
      clear hl0 hl1
      with_reducible refine (perm_From.calls k ((l1.length : Int) + 1) _ cq l1 g eg w59 (mk_reads (Rq.out.below HB.out) rfl).1.1 (mk_reads (Rq.out.below HB.out) rfl).1.2 HA.out.hg).mono ?_
      rintro e_ w60 ⟨v0, rfl, h0, hb⟩
      obtain ⟨Ng, ng, rfl⟩ := (RK.of h0).lit
      replace R := Aside0.mk ((R.out.next hb).add (RK.of h0))
      replace HB := Aside0.mk (below_step HB.out hb)
      replace WB := Aside0.mk (below_step WB.out hb)
      have Zg := Aside0.mk hb.size
      clear h0 hb
      go_wp2_with (fail)
      with_reducible refine (perm_Identity.calls k ((l0.length : Int) % 500) u w60  HA.out.hu).mono ?_
      rintro e_ w61 ⟨v0, rfl, h0, hb⟩
      obtain ⟨Nu, nu, rfl⟩ := (RK.of h0).lit
      replace R := Aside0.mk ((R.out.next hb).add (RK.of h0))
      replace HB := Aside0.mk (below_step HB.out hb)
      replace WB := Aside0.mk (below_step WB.out hb)
      have Zu := Aside0.mk hb.size
      clear h0 hb
      go_wp2_with (fail)
      with_reducible refine (perm_Bounds.calls k ((l0.length : Int) % 500) z w61  HA.out.hz).mono ?_
      rintro e_ w62 ⟨v0, rfl, h0, hb⟩
      obtain ⟨Nz, nz, rfl⟩ := (RK.of h0).lit
      replace R := Aside0.mk ((R.out.next hb).add (RK.of h0))
      replace HB := Aside0.mk (below_step HB.out hb)
      replace WB := Aside0.mk (below_step WB.out hb)
      have Zz := Aside0.mk hb.size
      clear h0 hb
      obtain ⟨Wl, hWl⟩ : ∃ W, W = w62.alloc (.cells #[.slice Na a.length na, .slice Nb b.length nb, .slice Nc c.length nc, .slice Nd d.length nd, .slice Ne e.length ne, .slice Nf f.length nf, .slice Ng g.length ng, .slice Nu u.length nu, .slice Nz z.length nz] 22) := ⟨_, rfl⟩
      have hbl : Below w62.heap.size w62 Wl := by rw [hWl]; exact below_alloc (Below.refl _ _) _
      have hcl : ∀ (j : Nat) (u_ : Value), ([.slice Na a.length na, .slice Nb b.length nb, .slice Nc c.length nc, .slice Nd d.length nd, .slice Ne e.length ne, .slice Nf f.length nf, .slice Ng g.length ng, .slice Nu u.length nu, .slice Nz z.length nz] : List Value)[j]? = some u_ → ∃ g_, (some (⟨w62.heap.size, 0, none⟩ : Addr)) = some ⟨g_, 0, none⟩ ∧ Wl.cell? ⟨g_, j, none⟩ = some u_ := by
        intro j u_ hu_
        rw [hWl]
        exact ⟨_, rfl, (blk_cell (blk_new w62 _) j).trans (by simpa using hu_)⟩
      have RL := Aside0.mk (R.out.next hbl)
      have HL9 := Aside0.mk (show Lists .i64 Wl wr.heap.size 3 (fun b => wr.heap.size ≤ b ∧ b < w62.heap.size) [.slice Na a.length na, .slice Nb b.length nb, .slice Nc c.length nc, .slice Nd d.length nd, .slice Ne e.length ne, .slice Nf f.length nf, .slice Ng g.length ng, .slice Nu u.length nu, .slice Nz z.length nz] [a, b, c, d, e, f, g, u, z] from by
        have z0 := Za.out; have z1 := Zb.out; have z2 := Zc.out; have z3 := Zd.out; have z4 := Ze.out; have z5 := Zf.out; have z6 := Zg.out; have z7 := Zu.out; have z8 := Zz.out
        have r_z := RL.out.at_ (List.Mem.head _); dsimp only at r_z
        have r_u := RL.out.at_ (List.Mem.tail _ (List.Mem.head _)); dsimp only at r_u
        have r_g := RL.out.at_ (List.Mem.tail _ (List.Mem.tail _ (List.Mem.head _))); dsimp only at r_g
        have r_f := RL.out.at_ (List.Mem.tail _ (List.Mem.tail _ (List.Mem.tail _ (List.Mem.head _)))); dsimp only at r_f
        have r_e := RL.out.at_ (List.Mem.tail _ (List.Mem.tail _ (List.Mem.tail _ (List.Mem.tail _ (List.Mem.head _))))); dsimp only at r_e
        have r_d := RL.out.at_ (List.Mem.tail _ (List.Mem.tail _ (List.Mem.tail _ (List.Mem.tail _ (List.Mem.tail _ (List.Mem.head _)))))); dsimp only at r_d
        have r_c := RL.out.at_ (List.Mem.tail _ (List.Mem.tail _ (List.Mem.tail _ (List.Mem.tail _ (List.Mem.tail _ (List.Mem.tail _ (List.Mem.head _))))))); dsimp only at r_c
        have r_b := RL.out.at_ (List.Mem.tail _ (List.Mem.tail _ (List.Mem.tail _ (List.Mem.tail _ (List.Mem.tail _ (List.Mem.tail _ (List.Mem.tail _ (List.Mem.head _)))))))); dsimp only at r_b
        have r_a := RL.out.at_ (List.Mem.tail _ (List.Mem.tail _ (List.Mem.tail _ (List.Mem.tail _ (List.Mem.tail _ (List.Mem.tail _ (List.Mem.tail _ (List.Mem.tail _ (List.Mem.head _))))))))); dsimp only at r_a
        exact ((((((((((Lists.nil .i64 Wl wr.heap.size 3 (fun b => w62.heap.size ≤ b ∧ b < w62.heap.size)).consK r_z (by omega) (by omega) (by omega) (by omega)).consK r_u (by omega) (by omega) (by omega) (by omega)).consK r_g (by omega) (by omega) (by omega) (by omega)).consK r_f (by omega) (by omega) (by omega) (by omega)).consK r_e (by omega) (by omega) (by omega) (by omega)).consK r_d (by omega) (by omega) (by omega) (by omega)).consK r_c (by omega) (by omega) (by omega) (by omega)).consK r_b (by omega) (by omega) (by omega) (by omega)).consK r_a (by omega) (by omega) (by omega) (by omega)))
      have WBL := Aside0.mk (below_step WB.out hbl)
      have HBL := Aside0.mk (below_step HB.out hbl)
      have HCL := Aside0.mk hcl
      have ZL := Aside0.mk hbl.size
      clear hcl hbl
      go_wp2_with ((with_reducible refine gate_builtin (b := .append) (xs := #[.tmp 106, .tmp 122]) rfl ?_); at_builtin; go_loud ((try rw [← hWl]); refine cells_app W53.heap.size rfl (.tmp 106) (.tmp 122) 43 22 (.slice none 0 0) 24 rfl Try.underlying43 infoRow rfl (by decide) v ls [.slice Na a.length na, .slice Nb b.length nb, .slice Nc c.length nc, .slice Nd d.length nd, .slice Ne e.length ne, .slice Nf f.length nf, .slice Ng g.length ng, .slice Nu u.length nu, .slice Nz z.length nz] (some ⟨w62.heap.size, 0, none⟩) 9 9 rfl rfl ?HO rfl ?hy ?h1 ?hbase ?hl ?_; (case HO => exact own_step HP.out.own (fun b hb => WBL.out.block b (HP.out.own.lt b hb).2)); (case hy => exact HCL.out); (case h1 => intro u_ hu_; simp only [List.mem_cons, List.not_mem_nil, or_false] at hu_; rcases hu_ with rfl | rfl | rfl | rfl | rfl | rfl | rfl | rfl | rfl <;> rfl); (case hbase => have := HBL.out.size; exact this); (case hl => have := HLS.out; have := HJL.out; omega); intro v1 wa ho hg_ hc_; have HPN := Aside0.mk (HP.out.app WBL.out HL9.out (by have := ZL.out; omega) rfl ho hg_ hc_); have HBN := Aside0.mk (HBL.out.grown hg_ HBL.out.size (fun b hb => (HP.out.own.lt b hb).1)); clear ho hg_ hc_))
      go_roundg (2 - (j + 1))
      case measure => have := HG.out; have := HJL.out; omega
      case rel => exact ⟨j + 1, _, _, rfl, by have := HJL.out; first | rfl | (rw [w64 (by omega) (by omega)]; rfl), ⟨by have := HJL.out; omega⟩, ⟨by omega⟩, ⟨by have h_ := HPN.out; rwa [show (List.replicate j [a, b, c, d, e, f, g, u, z]).flatten ++ [a, b, c, d, e, f, g, u, z] = (List.replicate (j + 1) [a, b, c, d, e, f, g, u, z]).flatten from by rw [List.replicate_succ']; simp] at h_⟩, ⟨by have := HLS.out; simp; omega⟩, HBN⟩
    · have d1 : decide ((j : Int) < 2) = false := decide_eq_false (by omega)
      obtain rfl : j = 2 := by have := HJ.out; omega
      clear hj
      obtain ⟨W2, hW2⟩ : ∃ W, W = wr := ⟨_, rfl⟩
      subst hW2
      obtain ⟨A9, c9, rfl⟩ := HP.out.lit
      replace HLS := Aside0.mk (show ls.length = 18 from HLS.out)
      rw [HLS.out] at HP
      replace HP := Aside0.mk (show PL 3 22 W53.heap.size W2 (.slice A9 18 c9) ls [a, b, c, d, e, f, g, u, z, a, b, c, d, e, f, g, u, z] from HP.out)
      rw [HLS.out]
      go_wp2_with (fail)
      have HB2 := Aside0.mk (Below.refl W2.heap.size W2)
      go_loopg [10, 26] 18 (fun gq v10 v26 wq => ∃ (i : Nat) (v : Value) (ws : List Value), v = v10 ∧ v26 = .int .i64 i ∧ Aside0 (i ≤ 18) ∧ Aside0 (18 - i ≤ gq) ∧ Aside0 (PL 3 22 W2.heap.size wq v ws (([a, b, c, d, e, f, g, u, z, a, b, c, d, e, f, g, u, z] : List (List Int)).take i)) ∧ Aside0 (ws.length = i) ∧ Aside0 (Below W2.heap.size W2 wq))
      case atStart => exact ⟨0, _, [], rfl, rfl, ⟨by omega⟩, ⟨by omega⟩, ⟨PL.start _ _ (Nat.le_refl _)⟩, ⟨rfl⟩, HB2⟩
      case round =>
        clear HB2
        obtain ⟨i, v, ws, rfl, rfl, HI, HG2, HQ, HWS, HB2⟩ := hrel
        by_cases hi : i < 18
        · have d1 : decide ((i : Int) < 18) = true := decide_eq_true (by omega)
          have d2 : (0 : Int) ≤ (i : Int) := Int.natCast_nonneg i
          have d3 : (i : Int) < 18 := by omega
          obtain ⟨g9, Ai, ci, x, rfl, hls, hcell, hx, hC, hci⟩ := HP.out.at_ (i := i) (by have := HLS.out; omega)
          have HXL := Aside0.mk (show x.length ≤ 1048577 from HA.out.len x (by rcases List.mem_append.1 (show x ∈ [a, b, c, d, e, f, g, u, z] ++ [a, b, c, d, e, f, g, u, z] from List.mem_of_getElem? hx) with h_ | h_ <;> exact h_))
          have HX := Aside0.mk hx
          have HIL := Aside0.mk hi
          have hcw := cell_kept (S := fun _ => False) hcell ⟨HB2.out.size, fun b hlt _ => HB2.out.block b hlt⟩ (fun h => h)
          have hcw2 := cell_kept (S := fun _ => False) hcw (W2 := wr.alloc (.cells #[] 3)) ⟨(World.grownBy_alloc wr (.cells #[] 3) none).size, fun b hlt _ => (World.grownBy_alloc wr (.cells #[] 3) none).block b hlt (by simp)⟩ (fun h => h)
          have HC := Aside0.mk (Kd.C_below hC HB2.out)
          have HWR := Aside0.mk (Below.refl wr.heap.size wr)
          clear hls hcell hx hC hi
          go_wp2_with (first
            | ((with_reducible refine gate_builtin (b := .append) (xs := #[.tmp 131, .tmp 135]) rfl ?_); at_builtin; trace_state; go_loud (refine Kd.R_app_int (k := .i64) wr.heap.size rfl (.tmp 131) (.tmp 135) 22 3 8 rfl Try.underlying22 info3 (by omega) (.slice (some ⟨wr.heap.size, 0, none⟩) 0 0) [] x Ai x.length ci (fun _ => True) rfl rfl trivial (R_none .i64 3 wr.heap.size wr (Nat.le_refl _)) (Kd.C_below HC.out (below_alloc (Below.refl _ _) _)) ?hbs ?hl ?_; (case hbs => exact (World.grownBy_alloc wr (.cells #[] 3) none).size); (case hl => have := HXL.out; simp only [List.length_nil]; omega); intro v1 wa hr_ hg_ hat_; (have hbk : Below wr.heap.size wr wa := Below.grown (below_alloc (Below.refl _ _) _) hg_ (World.grownBy_alloc wr (.cells #[] 3) none).size (fun k hk => Nat.le_of_eq (by simpa [Value.ownBlock] using hk))); (have hr_ : Kd.R (Kd.int .i64) 3 wa wr.heap.size (fun _ => True) v1 x := hr_); obtain ⟨Ak, ck, rfl, -⟩ := Kd.R_reads hr_; have HRK := Aside0.mk (RK.of hr_); have HWA := Aside0.mk hbk; obtain ⟨Wl, hWl⟩ : ∃ W, W = wa.alloc (.cells #[.slice Ak x.length ck] 22) := ⟨_, rfl⟩; have hbl : Below wa.heap.size wa Wl := (by rw [hWl]; exact below_alloc (Below.refl _ _) _); have HCL := Aside0.mk (show ∀ (j : Nat) (u_ : Value), ([.slice Ak x.length ck] : List Value)[j]? = some u_ → ∃ g_, (some (⟨wa.heap.size, 0, none⟩ : Addr)) = some ⟨g_, 0, none⟩ ∧ Wl.cell? ⟨g_, j, none⟩ = some u_ from fun j u_ hu_ => (by rw [hWl]; exact ⟨_, rfl, (blk_cell (blk_new wa _) j).trans (by simpa using hu_)⟩)); have HL1 := Aside0.mk (Lists.one (HRK.out.below hbl)); have HWL := Aside0.mk (below_step HWA.out hbl); have HBL := Aside0.mk (below_step HB2.out HWL.out); have HZL := Aside0.mk hbl.size; clear hr_ hg_ hat_ hbk hbl))
            | ((with_reducible refine gate_builtin (b := .append) (xs := #[.tmp 130, .tmp 137]) rfl ?_); at_builtin; go_loud ((try rw [← hWl]); refine cells_app W2.heap.size rfl (.tmp 130) (.tmp 137) 43 22 (.slice none 0 0) 24 rfl Try.underlying43 infoRow rfl (by decide) v ws [.slice Ak x.length ck] (some ⟨wa.heap.size, 0, none⟩) 1 1 rfl rfl ?HO rfl ?hy ?h1 ?hbase ?hl ?_; (case HO => exact own_step HQ.out.own (fun b hb => HWL.out.block b (HQ.out.own.lt b hb).2)); (case hy => exact HCL.out); (case h1 => intro u_ hu_; simp only [List.mem_cons, List.not_mem_nil, or_false] at hu_; rcases hu_ with rfl; rfl); (case hbase => have := HBL.out.size; exact this); (case hl => have := HWS.out; have := HIL.out; omega); intro v2 wb ho hg_ hc_; have HQN := Aside0.mk (HQ.out.app HWL.out HL1.out HZL.out rfl ho hg_ hc_); have HBN := Aside0.mk (HBL.out.grown hg_ HBL.out.size (fun b hb => (HQ.out.own.lt b hb).1)); clear ho hg_ hc_)))
          go_roundg (18 - (i + 1))
          case measure => have := HG2.out; have := HIL.out; omega
          case rel => exact ⟨i + 1, _, _, rfl, by have := HIL.out; first | rfl | (rw [w64 (by omega) (by omega)]; rfl), ⟨by have := HIL.out; omega⟩, ⟨by omega⟩, ⟨by have h_ := HQN.out; rw [List.take_add_one, HX.out]; exact h_⟩, ⟨by have := HWS.out; simp; omega⟩, HBN⟩
        · have d1 : decide ((i : Int) < 18) = false := decide_eq_false (by omega)
          obtain rfl : i = 18 := by have := HI.out; omega
          clear hi
          obtain ⟨W3, hW3⟩ : ∃ W, W = wr := ⟨_, rfl⟩
          subst hW3
          obtain ⟨B9, d9, rfl⟩ := HQ.out.lit
          replace HWS := Aside0.mk (show ws.length = 18 from HWS.out)
          rw [HWS.out] at HQ
          replace HQ := Aside0.mk (show PL 3 22 W2.heap.size W3 (.slice B9 18 d9) ws [a, b, c, d, e, f, g, u, z, a, b, c, d, e, f, g, u, z] from HQ.out)
          rw [HWS.out]
          have K := Aside0.mk (PK.made (below_step ZB.out HB.out) HB2.out (by have h1 := ZW1.out; have h2 := Zp.out; have h3 := Zq.out; have h4 := Z53.out; have h5 := HB.out.size; omega) (Rp.out.below HB.out) (Rq.out.below HB.out) Z53.out HP.out HQ.out)
          obtain ⟨gA, _, _, _, rfl, -⟩ := K.out.atA (i := 0) (by simp)
          obtain ⟨gB, _, _, _, rfl, -⟩ := K.out.atB (i := 0) (by simp)
          have HX18 := Aside0.mk (show ∀ (i : Nat) (x : List Int), ([a, b, c, d, e, f, g, u, z, a, b, c, d, e, f, g, u, z] : List (List Int))[i]? = some x → x.length ≤ 1048577 from fun i x hx => HA.out.len x (by rcases List.mem_append.1 (show x ∈ [a, b, c, d, e, f, g, u, z] ++ [a, b, c, d, e, f, g, u, z] from List.mem_of_getElem? hx) with h_ | h_ <;> exact h_))
          have HX9 := Aside0.mk (show ∀ i : Nat, i < 9 → ([a, b, c, d, e, f, g, u, z, a, b, c, d, e, f, g, u, z] : List (List Int))[i + 9]? = ([a, b, c, d, e, f, g, u, z, a, b, c, d, e, f, g, u, z] : List (List Int))[i]? from fun i hi => by
            show ([a, b, c, d, e, f, g, u, z] ++ [a, b, c, d, e, f, g, u, z])[i + 9]? = ([a, b, c, d, e, f, g, u, z] ++ [a, b, c, d, e, f, g, u, z])[i]?
            rw [List.getElem?_append_right (by simp), List.getElem?_append_left (by simpa using hi)]
            simp)
          clear HP HQ HB HB2 HI HG2 HG HJ Rp Rq
          go_wp2_with (fail)
          go_loopg [27] 9 (fun gq_ v27 wq => ∃ (i : Nat), v27 = .int .i64 i ∧ Aside0 (i ≤ 9) ∧ Aside0 (9 - i ≤ gq_) ∧ Aside0 (PK 3 w wq w1.heap.size w48.heap.size W53.heap.size W2.heap.size W3.heap.size (.slice (some ⟨gp, 0, none⟩) (l0.length + 2) cp) (.slice (some ⟨gq, 0, none⟩) (l1.length + 2) cq) l0 l1 (some ⟨gA, 0, none⟩) (some ⟨gB, 0, none⟩) ls ws [a, b, c, d, e, f, g, u, z, a, b, c, d, e, f, g, u, z] [a, b, c, d, e, f, g, u, z, a, b, c, d, e, f, g, u, z]))
          case atStart => exact ⟨0, rfl, ⟨by omega⟩, ⟨by omega⟩, K⟩
          case round =>
            clear K
            obtain ⟨i, rfl, HI, HG, K⟩ := hrel
            by_cases hi : i < 9
            · have d1 : decide ((i : Int) < 9) = true := decide_eq_true (by omega)
              have d2 : (0 : Int) ≤ (i : Int) := Int.natCast_nonneg i
              have d3 : (i : Int) < 18 := by omega
              obtain ⟨i9, hi9⟩ : ∃ i9, i9 = i + 9 := ⟨_, rfl⟩
              have d4 : (0 : Int) ≤ (i9 : Int) := Int.natCast_nonneg i9
              have d5 : (i9 : Int) < 18 := by omega
              have d6 : wrap64 ((i : Int) + 9) = (i9 : Int) := by rw [w64 (by omega) (by omega)]; omega
              have d7 : IntKind.i64.wrap ((i : Int) + 9) = (i9 : Int) := (i64_w _).trans d6
              go_wp2_with (fail)
              replace K := Aside0.mk (K.out.next (below_drew (Below.refl _ _)))
              obtain ⟨A_, c_, x, -, p0, hx, hC, hc⟩ := K.out.inB (i := i) (by simp; omega)
              obtain ⟨A'_, c'_, x', -, p1, hx', hC', hc'⟩ := K.out.inB (i := i9) (by simp; omega)
              obtain rfl : x = x' := by rw [hi9, HX9.out i hi, hx] at hx'; injection hx'
              have HC := Aside0.mk (And.intro hC hc)
              have HC' := Aside0.mk (And.intro hC' hc')
              have HSX := Aside0.mk (HS.out x (HX18.out i x hx))
              have HIL := Aside0.mk hi
              clear hx hx' hC hC' hc hc' hi hi9
              go_region_held3 (fun W => W.cell? ⟨gB, i, none⟩ = some (.slice A_ x.length c_) ∧ W.cell? ⟨gB, i9, none⟩ = some (.slice A'_ x.length c'_)) (first | exact ⟨p0, p1⟩ | go_keep)
                (first
                  | ((go_at_call 15; go_loud (with_reducible refine (same11_calls HC.out HC'.out HSX.out rfl rfl).mono ?_); rintro e_ wk ⟨rfl, hb⟩; (have K := Aside0.mk (K.out.next hb)); (have p0 := cell_kept (S := fun _ => False) p0 ⟨hb.size, fun b hlt _ => hb.block b hlt⟩ (fun h => h)); (have p1 := cell_kept (S := fun _ => False) p1 ⟨hb.size, fun b hlt _ => hb.block b hlt⟩ (fun h => h)); clear hb)))
              clear p0 p1
              go_wp2_with (fail)
              go_roundg (9 - (i + 1))
              case measure => have := HG.out; have := HIL.out; omega
              case rel => exact ⟨i + 1, by have := HIL.out; first | rfl | (rw [w64 (by omega) (by omega)]; rfl), ⟨by have := HIL.out; omega⟩, ⟨by omega⟩, K⟩
            · have d1 : decide ((i : Int) < 9) = false := decide_eq_false (by omega)
              obtain rfl : i = 9 := by have := HI.out; omega
              clear hi HG HI
              go_wp2_with (fail)
              with_reducible refine (same11_calls (l0 := l0) (mk_reads K.out.rp rfl).1 ⟨Kd.C_below H0.out K.out.below, G0.out⟩ (HS.out l0 (by have := L0.out; have := L1.out; omega)) rfl rfl).mono ?_
              rintro e_ w70 ⟨rfl, hb⟩
              replace K := Aside0.mk (K.out.next hb)
              clear hb
              go_wp2_with (fail)
              with_reducible refine (same11_calls (l0 := l1) (mk_reads K.out.rq rfl).1 ⟨Kd.C_below H1.out K.out.below, G1.out⟩ (HS.out l1 (by have := L0.out; have := L1.out; omega)) rfl rfl).mono ?_
              rintro e_ w71 ⟨rfl, hb⟩
              replace K := Aside0.mk (K.out.next hb)
              clear hb
              have n0 : (l0.length : Int) ≤ 1048576 := by have := L0.out; omega
              have n1 : (l1.length : Int) ≤ 1048576 := by have := L1.out; omega
              obtain ⟨mp1, mp2⟩ := mk_cells K.out.rp rfl
              obtain ⟨mq1, mq2⟩ := mk_cells K.out.rq rfl
              go_wp2_with (fail)
              clear mp1 mp2 mq1 mq2
              go_loopg [28] l0.length (fun gq_ v28 wq => ∃ (j : Nat) (yp : List Int), v28 = .int .i64 j ∧ Aside0 (j ≤ l0.length) ∧ Aside0 (l0.length - j ≤ gq_) ∧ Aside0 (yp.length = l0.length) ∧ Aside0 (PK 3 w wq w1.heap.size w48.heap.size W53.heap.size W2.heap.size W3.heap.size (.slice (some ⟨gp, 0, none⟩) (l0.length + 2) cp) (.slice (some ⟨gq, 0, none⟩) (l1.length + 2) cq) yp l1 (some ⟨gA, 0, none⟩) (some ⟨gB, 0, none⟩) ls ws [a, b, c, d, e, f, g, u, z, a, b, c, d, e, f, g, u, z] [a, b, c, d, e, f, g, u, z, a, b, c, d, e, f, g, u, z]))
              case atStart => exact ⟨0, l0, rfl, ⟨Nat.zero_le _⟩, ⟨by omega⟩, ⟨rfl⟩, K⟩
              case round =>
                clear K
                obtain ⟨j, yp, rfl, HJ, HG, Hyp, K⟩ := hrel
                by_cases hj : j < l0.length
                · have d1 : decide ((j : Int) < (l0.length : Int)) = true := decide_eq_true (by omega)
                  have d2 : (0 : Int) ≤ (j : Int) := Int.natCast_nonneg j
                  have d3 : (j : Int) < (l0.length : Int) := by omega
                  obtain ⟨-, -, hlo, hhi, hu, hz⟩ := K.out.rp.putm Hyp.out j hj 0
                  obtain ⟨t_, ht_⟩ : ∃ t_, yp.getD j 0 = t_ := ⟨_, rfl⟩
                  rw [ht_] at hu
                  have HJL := Aside0.mk hj
                  clear hj hlo hhi ht_
                  go_wp2_with (fail)
                  go_roundg (l0.length - (j + 1))
                  case measure => have := HG.out; have := HJL.out; omega
                  case rel => exact ⟨j + 1, yp.set j _, by first | rfl | (rw [w64 (by omega) (by omega)]; rfl), ⟨by have := HJL.out; omega⟩, ⟨by omega⟩, ⟨by rw [List.length_set]; exact Hyp.out⟩, ⟨K.out.putp Hyp.out j HJL.out _⟩⟩
                · have d1 : decide ((j : Int) < (l0.length : Int)) = false := decide_eq_false (by omega)
                  obtain rfl : j = l0.length := by have := HJ.out; omega
                  have d5 : decide ((l0.length : Int) < (l0.length : Int)) = false := decide_eq_false (by omega)
                  clear hj
                  go_wp2_with (fail)
                  go_loopg [29] l1.length (fun gq_ v29 wq => ∃ (j : Nat) (yq : List Int), v29 = .int .i64 j ∧ Aside0 (j ≤ l1.length) ∧ Aside0 (l1.length - j ≤ gq_) ∧ Aside0 (yq.length = l1.length) ∧ Aside0 (PK 3 w wq w1.heap.size w48.heap.size W53.heap.size W2.heap.size W3.heap.size (.slice (some ⟨gp, 0, none⟩) (l0.length + 2) cp) (.slice (some ⟨gq, 0, none⟩) (l1.length + 2) cq) yp yq (some ⟨gA, 0, none⟩) (some ⟨gB, 0, none⟩) ls ws [a, b, c, d, e, f, g, u, z, a, b, c, d, e, f, g, u, z] [a, b, c, d, e, f, g, u, z, a, b, c, d, e, f, g, u, z]))
                  case atStart => exact ⟨0, l1, rfl, ⟨Nat.zero_le _⟩, ⟨by omega⟩, ⟨rfl⟩, K⟩
                  case round =>
                    clear K
                    obtain ⟨j, yq, rfl, HJ, HG, Hyq, K⟩ := hrel
                    by_cases hj : j < l1.length
                    · have d1 : decide ((j : Int) < (l1.length : Int)) = true := decide_eq_true (by omega)
                      have d2 : (0 : Int) ≤ (j : Int) := Int.natCast_nonneg j
                      have d3 : (j : Int) < (l1.length : Int) := by omega
                      obtain ⟨-, -, hlo, hhi, hu, hz⟩ := K.out.rq.putm Hyq.out j hj 0
                      obtain ⟨t_, ht_⟩ : ∃ t_, yq.getD j 0 = t_ := ⟨_, rfl⟩
                      rw [ht_] at hu
                      have HJL := Aside0.mk hj
                      clear hj hlo hhi ht_
                      go_wp2_with (fail)
                      go_roundg (l1.length - (j + 1))
                      case measure => have := HG.out; have := HJL.out; omega
                      case rel => exact ⟨j + 1, yq.set j _, by first | rfl | (rw [w64 (by omega) (by omega)]; rfl), ⟨by have := HJL.out; omega⟩, ⟨by omega⟩, ⟨by rw [List.length_set]; exact Hyq.out⟩, ⟨K.out.putq Hyq.out j HJL.out _⟩⟩
                    · have d1 : decide ((j : Int) < (l1.length : Int)) = false := decide_eq_false (by omega)
                      obtain rfl : j = l1.length := by have := HJ.out; omega
                      have d5 : decide ((l1.length : Int) < (l1.length : Int)) = false := decide_eq_false (by omega)
                      clear hj
                      go_wp2_with (fail)
                      go_loopg [30] 18 (fun gq_ v30 wq => ∃ (i : Nat), v30 = .int .i64 i ∧ Aside0 (i ≤ 18) ∧ Aside0 (18 - i ≤ gq_) ∧ Aside0 (PK 3 w wq w1.heap.size w48.heap.size W53.heap.size W2.heap.size W3.heap.size (.slice (some ⟨gp, 0, none⟩) (l0.length + 2) cp) (.slice (some ⟨gq, 0, none⟩) (l1.length + 2) cq) yp yq (some ⟨gA, 0, none⟩) (some ⟨gB, 0, none⟩) ls ws [a, b, c, d, e, f, g, u, z, a, b, c, d, e, f, g, u, z] [a, b, c, d, e, f, g, u, z, a, b, c, d, e, f, g, u, z]))
                      case atStart => exact ⟨0, rfl, ⟨by omega⟩, ⟨by omega⟩, K⟩
                      case round =>
                        clear K
                        obtain ⟨i, rfl, HI, HG, K⟩ := hrel
                        by_cases hi : i < 18
                        · have d1 : decide ((i : Int) < 18) = true := decide_eq_true (by omega)
                          have d2 : (0 : Int) ≤ (i : Int) := Int.natCast_nonneg i
                          have d3 : (i : Int) < 18 := by omega
                          go_wp2_with (fail)
                          replace K := Aside0.mk (K.out.next (below_drew (Below.refl _ _)))
                          obtain ⟨A_, c_, x, -, p0, hx, hC, hc⟩ := K.out.inA (i := i) (by simp; omega)
                          obtain ⟨A'_, c'_, x', -, p1, hx', hC', hc'⟩ := K.out.inB (i := i) (by simp; omega)
                          obtain rfl : x = x' := by rw [hx] at hx'; injection hx'
                          have HC := Aside0.mk (And.intro hC hc)
                          have HC' := Aside0.mk (And.intro hC' hc')
                          have HSX := Aside0.mk (HS.out x (HX18.out i x hx))
                          have HIL := Aside0.mk hi
                          clear hx hx' hC hC' hc hc' hi
                          go_region_held3 (fun W => W.cell? ⟨gA, i, none⟩ = some (.slice A_ x.length c_) ∧ W.cell? ⟨gB, i, none⟩ = some (.slice A'_ x.length c'_)) (first | exact ⟨p0, p1⟩ | go_keep)
                            (first
                              | ((go_at_call 15; go_loud (with_reducible refine (same11_calls HC.out HC'.out HSX.out rfl rfl).mono ?_); rintro e_ wk ⟨rfl, hb⟩; (have K := Aside0.mk (K.out.next hb)); (have p0 := cell_kept (S := fun _ => False) p0 ⟨hb.size, fun b hlt _ => hb.block b hlt⟩ (fun h => h)); (have p1 := cell_kept (S := fun _ => False) p1 ⟨hb.size, fun b hlt _ => hb.block b hlt⟩ (fun h => h)); clear hb)))
                          clear p0 p1
                          go_wp2_with (fail)
                          go_roundg (18 - (i + 1))
                          case measure => have := HG.out; have := HIL.out; omega
                          case rel => exact ⟨i + 1, by have := HIL.out; first | rfl | (rw [w64 (by omega) (by omega)]; rfl), ⟨by have := HIL.out; omega⟩, ⟨by omega⟩, K⟩
                        · have d1 : decide ((i : Int) < 18) = false := decide_eq_false (by omega)
                          obtain rfl : i = 18 := by have := HI.out; omega
                          clear hi HG HI HX9
                          have HX0 := Aside0.mk (show ([a, b, c, d, e, f, g, u, z, a, b, c, d, e, f, g, u, z] : List (List Int))[0]? = some a from rfl)
                          have HX4 := Aside0.mk (show ([a, b, c, d, e, f, g, u, z, a, b, c, d, e, f, g, u, z] : List (List Int))[4]? = some e from rfl)
                          have HXN := Aside0.mk (show ([a, b, c, d, e, f, g, u, z, a, b, c, d, e, f, g, u, z] : List (List Int)).length = 18 from rfl)
                          obtain ⟨XS, hXS⟩ : ∃ XS : List (List Int), XS = [a, b, c, d, e, f, g, u, z, a, b, c, d, e, f, g, u, z] := ⟨_, rfl⟩
                          rw [← hXS] at K HX18 HX0 HX4 HXN
                          clear hXS
                          go_wp2_with (fail)
                          obtain ⟨W4, hW4⟩ : ∃ W, W = wr := ⟨_, rfl⟩
                          subst hW4
                          have HLL := Aside0.mk (show ls.length = XS.length from K.out.ll.len)
                          have I := Aside0.mk (K.out.toAp (fun i : Nat => -100 - (i : Int)))
                          go_loopg [31] 18 (fun gq_ v31 wq => ∃ (i : Nat) (ys : List (List Int)), v31 = .int .i64 i ∧ Aside0 (i ≤ 18) ∧ Aside0 (18 - i ≤ gq_) ∧ Aside0 (Ap1 .i64 W4 wq W53.heap.size 3 (fun b => (W53.heap.size ≤ b ∧ b < W2.heap.size) ∧ (some (⟨gA, 0, none⟩ : Addr)).map (·.block) ≠ some b) (some ⟨gA, 0, none⟩) ls XS ys (fun i : Nat => -100 - (i : Int)) i 0))
                          case atStart => exact ⟨0, XS, rfl, ⟨by omega⟩, ⟨by omega⟩, I⟩
                          case round =>
                            clear I
                            obtain ⟨i, ys, rfl, HI, HG, I⟩ := hrel
                            by_cases hi : i < 18
                            · have d1 : decide ((i : Int) < 18) = true := decide_eq_true (by omega)
                              have d2 : (0 : Int) ≤ (i : Int) := Int.natCast_nonneg i
                              have d3 : (i : Int) < 18 := by omega
                              have hw1 : wrap64 (-100 - (i : Int)) = -100 - (i : Int) := w64 (by omega) (by omega)
                              have hw2 : IntKind.i64.wrap (-100 - (i : Int)) = -100 - (i : Int) := (i64_w _).trans hw1
                              obtain ⟨g_, Ai, ci, eA, hls, hcell, hhead, hrow⟩ := I.out.at_ (by have := HXN.out; omega) HLL.out
                              injection eA with eA
                              injection eA with eA
                              subst eA
                              obtain ⟨len, hlen⟩ : ∃ len, (XS.getD i []).length = len := ⟨_, rfl⟩
                              rw [hlen] at hls hcell hhead hrow
                              have hlb : len ≤ 1048577 := by rw [← hlen, List.getD_eq_getElem?_getD]; cases e_ : XS[i]? with | none => simp | some x => exact HX18.out i x e_
                              have HLB := Aside0.mk hlb
                              have HLS := Aside0.mk hls
                              have HHD := Aside0.mk hhead
                              have HLEN := Aside0.mk hlen
                              have HIL := Aside0.mk hi
                              clear hlb hrow hls hhead hlen hi
                              go_wp2_with (fail)
                              have I0 := I
                              clear I
                              go_loopg [32] len (fun gq_ v32 wq => ∃ (t : Nat) (ys : List (List Int)), v32 = .int .i64 t ∧ Aside0 (t ≤ len) ∧ Aside0 (len - t ≤ gq_) ∧ Aside0 (Ap1 .i64 W4 wq W53.heap.size 3 (fun b => (W53.heap.size ≤ b ∧ b < W2.heap.size) ∧ (some (⟨gA, 0, none⟩ : Addr)).map (·.block) ≠ some b) (some ⟨gA, 0, none⟩) ls XS ys (fun i : Nat => -100 - (i : Int)) i t))
                              case atStart => exact ⟨0, ys, rfl, ⟨Nat.zero_le _⟩, ⟨by omega⟩, I0⟩
                              case round =>
                                clear I0 hcell
                                obtain ⟨t, ys', rfl, HT, HG2, I⟩ := hrel
                                obtain ⟨g_, Ai', ci', eA, e2, hcell, -, hrow⟩ := I.out.at_ (by have := HXN.out; have := HIL.out; omega) HLL.out
                                injection eA with eA
                                injection eA with eA
                                subst eA
                                rw [HLS.out, HLEN.out] at e2
                                injection e2 with e2
                                injection e2 with e2 e3 e4
                                subst e2 e4
                                rw [HLEN.out] at hcell hrow
                                by_cases htl : t < len
                                · have c1 : decide ((t : Int) < (len : Int)) = true := decide_eq_true (by omega)
                                  have c2 : (0 : Int) ≤ (t : Int) := Int.natCast_nonneg t
                                  have c3 : (t : Int) < (len : Int) := by omega
                                  obtain ⟨gi, rfl⟩ := HHD.out (by omega)
                                  obtain ⟨⟨u_, hu⟩, hz⟩ := hrow gi rfl t htl
                                  have HTL := Aside0.mk htl
                                  clear hrow htl
                                  go_wp2_with (fail)
                                  go_roundg (len - (t + 1))
                                  case measure => have := HG2.out; have := HTL.out; omega
                                  case rel => exact ⟨t + 1, _, by have := HTL.out; have := HLB.out; first | rfl | (rw [w64 (by omega) (by omega)]; rfl), ⟨by have := HTL.out; omega⟩, ⟨by omega⟩, ⟨I.out.put HLS.out (by rw [HLEN.out]; exact HTL.out)⟩⟩
                                · obtain rfl : t = len := by have := HT.out; omega
                                  have c1 : decide ((t : Int) < (t : Int)) = false := decide_eq_false (by omega)
                                  clear htl hrow
                                  go_wp2_with (fail)
                                  go_roundg (18 - (i + 1))
                                  case measure => have := HG.out; have := HIL.out; omega
                                  case rel => exact ⟨i + 1, ys', by have := HIL.out; first | rfl | (rw [w64 (by omega) (by omega)]; rfl), ⟨by have := HIL.out; omega⟩, ⟨by omega⟩, ⟨by have := I.out; rw [← HLEN.out] at this; exact this.next⟩⟩
                            · have d1 : decide ((i : Int) < 18) = false := decide_eq_false (by omega)
                              obtain rfl : i = 18 := by have := HI.out; omega
                              clear hi HG HI
                              have K2 := Aside0.mk (K.out.ofAp I.out)
                              have HDN := Aside0.mk (show ∀ (i : Nat) (x : List Int), i < 18 → ys[i]? = some x → x = List.replicate x.length (-100 - (i : Int)) ∧ x.length ≤ 1048577 from fun i x hi hx => by
                                have h1 := I.out.done i hi
                                have h2 := I.out.lens i
                                rw [List.getD_eq_getElem?_getD, hx, Option.getD_some] at h1 h2
                                refine ⟨by rw [h2]; exact h1, ?_⟩
                                rw [h2, List.getD_eq_getElem?_getD]
                                cases e_ : XS[i]? with | none => simp | some x => exact HX18.out i x e_)
                              have HYN := Aside0.mk (show ys.length = 18 from by have h1 := K2.out.ll.len; have h2 := HLL.out; have h3 := HXN.out; omega)
                              replace K := K2
                              clear K2 I HX18
                              go_wp2_with (fail)
                              go_loopg [33] 2 (fun gq_ v33 wq => ∃ (r : Nat), v33 = .int .i64 r ∧ Aside0 (r ≤ 2) ∧ Aside0 (2 - r ≤ gq_) ∧ Aside0 (PK 3 w wq w1.heap.size w48.heap.size W53.heap.size W2.heap.size W3.heap.size (.slice (some ⟨gp, 0, none⟩) (l0.length + 2) cp) (.slice (some ⟨gq, 0, none⟩) (l1.length + 2) cq) yp yq (some ⟨gA, 0, none⟩) (some ⟨gB, 0, none⟩) ls ws ys XS))
                              case atStart => exact ⟨0, rfl, ⟨by omega⟩, ⟨by omega⟩, K⟩
                              case round =>
                                clear K
                                obtain ⟨r, rfl, HR_, HG, K⟩ := hrel
                                by_cases hr : r < 2
                                · have d1 : decide ((r : Int) < 2) = true := decide_eq_true (by omega)
                                  have HRL := Aside0.mk hr
                                  clear hr
                                  go_wp2_with (fail)
                                  have K0 := K
                                  clear K
                                  go_loopg [34] 18 (fun gq_ v34 wq => ∃ (i : Nat), v34 = .int .i64 i ∧ Aside0 (i ≤ 18) ∧ Aside0 (18 - i ≤ gq_) ∧ Aside0 (PK 3 w wq w1.heap.size w48.heap.size W53.heap.size W2.heap.size W3.heap.size (.slice (some ⟨gp, 0, none⟩) (l0.length + 2) cp) (.slice (some ⟨gq, 0, none⟩) (l1.length + 2) cq) yp yq (some ⟨gA, 0, none⟩) (some ⟨gB, 0, none⟩) ls ws ys XS))
                                  case atStart => exact ⟨0, rfl, ⟨by omega⟩, ⟨by omega⟩, K0⟩
                                  case round =>
                                    clear K0
                                    obtain ⟨i, rfl, HI, HG2, K⟩ := hrel
                                    by_cases hi : i < 18
                                    · have d1 : decide ((i : Int) < 18) = true := decide_eq_true (by omega)
                                      have d2 : (0 : Int) ≤ (i : Int) := Int.natCast_nonneg i
                                      have d3 : (i : Int) < 18 := by omega
                                      have hw1 : wrap64 (-100 - (i : Int)) = -100 - (i : Int) := w64 (by omega) (by omega)
                                      have hw2 : IntKind.i64.wrap (-100 - (i : Int)) = -100 - (i : Int) := (i64_w _).trans hw1
                                      obtain ⟨Ai, ci, x, hls, hcell, hx, hC, hci⟩ := K.out.inA (i := i) (by have := HYN.out; omega)
                                      obtain ⟨hxr, hxl⟩ := HDN.out i x hi hx
                                      obtain ⟨len, hlen⟩ : ∃ len, x.length = len := ⟨_, rfl⟩
                                      rw [hlen] at hls hcell hci hxl hxr hC
                                      subst hxr
                                      clear hlen
                                      have HLS := Aside0.mk hls
                                      have HX := Aside0.mk hx
                                      have HC := Aside0.mk hC
                                      have HXL := Aside0.mk hxl
                                      have HIL := Aside0.mk hi
                                      have hn0 : len ≤ ci := hci
                                      clear hls hx hC hxl hi hci
                                      go_wp2_with (fail)
                                      obtain ⟨W5, hW5⟩ : ∃ W, W = wr := ⟨_, rfl⟩
                                      rw [← hW5] at K HC
                                      rw [← hW5]
                                      clear hW5
                                      go_loopg [36] len (fun gq_ v36 wq => ∃ (t : Nat), v36 = .int .i64 t ∧ wq = W5 ∧ Aside0 (t ≤ len) ∧ Aside0 (len - t ≤ gq_))
                                      case atStart => exact ⟨0, rfl, rfl, ⟨Nat.zero_le _⟩, ⟨by omega⟩⟩
                                      case round =>
                                        clear hcell
                                        obtain ⟨t, rfl, rfl, HT, HG3⟩ := hrel
                                        by_cases htl : t < len
                                        · have c1 : decide ((t : Int) < (len : Int)) = true := decide_eq_true (by omega)
                                          have c2 : (0 : Int) ≤ (t : Int) := Int.natCast_nonneg t
                                          have c3 : (t : Int) < (len : Int) := by omega
                                          obtain ⟨ad, rfl, hc2⟩ := Kd.at_int HC.out (t : Int) c2 (by simpa using c3)
                                          have hrd : rd (List.replicate len (-100 - (i : Int))) (t : Int) = -100 - (i : Int) := by simp [rd, List.getD_eq_getElem?_getD, htl]
                                          rw [hrd] at hc2
                                          simp only [Int.toNat_natCast] at hc2
                                          have HTL := Aside0.mk htl
                                          clear htl hrd
                                          go_wp2_with (fail)
                                          go_roundg (len - (t + 1))
                                          case measure => have := HG3.out; have := HTL.out; omega
                                          case rel => exact ⟨t + 1, by have := HTL.out; have := HXL.out; first | rfl | (rw [w64 (by omega) (by omega)]; rfl), rfl, ⟨by have := HTL.out; omega⟩, ⟨by omega⟩⟩
                                        · obtain rfl : t = len := by have := HT.out; omega
                                          have c1 : decide ((t : Int) < (t : Int)) = false := decide_eq_false (by omega)
                                          clear htl
                                          go_wp2_with (fail)
                                          have G_ := Aside0.mk (KG.start (K.out.ll.row i _ _ HLS.out HX.out) (by have := K.out.ord; omega))
                                          obtain ⟨W6, hW6⟩ : ∃ W, W = wr := ⟨_, rfl⟩
                                          rw [← hW6] at K G_ HC
                                          rw [← hW6]
                                          clear hW6
                                          go_loopg [35, 37] 40 (fun gq_ v35 v37 wq => ∃ (m : Nat) (v : Value) (y : List Int), v = v35 ∧ v37 = .int .i64 m ∧ Aside0 (m ≤ 40) ∧ Aside0 (40 - m ≤ gq_) ∧ Aside0 (y.length = m) ∧ Aside0 (KG 3 W53.heap.size W6 wq Ai t ci (List.replicate t (-100 - (i : Int))) v y))
                                          case atStart => exact ⟨0, _, [], rfl, rfl, ⟨by omega⟩, ⟨by omega⟩, ⟨rfl⟩, G_⟩
                                          case round =>
                                            clear G_
                                            obtain ⟨m, v, y, rfl, rfl, HM, HG4, HY, G_⟩ := hrel
                                            by_cases hm : m < 40
                                            · have e1 : decide ((m : Int) < 40) = true := decide_eq_true (by omega)
                                              have HML := Aside0.mk hm
                                              clear hm
                                              go_wp2_with ((with_reducible refine gate_builtin (b := .append) (xs := #[.tmp 286, .tmp 287]) rfl ?_); at_builtin; go_loud (refine R_app_cap (k := .i64) W53.heap.size rfl (.tmp 286) (.tmp 287) 22 3 8 rfl Try.underlying22 info3 (by omega) v (List.replicate t (-100 - (i : Int)) ++ y) (-9) wr.heap.size 1 (fun b => Ai.map (·.block) = some b ∨ W6.heap.size ≤ b) rfl rfl (.inr ?hf) ?HO ?HR ?hbs ?hl ?_; (case hf => exact Nat.le_trans G_.out.below.size (World.grownBy_alloc wr _ none).size); (case HO => exact Kd.R_alloc G_.out.row _); (case HR => exact (blk_cell (blk_new wr _) 0).trans rfl); (case hbs => exact Nat.le_trans (Nat.le_trans G_.out.bs G_.out.below.size) (World.grownBy_alloc wr _ none).size); (case hl => have h1 := HXL.out; have h2 := HY.out; have h3 := HML.out; simp only [List.length_append, List.length_replicate]; omega); intro v1 wa hr_ hg_ hc_; have G2_ := Aside0.mk ((G_.out.next (below_alloc (Below.refl _ _) _)).app hr_ hg_ hc_); clear hr_ hg_ hc_))
                                              go_roundg (40 - (m + 1))
                                              case measure => have := HG4.out; have := HML.out; omega
                                              case rel => exact ⟨m + 1, _, _, rfl, by have := HML.out; first | rfl | (rw [w64 (by omega) (by omega)]; rfl), ⟨by have := HML.out; omega⟩, ⟨by omega⟩, ⟨by have := HY.out; simp; omega⟩, G2_⟩
                                            · obtain rfl : m = 40 := by have := HM.out; omega
                                              have e1 : decide (((40 : Nat) : Int) < 40) = false := rfl
                                              clear hm
                                              have K3 := Aside0.mk (G_.out.done K.out HLS.out HX.out)
                                              go_wp2_with (fail)
                                              go_roundg (18 - (i + 1))
                                              case measure => have := HG2.out; have := HIL.out; omega
                                              case rel => exact ⟨i + 1, by have := HIL.out; first | rfl | (rw [w64 (by omega) (by omega)]; rfl), ⟨by have := HIL.out; omega⟩, ⟨by omega⟩, K3⟩
                                    · have d1 : decide ((i : Int) < 18) = false := decide_eq_false (by omega)
                                      obtain rfl : i = 18 := by have := HI.out; omega
                                      clear hi
                                      go_wp2_with (fail)
                                      go_roundg (2 - (r + 1))
                                      case measure => have := HG.out; have := HRL.out; omega
                                      case rel => exact ⟨r + 1, by have := HRL.out; first | rfl | (rw [w64 (by omega) (by omega)]; rfl), ⟨by have := HRL.out; omega⟩, ⟨by omega⟩, K⟩
                                · have d1 : decide ((r : Int) < 2) = false := decide_eq_false (by omega)
                                  obtain rfl : r = 2 := by have := HR_.out; omega
                                  clear hr
                                  go_wp2_with (fail)
                                  clear HG HR_
                                  with_reducible refine (perm_Compose.calls k _ c0 l0 _ c1 l1 a ea wr (Kd.C_below H0.out K.out.below) G0.out (Kd.C_below H1.out K.out.below) G1.out HA.out.ha).mono ?_
                                  rintro e_ w80 ⟨v0, rfl, h0, hb⟩
                                  obtain ⟨Na, na, rfl⟩ := (RK.of h0).lit
                                  have R80 := Aside0.mk (RK.of h0)
                                  replace K := Aside0.mk (K.out.next hb)
                                  clear h0 hb
                                  go_wp2_with (fail)
                                  with_reducible refine (perm_Rank.calls k _ c0 l0 e ee w80 (Kd.C_below H0.out K.out.below) G0.out HA.out.he).mono ?_
                                  rintro e_ w81 ⟨v0, rfl, h0, hb⟩
                                  obtain ⟨Ne, ne, rfl⟩ := (RK.of h0).lit
                                  have R81 := Aside0.mk (RK.of h0)
                                  replace R80 := Aside0.mk (R80.out.below hb)
                                  replace K := Aside0.mk (K.out.next hb)
                                  clear h0 hb
                                  obtain ⟨B_, b_, x, -, p0, hx, hC, hc⟩ := K.out.inB (i := 0) (by have := HXN.out; omega)
                                  rw [HX0.out] at hx
                                  injection hx with hx
                                  subst hx
                                  go_wp2_with (fail)
                                  with_reducible refine (same11_calls (RK.reads R80.out) ⟨hC, hc⟩ (HS.out _ ?hle) rfl rfl).mono ?_
                                  case hle => exact HA.out.len _ (by simp)
                                  rintro e_ w82 ⟨rfl, hb⟩
                                  replace K := Aside0.mk (K.out.next hb)
                                  replace R81 := Aside0.mk (R81.out.below hb)
                                  clear p0 hC hc hb
                                  obtain ⟨B_, b_, x, -, p0, hx, hC, hc⟩ := K.out.inB (i := 4) (by have := HXN.out; omega)
                                  rw [HX4.out] at hx
                                  injection hx with hx
                                  subst hx
                                  go_wp2_with (fail)
                                  with_reducible refine (same11_calls (RK.reads R81.out) ⟨hC, hc⟩ (HS.out _ ?hle) rfl rfl).mono ?_
                                  case hle => exact HA.out.len _ (by simp)
                                  rintro e_ w83 ⟨rfl, hb⟩
                                  replace K := Aside0.mk (K.out.next hb)
                                  replace R81 := Aside0.mk (R81.out.below hb)
                                  clear p0 hC hc hb
                                  go_wp2_with (fail)
                                  go_ret
                                  exact ⟨rfl, K.out.below⟩
end Go.Proofs.Ytmbkgepfpfeahaa.Q
