/- BraidWeaves: a lent list, and whether it is whole; walked. -/
import Derived.Test.YtiefmocfgneldaaRcR
import Derived.Test.YtiefmocfgneldaaQx5
set_option linter.unusedVariables false
set_option linter.unusedSimpArgs false
namespace Go.Proofs.Ytiefmocfgneldaa.Q
open Go.RowKit Go.Proofs.YtiefmocfgneldaaW.PrintWords Go.Proofs.YtiefmocfgneldaaW.PrintLast Go.Proofs.YtiefmocfgneldaaW.PrintMore Go.Proofs.Ytiefmocfgneldaa.Pl
section
variable {W : World} {lo hi : Nat} {xs : List Int}
/-- A lent list: its marks lie behind it. -/
theorem bw_lent_reads {A : Option Addr} {n c : Nat} (h : RK .i64 3 W lo hi (.slice A (n + 2) c) (xs ++ [-77, -78])) (hn : xs.length = n) : (Kd.C (Kd.int .i64) W A xs.length xs ∧ xs.length ≤ c) ∧ (Kd.C (Kd.int .i64) W A (xs ++ [-77, -78]).length (xs ++ [-77, -78]) ∧ (xs ++ [-77, -78]).length ≤ c) := by
  obtain ⟨e, hc, hC⟩ := Kd.R_reads' h
  have hl : (xs ++ [-77, -78]).length = n + 2 := by simp [hn]
  refine ⟨⟨?_, by omega⟩, hC, by omega⟩
  have := Kd.C_take (m := xs.length) hC (by simp)
  simpa using this
end
set_option maxHeartbeats 1000000 in
set_option maxRecDepth 100000 in
theorem bw_lent_calls (A : Option Addr) (c : Nat) (l : List Int) (w : World) (hC : Kd.C (Kd.int .i64) w A l.length l ∧ l.length ≤ c) (hl : l.length ≤ 17592186044000) :
    Calls Try.prog 11 #[.slice A l.length c] w fun e w' => ∃ (A1 : Option Addr) (c1 : Nat), e = .returned (.tuple #[.slice A1 l.length c1, .slice A1 (l.length + 2) c1]) ∧ RK .i64 3 w' w.heap.size w'.heap.size (.slice A1 (l.length + 2) c1) (l ++ [-77, -78]) ∧ Below w.heap.size w w' := by
  have HC := Aside0.mk hC
  have HL := Aside0.mk hl
  clear hC hl
  go_enter Try.func11, Try.ntmps11
  go_wp2_with (first
    | ((with_reducible refine gate_dst (N := 4) rfl ?_); refine Kd.R_lit (Kd.int .i64) w.heap.size 3 ?hg (N := 4) ?hd (xs := ([] : List Int)) (inner := []) (ok := fun _ => True) (okp := fun _ => True) ?hr ?hp (fun _ hk => hk) trivial (Below.refl _ _) (Nat.le_refl _) (by simp) ?_; (case hd => rfl); (case hg => rfl); (case hr => first | (go_simp; done) | (go_simp; rfl)); (case hp => exact (Reps.none _ _)); intro v4 w4 ho4 hb4 hg4 hn4; have HB4 := Aside0.mk hb4; have HO4 := Aside0.mk ho4; clear hb4 ho4 hg4 hn4)
    | ((with_reducible refine gate_builtin (b := .append) (xs := #[.tmp 4, .tmp 5]) rfl ?_); at_builtin; go_loud (refine Kd.R_app_int (k := .i64) w.heap.size rfl (.tmp 4) (.tmp 5) 22 3 8 rfl Try.underlying22 info3 (by omega) v4 [] l A l.length c (fun _ => True) rfl rfl trivial HO4.out (Kd.C_below HC.out.1 HB4.out) HB4.out.size ?hl ?_; (case hl => have h1 := HL.out; simp only [List.length_nil]; omega); intro v6 w6 hr6 hg6 hat6; have HB6 := Aside0.mk (HB4.out.grown hg6 HB4.out.size (Kd.R_base HO4.out)); have HO6 := Aside0.mk hr6; clear hr6 hg6 hat6))
    | ((with_reducible refine gate_builtin (b := .append) (xs := #[.tmp 6, .tmp 7]) rfl ?_); at_builtin; go_loud (refine Kd.R_app_int (k := .i64) w.heap.size rfl (.tmp 6) (.tmp 7) 22 3 8 rfl Try.underlying22 info3 (by omega) v6 ([] ++ l) [-77, -78] (some ⟨w6.heap.size, 0, none⟩) 2 2 (fun _ => True) rfl rfl trivial (Kd.R_alloc HO6.out _) (C_lit .i64 w6 [-77, -78] 3 (by simp)) ?hbs ?hl ?_; (case hbs => exact (HB6.out.alloc HB6.out.size _).size); (case hl => have h1 := HL.out; simp; omega); intro v8 w8 hr8 hg8 hat8; have HB8 := Aside0.mk ((HB6.out.alloc HB6.out.size _).grown hg8 (HB6.out.alloc HB6.out.size _).size (Kd.R_base HO6.out)); have hr8 : Kd.R (Kd.int .i64) 3 w8 w.heap.size (fun _ => True) v8 (l ++ [-77, -78]) := hr8; obtain ⟨A8, c8, rfl, hc8, -⟩ := Kd.R_reads hr8; have hl8 : (l ++ [-77, -78]).length = l.length + 2 := (by simp); rw [hl8] at hr8 hc8; try rw [hl8]; have HO8 := Aside0.mk hr8; have HC8 := Aside0.mk hc8; clear hr8 hg8 hat8 hl8 hc8; obtain ⟨i5, hi05, -, -, -⟩ := info_parts info3; have hcut := cut_to (P := Try.prog) 22 3 .i64 Try.underlying22 hi05 A8 (l.length + 2) c8 (l.length : Int) (by omega) (by omega) HC8.out; simp only [Int.toNat_natCast] at hcut; clear hi05)))
  go_ret2
  exact ⟨_, _, rfl, RK.of HO8.out, HB8.out⟩
theorem bw_whole_calls (k : Nat) (A : Option Addr) (c : Nat) (A1 : Option Addr) (c1 : Nat) (l : List Int) (w : World) {lo hi : Nat} (h0 : RK .i64 3 w lo hi (.slice A (l.length + 2) c) (l ++ [-77, -78])) (h1 : Kd.C (Kd.int .i64) w A1 l.length l ∧ l.length ≤ c1) (h : churnlaw12_whole.f k (l ++ [-77, -78]) l = some true) :
    Calls Try.prog 15 #[.slice A (l.length + 2) c, .slice A1 l.length c1] w fun e w' => e = .returned (.bool true) ∧ Below w.heap.size w w' := by
  obtain ⟨-, a, b⟩ := bw_lent_reads h0 rfl
  have hc := churnlaw12_whole.calls k A c (l ++ [-77, -78]) A1 c1 l true w a b h1.1 h1.2 h
  have hl : (l ++ [-77, -78]).length = l.length + 2 := by simp
  rw [hl] at hc
  refine hc.mono ?_
  rintro e w' ⟨rfl, ⟨q, rfl⟩⟩
  exact ⟨rfl, pw_below_drewN (Below.refl _ _) q⟩
theorem bw_same (l : List Int) (h : l.length ≤ 17592186044002) : ∀ (d i : Nat), i + d = l.length → churnlaw12_same.l0 (d + 1) l l (l.length : Int) (i : Int) = some true
  | 0, i, hi => by
    rw [churnlaw12_same.l0, if_neg (by omega)]
  | d + 1, i, hi => by
    have c1 : (i : Int) < (l.length : Int) := by omega
    have c2 : (0 : Int) ≤ (i : Int) := by omega
    have ih := bw_same l h d (i + 1) (by omega)
    have e3 : wrap64 ((i : Int) + 1) = ((i + 1 : Nat) : Int) := w64n (x := i + 1) (by omega)
    rw [churnlaw12_same.l0, if_pos c1, if_pos c2, if_pos c1, if_pos c1, if_pos rfl, e3, ih]
theorem bw_whole (l : List Int) (h : l.length ≤ 17592186044000) : churnlaw12_whole.f (l.length + 1) (l ++ [-77, -78]) l = some true := by
  have hk : churnlaw12_same.f (l.length + 1) l l = some true := by
    rw [churnlaw12_same.f, if_pos rfl]
    exact bw_same l (by omega) l.length 0 (by omega)
  have hl : (l ++ [-77, -78]).length = l.length + 2 := by simp
  have e1 : (l ++ [-77, -78]).take ((l.length : Int) : Int).toNat = l := by simp
  have e2 : rd (l ++ [-77, -78]) (l.length : Int) = -77 := by simp [rd, List.getD_eq_getElem?_getD]
  have e3 : wrap64 ((l.length : Int) + 1) = ((l.length + 1 : Nat) : Int) := w64n (x := l.length + 1) (by omega)
  have e4 : rd (l ++ [-77, -78]) ((l.length + 1 : Nat) : Int) = -78 := by simp only [rd, Int.toNat_natCast, List.getD_eq_getElem?_getD]; rw [List.getElem?_append_right (by omega)]; simp
  unfold churnlaw12_whole.f
  rw [if_pos (by omega), if_pos (by rw [hl]; omega), e1, hk, Option.bind_some, if_pos rfl, if_pos (by rw [hl]; omega), if_pos e2, e3, if_pos (by omega), if_pos (by rw [hl]; omega), e4]
  rfl
end Go.Proofs.Ytiefmocfgneldaa.Q
