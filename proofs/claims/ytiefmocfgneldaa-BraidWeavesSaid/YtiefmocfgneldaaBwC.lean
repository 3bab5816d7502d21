/- churnlaw12.chunksOf, walked: printed by pf/bwgen2.py. -/
import Derived.Test.YtiefmocfgneldaaBvK
import Derived.Test.YtiefmocfgneldaaRcR
set_option linter.unusedVariables false
set_option linter.unusedSimpArgs false
namespace Go.Proofs.Ytiefmocfgneldaa.Q
open Go.RowKit Go.Proofs.YtiefmocfgneldaaW.PrintWords Go.Proofs.YtiefmocfgneldaaW.PrintLast Go.Proofs.YtiefmocfgneldaaW.PrintMore Go.Proofs.Ytiefmocfgneldaa.Pl
theorem thing_cells (W : World) (x y : Value) (T : Nat) (j : Nat) (u : Value) (h : [x, y][j]? = some u) : (W.alloc (.cells #[x, y] T)).cell? ⟨W.heap.size, j, none⟩ = some u := by
  rw [blk_cell (blk_new W (.cells #[x, y] T)) j]
  simpa using h
theorem thing_one (x y : Int) : ∀ u ∈ [Value.int .i64 x, .int .i64 y], u.oneCell' = true := by simp [Value.oneCell']
theorem ckv_cells (W : World) (x : Value) (T : Nat) (j : Nat) (u : Value) (h : [x][j]? = some u) : (W.alloc (.cells #[x] T)).cell? ⟨W.heap.size, j, none⟩ = some u := by
  rw [blk_cell (blk_new W (.cells #[x] T)) j]
  simpa using h
theorem ckv_one (x : Ck) : ∀ u ∈ [ckv x], u.oneCell' = true := by simp [ckv, Value.oneCell']
theorem in_range {lens : List Int} (h : ∀ x ∈ lens, 0 ≤ x ∧ x ≤ 65536) {j : Nat} (hj : j < lens.length) : ∃ n : Nat, rd lens (j : Int) = (n : Int) ∧ n ≤ 65536 := by
  have hm : rd lens (j : Int) ∈ lens := by
    unfold rd
    rw [Int.toNat_natCast, List.getD_eq_getElem?_getD, List.getElem?_eq_getElem hj]
    exact List.getElem_mem hj
  obtain ⟨h0, h1⟩ := h _ hm
  exact ⟨(rd lens (j : Int)).toNat, by omega, by omega⟩
set_option maxHeartbeats 4000000 in
set_option maxRecDepth 100000 in
theorem chunks_calls (A0 : Option Addr) (c0 : Nat) (lens : List Int) (w : World) (hr0 : Kd.C (Kd.int .i64) w A0 lens.length lens) (hc0 : lens.length ≤ c0) (hv : ∀ x ∈ lens, 0 ≤ x ∧ x ≤ 65536) (hl : lens.length ≤ 1048576) :
    Calls Try.prog 12 #[.slice A0 lens.length c0] w fun e w' => ∃ v L cs, e = .returned v ∧ CK w' w.heap.size w'.heap.size v L cs ∧ Chs L cs ∧ L.map (fun x => (x.n : Int)) = lens ∧ Below w.heap.size w w' := by
  have H0 := Aside0.mk hr0
  have G0 := Aside0.mk hc0
  have HV := Aside0.mk hv
  have L0 := Aside0.mk hl
  clear hr0 hc0 hv hl
  go_enter Try.func12, Try.ntmps12
  go_wp2_with (fail)
  go_loopg [3, 10] lens.length (fun gq_ v3 v10 wq => ∃ (j : Nat) (v : Value) (L : List Ck) (cs : List (List (Int × Int))), v = v3 ∧ v10 = .int .i64 j ∧ Aside0 (j ≤ lens.length) ∧ Aside0 (lens.length - j ≤ gq_) ∧ Aside0 (L.map (fun x => (x.n : Int)) = lens.take j) ∧ Aside0 (CK wq w.heap.size wq.heap.size v L cs) ∧ Aside0 (Chs L cs) ∧ Aside0 (Below w.heap.size w wq))
  case atStart => exact ⟨0, _, [], [], rfl, rfl, ⟨Nat.zero_le _⟩, ⟨by omega⟩, ⟨rfl⟩, ⟨CK.nil _ _ _⟩, ⟨Chs.nil⟩, ⟨Below.refl _ _⟩⟩
  case round =>
    obtain ⟨j, v, L, cs, rfl, rfl, HI, HG, HM, HK, HC, HB⟩ := hrel
    by_cases hi : j < lens.length
    · have d1 : decide ((j : Int) < (lens.length : Int)) = true := decide_eq_true (by omega)
      have d2 : (0 : Int) ≤ (j : Int) := Int.natCast_nonneg j
      have d3 : (j : Int) < (lens.length : Int) := by omega
      have HIL := Aside0.mk hi
      clear hi
      have hC := Kd.C_below H0.out HB.out
      obtain ⟨ad, rfl, hc2⟩ := Kd.at_int hC (j : Int) d2 (by simpa using d3)
      simp only [Int.toNat_natCast] at hc2
      obtain ⟨n, hn, hn2⟩ := in_range HV.out HIL.out
      rw [hn] at hc2
      have HN := Aside0.mk hn
      have HN2 := Aside0.mk hn2
      clear hC hn hn2
      go_wp2_with (fail)
      have HO := Aside0.mk (World.ownsRow_nil wr wr.heap.size 40 2)
      have HBW := Aside0.mk (Below.refl wr.heap.size wr)
      obtain ⟨W0, hW0⟩ : ∃ W, W = wr := ⟨_, rfl⟩
      subst hW0
      have HLL : Aside0 (L.length = j) := ⟨by have h := congrArg List.length HM.out; simp only [List.length_map, List.length_take] at h; have := HIL.out; omega⟩
      go_loopg [6, 16] n (fun gq_ v6 v16 wq => ∃ (k : Nat) (u : Value), u = v6 ∧ v16 = .int .i64 k ∧ Aside0 (k ≤ n) ∧ Aside0 (n - k ≤ gq_) ∧ Aside0 (wq.ownsRow W0.heap.size 40 2 u k (pcells (chk j k))) ∧ Aside0 (Below W0.heap.size W0 wq))
      case atStart => exact ⟨0, _, rfl, rfl, ⟨Nat.zero_le _⟩, ⟨by omega⟩, HO, HBW⟩
      case round =>
        clear HO HBW
        obtain ⟨k, u, rfl, rfl, HKI, HKG, HO, HBW⟩ := hrel
        by_cases hk : k < n
        · have d1 : decide ((k : Int) < (n : Int)) = true := decide_eq_true (by omega)
          have d4 : decide (k < n) = true := decide_eq_true hk
          have HKL := Aside0.mk hk
          clear hk
          go_wp2_with ((with_reducible refine gate_builtin (b := .append) (xs := #[.tmp 19, .tmp 23]) rfl ?_); at_builtin; go_loud (refine many_app W0.heap.size rfl (.tmp 19) (.tmp 23) 36 40 (.agg #[.int .i64 0, .int .i64 0]) 2 16 rfl underThings infoThing rfl (by omega) (by omega) u k 1 (pcells (chk j k)) [.int .i64 (j : Int), .int .i64 (k : Int)] wr.heap.size 1 rfl rfl (many_next HO.out (below_alloc (Below.refl _ _) _)) (by omega) rfl (thing_cells wr _ _ _) (thing_one _ _) ?hbs ?hl ?_; (case hbs => exact Nat.le_trans HBW.out.size (World.grownBy_alloc wr _ none).size); (case hl => have h1 := HKL.out; have h2 := HN2.out; omega); intro v24 w24 ho_ hg_ hat_; (have hbA := Below.refl wr.heap.size wr |>.alloc (Nat.le_refl _) (.cells #[.int .i64 (j : Int), .int .i64 (k : Int)] 40)); have HO3 := Aside0.mk ho_; have HB3 := Aside0.mk ((below_step HBW.out hbA).grown hg_ (below_step HBW.out hbA).size (fun b e => (HO.out.lt b e).1)); clear ho_ hg_ hat_ hbA))
          go_roundg (n - (k + 1))
          case measure => have := HKG.out; have := HKL.out; omega
          case rel => exact ⟨k + 1, _, rfl, by have := HKL.out; have := HN2.out; first | rfl | (rw [w64 (by omega) (by omega)]; rfl), ⟨by have := HKL.out; omega⟩, ⟨by omega⟩, ⟨by rw [chk_snoc, pcells_app]; exact HO3.out⟩, HB3⟩
        · have d1 : decide ((k : Int) < (n : Int)) = false := decide_eq_false (by omega)
          obtain rfl : k = n := by have := HKI.out; omega
          clear hk HKI HKG
          go_wp2_with (first | (with_reducible refine gate_builtin (b := .append) (xs := #[.tmp 27, .tmp 29]) rfl ?_); at_builtin; go_loud (refine many_app W0.heap.size rfl (.tmp 27) (.tmp 29) 36 40 (.agg #[.int .i64 0, .int .i64 0]) 2 16 rfl underThings infoThing rfl (by omega) (by omega) u k 1 (pcells (chk j k)) [.int .i64 (-1), .int .i64 (-1)] wr.heap.size 1 rfl rfl (many_next HO.out (below_alloc (Below.refl _ _) _)) (by omega) rfl (thing_cells wr _ _ _) (thing_one _ _) ?hbs ?hl ?_; (case hbs => exact Nat.le_trans HBW.out.size (World.grownBy_alloc wr _ none).size); (case hl => have h2 := HN2.out; omega); intro v30 w30 ho_ hg_ hat_; (have hbA := Below.refl wr.heap.size wr |>.alloc (Nat.le_refl _) (.cells #[.int .i64 (-1), .int .i64 (-1)] 40)); obtain ⟨gk_, ck_, rfl, hck⟩ := row_head ho_; have HO3 := Aside0.mk ho_; have hck2 : k ≤ ck_ := Nat.le_of_succ_le hck; have HCK := Aside0.mk hck; have HB3 := Aside0.mk ((below_step HBW.out hbA).grown hg_ (below_step HBW.out hbA).size (fun b e => (HO.out.lt b e).1)); have HK2 := Aside0.mk (HK.out.keep (fun b _ hb => HB3.out.block b hb)); clear ho_ hg_ hat_ hbA hck) | (with_reducible refine gate_builtin (b := .append) (xs := #[.tmp 26, .tmp 33]) rfl ?_); at_builtin; go_loud (refine many_app w.heap.size rfl (.tmp 26) (.tmp 33) 31 36 (.slice none 0 0) 1 24 rfl underThingss infoThings rfl (by omega) (by omega) v L.length 1 (L.map ckv) [ckv ⟨gk_, k, ck_⟩] w30.heap.size 1 rfl rfl (many_next HK2.out.out (below_alloc (Below.refl _ _) _)) (by omega) rfl (ckv_cells w30 _ _) (ckv_one _) ?hbs ?hl ?_; (case hbs => exact Nat.le_trans HB.out.size (Nat.le_trans HB3.out.size (World.grownBy_alloc w30 _ none).size)); (case hl => rw [HLL.out]; have h1 := HIL.out; have h2 := L0.out; omega); intro v34 w34 ho_ hg_ hat_; (have hbA := Below.refl w30.heap.size w30 |>.alloc (Nat.le_refl _) (.cells #[ckv ⟨gk_, k, ck_⟩] 36)); have HK3 := Aside0.mk (CK.snoc (x := ⟨gk_, k, ck_⟩) (p := chk j k ++ [(-1, -1)]) HK2.out (by simp [chk_len]) (by rw [pcells_app]; exact HO3.out) (Nat.le_refl _) HB.out.size hbA ho_ hg_ hat_); have hbB := (below_step HB.out (below_step HB3.out hbA)); have HB4 := Aside0.mk (hbB.grown hg_ hbB.size (fun b e => (HK2.out.out.lt b e).1)); clear ho_ hg_ hat_ hbA hbB))
          go_roundg (lens.length - (j + 1))
          case measure => have := HG.out; have := HIL.out; omega
          case rel => exact ⟨j + 1, _, _, _, rfl, by have := HIL.out; have := L0.out; first | rfl | (rw [w64 (by omega) (by omega)]; rfl), ⟨by have := HIL.out; omega⟩, ⟨by omega⟩, ⟨by rw [List.map_append, HM.out, take_rd lens j HIL.out, HN.out]; rfl⟩, HK3, ⟨by have h := HC.out.snoc ⟨gk_, k, ck_⟩; rw [HLL.out] at h; exact h⟩, HB4⟩
    · have d1 : decide ((j : Int) < (lens.length : Int)) = false := decide_eq_false (by omega)
      obtain rfl : j = lens.length := by have := HI.out; omega
      rw [List.take_length] at HM
      clear hi HI HG
      go_wp2_with (fail)
      go_ret
      exact ⟨_, _, _, rfl, HK.out, HC.out, HM.out, HB.out⟩
end Go.Proofs.Ytiefmocfgneldaa.Q
