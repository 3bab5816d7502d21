/- Functions of the program as plain Lean functions, each with a proof that its call comes to just these answers, or the row that joins them to the given statement; no condition beside the statement's own. Written for this claim by pf.py, this session's program over the kit's print. -/
import Derived.Test.YtangepklgeikkaaQx0
import Derived.Test.YtangepklgeikkaaQx1
namespace Go.Proofs.Ytangepklgeikkaa.Q
open Go.RowKit Go.Proofs.YtangepklgeikkaaW.PrintWords Go.Proofs.YtangepklgeikkaaW.PrintLast Go.Proofs.YtangepklgeikkaaW.PrintMore
attribute [local go_sem] max2_int min2_int max_two min_two max_three min_three max_four min_four   -- for this text's walks alone
set_option linter.unusedVariables false
set_option linter.unusedSimpArgs false

/-! ### tape_Tape_Take: function 13 -/
def tape_Tape_Take.f (a0_0 : ByteArray) (a0_1 : Int) (a1 : Int) : Option (List Int × ByteArray × Int × Int) :=
  if a1 < 0 then some ([], ⟨#[]⟩, 0, 2) else if a1 > wrap64 ((a0_0.size : Int) - a0_1) then some ([], ⟨#[]⟩, 0, 3) else
  if 0 ≤ a0_1 ∧ a0_1 ≤ wrap64 (a0_1 + a1) ∧ wrap64 (a0_1 + a1) ≤ (a0_0.size : Int) then some (bytesOf (a0_0.extract a0_1.toNat (wrap64 (a0_1 + a1)).toNat), a0_0, wrap64 (a0_1 + a1), 0) else none
set_option maxHeartbeats 1000000 in
set_option maxRecDepth 100000 in
theorem tape_Tape_Take.good (s : ByteArray) (u n : Int) (w : World) (h0 : 0 ≤ n) (h1 : n ≤ wrap64 ((s.size : Int) - u)) (h2 : 0 ≤ u) (h3 : u ≤ wrap64 (u + n)) (h4 : wrap64 (u + n) ≤ (s.size : Int)) :
    Calls Try.prog 13 #[.agg #[.string s, .int .i64 u], .int .i64 n] w fun e w' => ∃ v0_ : Value, e = .returned (.tuple #[v0_, .agg #[.string s, .int .i64 (wrap64 (u + n))], .int .i64 0]) ∧ Kd.V (Kd.int .u8) 5 w' w.heap.size (fun k_ => (w.heap.size ≤ k_)) v0_ (bytesOf (s.extract u.toNat (wrap64 (u + n)).toNat)) ∧ Below w.heap.size w w' := by
  have hu25 := Try.underlying25
  have c1 : decide (n < 0) = false := decide_eq_false (by omega)
  have c2 : decide (n > wrap64 ((s.size : Int) - u)) = false := decide_eq_false (by omega)
  have kb := fun (x : ByteArray) (W : World) => print_bytes (P := Try.prog) 9 27 5 Try.underlying9 Try.underlying27 Try.underlying5 x W
  obtain ⟨z, hz⟩ : ∃ z, wrap64 (u + n) = z := ⟨_, rfl⟩
  obtain ⟨y, hy⟩ : ∃ y, wrap64 ((s.size : Int) - u) = y := ⟨_, rfl⟩
  rw [hz] at h3 h4 ⊢
  rw [hy] at h1 c2
  have hz63 : z ≤ 9223372036854775807 := by rw [← hz]; unfold wrap64; omega
  have HZ := Aside0.mk hz63
  clear hz63
  have HB := Aside0.mk (Below.refl w.heap.size w)
  have H1 := Aside0.mk h1
  clear h1
  go_enter Try.func13, Try.ntmps13
  go_wp2_with (first
    | ((with_reducible refine gate_dst (N := 2) rfl ?_); refine box_event ?hg (N := 2) ?hd (cs := #[.string s, .int .i64 u]) (t := 25) ?hr ?_; (case hd => rfl); (case hg => rfl); (case hr => first | (go_simp; done) | (go_simp; rfl)); intro gb1 hg1 w1 hbox1 hb1; have B1 := Aside0.mk hbox1; have G1 := Aside0.mk (show w.heap.size ≤ gb1 by omega); have HB1 := Aside0.mk (below_step HB.out hb1); clear HB hb1 hbox1 hg1)
    | ((with_reducible refine gate_dst (N := 5) rfl ?_); refine box_event ?hg (N := 5) ?hd (cs := #[.string (⟨#[]⟩ : ByteArray), .int .i64 0]) (t := 25) ?hr ?_; (case hd => rfl); (case hg => rfl); (case hr => first | (go_simp; done) | (go_simp; rfl)); intro gb2 hg2 w2 hbox2 hb2; have B1' := Aside0.mk (blk_below B1.out hb2); have NE := Aside0.mk (show gb1 ≠ gb2 by have := blk_lt B1.out; omega); have B2 := Aside0.mk hbox2; have G2 := Aside0.mk (show w.heap.size ≤ gb2 by have := HB1.out.size; omega); have HB2 := Aside0.mk (below_step HB1.out hb2); clear B1 HB1 hb2 hbox2 hg2; have za0 : w2.cell? ⟨gb1, 0, none⟩ = some (.string s) := (blk_cell B1'.out 0).trans rfl; have za1 : w2.cell? ⟨gb1, 1, none⟩ = some (.int .i64 u) := (blk_cell B1'.out 1).trans rfl)
    | (go_at_call 15; refine (tape_Tape_Left.calls s u y _ (by unfold tape_Tape_Left.f; rw [hy])).mono ?_; rintro e w3 ⟨rfl, hb3⟩; have B3 := Aside0.mk (blk_below B1'.out hb3); have B4 := Aside0.mk (blk_below B2.out hb3); have HB3 := Aside0.mk (below_step HB2.out hb3); clear za0 za1 hb3 B1' B2 HB2; have za0 : w3.cell? ⟨gb1, 0, none⟩ = some (.string s) := (blk_cell B3.out 0).trans rfl; have za1 : w3.cell? ⟨gb1, 1, none⟩ = some (.int .i64 u) := (blk_cell B3.out 1).trans rfl))
  have hzw : IntKind.i64.wrap (u + n) = z := (i64_w _).trans hz
  have hfz := blk_frozen B4.out 0
  have hfz1 := blk_frozen B4.out 1
  have hlt := blk_lt B3.out
  have hlt2 := blk_lt B4.out
  have zb0 : w3.cell? ⟨gb2, 0, none⟩ = some (.string (⟨#[]⟩ : ByteArray)) := (blk_cell B4.out 0).trans rfl
  have zb1 : w3.cell? ⟨gb2, 1, none⟩ = some (.int .i64 0) := (blk_cell B4.out 1).trans rfl
  have k0 := (Lib.bytesWorld_old w3.drew 5 (s.extract u.toNat z.toNat) ⟨gb1, 0, none⟩ hlt).trans za0
  have k1 := (Lib.bytesWorld_old w3.drew 5 (s.extract u.toNat z.toNat) ⟨gb1, 1, none⟩ hlt).trans za1
  have k2 := (Lib.bytesWorld_old w3.drew 5 (s.extract u.toNat z.toNat) ⟨gb2, 0, none⟩ hlt2).trans zb0
  have k3 := (Lib.bytesWorld_old w3.drew 5 (s.extract u.toNat z.toNat) ⟨gb2, 1, none⟩ hlt2).trans zb1
  have f2 : (Lib.bytesWorld w3.drew 5 (s.extract u.toNat z.toNat)).frozen? ⟨gb2, 0, none⟩ = false := by
    have := Lib.bytesWorld_at_old w3.drew 5 (s.extract u.toNat z.toNat) gb2 hlt2
    rw [← hfz]; unfold World.frozen?; rw [this]; rfl
  have f3 : (Lib.bytesWorld w3.drew 5 (s.extract u.toNat z.toNat)).frozen? ⟨gb2, 1, none⟩ = false := by
    have := Lib.bytesWorld_at_old w3.drew 5 (s.extract u.toNat z.toNat) gb2 hlt2
    rw [← hfz1]; unfold World.frozen?; rw [this]; rfl
  go_region
  go_wp2
  have hne := NE.out
  have hsz : z.toNat - u.toNat = (bytesOf (s.extract u.toNat z.toNat)).length := by rw [bytesOf_length]; simp; omega
  have hnew : (Lib.bytesWorld w3.drew 5 (s.extract u.toNat z.toNat)).heap[gb2]? = some (.cells #[.string (⟨#[]⟩ : ByteArray), .int .i64 0] 25 (0, 0)) := (Lib.bytesWorld_at_old w3.drew 5 _ gb2 hlt2).trans B4.out
  have hw3 : w.heap.size ≤ w3.heap.size := HB3.out.size
  have hbl : Below w.heap.size w (Lib.bytesWorld w3.drew 5 (s.extract u.toNat z.toNat)) := bytes_below (below_drew HB3.out) hw3 5 _
  refine bodyPost_ret (results_list (rs := [.tmp 4, .cell 5 25, .tmp 6]) rfl (by simp) (.tmp (.cell gb2 25 #[.string s, .int .i64 z] (0, 0) _ rfl (blk_put (cs := #[.string s, .int .i64 0]) (blk_put (cs := #[.string (⟨#[]⟩ : ByteArray), .int .i64 0]) hnew 0 _ rfl) 1 _ rfl) Try.underlying25 rfl (by kernel_rfl) (.tmp .nil)))) rfl ?_
  refine ⟨_, rfl, ?_, below_set (below_set hbl G2.out) G2.out⟩
  refine ⟨some ⟨w3.heap.size, 0, none⟩, grownCap w3.drew (z.toNat - u.toNat) 0 5, ?_, ?_, ?_⟩
  · exact congrArg (fun n => Value.slice (some ⟨w3.heap.size, 0, none⟩) n (grownCap w3.drew (z.toNat - u.toNat) 0 5)) hsz
  · rw [← hsz]; exact grownCap_ge _ _ _ _
  · have hr := bytes_reads w3.drew 5 (s.extract u.toNat z.toNat) (by have := HZ.out; simp; omega)
    have hC : (Kd.int .u8).C (Lib.bytesWorld w3.drew 5 (s.extract u.toNat z.toNat)) (some ⟨w3.heap.size, 0, none⟩) (bytesOf (s.extract u.toNat z.toNat)).length (bytesOf (s.extract u.toNat z.toNat)) := by
      rw [bytesOf_length]
      exact Kd.C_of_reads (d := (0 : Int)) (h1 := fun _ => rfl) hr
    have hF := Kd.F_block hC
    have hf1 := Kd.F_far (p := ⟨gb2, 0, none⟩) hF (fun k hk => by subst hk; simp; omega) (.string s)
    have hf2 := Kd.F_far (p := ⟨gb2, 1, none⟩) hf1 (fun k hk => by subst hk; simp; omega) (.int .i64 z)
    exact Kd.F_mono hf2 (fun k hk => by subst hk; exact hw3)
set_option maxHeartbeats 1000000 in
set_option maxRecDepth 100000 in
theorem tape_Tape_Take.neg (s : ByteArray) (u n : Int) (w : World) (h0 : n < 0) :
    Calls Try.prog 13 #[.agg #[.string s, .int .i64 u], .int .i64 n] w fun e w' => ∃ v0_ : Value, e = .returned (.tuple #[v0_, .agg #[.string (⟨#[]⟩ : ByteArray), .int .i64 0], .int .i64 2]) ∧ Kd.V (Kd.int .u8) 5 w' w.heap.size (fun k_ => (w.heap.size ≤ k_)) v0_ [] ∧ Below w.heap.size w w' := by
  have hu25 := Try.underlying25
  have c1 : decide (n < 0) = true := decide_eq_true h0
  clear h0
  have HB := Aside0.mk (Below.refl w.heap.size w)
  go_enter Try.func13, Try.ntmps13
  go_wp2_with (first
    | ((with_reducible refine gate_dst (N := 2) rfl ?_); refine box_event ?hg (N := 2) ?hd (cs := #[.string s, .int .i64 u]) (t := 25) ?hr ?_; (case hd => rfl); (case hg => rfl); (case hr => first | (go_simp; done) | (go_simp; rfl)); intro gb1 hg1 w1 hbox1 hb1; have B1 := Aside0.mk hbox1; have G1 := Aside0.mk (show w.heap.size ≤ gb1 by omega); have HB1 := Aside0.mk (below_step HB.out hb1); clear HB hb1 hbox1 hg1)
    | ((with_reducible refine gate_dst (N := 5) rfl ?_); refine box_event ?hg (N := 5) ?hd (cs := #[.string (⟨#[]⟩ : ByteArray), .int .i64 0]) (t := 25) ?hr ?_; (case hd => rfl); (case hg => rfl); (case hr => first | (go_simp; done) | (go_simp; rfl)); intro gb2 hg2 w2 hbox2 hb2; have B1' := Aside0.mk (blk_below B1.out hb2); have NE := Aside0.mk (show gb1 ≠ gb2 by have := blk_lt B1.out; omega); have B2 := Aside0.mk hbox2; have G2 := Aside0.mk (show w.heap.size ≤ gb2 by have := HB1.out.size; omega); have HB2 := Aside0.mk (below_step HB1.out hb2); clear B1 HB1 hb2 hbox2 hg2; have za0 : w2.cell? ⟨gb1, 0, none⟩ = some (.string s) := (blk_cell B1'.out 0).trans rfl; have za1 : w2.cell? ⟨gb1, 1, none⟩ = some (.int .i64 u) := (blk_cell B1'.out 1).trans rfl; have zb0 : w2.cell? ⟨gb2, 0, none⟩ = some (.string (⟨#[]⟩ : ByteArray)) := (blk_cell B2.out 0).trans rfl; have zb1 : w2.cell? ⟨gb2, 1, none⟩ = some (.int .i64 0) := (blk_cell B2.out 1).trans rfl; have zf0 := blk_frozen B2.out 0; have zf1 := blk_frozen B2.out 1))
  refine bodyPost_ret (results_list (rs := [.tmp 4, .cell 5 25, .tmp 6]) rfl (by simp) (.tmp (.cell gb2 25 #[.string (⟨#[]⟩ : ByteArray), .int .i64 0] (0, 0) _ rfl (blk_put (cs := #[.string (⟨#[]⟩ : ByteArray), .int .i64 0]) (blk_put (cs := #[.string (⟨#[]⟩ : ByteArray), .int .i64 0]) B2.out 0 _ rfl) 1 _ rfl) Try.underlying25 rfl (by kernel_rfl) (.tmp .nil)))) rfl ?_
  exact ⟨_, rfl, Kd.V_nil _ _ _ _ _, below_set (below_set HB2.out G2.out) G2.out⟩
set_option maxHeartbeats 1000000 in
set_option maxRecDepth 100000 in
theorem tape_Tape_Take.more (s : ByteArray) (u n : Int) (w : World) (h0 : ¬ n < 0) (h1 : n > wrap64 ((s.size : Int) - u)) :
    Calls Try.prog 13 #[.agg #[.string s, .int .i64 u], .int .i64 n] w fun e w' => ∃ v0_ : Value, e = .returned (.tuple #[v0_, .agg #[.string (⟨#[]⟩ : ByteArray), .int .i64 0], .int .i64 3]) ∧ Kd.V (Kd.int .u8) 5 w' w.heap.size (fun k_ => (w.heap.size ≤ k_)) v0_ [] ∧ Below w.heap.size w w' := by
  have hu25 := Try.underlying25
  obtain ⟨y, hy⟩ : ∃ y, wrap64 ((s.size : Int) - u) = y := ⟨_, rfl⟩
  rw [hy] at h1
  have c1 : decide (n < 0) = false := decide_eq_false h0
  have c2 : decide (n > y) = true := decide_eq_true h1
  clear h0 h1
  have HY := Aside0.mk hy
  clear hy
  have HB := Aside0.mk (Below.refl w.heap.size w)
  go_enter Try.func13, Try.ntmps13
  go_wp2_with (first
    | ((with_reducible refine gate_dst (N := 2) rfl ?_); refine box_event ?hg (N := 2) ?hd (cs := #[.string s, .int .i64 u]) (t := 25) ?hr ?_; (case hd => rfl); (case hg => rfl); (case hr => first | (go_simp; done) | (go_simp; rfl)); intro gb1 hg1 w1 hbox1 hb1; have B1 := Aside0.mk hbox1; have G1 := Aside0.mk (show w.heap.size ≤ gb1 by omega); have HB1 := Aside0.mk (below_step HB.out hb1); clear HB hb1 hbox1 hg1)
    | ((with_reducible refine gate_dst (N := 5) rfl ?_); refine box_event ?hg (N := 5) ?hd (cs := #[.string (⟨#[]⟩ : ByteArray), .int .i64 0]) (t := 25) ?hr ?_; (case hd => rfl); (case hg => rfl); (case hr => first | (go_simp; done) | (go_simp; rfl)); intro gb2 hg2 w2 hbox2 hb2; have B1' := Aside0.mk (blk_below B1.out hb2); have NE := Aside0.mk (show gb1 ≠ gb2 by have := blk_lt B1.out; omega); have B2 := Aside0.mk hbox2; have G2 := Aside0.mk (show w.heap.size ≤ gb2 by have := HB1.out.size; omega); have HB2 := Aside0.mk (below_step HB1.out hb2); clear B1 HB1 hb2 hbox2 hg2; have za0 : w2.cell? ⟨gb1, 0, none⟩ = some (.string s) := (blk_cell B1'.out 0).trans rfl; have za1 : w2.cell? ⟨gb1, 1, none⟩ = some (.int .i64 u) := (blk_cell B1'.out 1).trans rfl; have zb0 : w2.cell? ⟨gb2, 0, none⟩ = some (.string (⟨#[]⟩ : ByteArray)) := (blk_cell B2.out 0).trans rfl; have zb1 : w2.cell? ⟨gb2, 1, none⟩ = some (.int .i64 0) := (blk_cell B2.out 1).trans rfl; have zf0 := blk_frozen B2.out 0; have zf1 := blk_frozen B2.out 1)
    | (go_at_call 15; refine (tape_Tape_Left.calls s u y _ (by unfold tape_Tape_Left.f; rw [HY.out])).mono ?_; rintro e w3 ⟨rfl, hb3⟩; have B3 := Aside0.mk (blk_below B1'.out hb3); have B4 := Aside0.mk (blk_below B2.out hb3); have HB3 := Aside0.mk (below_step HB2.out hb3); clear za0 za1 hb3 B1' B2 HB2; have za0 : w3.cell? ⟨gb1, 0, none⟩ = some (.string s) := (blk_cell B3.out 0).trans rfl; have za1 : w3.cell? ⟨gb1, 1, none⟩ = some (.int .i64 u) := (blk_cell B3.out 1).trans rfl; clear zb0 zb1 zf0 zf1; have zb0 : w3.cell? ⟨gb2, 0, none⟩ = some (.string (⟨#[]⟩ : ByteArray)) := (blk_cell B4.out 0).trans rfl; have zb1 : w3.cell? ⟨gb2, 1, none⟩ = some (.int .i64 0) := (blk_cell B4.out 1).trans rfl; have zf0 := blk_frozen B4.out 0; have zf1 := blk_frozen B4.out 1))
  refine bodyPost_ret (results_list (rs := [.tmp 4, .cell 5 25, .tmp 6]) rfl (by simp) (.tmp (.cell gb2 25 #[.string (⟨#[]⟩ : ByteArray), .int .i64 0] (0, 0) _ rfl (blk_put (cs := #[.string (⟨#[]⟩ : ByteArray), .int .i64 0]) (blk_put (cs := #[.string (⟨#[]⟩ : ByteArray), .int .i64 0]) B4.out 0 _ rfl) 1 _ rfl) Try.underlying25 rfl (by kernel_rfl) (.tmp .nil)))) rfl ?_
  exact ⟨_, rfl, Kd.V_nil _ _ _ _ _, below_set (below_set HB3.out G2.out) G2.out⟩
theorem tape_Tape_Take.calls (a0_0 : ByteArray) (a0_1 : Int) (a1 : Int) (r1 : List Int) (r2 : ByteArray) (r3 : Int) (r4 : Int) (w : World) (h : tape_Tape_Take.f a0_0 a0_1 a1 = some (r1, r2, r3, r4)) :
    Calls Try.prog 13 #[.agg #[.string a0_0, .int .i64 a0_1], .int .i64 a1] w fun e w' => ∃ v0_ : Value, e = .returned (.tuple #[v0_, .agg #[.string r2, .int .i64 r3], .int .i64 r4]) ∧ Kd.V (Kd.int .u8) 5 w' w.heap.size (fun k_ => (w.heap.size ≤ k_)) v0_ r1 ∧ Below w.heap.size w w' := by
  unfold tape_Tape_Take.f at h
  by_cases h0 : a1 < 0
  · rw [if_pos h0] at h
    simp only [Option.some.injEq, Prod.mk.injEq] at h
    obtain ⟨rfl, rfl, rfl, rfl⟩ := h
    exact tape_Tape_Take.neg a0_0 a0_1 a1 w h0
  · rw [if_neg h0] at h
    by_cases h1 : a1 > wrap64 ((a0_0.size : Int) - a0_1)
    · rw [if_pos h1] at h
      simp only [Option.some.injEq, Prod.mk.injEq] at h
      obtain ⟨rfl, rfl, rfl, rfl⟩ := h
      exact tape_Tape_Take.more a0_0 a0_1 a1 w h0 h1
    · rw [if_neg h1] at h
      by_cases h2 : 0 ≤ a0_1 ∧ a0_1 ≤ wrap64 (a0_1 + a1) ∧ wrap64 (a0_1 + a1) ≤ (a0_0.size : Int)
      · rw [if_pos h2] at h
        simp only [Option.some.injEq, Prod.mk.injEq] at h
        obtain ⟨rfl, rfl, rfl, rfl⟩ := h
        exact tape_Tape_Take.good a0_0 a0_1 a1 w (by omega) (by omega) h2.1 h2.2.1 h2.2.2
      · rw [if_neg h2] at h
        exact absurd h (by simp)

/-! ### tape_Tape_Used: function 16 -/
def tape_Tape_Used.f (a0_0 : ByteArray) (a0_1 : Int) : Option (Int) := some a0_1
set_option maxHeartbeats 8000000 in
set_option maxRecDepth 100000 in
theorem tape_Tape_Used.calls (a0_0 : ByteArray) (a0_1 : Int) (r : Int) (w : World) (h : tape_Tape_Used.f a0_0 a0_1 = some r) :
    Calls Try.prog 16 #[.agg #[.string a0_0, .int .i64 a0_1]] w fun e w' => e = .returned (.int .i64 r) ∧ Below w.heap.size w w' := by
  have hu25 := Try.underlying25
  have HB := Aside0.mk (Below.refl w.heap.size w)
  have H : (some a0_1) = some r := h
  clear h
  obtain rfl := Option.some.inj H
  simp only [Option.some.injEq, Prod.mk.injEq] at H
  obtain ⟨rfl⟩ := H
  go_enter Try.func16, Try.ntmps16
  go_wp2_with (first | ((with_reducible refine gate_dst (N := 1) rfl ?_); refine box_event ?hg (N := 1) ?hd (cs := #[.string a0_0, .int .i64 a0_1]) (t := 25) ?hr ?_; (case hd => rfl); (case hg => rfl); (case hr => first | (go_simp; done) | (go_simp; rfl)); intro gb103 hg w2 hbox hb; have n0_ := Aside0.mk (below_step (by repeat (first | (with_reducible first | exact HB.out | apply below_alloc | apply pw_below_drewN | apply below_drew1) | exact HB.out)) hb); have n1_ := Aside0.mk (hbox); have n2_ := Aside0.mk ((by rw [hg]; exact (below_size (by repeat (first | (with_reducible first | exact HB.out | apply below_alloc | apply pw_below_drewN | apply below_drew1) | exact HB.out))) : w.heap.size ≤ gb103)); have n3_ := Aside0.mk ((by rw [hg]; exact (below_size (by repeat (first | (with_reducible first | exact HB.out | apply below_alloc | apply pw_below_drewN | apply below_drew1) | exact HB.out))) : w.heap.size ≤ gb103)); clear HB; have HB := n0_; have BK103 := n1_; have GW103 := n2_; have GE103 := n3_; clear n0_ n1_ n2_ n3_; clear hb hbox hg; have hcz3_0 : w2.cell? ⟨gb103, 0, none⟩ = some (.string a0_0) := (blk_cell BK103.out 0).trans rfl; have hcz3_1 : w2.cell? ⟨gb103, 1, none⟩ = some (.int .i64 a0_1) := (blk_cell BK103.out 1).trans rfl; have hfz3_0 := blk_frozen BK103.out 0; have hfz3_1 := blk_frozen BK103.out 1))
  go_ret
  exact ⟨by first | rfl | (simp [errW_none, errW_some] <;> rfl) | (simp [*, errW_none, errW_some] <;> rfl), by repeat (first | (with_reducible first | exact HB.out | apply below_alloc | apply pw_below_drewN | apply below_drew1 | refine below_set ?_ GE103.out) | exact HB.out)⟩

end Go.Proofs.Ytangepklgeikkaa.Q
