/- Functions of the program as plain Lean functions, each with a proof that its call comes to just these answers, or the row that joins them to the given statement; no condition beside the statement's own. Written for this claim by pf.py, this session's program over the kit's print. -/
import Derived.Test.YtangepklgeikkaaQx0
import Derived.Test.YtangepklgeikkaaQx1
import Derived.Test.YtangepklgeikkaaQx2
import Derived.Test.YtangepklgeikkaaQx3
import Derived.Test.YtangepklgeikkaaQx4
namespace Go.Proofs.Ytangepklgeikkaa.Q
open Go.RowKit Go.Proofs.YtangepklgeikkaaW.PrintWords Go.Proofs.YtangepklgeikkaaW.PrintLast Go.Proofs.YtangepklgeikkaaW.PrintMore
attribute [local go_sem] max2_int min2_int max_two min_two max_three min_three max_four min_four   -- for this text's walks alone
set_option linter.unusedVariables false
set_option linter.unusedSimpArgs false

/-! ### churnlaw09_TapeJoins: function 4 -/
/- own text -/
section
open Go.Proofs.Ytangepklgeikkaa.Pl
/-- A row of bytes in a block that bears a mark behind its cells. -/
structure Mkd (W : World) (base g n c : Nat) (xs : List Int) : Prop where
  blk : ∃ cells : Array Value, W.heap[g]? = some (.cells cells 5 (cells.size, cells.size + 1)) ∧ cells.size = c
  reads : Kd.C (Kd.int .u8) W (some ⟨g, 0, none⟩) n xs
  cap : n ≤ c
  lo : base ≤ g
section
variable {P : Program} {W W1 : World} {base g n c : Nat} {xs : List Int}
theorem cell_any {w : World} {g : Nat} {t : TypeId} {cs : Array Value} {z : Nat × Nat} (h : w.heap[g]? = some (.cells cs t z)) (i : Nat) : w.cell? ⟨g, i, none⟩ = cs[i]? := cell_of_row w g i cs t z h
theorem Mkd.step (h : Mkd W base g n c xs) (hs : W1.heap[g]? = W.heap[g]?) : Mkd W1 base g n c xs := by
  obtain ⟨cells, hb, hc⟩ := h.blk
  refine ⟨⟨cells, hs.trans hb, hc⟩, ?_, h.cap, h.lo⟩
  exact Kd.F_now (Kd.F_step (Kd.F_block h.reads) (fun k hk _ => by subst hk; exact hs))
theorem Mkd.lt (h : Mkd W base g n c xs) : g < W.heap.size := by
  obtain ⟨cells, hb, -⟩ := h.blk
  exact (Array.getElem?_eq_some_iff.1 hb).1
theorem Mkd.cell (h : Mkd W base g n c xs) (j : Nat) (hj : j < n) : W.cell? ⟨g, j, none⟩ = some (.int .u8 (xs.getD j 0)) ∧ W.frozen? ⟨g, j, none⟩ = false := by
  obtain ⟨cells, hb, hc⟩ := h.blk
  obtain ⟨ad, e, hr⟩ := (Kd.reads_of_C (enc := Value.int .u8) (d := (0 : Int)) (h1 := fun _ => rfl) h.reads).2.2 (by omega)
  injection e with e
  subst e
  have h1 := hr j (by omega)
  rw [show ((⟨g, 0, none⟩ : Addr).add j) = ⟨g, j, none⟩ from by simp [Addr.add]; omega] at h1
  refine ⟨h1, ?_⟩
  have := h.cap
  simp [World.frozen?, hb]
  omega
/-- A store into it. -/
theorem Mkd.put (h : Mkd W base g n c xs) (j : Nat) (hj : j < n) (z : Int) : Mkd (W.setCell ⟨g, j, none⟩ (.int .u8 z)) base g n c (xs.set j z) := by
  obtain ⟨cells, hb, hc⟩ := h.blk
  have hn : xs.length = n := h.reads.1
  have hcap := h.cap
  have hb2 : (W.setCell ⟨g, j, none⟩ (.int .u8 z)).heap[g]? = some (.cells (cells.setIfInBounds j (.int .u8 z)) 5 (cells.size, cells.size + 1)) := by
    simp [World.setCell, Array.getElem?_modify, hb]
  refine ⟨⟨cells.setIfInBounds j (.int .u8 z), by rw [hb2, Array.size_setIfInBounds], by rw [Array.size_setIfInBounds]; exact hc⟩, ?_, hcap, h.lo⟩
  refine Kd.C_of_reads (d := (0 : Int)) ⟨by rw [List.length_set]; exact hn, h.reads.2.1, fun _ => ⟨_, rfl, fun i hi => ?_⟩⟩
  rw [show ((⟨g, 0, none⟩ : Addr).add i) = ⟨g, i, none⟩ from by simp [Addr.add]; omega, cell_any hb2 i]
  have h0 := (h.cell i hi).1
  rw [cell_any hb i] at h0
  rw [Array.getElem?_setIfInBounds]
  by_cases e : j = i
  · subst e
    rw [if_pos rfl, if_pos (by omega)]
    simp [List.getD_eq_getElem?_getD, List.getElem?_set_self (show j < xs.length by omega)]
  · rw [if_neg e, h0]
    simp [List.getD_eq_getElem?_getD, List.getElem?_set_ne e]
/-- An append to a marked row. -/
theorem run_app_mark (t ty e : TypeId) (bytes : Nat) (ht : P.underlying t = some (.slice e)) (hinfo : (P.info? e).map (fun i => (i.zero, i.size, i.bytes)) = some (some (.int .u8 0), 1, bytes)) (hb0 : 0 < bytes)
    (h : Mkd W base g n c xs) (ys : List Int) (A : Option Addr) (m cy : Nat) (HR : Kd.C (Kd.int .u8) W A m ys) (hl : (n + m) * bytes ≤ 140737488355328) :
    ∃ (A1 : Option Addr) (c1 : Nat) (w1 : World), (Builtin.append_ #[t, t] ty #[.slice (some ⟨g, 0, none⟩) n c, .slice A m cy]).run P W = .ok (.slice A1 (n + m) c1) w1 ∧ n + m ≤ c1 ∧ Kd.C (Kd.int .u8) w1 A1 (n + m) (xs ++ ys) ∧ W.grownBy w1 (some g) := by
  obtain ⟨i0, hi, hzz⟩ := Option.map_eq_some_iff.1 hinfo
  simp only [Prod.mk.injEq] at hzz
  obtain ⟨hz0, hz1, hz2⟩ := hzz
  have hn : xs.length = n := h.reads.1
  have hm : ys.length = m := HR.1
  have hcap := h.cap
  have hlen : n + m ≤ 140737488355328 := Nat.le_trans (Nat.le_mul_of_pos_right _ hb0) hl
  rcases A with _ | ad
  · have h0 : m = 0 := by
      rcases Nat.eq_zero_or_pos m with h0 | h0
      · exact h0
      · obtain ⟨ad, e, _⟩ := HR.2.2 h0
        cases e
    subst h0
    obtain rfl : ys = [] := List.eq_nil_of_length_eq_zero hm
    refine ⟨_, c, W, ?_, by omega, by simpa using h.reads, World.grownBy.refl W _⟩
    simp [Builtin.append_, run_underlying ht, sizeOf, typeInfo, hi, Builtin.lenOf, Builtin.firstCells, hcap, storeCells]
  · obtain ⟨cells, hb, hc⟩ := h.blk
    have hR2 : ReadsOf (Value.int .u8) (0 : Int) W (some ad) m ys := Kd.reads_of_C HR
    have hel : (encs (Value.int .u8) ys).length = m := by simp [encs, hm]
    have hxl : (encs (Value.int .u8) xs).length = n := by simp [encs, hn]
    have hnews : ∀ j u, (encs (Value.int .u8) ys)[j]? = some u → W.cell? (ad.add j) = some u := by
      intro j u hu
      have hj : j < ys.length := by
        rcases Nat.lt_or_ge j ys.length with h | h
        · exact h
        · simp [encs, List.getElem?_eq_none h] at hu
      obtain ⟨ad', h', hc'⟩ := hR2.2.2 (by omega)
      injection h' with h'
      subst h'
      have := hc' j (by omega)
      simp [encs, List.getElem?_eq_getElem hj] at hu
      subst hu
      rw [this]
      simp [List.getD_eq_getElem?_getD, List.getElem?_eq_getElem hj]
    have hone : ∀ u ∈ encs (Value.int .u8) ys, u.oneCell' = true := by
      intro u hu
      simp only [encs, List.mem_map] at hu
      obtain ⟨q, _, rfl⟩ := hu
      rfl
    by_cases hroom : n + m ≤ c
    · have hcl : ∀ j, j < (encs (Value.int .u8) ys).length → (W.cell? ⟨g, 0 + n * i0.size + j, none⟩).isSome = true := by
        intro j hj
        rw [cell_any hb, hz1]
        rw [hel] at hj
        simp
        omega
      have hfl : ∀ j, j < (encs (Value.int .u8) ys).length → W.frozen? ⟨g, 0 + n * i0.size + j, none⟩ = false := by
        intro j hj
        rw [hel] at hj
        simp [World.frozen?, hb, hz1]
        omega
      have hr := run_append_room_cells (P := P) W t ty e i0 ht hi g 0 n c ad m cy (encs (Value.int .u8) ys) (by rw [hel, hz1]; omega) hnews hone hroom hcl hfl
      refine ⟨_, c, _, hr, hroom, ?_, ?_⟩
      · refine Kd.C_of_reads (d := (0 : Int)) ⟨by simp [hn, hm], by omega, fun _ => ⟨_, rfl, fun j hj => ?_⟩⟩
        rw [show ((⟨g, 0, none⟩ : Addr).add j) = ⟨g, j, none⟩ from by simp [Addr.add]; omega]
        by_cases hjn : j < n
        · rw [World.cell?_setCells_out g _ _ _ _ (fun _ _ => .inl (by simp only [hz1]; omega)), (h.cell j hjn).1]
          simp [List.getD_eq_getElem?_getD, List.getElem?_append_left (show j < xs.length by omega)]
        · have := World.cell?_setCells_in g (encs (Value.int .u8) ys) (0 + n * i0.size) W hcl (j - n) (by rw [hel]; omega)
          rw [show 0 + n * i0.size + (j - n) = j from by rw [hz1]; omega] at this
          rw [this]
          have hjy : j - n < ys.length := by omega
          simp [encs, List.getD_eq_getElem?_getD, List.getElem?_append_right (show xs.length ≤ j by omega), hn, List.getElem?_eq_getElem hjy]
      · have kb := World.keptBut_setCells g (may := fun p => p.block = g) (encs (Value.int .u8) ys) (0 + n * i0.size) W (fun _ _ => rfl)
        refine ⟨World.os_setCells _ _ _ _, ?_, World.output_setCells _ _ _ _, ?_, fun k hk hne => World.heap_setCells_other _ _ _ _ hk (fun e => hne (by rw [e]))⟩
        · have : ∀ (vs : List Value) (o : Nat) (w : World), (w.setCells g o vs).tape = w.tape := by
            intro vs
            induction vs with
            | nil => intro o w; rfl
            | cons v r ih => intro o w; rw [World.setCells, ih]; simp
          exact this _ _ _
        · have : ∀ (vs : List Value) (o : Nat) (w : World), (w.setCells g o vs).heap.size = w.heap.size := by
            intro vs
            induction vs with
            | nil => intro o w; rfl
            | cons v r ih => intro o w; rw [World.setCells, ih]; simp
          rw [this]
          exact Nat.le_refl _
    · obtain ⟨v', w', hr, hown, hg⟩ := run_append_arg_grows (P := P) W t ty e i0 (.int .u8 0) 1 bytes ht hi hz0 hz1 hz2 rfl (by omega) ⟨g, 0, none⟩ n c (encs (Value.int .u8) xs) (by rw [hxl]; omega)
        (fun j u hu => by
          have hj : j < xs.length := by
            rcases Nat.lt_or_ge j xs.length with h | h
            · exact h
            · simp [encs, List.getElem?_eq_none h] at hu
          rw [show ((⟨g, 0, none⟩ : Addr).add j) = ⟨g, j, none⟩ from by simp [Addr.add]; omega, (h.cell j (by omega)).1]
          simp [encs, List.getElem?_eq_getElem hj] at hu
          subst hu
          simp [List.getD_eq_getElem?_getD, List.getElem?_eq_getElem hj])
        ad m cy (encs (Value.int .u8) ys) (by rw [hel]; omega) hnews (by omega) (by simp only [maxLen]; omega) hl
      have hR : Kd.R (Kd.int .u8) e w' W.heap.size (fun _ => True) v' (xs ++ ys) := Kd.R_of_own (by simpa [encs, hn, hm] using hown) (fun _ _ => trivial)
      obtain ⟨A1, c1, rfl, hc1, hC1⟩ := Kd.R_reads hR
      have e1 : (xs ++ ys).length = n + m := by simp [hn, hm]
      rw [e1] at hr hc1 hC1
      exact ⟨A1, c1, w', hr, hc1, hC1, ⟨hg.os, hg.tape, hg.output, hg.size, fun k hk _ => hg.block k hk (by simp)⟩⟩
/-- The same in the walk. -/
theorem mark_app {ops : Array Oper} {rest : List Oper} {o : Oper} {a : Act} {Q : Exit → Act → World → Prop} (hgd : o.guard = none) (s x : Operand) (t e : TypeId) (bytes : Nat)
    (ho : o.op = .call { callee := .builtin .append, args := #[s, x], argTypes := #[t, t] })
    (ht : P.underlying t = some (.slice e)) (hinfo : (P.info? e).map (fun i => (i.zero, i.size, i.bytes)) = some (some (.int .u8 0), 1, bytes)) (hb0 : 0 < bytes)
    (h : Mkd W base g n c xs) (ys : List Int) (A : Option Addr) (m cy : Nat) (hs : a.eval s = .slice (some ⟨g, 0, none⟩) n c) (hx : a.eval x = .slice A m cy) (HR : Kd.C (Kd.int .u8) W A m ys) (hl : (n + m) * bytes ≤ 140737488355328)
    (hk : ∀ (A1 : Option Addr) (c1 : Nat) (w1 : World), n + m ≤ c1 → Kd.C (Kd.int .u8) w1 A1 (n + m) (xs ++ ys) → W.grownBy w1 (some g) → wpList P ops Q rest (a.put o.dst (.slice A1 (n + m) c1)) w1) : wpList P ops Q (o :: rest) a W := by
  refine wpList_plain hgd fun K hK => ?_
  obtain ⟨A1, c1, w1, hr, h1, h2, h3⟩ := run_app_mark (P := P) t o.type e bytes ht hinfo hb0 h ys A m cy HR hl
  unfold Oper.wp execOp
  simp only [ho, resolve, invoke, builtin, Sem.run_bind, Sem.run_pure, Result.andThen_ok, List.map_toArray, List.map_cons, List.map_nil, hs, hx, hr]
  exact hK _ _ (hk A1 c1 w1 h1 h2 h3)
end
set_option maxHeartbeats 1000000 in
set_option maxRecDepth 100000 in
theorem take_mark (s : ByteArray) (u n : Int) (w : World) (h0 : 0 ≤ n) (h1 : n ≤ wrap64 ((s.size : Int) - u)) (h2 : 0 ≤ u) (h3 : u ≤ wrap64 (u + n)) (h4 : wrap64 (u + n) ≤ (s.size : Int)) :
    Calls Try.prog 13 #[.agg #[.string s, .int .i64 u], .int .i64 n] w fun e w' => ∃ (g c : Nat), e = .returned (.tuple #[.slice (some ⟨g, 0, none⟩) (bytesOf (s.extract u.toNat (wrap64 (u + n)).toNat)).length c, .agg #[.string s, .int .i64 (wrap64 (u + n))], .int .i64 0]) ∧ Mkd w' w.heap.size g (bytesOf (s.extract u.toNat (wrap64 (u + n)).toNat)).length c (bytesOf (s.extract u.toNat (wrap64 (u + n)).toNat)) ∧ Below w.heap.size w w' := by
  have hu25 := Try.underlying25
  have c1 : decide (n < 0) = false := decide_eq_false (by omega)
  have c2 : decide (n > wrap64 ((s.size : Int) - u)) = false := decide_eq_false (by omega)
  have kb := fun (x : ByteArray) (W : World) => print_bytes (P := Try.prog) 9 27 5 Try.underlying9 Try.underlying27 Try.underlying5 x W
  obtain ⟨z, hz⟩ : ∃ z, wrap64 (u + n) = z := ⟨_, rfl⟩
  obtain ⟨y, hy⟩ : ∃ y, wrap64 ((s.size : Int) - u) = y := ⟨_, rfl⟩
  rw [hz] at h3 h4 ⊢
  rw [hy] at h1 c2
  have hz63 : z ≤ 9223372036854775807 := by rw [← hz]; unfold wrap64; omega
  have HZ := Aside0.mk hz63
  clear hz63
  have HB := Aside0.mk (Below.refl w.heap.size w)
  have H1 := Aside0.mk h1
  clear h1
  go_enter Try.func13, Try.ntmps13
  go_wp2_with (first
    | ((with_reducible refine gate_dst (N := 2) rfl ?_); refine box_event ?hg (N := 2) ?hd (cs := #[.string s, .int .i64 u]) (t := 25) ?hr ?_; (case hd => rfl); (case hg => rfl); (case hr => first | (go_simp; done) | (go_simp; rfl)); intro gb1 hg1 w1 hbox1 hb1; have B1 := Aside0.mk hbox1; have G1 := Aside0.mk (show w.heap.size ≤ gb1 by omega); have HB1 := Aside0.mk (below_step HB.out hb1); clear HB hb1 hbox1 hg1)
    | ((with_reducible refine gate_dst (N := 5) rfl ?_); refine box_event ?hg (N := 5) ?hd (cs := #[.string (⟨#[]⟩ : ByteArray), .int .i64 0]) (t := 25) ?hr ?_; (case hd => rfl); (case hg => rfl); (case hr => first | (go_simp; done) | (go_simp; rfl)); intro gb2 hg2 w2 hbox2 hb2; have B1' := Aside0.mk (blk_below B1.out hb2); have NE := Aside0.mk (show gb1 ≠ gb2 by have := blk_lt B1.out; omega); have B2 := Aside0.mk hbox2; have G2 := Aside0.mk (show w.heap.size ≤ gb2 by have := HB1.out.size; omega); have HB2 := Aside0.mk (below_step HB1.out hb2); clear B1 HB1 hb2 hbox2 hg2; have za0 : w2.cell? ⟨gb1, 0, none⟩ = some (.string s) := (blk_cell B1'.out 0).trans rfl; have za1 : w2.cell? ⟨gb1, 1, none⟩ = some (.int .i64 u) := (blk_cell B1'.out 1).trans rfl)
    | (go_at_call 15; refine (tape_Tape_Left.calls s u y _ (by unfold tape_Tape_Left.f; rw [hy])).mono ?_; rintro e w3 ⟨rfl, hb3⟩; have B3 := Aside0.mk (blk_below B1'.out hb3); have B4 := Aside0.mk (blk_below B2.out hb3); have HB3 := Aside0.mk (below_step HB2.out hb3); clear za0 za1 hb3 B1' B2 HB2; have za0 : w3.cell? ⟨gb1, 0, none⟩ = some (.string s) := (blk_cell B3.out 0).trans rfl; have za1 : w3.cell? ⟨gb1, 1, none⟩ = some (.int .i64 u) := (blk_cell B3.out 1).trans rfl))
  have hzw : IntKind.i64.wrap (u + n) = z := (i64_w _).trans hz
  have hfz := blk_frozen B4.out 0
  have hfz1 := blk_frozen B4.out 1
  have hlt := blk_lt B3.out
  have hlt2 := blk_lt B4.out
  have zb0 : w3.cell? ⟨gb2, 0, none⟩ = some (.string (⟨#[]⟩ : ByteArray)) := (blk_cell B4.out 0).trans rfl
  have zb1 : w3.cell? ⟨gb2, 1, none⟩ = some (.int .i64 0) := (blk_cell B4.out 1).trans rfl
  have k0 := (Lib.bytesWorld_old w3.drew 5 (s.extract u.toNat z.toNat) ⟨gb1, 0, none⟩ hlt).trans za0
  have k1 := (Lib.bytesWorld_old w3.drew 5 (s.extract u.toNat z.toNat) ⟨gb1, 1, none⟩ hlt).trans za1
  have k2 := (Lib.bytesWorld_old w3.drew 5 (s.extract u.toNat z.toNat) ⟨gb2, 0, none⟩ hlt2).trans zb0
  have k3 := (Lib.bytesWorld_old w3.drew 5 (s.extract u.toNat z.toNat) ⟨gb2, 1, none⟩ hlt2).trans zb1
  have f2 : (Lib.bytesWorld w3.drew 5 (s.extract u.toNat z.toNat)).frozen? ⟨gb2, 0, none⟩ = false := by
    have := Lib.bytesWorld_at_old w3.drew 5 (s.extract u.toNat z.toNat) gb2 hlt2
    rw [← hfz]; unfold World.frozen?; rw [this]; rfl
  have f3 : (Lib.bytesWorld w3.drew 5 (s.extract u.toNat z.toNat)).frozen? ⟨gb2, 1, none⟩ = false := by
    have := Lib.bytesWorld_at_old w3.drew 5 (s.extract u.toNat z.toNat) gb2 hlt2
    rw [← hfz1]; unfold World.frozen?; rw [this]; rfl
  go_region
  go_wp2
  have hne := NE.out
  have hsz : z.toNat - u.toNat = (bytesOf (s.extract u.toNat z.toNat)).length := by rw [bytesOf_length]; simp; omega
  have hnew : (Lib.bytesWorld w3.drew 5 (s.extract u.toNat z.toNat)).heap[gb2]? = some (.cells #[.string (⟨#[]⟩ : ByteArray), .int .i64 0] 25 (0, 0)) := (Lib.bytesWorld_at_old w3.drew 5 _ gb2 hlt2).trans B4.out
  have hw3 : w.heap.size ≤ w3.heap.size := HB3.out.size
  have hbl : Below w.heap.size w (Lib.bytesWorld w3.drew 5 (s.extract u.toNat z.toNat)) := bytes_below (below_drew HB3.out) hw3 5 _
  refine bodyPost_ret (results_list (rs := [.tmp 4, .cell 5 25, .tmp 6]) rfl (by simp) (.tmp (.cell gb2 25 #[.string s, .int .i64 z] (0, 0) _ rfl (blk_put (cs := #[.string s, .int .i64 0]) (blk_put (cs := #[.string (⟨#[]⟩ : ByteArray), .int .i64 0]) hnew 0 _ rfl) 1 _ rfl) Try.underlying25 rfl (by kernel_rfl) (.tmp .nil)))) rfl ?_
  refine ⟨w3.heap.size, grownCap w3.drew (z.toNat - u.toNat) 0 5, by rw [← hsz]; rfl, ?_, below_set (below_set hbl G2.out) G2.out⟩
  have hne3 : w3.heap.size ≠ gb2 := by omega
  have hr := bytes_reads w3.drew 5 (s.extract u.toNat z.toNat) (by have := HZ.out; simp; omega)
  have hC : (Kd.int .u8).C (Lib.bytesWorld w3.drew 5 (s.extract u.toNat z.toNat)) (some ⟨w3.heap.size, 0, none⟩) (bytesOf (s.extract u.toNat z.toNat)).length (bytesOf (s.extract u.toNat z.toNat)) := by
    rw [bytesOf_length]
    exact Kd.C_of_reads (d := (0 : Int)) (h1 := fun _ => rfl) hr
  have hge := grownCap_ge w3.drew (z.toNat - u.toNat) 0 5
  have hes : (s.extract u.toNat z.toNat).size = z.toNat - u.toNat := by rw [hsz, bytesOf_length]
  have hM : Mkd (Lib.bytesWorld w3.drew 5 (s.extract u.toNat z.toNat)) w.heap.size w3.heap.size (bytesOf (s.extract u.toNat z.toNat)).length (grownCap w3.drew (z.toNat - u.toNat) 0 5) (bytesOf (s.extract u.toNat z.toNat)) :=
    ⟨⟨_, Lib.bytesWorld_at_new w3.drew 5 _, by simp only [Lib.bytesCells, Array.size_append, Array.size_map, Array.size_replicate]; rw [show (s.extract u.toNat z.toNat).data.size = (s.extract u.toNat z.toNat).size from rfl, hes]; omega⟩, hC, by rw [← hsz]; exact hge, hw3⟩
  exact (hM.step (Below.heap_setCell _ ⟨gb2, 0, none⟩ _ _ hne3)).step (Below.heap_setCell _ ⟨gb2, 1, none⟩ _ _ hne3)
/-! ### tapes whose place is a natural number -/
def tv (S : ByteArray) (u : Nat) : Value := .agg #[.string S, .int .i64 (u : Int)]
theorem Mkd.below {W W1 : World} {base g n c : Nat} {xs : List Int} (h : Mkd W base g n c xs) (hb : Below W.heap.size W W1) : Mkd W1 base g n c xs := h.step (hb.block g h.lt)
theorem take_nat (S : ByteArray) (u n : Nat) (w : World) (h : u + n ≤ S.size) (hS : S.size ≤ 140737488351232) :
    Calls Try.prog 13 #[.agg #[.string S, .int .i64 (u : Int)], .int .i64 (n : Int)] w fun e w' => ∃ (g c : Nat), e = .returned (.tuple #[.slice (some ⟨g, 0, none⟩) n c, .agg #[.string S, .int .i64 ((u + n : Nat) : Int)], .int .i64 0]) ∧ Mkd w' w.heap.size g n c (bytesOf (S.extract u (u + n))) ∧ Below w.heap.size w w' := by
  have e1 : wrap64 ((S.size : Int) - (u : Int)) = (S.size : Int) - u := w64 (by omega) (by omega)
  have e2 : wrap64 ((u : Int) + (n : Int)) = ((u + n : Nat) : Int) := by rw [w64 (by omega) (by omega)]; omega
  have h0 := take_mark S (u : Int) (n : Int) w (by omega) (by rw [e1]; omega) (by omega) (by rw [e2]; omega) (by rw [e2]; omega)
  rw [e2] at h0
  simp only [Int.toNat_natCast] at h0
  have hl : (bytesOf (S.extract u (u + n))).length = n := by rw [bytesOf_length]; simp; omega
  rw [hl] at h0
  exact h0
theorem take_short (S : ByteArray) (u n : Nat) (w : World) (h : S.size < u + n) (hu : u ≤ S.size) (hn : n ≤ 281474976702466) (hS : S.size ≤ 140737488351232) :
    Calls Try.prog 13 #[.agg #[.string S, .int .i64 (u : Int)], .int .i64 (n : Int)] w fun e w' => ∃ (A : Option Addr) (c : Nat), e = .returned (.tuple #[.slice A 0 c, .agg #[.string (⟨#[]⟩ : ByteArray), .int .i64 0], .int .i64 3]) ∧ Below w.heap.size w w' := by
  have e1 : wrap64 ((S.size : Int) - (u : Int)) = (S.size : Int) - u := w64 (by omega) (by omega)
  refine (tape_Tape_Take.more S (u : Int) (n : Int) w (by omega) (by rw [e1]; omega)).mono ?_
  rintro e w' ⟨v, rfl, ⟨A, c, rfl, -, -⟩, hb⟩
  exact ⟨A, c, rfl, hb⟩
theorem byte_nat (S : ByteArray) (u : Nat) (w : World) (h : u < S.size) (hS : S.size ≤ 140737488351232) :
    Calls Try.prog 11 #[.agg #[.string S, .int .i64 (u : Int)]] w fun e w' => e = .returned (.tuple #[.int .u8 (bt S (u : Int)), .agg #[.string S, .int .i64 ((u + 1 : Nat) : Int)], .int .i64 0]) ∧ Below w.heap.size w w' := by
  have e1 : wrap64 ((S.size : Int) - (u : Int)) = (S.size : Int) - u := w64 (by omega) (by omega)
  have e2 : wrap64 ((u : Int) + 1) = ((u + 1 : Nat) : Int) := by rw [w64 (by omega) (by omega)]; omega
  have h0 := tape_Tape_Byte.calls S (u : Int) (bt S (u : Int)) S ((u + 1 : Nat) : Int) 0 w (by
    unfold tape_Tape_Byte.f tape_Tape_Left.f
    rw [Option.bind_some, e1, if_neg (by omega), if_pos (by omega), if_pos (by omega), e2])
  exact h0
theorem left_nat (S : ByteArray) (u : Nat) (w : World) (h : u ≤ S.size) (hS : S.size ≤ 140737488351232) :
    Calls Try.prog 15 #[.agg #[.string S, .int .i64 (u : Int)]] w fun e w' => e = .returned (.int .i64 ((S.size : Int) - u)) ∧ Below w.heap.size w w' := by
  have e1 : wrap64 ((S.size : Int) - (u : Int)) = (S.size : Int) - u := w64 (by omega) (by omega)
  exact tape_Tape_Left.calls S (u : Int) _ w (by unfold tape_Tape_Left.f; rw [e1])
theorem used_nat (S : ByteArray) (u : Nat) (w : World) :
    Calls Try.prog 16 #[.agg #[.string S, .int .i64 (u : Int)]] w fun e w' => e = .returned (.int .i64 (u : Int)) ∧ Below w.heap.size w w' :=
  tape_Tape_Used.calls S (u : Int) _ w rfl
/-- Boxes that hold tapes. -/
def Held (W : World) (L : List (Nat × ByteArray × Nat)) : Prop := ∀ x ∈ L, W.heap[x.1]? = some (.cells #[.string x.2.1, .int .i64 (x.2.2 : Int)] 25 (0, 0))
section
variable {W W1 : World} {L : List (Nat × ByteArray × Nat)} {g u : Nat} {S : ByteArray}
theorem Held.below (h : Held W L) (hb : Below W.heap.size W W1) : Held W1 L := fun x hx => blk_below (h x hx) hb
theorem Held.add (h : Held W L) (S : ByteArray) (u : Nat) : Held (W.alloc (.cells #[.string S, .int .i64 (u : Int)] 25)) ((W.heap.size, S, u) :: L) := by
  intro x hx
  rcases List.mem_cons.1 hx with rfl | hx
  · exact blk_new _ _
  · exact blk_alloc (h x hx) _
theorem Held.at_ (h : Held W L) (hx : (g, S, u) ∈ L) : W.cell? ⟨g, 0, none⟩ = some (.string S) ∧ W.cell? ⟨g, 1, none⟩ = some (.int .i64 (u : Int)) :=
  ⟨(blk_cell (h _ hx) 0).trans rfl, (blk_cell (h _ hx) 1).trans rfl⟩
end
theorem place_calls (n : Int) (len p : Nat) (w : World) (h : churnlaw09_place.f n ((len : Int) + 1) = some (p : Int)) :
    Calls Try.prog 8 #[.int .i64 n, .int .i64 ((len : Int) + 1)] w fun e w' => e = .returned (.int .i64 (p : Int)) ∧ Below w.heap.size w w' := by
  refine (churnlaw09_place.calls n _ _ w h).mono ?_
  rintro e w' ⟨rfl, ⟨q, rfl⟩⟩
  exact ⟨rfl, pw_below_drewN (Below.refl _ _) q⟩
theorem take0 (S : ByteArray) (n : Nat) (z : Int) (hz : z = (n : Int)) (w : World) (h : n ≤ S.size) (hS : S.size ≤ 140737488351232) :
    Calls Try.prog 13 #[.agg #[.string S, .int .i64 0], .int .i64 z] w fun e w' => ∃ (g c : Nat), e = .returned (.tuple #[.slice (some ⟨g, 0, none⟩) n c, .agg #[.string S, .int .i64 z], .int .i64 0]) ∧ Mkd w' w.heap.size g n c (bytesOf (S.extract 0 n)) ∧ Below w.heap.size w w' := by
  subst hz
  have := take_nat S 0 n w (by omega) hS
  rw [Nat.zero_add] at this
  exact this
theorem short0 (S : ByteArray) (n : Nat) (z : Int) (hz : z = (n : Int)) (w : World) (h : S.size < n) (hn : n ≤ 281474976702466) (hS : S.size ≤ 140737488351232) :
    Calls Try.prog 13 #[.agg #[.string S, .int .i64 0], .int .i64 z] w fun e w' => ∃ (A : Option Addr) (c : Nat), e = .returned (.tuple #[.slice A 0 c, .agg #[.string (⟨#[]⟩ : ByteArray), .int .i64 0], .int .i64 3]) ∧ Below w.heap.size w w' := by
  subst hz
  exact take_short S 0 n w (by omega) (by omega) hn hS
theorem take_z (S : ByteArray) (u n : Nat) (z : Int) (hz : z = ((u + n : Nat) : Int)) (w : World) (h : u + n ≤ S.size) (hS : S.size ≤ 140737488351232) :
    Calls Try.prog 13 #[.agg #[.string S, .int .i64 (u : Int)], .int .i64 (n : Int)] w fun e w' => ∃ (g c : Nat), e = .returned (.tuple #[.slice (some ⟨g, 0, none⟩) n c, .agg #[.string S, .int .i64 z], .int .i64 0]) ∧ Mkd w' w.heap.size g n c (bytesOf (S.extract u (u + n))) ∧ Below w.heap.size w w' := by
  subst hz
  exact take_nat S u n w h hS
theorem left0 (S : ByteArray) (len : Nat) (w : World) (h : S.size = len) (hS : S.size ≤ 140737488351232) :
    Calls Try.prog 15 #[.agg #[.string S, .int .i64 0]] w fun e w' => e = .returned (.int .i64 (len : Int)) ∧ Below w.heap.size w w' := by
  have := left_nat S 0 w (by omega) hS
  subst h
  simpa using this
theorem left_z (S : ByteArray) (u : Nat) (z : Int) (hz : z = (u : Int)) (w : World) (h : u ≤ S.size) (hS : S.size ≤ 140737488351232) :
    Calls Try.prog 15 #[.agg #[.string S, .int .i64 z]] w fun e w' => e = .returned (.int .i64 ((S.size : Int) - z)) ∧ Below w.heap.size w w' := by
  subst hz
  exact left_nat S u w h hS
theorem used_z (S : ByteArray) (z : Int) (w : World) :
    Calls Try.prog 16 #[.agg #[.string S, .int .i64 z]] w fun e w' => e = .returned (.int .i64 z) ∧ Below w.heap.size w w' :=
  tape_Tape_Used.calls S z _ w rfl
/-- Boxes that hold tapes. -/
def Hd (W : World) (L : List (Nat × ByteArray × Int)) : Prop := ∀ x ∈ L, W.heap[x.1]? = some (.cells #[.string x.2.1, .int .i64 x.2.2] 25 (0, 0))
section
variable {W W1 : World} {L : List (Nat × ByteArray × Int)} {g : Nat} {u : Int} {S : ByteArray}
theorem Hd.below (h : Hd W L) (hb : Below W.heap.size W W1) : Hd W1 L := fun x hx => blk_below (h x hx) hb
theorem Hd.add (h : Hd W L) (S : ByteArray) (u : Int) : Hd (W.alloc (.cells #[.string S, .int .i64 u] 25)) ((W.heap.size, S, u) :: L) := by
  intro x hx
  rcases List.mem_cons.1 hx with rfl | hx
  · exact blk_new _ _
  · exact blk_alloc (h x hx) _
theorem Hd.at_ (h : Hd W L) (g : Nat) (S : ByteArray) (u : Int) (hx : (g, S, u) ∈ L) : W.cell? ⟨g, 0, none⟩ = some (.string S) ∧ W.cell? ⟨g, 1, none⟩ = some (.int .i64 u) :=
  ⟨(blk_cell (h _ hx) 0).trans rfl, (blk_cell (h _ hx) 1).trans rfl⟩
end
theorem bytes_at (S : ByteArray) (n i : Nat) (h : i < n) (hn : n ≤ S.size) : (bytesOf (S.extract 0 n)).getD i 0 = bt S (i : Int) := by
  have hi : i < (S.extract 0 n).size := by simp; omega
  have h2 : i < S.size := by omega
  have e1 : bytesOf (S.extract 0 n) = (bytesOf S).take n := by
    unfold bytesOf
    rw [← List.map_take]
    congr 1
    simp [ByteArray.data_extract]
  rw [e1, List.getD_eq_getElem?_getD, List.getElem?_take, if_pos h]
  simp [bytesOf, bt, h2]
  rfl
theorem byte_z (S : ByteArray) (u : Nat) (w : World) (h : u < S.size) (hS : S.size ≤ 140737488351232) :
    Calls Try.prog 11 #[.agg #[.string S, .int .i64 (u : Int)]] w fun e w' => e = .returned (.tuple #[.int .u8 (bt S (u : Int)), .agg #[.string S, .int .i64 ((u : Int) + 1)], .int .i64 0]) ∧ Below w.heap.size w w' :=
  byte_nat S u w h hS
/-- What the loop over single bytes holds. -/
structure TK (w W : World) (S : ByteArray) (gx gv ga gb gc ca cb cc pn pm : Nat) (i : Nat) : Prop where
  below : Below w.heap.size w W
  bx : W.heap[gx]? = some (.cells #[.string S, .int .i64 (i : Int)] 25 (0, 0))
  bv : W.heap[gv]? = some (.cells #[.string S, .int .i64 ((pn : Int) + (pm : Int))] 25 (0, 0))
  ma : ∃ lo, Mkd W lo ga pn ca (bytesOf (S.extract 0 pn)) ∧ w.heap.size ≤ lo
  mb : ∃ lo, Mkd W lo gb pm cb (bytesOf (S.extract pn (pn + pm)))
  mc : ∃ lo, Mkd W lo gc (pn + pm) cc (bytesOf (S.extract 0 (pn + pm)))
  wx : w.heap.size ≤ gx
  ne : gv < gx ∧ ga < gx ∧ gb < gx ∧ gc < gx
  na : ga < gb ∧ ga < gc ∧ ga < gv
section
variable {w W W1 : World} {S : ByteArray} {gx gv ga gb gc ca cb cc pn pm i : Nat}
theorem TK.next (h : TK w W S gx gv ga gb gc ca cb cc pn pm i) (hb : Below W.heap.size W W1) : TK w W1 S gx gv ga gb gc ca cb cc pn pm i := by
  obtain ⟨la, ma, ka⟩ := h.ma
  obtain ⟨lb, mb⟩ := h.mb
  obtain ⟨lc, mc⟩ := h.mc
  exact { h with below := below_step h.below hb, bx := blk_below h.bx hb, bv := blk_below h.bv hb, ma := ⟨la, ma.below hb, ka⟩, mb := ⟨lb, mb.below hb⟩, mc := ⟨lc, mc.below hb⟩ }
theorem TK.set (h : TK w W S gx gv ga gb gc ca cb cc pn pm i) (j : Nat) : TK w ((W.setCell ⟨gx, 0, none⟩ (.string S)).setCell ⟨gx, 1, none⟩ (.int .i64 (j : Int))) S gx gv ga gb gc ca cb cc pn pm j := by
  obtain ⟨la, ma, ka⟩ := h.ma
  obtain ⟨lb, mb⟩ := h.mb
  obtain ⟨lc, mc⟩ := h.mc
  obtain ⟨n1, n2, n3, n4⟩ := h.ne
  have far : ∀ b, b ≠ gx → ((W.setCell ⟨gx, 0, none⟩ (.string S)).setCell ⟨gx, 1, none⟩ (.int .i64 (j : Int))).heap[b]? = W.heap[b]? := fun b hb =>
    (Below.heap_setCell _ ⟨gx, 1, none⟩ _ b hb).trans (Below.heap_setCell _ ⟨gx, 0, none⟩ _ b hb)
  have b1 := blk_set h.bx 0 (.string S)
  have b2 := blk_set b1 1 (.int .i64 (j : Int))
  exact { h with below := (h.below.setCell h.wx _).setCell h.wx _, bx := b2, bv := (far gv (by omega)).trans h.bv, ma := ⟨la, ma.step (far ga (by omega)), ka⟩, mb := ⟨lb, mb.step (far gb (by omega))⟩, mc := ⟨lc, mc.step (far gc (by omega))⟩ }
end
theorem same9_calls (A0 : Option Addr) (c0 : Nat) (l0 : List Int) (A1 : Option Addr) (c1 : Nat) (l1 : List Int) (n : Nat) (w : World) (hr0 : Kd.C (Kd.int .u8) w A0 n l0 ∧ n ≤ c0) (hr1 : Kd.C (Kd.int .u8) w A1 n l1 ∧ n ≤ c1) (h : l0 = l1) :
    Calls Try.prog 10 #[.slice A0 n c0, .slice A1 n c1] w fun e w' => e = .returned (.bool true) ∧ Below w.heap.size w w' := by
  have e0 := hr0.1.1
  have e1 := hr1.1.1
  have := churnlaw09_same.calls A0 c0 l0 A1 c1 l1 true w (by rw [e0]; exact hr0.1) (by rw [e0]; exact hr0.2) (by rw [e1]; exact hr1.1) (by rw [e1]; exact hr1.2) (by subst h; simp [churnlaw09_same.f])
  rw [e0, e1] at this
  refine this.mono ?_
  rintro e w' ⟨rfl, ⟨q, rfl⟩⟩
  exact ⟨rfl, pw_below_drewN (Below.refl _ _) q⟩
theorem bytes_take (S : ByteArray) (a b : Nat) : bytesOf (S.extract a b) = ((bytesOf S).take b).drop a := by
  unfold bytesOf
  rw [← List.map_take, ← List.map_drop]
  congr 1
  simp [ByteArray.data_extract, List.drop_take]
theorem bytes_join (S : ByteArray) (a b : Nat) : bytesOf (S.extract 0 a) ++ bytesOf (S.extract a (a + b)) = bytesOf (S.extract 0 (a + b)) := by
  rw [bytes_take, bytes_take, bytes_take, List.drop_zero, List.drop_zero]
  have := List.take_append_drop a ((bytesOf S).take (a + b))
  rw [List.take_take, Nat.min_eq_left (by omega)] at this
  exact this
set_option maxHeartbeats 1000000 in
set_option maxRecDepth 100000 in
theorem joins_calls (A0 : Option Addr) (c0 : Nat) (l0 : List Int) (n m : Int) (pn pm : Nat) (S : ByteArray) (w : World) (hr0 : Kd.C (Kd.int .u8) w A0 l0.length l0) (hc0 : l0.length ≤ c0) (hS : tape_New.f l0 = some (S, 0)) (hsz : S.size = l0.length)
    (hn : churnlaw09_place.f n ((l0.length : Int) + 1) = some (pn : Int)) (hm : churnlaw09_place.f m ((l0.length : Int) + 1) = some (pm : Int)) (hpn : pn ≤ l0.length) (hpm : pm ≤ l0.length) (hlen : l0.length ≤ 140737488351232) :
    Calls Try.prog 4 #[.slice A0 l0.length c0, .int .i64 n, .int .i64 m] w fun e w' => e = .returned (.bool true) ∧ Below w.heap.size w w' := by
  have HR0 := Aside0.mk hr0
  have HC0 := Aside0.mk hc0
  have HS := Aside0.mk hS
  have HSZ := Aside0.mk hsz
  have HN := Aside0.mk hn
  have HM := Aside0.mk hm
  have HPN := Aside0.mk hpn
  have HPM := Aside0.mk hpm
  have HLEN := Aside0.mk hlen
  have HSL := Aside0.mk (show S.size ≤ 140737488351232 by omega)
  have b1 : (l0.length : Int) ≤ 140737488351232 := by omega
  clear hr0 hc0 hS hsz hn hm hpn hpm hlen
  have hu25 := Try.underlying25
  go_enter Try.func4, Try.ntmps4
  go_wp2_with (fail)
  with_reducible refine (churnlaw09_awake.calls true _ (by decide +kernel)).mono ?_
  rintro e w1 ⟨rfl, hb⟩
  have HB := Aside0.mk hb
  clear hb
  go_wp2_with (fail)
  with_reducible refine (tape_New.calls A0 c0 l0 S 0 w1 (Kd.C_below HR0.out HB.out) HC0.out HS.out).mono ?_
  rintro e w2 ⟨rfl, hb⟩
  have HB := Aside0.mk (below_step HB.out hb)
  clear hb
  obtain ⟨W3, hW3⟩ : ∃ W, W = w2.alloc (.cells #[.string S, .int .i64 0] 25) := ⟨_, rfl⟩
  have H := Aside0.mk (show Hd W3 [(w2.heap.size, S, 0)] from by rw [hW3]; exact Hd.add (fun x hx => by simp at hx) S 0)
  have HB := Aside0.mk (show Below w.heap.size w W3 from by rw [hW3]; exact below_alloc HB.out _)
  go_wp2_with (fail)
  rw [← hW3]
  clear hW3
  with_reducible refine (place_calls n l0.length pn W3 HN.out).mono ?_
  rintro e w4 ⟨rfl, hb⟩
  have HB := Aside0.mk (below_step HB.out hb)
  have H := Aside0.mk (H.out.below hb)
  clear hb
  go_wp2_with (fail)
  with_reducible refine (place_calls m l0.length pm w4 HM.out).mono ?_
  rintro e w5 ⟨rfl, hb⟩
  have HB := Aside0.mk (below_step HB.out hb)
  have H := Aside0.mk (H.out.below hb)
  clear hb
  obtain ⟨t0, t1⟩ := H.out.at_ w2.heap.size S 0 (by simp)
  go_wp2_with (fail)
  with_reducible refine (take0 S pn (pn : Int) rfl w5 (by have := HPN.out; have := HSZ.out; omega) HSL.out).mono ?_
  have LO5 := Aside0.mk HB.out.size
  rintro e w6 ⟨ga, ca, rfl, hma, hb⟩
  have HB := Aside0.mk (below_step HB.out hb)
  obtain ⟨W7, hW7⟩ : ∃ W, W = w6.alloc (.cells #[.string S, .int .i64 (pn : Int)] 25) := ⟨_, rfl⟩
  have hb7 : Below w6.heap.size w6 W7 := by rw [hW7]; exact below_alloc (Below.refl _ _) _
  have H := Aside0.mk (show Hd W7 [(w6.heap.size, S, (pn : Int)), (w2.heap.size, S, 0)] from by rw [hW7]; exact (H.out.below hb).add S pn)
  have HB := Aside0.mk (below_step HB.out hb7)
  have MA := Aside0.mk (hma.below hb7)
  clear hb hb7 hma t0 t1
  obtain ⟨t0, t1⟩ := H.out.at_ w2.heap.size S 0 (by simp)
  rw [hW7] at t0 t1
  go_wp2_with (fail)
  rw [← hW7] at *
  clear hW7
  with_reducible refine (left0 S l0.length W7 HSZ.out HSL.out).mono ?_
  rintro e w8 ⟨rfl, hb⟩
  have HB := Aside0.mk (below_step HB.out hb)
  have H := Aside0.mk (H.out.below hb)
  have MA := Aside0.mk (MA.out.below hb)
  clear hb t0 t1
  obtain ⟨t0, t1⟩ := H.out.at_ w2.heap.size S 0 (by simp)
  go_wp2_with (fail)
  with_reducible refine (used_z S 0 w8).mono ?_
  rintro e w9 ⟨rfl, hb⟩
  have HB := Aside0.mk (below_step HB.out hb)
  have H := Aside0.mk (H.out.below hb)
  have MA := Aside0.mk (MA.out.below hb)
  clear hb t0 t1
  obtain ⟨t0, t1⟩ := H.out.at_ w2.heap.size S 0 (by simp)
  obtain ⟨u0, u1⟩ := H.out.at_ w6.heap.size S pn (by simp)
  go_wp2_with (fail)
  have b2 : (pn : Int) ≤ 140737488351232 := by have := HPN.out; omega
  have b3 : (pm : Int) ≤ 140737488351232 := by have := HPM.out; omega
  have b4 : (0 : Int) ≤ (pn : Int) := Int.natCast_nonneg _
  have b5 : (0 : Int) ≤ (pm : Int) := Int.natCast_nonneg _
  by_cases hgood : pn + pm ≤ l0.length
  · have HGD := Aside0.mk hgood
    have b6 : (pn : Int) + (pm : Int) ≤ (l0.length : Int) := by omega
    have d1 : decide ((pn : Int) + (pm : Int) ≤ (l0.length : Int)) = true := decide_eq_true b6
    have hwr : IntKind.i64.wrap ((pn : Int) + (pm : Int)) = (pn : Int) + (pm : Int) := (i64_w _).trans (w64 (by omega) (by omega))
    have d2 : decide (IntKind.i64.wrap ((pn : Int) + (pm : Int)) ≤ (l0.length : Int)) = true := by rw [hwr]; exact d1
    clear hgood
    with_reducible refine (take_z S pn pm ((pn : Int) + (pm : Int)) (by omega) w9 (by have := HGD.out; have := HSZ.out; omega) HSL.out).mono ?_
    rintro e w10 ⟨gb, cb, rfl, hmb, hb⟩
    have hma9 := MA.out.lt
    have HB := Aside0.mk (below_step HB.out hb)
    obtain ⟨W11, hW11⟩ : ∃ W, W = w10.alloc (.cells #[.string S, .int .i64 ((pn : Int) + (pm : Int))] 25) := ⟨_, rfl⟩
    have hb11 : Below w10.heap.size w10 W11 := by rw [hW11]; exact below_alloc (Below.refl _ _) _
    have H := Aside0.mk (show Hd W11 [(w10.heap.size, S, (pn : Int) + (pm : Int)), (w6.heap.size, S, (pn : Int)), (w2.heap.size, S, 0)] from by rw [hW11]; exact (H.out.below hb).add S _)
    have HB := Aside0.mk (below_step HB.out hb11)
    have MA := Aside0.mk (MA.out.below (below_step hb hb11))
    have MB := Aside0.mk (hmb.below hb11)
    have gab := Aside0.mk (show ga < gb by have h1 := hma9; have h2 := hmb.lo; omega)
    have gbv := Aside0.mk hmb.lt
    clear hma9
    clear hb hb11 hmb t0 t1 u0 u1
    obtain ⟨t0, t1⟩ := H.out.at_ w2.heap.size S 0 (by simp)
    rw [hW11] at t0 t1
    go_wp2_with (fail)
    rw [← hW11] at *
    clear hW11
    with_reducible refine (take0 S (pn + pm) ((pn : Int) + (pm : Int)) (by omega) W11 (by have := HGD.out; have := HSZ.out; omega) HSL.out).mono ?_
    rintro e w12 ⟨gc, cc, rfl, hmc, hb⟩
    have gac := Aside0.mk (show ga < gc by have h1 := MA.out.lt; have h2 := hmc.lo; omega)
    have HB := Aside0.mk (below_step HB.out hb)
    obtain ⟨W13, hW13⟩ : ∃ W, W = w12.alloc (.cells #[.string S, .int .i64 ((pn : Int) + (pm : Int))] 25) := ⟨_, rfl⟩
    have hb13 : Below w12.heap.size w12 W13 := by rw [hW13]; exact below_alloc (Below.refl _ _) _
    have H := Aside0.mk (show Hd W13 [(w12.heap.size, S, (pn : Int) + (pm : Int)), (w10.heap.size, S, (pn : Int) + (pm : Int)), (w6.heap.size, S, (pn : Int)), (w2.heap.size, S, 0)] from by rw [hW13]; exact (H.out.below hb).add S _)
    have HB := Aside0.mk (below_step HB.out hb13)
    have MA := Aside0.mk (MA.out.below (below_step hb hb13))
    have MB := Aside0.mk (MB.out.below (below_step hb hb13))
    have MC := Aside0.mk (hmc.below hb13)
    clear hb hb13 hmc t0 t1
    go_wp2_with (fail)
    rw [← hW13] at *
    clear hW13
    obtain ⟨p0, p1⟩ := H.out.at_ w10.heap.size S ((pn : Int) + (pm : Int)) (by simp)
    obtain ⟨r0, r1⟩ := H.out.at_ w12.heap.size S ((pn : Int) + (pm : Int)) (by simp)
    have hd : Below W13.heap.size W13 W13.drew := below_drew (Below.refl _ _)
    have HB := Aside0.mk (below_step HB.out hd)
    have H := Aside0.mk (H.out.below hd)
    have MA := Aside0.mk (MA.out.below hd)
    have MB := Aside0.mk (MB.out.below hd)
    have MC := Aside0.mk (MC.out.below hd)
    clear hd
    go_region_held3 (fun W => W.cell? ⟨w10.heap.size, 0, none⟩ = some (.string S) ∧ W.cell? ⟨w10.heap.size, 1, none⟩ = some (.int .i64 ((pn : Int) + (pm : Int))) ∧ W.cell? ⟨w12.heap.size, 0, none⟩ = some (.string S) ∧ W.cell? ⟨w12.heap.size, 1, none⟩ = some (.int .i64 ((pn : Int) + (pm : Int)))) (first | exact ⟨p0, p1, r0, r1⟩ | go_keep)
      (first
        | ((go_at_call 15; go_loud (with_reducible refine (left_z S (pn + pm) ((pn : Int) + (pm : Int)) (by omega) _ (by have := HGD.out; have := HSZ.out; omega) HSL.out).mono ?_); rintro e wk ⟨rfl, hb⟩; (have HB := Aside0.mk (below_step HB.out hb)); (have H := Aside0.mk (H.out.below hb)); (have MA := Aside0.mk (MA.out.below hb)); (have MB := Aside0.mk (MB.out.below hb)); (have MC := Aside0.mk (MC.out.below hb)); clear hb p0 p1 r0 r1; obtain ⟨p0, p1⟩ := H.out.at_ w10.heap.size S ((pn : Int) + (pm : Int)) (by simp); obtain ⟨r0, r1⟩ := H.out.at_ w12.heap.size S ((pn : Int) + (pm : Int)) (by simp)))
        | ((go_at_call 16; go_loud (with_reducible refine (used_z S ((pn : Int) + (pm : Int)) _).mono ?_); rintro e wk ⟨rfl, hb⟩; (have HB := Aside0.mk (below_step HB.out hb)); (have H := Aside0.mk (H.out.below hb)); (have MA := Aside0.mk (MA.out.below hb)); (have MB := Aside0.mk (MB.out.below hb)); (have MC := Aside0.mk (MC.out.below hb)); clear hb p0 p1 r0 r1; obtain ⟨p0, p1⟩ := H.out.at_ w10.heap.size S ((pn : Int) + (pm : Int)) (by simp); obtain ⟨r0, r1⟩ := H.out.at_ w12.heap.size S ((pn : Int) + (pm : Int)) (by simp))))
    obtain ⟨W14, hW14⟩ : ∃ W, W = World.alloc wk (.cells #[.string S, .int .i64 0] 25) := ⟨_, rfl⟩
    have hb14 : Below wk.heap.size wk W14 := by rw [hW14]; exact below_alloc (Below.refl _ _) _
    have hv := H.out (w10.heap.size, S, (pn : Int) + (pm : Int)) (by simp)
    have T := Aside0.mk (show TK w W14 S wk.heap.size w10.heap.size ga gb gc ca cb cc pn pm 0 from
      { below := below_step HB.out hb14, bx := by rw [hW14]; exact blk_new _ _, bv := blk_below hv hb14, ma := ⟨_, MA.out.below hb14, LO5.out⟩, mb := ⟨_, MB.out.below hb14⟩, mc := ⟨_, MC.out.below hb14⟩, wx := HB.out.size, ne := ⟨blk_lt hv, MA.out.lt, MB.out.lt, MC.out.lt⟩, na := ⟨gab.out, gac.out, by have h1 := gab.out; have h2 := gbv.out; omega⟩ })
    obtain ⟨t0, t1⟩ := H.out.at_ w2.heap.size S 0 (by simp)
    clear hb14 hv
    go_wp2_with (fail)
    rw [← hW14]
    clear hW14 HB H MA MB MC t0 t1 p0 p1 r0 r1
    go_loopg [136] pn (fun gq v136 wq => ∃ (i : Nat), v136 = .int .i64 i ∧ Aside0 (i ≤ pn) ∧ Aside0 (pn - i ≤ gq) ∧ Aside0 (TK w wq S wk.heap.size w10.heap.size ga gb gc ca cb cc pn pm i))
    case atStart => exact ⟨0, rfl, ⟨Nat.zero_le _⟩, ⟨by omega⟩, T⟩
    case round =>
      clear T
      obtain ⟨i, rfl, HI, HG, T⟩ := hrel
      by_cases hlt : i < pn
      · have c1 : decide ((i : Int) < (pn : Int)) = true := decide_eq_true (by omega)
        have c2 : (0 : Int) ≤ (i : Int) := Int.natCast_nonneg i
        have c3 : (i : Int) < (pn : Int) := by omega
        have x0 := (blk_cell T.out.bx 0).trans rfl
        have x1 := (blk_cell T.out.bx 1).trans rfl
        have HLT := Aside0.mk hlt
        clear hlt
        go_wp2_with (fail)
        with_reducible refine (byte_z S i wr (by have := HLT.out; have := HPN.out; have := HSZ.out; omega) HSL.out).mono ?_
        rintro e w15 ⟨rfl, hb⟩
        have T := Aside0.mk (T.out.next hb)
        have lx := blk_lt T.out.bx
        have nz : w15.heap.size ≠ wk.heap.size := by omega
        have nz2 : wk.heap.size ≠ w15.heap.size := by omega
        clear hb x0 x1
        have x0 := (blk_cell T.out.bx 0).trans rfl
        have x1 := (blk_cell T.out.bx 1).trans rfl
        have f0 := blk_frozen T.out.bx 0
        have f1 := blk_frozen T.out.bx 1
        obtain ⟨la, ma, -⟩ := T.out.ma
        have a0 := (ma.cell i HLT.out).1
        rw [bytes_at S pn i HLT.out (by have := HPN.out; have := HSZ.out; omega)] at a0
        have a1 : (World.alloc w15 (.cells #[.string S, .int .i64 ((i : Int) + 1)] 25)).cell? ⟨ga, i, none⟩ = some (.int .u8 (bt S (i : Int))) := by
          have := ((ma.below (W1 := World.alloc w15 (.cells #[.string S, .int .i64 ((i : Int) + 1)] 25)) (below_alloc (Below.refl _ _) _)).cell i HLT.out).1
          rwa [bytes_at S pn i HLT.out (by have := HPN.out; have := HSZ.out; omega)] at this
        clear ma
        go_wp2_with (fail)
        go_roundg (pn - (i + 1))
        case measure => have := HG.out; have := HLT.out; omega
        case rel => exact ⟨i + 1, by have := HLT.out; have := HPN.out; have := HLEN.out; first | rfl | (rw [w64 (by omega) (by omega)]; rfl), ⟨by have := HLT.out; omega⟩, ⟨by omega⟩, ⟨(T.out.set (i + 1)).next (below_alloc (Below.refl _ _) _)⟩⟩
      · obtain rfl : pn = i := by have := HI.out; omega
        have c1 : decide ((pn : Int) < (pn : Int)) = false := decide_eq_false (by omega)
        clear hlt
        have LA0 : ga < wr.heap.size := by obtain ⟨la, ma, -⟩ := T.out.ma; exact ma.lt
        have x0 := (blk_cell T.out.bx 0).trans rfl
        have x1 := (blk_cell T.out.bx 1).trans rfl
        go_wp2_with (fail)
        with_reducible refine (take_nat S pn pm wr (by have := HGD.out; have := HSZ.out; omega) HSL.out).mono ?_
        rintro e w20 ⟨gd, cd, rfl, hmd, hb⟩
        have T := Aside0.mk (T.out.next hb)
        have MD := Aside0.mk hmd
        have LA := Aside0.mk LA0
        clear LA0
        clear hb hmd x0 x1
        have hb22 : Below w20.heap.size w20 (World.alloc w20 (.cells #[.string S, .int .i64 ((pn : Int) + (pm : Int))] 25)) := below_alloc (Below.refl _ _) _
        have T := Aside0.mk (T.out.next hb22)
        have MD := Aside0.mk (MD.out.below hb22)
        clear hb22
        obtain ⟨la, ma, ka⟩ := T.out.ma
        have LO := Aside0.mk ka
        clear ka
        obtain ⟨lb, mb⟩ := T.out.mb
        obtain ⟨lc, mc⟩ := T.out.mc
        have MA := Aside0.mk ma
        have MB := Aside0.mk mb
        have MC := Aside0.mk mc
        have GAD := Aside0.mk (show ga < gd by have h1 := MD.out.lo; have h2 := LA.out; omega)
        clear ma mb mc
        go_wp2_with ((with_reducible refine gate_builtin (b := .append) (xs := #[.tmp 167, .tmp 168]) rfl ?_); at_builtin; (try (refine gate_guard (by rfl) ?_; dsimp only)); go_loud (refine mark_app rfl (.tmp 167) (.tmp 168) 27 5 1 rfl Try.underlying27 info5 (by omega) MA.out (bytesOf (S.extract pn (pn + pm))) (some ⟨gb, 0, none⟩) pm cb rfl rfl MB.out.reads ?hl ?_; (case hl => have h1 := HPN.out; have h2 := HPM.out; have h3 := HLEN.out; omega); intro A1 c1 w21 hc21 hC21 hg21; have HC21 := Aside0.mk hc21; have HR21 := Aside0.mk hC21; have NA := Aside0.mk T.out.na; have NE := Aside0.mk T.out.ne; have TB := Aside0.mk (T.out.below.grown hg21 T.out.below.size (fun k hk => by injection hk with hk; subst hk; exact Nat.le_trans LO.out MA.out.lo)); have BX := Aside0.mk ((hg21.block _ (blk_lt T.out.bx) (fun e => by injection e with e; have := NE.out; omega)).trans T.out.bx); have BV := Aside0.mk ((hg21.block _ (blk_lt T.out.bv) (fun e => by injection e with e; have := NA.out; omega)).trans T.out.bv); have MB := Aside0.mk (MB.out.step (hg21.block _ MB.out.lt (fun e => by injection e with e; have := NA.out; omega))); have MC := Aside0.mk (MC.out.step (hg21.block _ MC.out.lt (fun e => by injection e with e; have := NA.out; omega))); have MD := Aside0.mk (MD.out.step (hg21.block _ MD.out.lt (fun e => by injection e with e; have := GAD.out; omega))); clear hc21 hC21 hg21 T MA))
        with_reducible refine (same9_calls A1 c1 _ (some ⟨gc, 0, none⟩) cc _ (pn + pm) w21 ⟨HR21.out, HC21.out⟩ ⟨MC.out.reads, MC.out.cap⟩ (bytes_join S pn pm)).mono ?_
        rintro e w22 ⟨rfl, hb⟩
        have TB := Aside0.mk (below_step TB.out hb)
        have BX := Aside0.mk (blk_below BX.out hb)
        have BV := Aside0.mk (blk_below BV.out hb)
        have MB := Aside0.mk (MB.out.below hb)
        have MD := Aside0.mk (MD.out.below hb)
        clear hb
        go_wp2_with (fail)
        with_reducible refine (same9_calls (some ⟨gd, 0, none⟩) cd _ (some ⟨gb, 0, none⟩) cb _ pm w22 ⟨MD.out.reads, MD.out.cap⟩ ⟨MB.out.reads, MB.out.cap⟩ rfl).mono ?_
        rintro e w23 ⟨rfl, hb⟩
        have TB := Aside0.mk (below_step TB.out hb)
        have BX := Aside0.mk (blk_below BX.out hb)
        have BV := Aside0.mk (blk_below BV.out hb)
        have MB := Aside0.mk (MB.out.below hb)
        have MD := Aside0.mk (MD.out.below hb)
        clear hb
        have v0 := (blk_cell BV.out 0).trans rfl
        have v1 := (blk_cell BV.out 1).trans rfl
        go_wp2_with (fail)
        with_reducible refine (used_z S ((pn : Int) + (pm : Int)) w23).mono ?_
        rintro e w24 ⟨rfl, hb⟩
        have TB := Aside0.mk (below_step TB.out hb)
        have BX := Aside0.mk (blk_below BX.out hb)
        have BV := Aside0.mk (blk_below BV.out hb)
        have MB := Aside0.mk (MB.out.below hb)
        have MD := Aside0.mk (MD.out.below hb)
        clear hb
        clear v0 v1
        have x0 := (blk_cell BX.out 0).trans rfl
        have x1 := (blk_cell BX.out 1).trans rfl
        go_wp2_with (fail)
        with_reducible refine (used_z S (pn : Int) w24).mono ?_
        rintro e w25 ⟨rfl, hb⟩
        have TB := Aside0.mk (below_step TB.out hb)
        clear hb
        go_wp2_with (fail)
        go_ret
        exact ⟨rfl, TB.out⟩
  · have HGD := Aside0.mk hgood
    have b6 : ¬ (pn : Int) + (pm : Int) ≤ (l0.length : Int) := by omega
    have d1 : decide ((pn : Int) + (pm : Int) ≤ (l0.length : Int)) = false := decide_eq_false b6
    have hwr : IntKind.i64.wrap ((pn : Int) + (pm : Int)) = (pn : Int) + (pm : Int) := (i64_w _).trans (w64 (by omega) (by omega))
    have d2 : decide (IntKind.i64.wrap ((pn : Int) + (pm : Int)) ≤ (l0.length : Int)) = false := by rw [hwr]; exact d1
    clear hgood b6
    with_reducible refine (take_short S pn pm w9 (by have := HGD.out; have := HSZ.out; omega) (by have := HPN.out; have := HSZ.out; omega) (by have := HPM.out; have := HLEN.out; omega) HSL.out).mono ?_
    rintro e w10 ⟨Ab, cb, rfl, hb⟩
    have HB := Aside0.mk (below_step HB.out hb)
    obtain ⟨W11, hW11⟩ : ∃ W, W = w10.alloc (.cells #[.string (⟨#[]⟩ : ByteArray), .int .i64 0] 25) := ⟨_, rfl⟩
    have hb11 : Below w10.heap.size w10 W11 := by rw [hW11]; exact below_alloc (Below.refl _ _) _
    have H := Aside0.mk (show Hd W11 [(w10.heap.size, ⟨#[]⟩, 0), (w6.heap.size, S, (pn : Int)), (w2.heap.size, S, 0)] from by rw [hW11]; exact (H.out.below hb).add _ _)
    have HB := Aside0.mk (below_step HB.out hb11)
    clear hb hb11 t0 t1 u0 u1
    obtain ⟨t0, t1⟩ := H.out.at_ w2.heap.size S 0 (by simp)
    rw [hW11] at t0 t1
    go_wp2_with (fail)
    rw [← hW11] at *
    clear hW11
    with_reducible refine (short0 S (pn + pm) ((pn : Int) + (pm : Int)) (by omega) W11 (by have := HGD.out; have := HSZ.out; omega) (by have := HPM.out; have := HPN.out; have := HLEN.out; omega) HSL.out).mono ?_
    rintro e w12 ⟨Ac, cc, rfl, hb⟩
    have HB := Aside0.mk (below_step HB.out hb)
    obtain ⟨W13, hW13⟩ : ∃ W, W = w12.alloc (.cells #[.string (⟨#[]⟩ : ByteArray), .int .i64 0] 25) := ⟨_, rfl⟩
    have hb13 : Below w12.heap.size w12 W13 := by rw [hW13]; exact below_alloc (Below.refl _ _) _
    have H := Aside0.mk (show Hd W13 [(w12.heap.size, ⟨#[]⟩, 0), (w10.heap.size, ⟨#[]⟩, 0), (w6.heap.size, S, (pn : Int)), (w2.heap.size, S, 0)] from by rw [hW13]; exact (H.out.below hb).add _ _)
    have HB := Aside0.mk (below_step HB.out hb13)
    clear hb hb13 t0 t1
    go_wp2_with (fail)
    rw [← hW13] at *
    clear hW13
    obtain ⟨p0, p1⟩ := H.out.at_ w10.heap.size ⟨#[]⟩ 0 (by simp)
    obtain ⟨r0, r1⟩ := H.out.at_ w12.heap.size ⟨#[]⟩ 0 (by simp)
    have hd : Below W13.heap.size W13 W13.drew := below_drew (Below.refl _ _)
    have HB := Aside0.mk (below_step HB.out hd)
    have H := Aside0.mk (H.out.below hd)
    clear hd
    go_region_held3 (fun W => W.cell? ⟨w10.heap.size, 0, none⟩ = some (.string (⟨#[]⟩ : ByteArray)) ∧ W.cell? ⟨w10.heap.size, 1, none⟩ = some (.int .i64 0) ∧ W.cell? ⟨w12.heap.size, 0, none⟩ = some (.string (⟨#[]⟩ : ByteArray)) ∧ W.cell? ⟨w12.heap.size, 1, none⟩ = some (.int .i64 0)) (first | exact ⟨p0, p1, r0, r1⟩ | go_keep)
      (first
        | ((go_at_call 15; (with_reducible refine (left0 (⟨#[]⟩ : ByteArray) 0 _ rfl (by decide)).mono ?_); rintro e wk ⟨rfl, hb⟩; (have HB := Aside0.mk (below_step HB.out hb)); (have H := Aside0.mk (H.out.below hb)); clear hb p0 p1 r0 r1; obtain ⟨p0, p1⟩ := H.out.at_ w10.heap.size ⟨#[]⟩ 0 (by simp); obtain ⟨r0, r1⟩ := H.out.at_ w12.heap.size ⟨#[]⟩ 0 (by simp)))
        | ((go_at_call 16; (with_reducible refine (used_z (⟨#[]⟩ : ByteArray) 0 _).mono ?_); rintro e wk ⟨rfl, hb⟩; (have HB := Aside0.mk (below_step HB.out hb)); (have H := Aside0.mk (H.out.below hb)); clear hb p0 p1 r0 r1; obtain ⟨p0, p1⟩ := H.out.at_ w10.heap.size ⟨#[]⟩ 0 (by simp); obtain ⟨r0, r1⟩ := H.out.at_ w12.heap.size ⟨#[]⟩ 0 (by simp))))
    go_wp2_with (fail)
    with_reducible refine (left0 (⟨#[]⟩ : ByteArray) 0 wk rfl (by decide)).mono ?_
    rintro e w30 ⟨rfl, hb⟩
    have HB := Aside0.mk (below_step HB.out hb)
    have H := Aside0.mk (H.out.below hb)
    clear hb p0 p1 r0 r1
    obtain ⟨p0, p1⟩ := H.out.at_ w10.heap.size ⟨#[]⟩ 0 (by simp)
    obtain ⟨r0, r1⟩ := H.out.at_ w12.heap.size ⟨#[]⟩ 0 (by simp)
    go_wp2_with (fail)
    with_reducible refine (used_z (⟨#[]⟩ : ByteArray) 0 w30).mono ?_
    rintro e w31 ⟨rfl, hb⟩
    have HB := Aside0.mk (below_step HB.out hb)
    clear hb
    go_wp2_with (fail)
    go_ret
    exact ⟨rfl, HB.out⟩
end
/-- What the document's words 'n bytes', 'm bytes' come to at this tape. -/
def churnlaw09_TapeJoins.Told (l0 : List Int) (a1 a2 : Int) : Prop := ∃ (pn pm : Nat) (S : ByteArray), tape_New.f l0 = some (S, 0) ∧ S.size = l0.length ∧ churnlaw09_place.f a1 ((l0.length : Int) + 1) = some (pn : Int) ∧ churnlaw09_place.f a2 ((l0.length : Int) + 1) = some (pm : Int) ∧ pn ≤ l0.length ∧ pm ≤ l0.length ∧ l0.length ≤ 140737488351232
noncomputable section
open Classical in
def churnlaw09_TapeJoins.f (l0 : List Int) (a1 : Int) (a2 : Int) : Option (Bool) := if churnlaw09_TapeJoins.Told l0 a1 a2 then some true else none
end
theorem churnlaw09_TapeJoins.calls (A0 : Option Addr) (c0 : Nat) (l0 : List Int) (a1 : Int) (a2 : Int) (r : Bool) (w : World) (hr0 : Kd.C (Kd.int .u8) w A0 l0.length l0) (hc0 : l0.length ≤ c0) (hr_ : r = true) (h : churnlaw09_TapeJoins.f l0 a1 a2 = some r) :
    Calls Try.prog 4 #[.slice A0 l0.length c0, .int .i64 a1, .int .i64 a2] w fun e w' => e = .returned (.bool r) ∧ Below w.heap.size w w' := by
  subst hr_
  unfold churnlaw09_TapeJoins.f at h
  by_cases hc : churnlaw09_TapeJoins.Told l0 a1 a2
  · obtain ⟨pn, pm, S, h1, h2, h3, h4, h5, h6, h7⟩ := hc
    exact joins_calls A0 c0 l0 a1 a2 pn pm S w hr0 hc0 h1 h2 h3 h4 h5 h6 h7
  · rw [if_neg hc] at h
    cases h

end Go.Proofs.Ytangepklgeikkaa.Q
