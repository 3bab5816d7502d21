/- Words of this session's own beside the print's: make with length nought and a capacity gives an empty row of the call's own. -/
import Derived.Test.YtiefmocfgneldaaWWords
import Derived.Test.YtiefmocfgneldaaWApart
import Derived.Test.YtiefmocfgneldaaWNEv
import Derived.Lib.SliceRun
import Derived.Laws.CopyOwn
import Derived.BigRegion
import Derived.RegionTactic
import Derived.Test.YtiefmocfgneldaaWShare
import Derived.Test.YtiefmocfgneldaaWMore
set_option linter.unusedVariables false
namespace Go.Proofs.YtiefmocfgneldaaW.PrintWords
open Go.RowKit
/-- copy(out[off:], ys): the row behind it, and how many went over. -/
def cpy (xs : List Int) (off : Nat) (ys : List Int) : List Int := xs.take off ++ (ys.take (xs.length - off) ++ xs.drop (off + (ys.take (xs.length - off)).length))
def cpn (xs : List Int) (off : Nat) (ys : List Int) : Int := ((ys.take (xs.length - off)).length : Int)
theorem cpy_length (xs : List Int) (off : Nat) (ys : List Int) (h : off ≤ xs.length) : (cpy xs off ys).length = xs.length := by
  unfold cpy
  simp
  omega
namespace Kd
section
variable {P : Program} {ops : Array Oper} {rest : List Oper} {o : Oper} {a : Act} {Q : Exit → Act → World → Prop} {Kc : Act → World → Prop}
variable {α : Type}
theorem own_empty (W : World) (base e size : Nat) (cs : Array Value) (n : Nat) (hb : base ≤ W.heap.size) (hm : n ≤ maxLen) (hs : cs.size = n * size) :
    (W.alloc (.cells cs e)).ownsRow base e size (.slice (some ⟨W.heap.size, 0, none⟩) 0 n) 0 [] :=
  ⟨by simp, .inr ⟨W.heap.size, n, cs, rfl, hb, heap_alloc_new W _, Nat.zero_le _, hm, hs, by simp⟩⟩
theorem R_empty_run (d : Kd α) {W : World} (base e : Nat) {ok : Nat → Prop} (cs : Array Value) (n : Nat) (hb : base ≤ W.heap.size) (hm : n ≤ maxLen) (hs : cs.size = n * d.sz) (hfresh : ok W.heap.size) :
    d.R e (W.alloc (.cells cs e)) base ok (.slice (some ⟨W.heap.size, 0, none⟩) 0 n) [] := by
  refine ⟨fun k hk => ?_, [], ?_, ?_⟩
  · have : W.heap.size = k := by simpa [Value.ownBlock] using hk
    subst this
    exact hfresh
  · exact own_empty W base e d.sz cs n hb hm hs
  · exact Reps.none _ _
theorem run_make0 (d : Kd α) {W : World} (e : Nat) (t : TypeId) (x y : Operand) (ho : o.op = .makeSlice t x y) (n : Int) (hx : a.eval x = .int .i64 0) (hy : a.eval y = .int .i64 n)
    (ht : P.underlying t = some (.slice e)) (z : Value) (bytes : Nat) (hinfo : (P.info? e).map (fun i => (i.zero, i.size, i.bytes)) = some (some z, d.sz, bytes)) (hb0 : 0 < bytes) (h0 : 0 ≤ n) (hl : n.toNat * bytes ≤ 281474976710656) :
    (execOp a.eval o).run P W = .ok (.value (.slice (some ⟨W.heap.size, 0, none⟩) 0 n.toNat)) (W.alloc (.cells (madeCells z.cells (n.toNat * d.sz)) e)) := by
  obtain ⟨m, rfl⟩ := Int.eq_ofNat_of_zero_le h0
  simp only [Int.toNat_natCast] at hl ⊢
  obtain ⟨i0, hi, hzz⟩ := Option.map_eq_some_iff.1 hinfo
  simp only [Prod.mk.injEq] at hzz
  obtain ⟨hz0, hz1, hz2⟩ := hzz
  have hm : m ≤ 281474976710656 := Nat.le_trans (Nat.le_mul_of_pos_right _ hb0) hl
  have hr := run_make (P := P) W t e i0 z ht hi hz0 .i64 .i64 (0 : Int) (m : Int) (by omega) (by omega)
    (by
      have h3 : ((i0.bytes * m : Nat) : Int) ≤ 281474976710656 := by rw [hz2, Nat.mul_comm]; omega
      rwa [Int.natCast_mul] at h3) (by omega)
  simp only [Int.toNat_natCast, Int.toNat_zero] at hr
  rw [hz1] at hr
  simp [execOp, ho, hx, hy, hr]
theorem R_make0 (d : Kd α) {w0 W : World} (base e : Nat) (hgd : o.guard = none) {N : Tmp} (hd : o.dst = some N) (t : TypeId) (x y : Operand) (ho : o.op = .makeSlice t x y) (n : Int) (hx : a.eval x = .int .i64 0) (hy : a.eval y = .int .i64 n)
    (ht : P.underlying t = some (.slice e)) (z : Value) (bytes : Nat) (hinfo : (P.info? e).map (fun i => (i.zero, i.size, i.bytes)) = some (some z, d.sz, bytes)) (hz : z.cells.size = d.sz) (hs0 : 0 < d.sz) (hb0 : 0 < bytes)
    (z0 : α) {ok okp : Nat → Prop} (hzero : d.M W base okp z0 z.cells.toList) (hok : ∀ k, okp k → ok k) (hfresh : ok W.heap.size) (h0 : 0 ≤ n) (hl : n.toNat * bytes ≤ 281474976710656) (HB : Below base w0 W) (hbase : base ≤ W.heap.size)
    (h : ∀ v1 w1, d.R e w1 base ok v1 ([] : List α) → Below base w0 w1 → W.grownBy w1 none → (∃ b, v1.ownBlock = some b ∧ W.heap.size ≤ b) → wpList P ops Q rest (a.put o.dst v1) w1) : wpList P ops Q (o :: rest) a W := by
  have hm : n.toNat ≤ 281474976710656 := Nat.le_trans (Nat.le_mul_of_pos_right _ hb0) hl
  refine event_run hgd (run_make0 d e t x y ho n hx hy ht z bytes hinfo hb0 h0 hl) (h _ _ (R_empty_run d base e _ _ hbase (by simp only [maxLen]; omega) (by simp [size_madeCells]) hfresh) (HB.alloc hbase _) (World.grownBy_alloc W _ none) ⟨W.heap.size, by simp [Value.ownBlock], Nat.le_refl _⟩)
theorem S_make0 (d : Kd α) {w0 W : World} (base e : Nat) (hgd : o.guard = none) {N : Tmp} (hd : o.dst = some N) (t : TypeId) (x y : Operand) (ho : o.op = .makeSlice t x y) (n : Int) (hx : a.eval x = .int .i64 0) (hy : a.eval y = .int .i64 n)
    (ht : P.underlying t = some (.slice e)) (z : Value) (bytes : Nat) (hinfo : (P.info? e).map (fun i => (i.zero, i.size, i.bytes)) = some (some z, d.sz, bytes)) (hz : z.cells.size = d.sz) (hs0 : 0 < d.sz) (hb0 : 0 < bytes)
    (z0 : α) {ok okp : Nat → Prop} (hzero : d.M W base (fun _ => False) z0 z.cells.toList) (hok : ∀ k, okp k → ok k) (hfresh : ok W.heap.size) (h0 : 0 ≤ n) (hl : n.toNat * bytes ≤ 281474976710656) (HB : Below base w0 W) (hbase : base ≤ W.heap.size)
    (h : ∀ v1 w1, S d e w1 base ok v1 ([] : List α) → Below base w0 w1 → W.grownBy w1 none → (∃ b, v1.ownBlock = some b ∧ W.heap.size ≤ b) → wpList P ops Q rest (a.put o.dst v1) w1) : wpList P ops Q (o :: rest) a W :=
  R_make0 (bare d) base e hgd hd t x y ho n hx hy ht z bytes hinfo hz hs0 hb0 z0 (ok := ok) (okp := ok) hzero (fun _ hk => hk) hfresh h0 hl HB hbase (fun v1 w1 hr => h v1 w1 (S_bare hr))
theorem made_take (z : Value) (size n m : Nat) (hnm : n ≤ m) : (madeCells z.cells (m * size)).toList.take (n * size) = (madeCells z.cells (n * size)).toList := by
  have hle : n * size ≤ m * size := Nat.mul_le_mul_right _ hnm
  apply List.ext_getElem
  · rw [List.length_take, Array.length_toList, Array.length_toList, size_madeCells, size_madeCells]
    exact Nat.min_eq_left hle
  · intro i h1 h2
    simp [madeCells]
theorem R_makecap (d : Kd α) {w0 W : World} (base e : Nat) (hgd : o.guard = none) {N : Tmp} (hd : o.dst = some N) (t : TypeId) (x y : Operand) (ho : o.op = .makeSlice t x y) (n : Int) {m : Int} (hx : a.eval x = .int .i64 n) (hy : a.eval y = .int .i64 m)
    (ht : P.underlying t = some (.slice e)) (z : Value) (bytes : Nat) (hinfo : (P.info? e).map (fun i => (i.zero, i.size, i.bytes)) = some (some z, d.sz, bytes)) (hz : z.cells.size = d.sz) (hs0 : 0 < d.sz) (hb0 : 0 < bytes)
    (z0 : α) {ok okp : Nat → Prop} (hzero : d.M W base okp z0 z.cells.toList) (hok : ∀ k, okp k → ok k) (hfresh : ok W.heap.size) (h0 : 0 ≤ n) (hl : n.toNat ≤ m.toNat ∧ 0 ≤ m ∧ m.toNat * bytes ≤ 281474976710656) (HB : Below base w0 W) (hbase : base ≤ W.heap.size)
    (h : ∀ v1 w1, d.R e w1 base ok v1 (List.replicate n.toNat z0) → Below base w0 w1 → W.grownBy w1 none → (∃ b, v1.ownBlock = some b ∧ W.heap.size ≤ b) → wpList P ops Q rest (a.put o.dst v1) w1) : wpList P ops Q (o :: rest) a W := by
  obtain ⟨hnm, hm0, hl⟩ := hl
  obtain ⟨n, rfl⟩ := Int.eq_ofNat_of_zero_le h0
  obtain ⟨m, rfl⟩ := Int.eq_ofNat_of_zero_le hm0
  simp only [Int.toNat_natCast] at hl h hnm
  have hm : m ≤ 281474976710656 := Nat.le_trans (Nat.le_mul_of_pos_right _ hb0) hl
  have hrun : (execOp a.eval o).run P W = .ok (.value (.slice (some ⟨W.heap.size, 0, none⟩) n m)) (W.alloc (.cells (madeCells z.cells (m * d.sz)) e)) := by
    obtain ⟨i0, hi, hzz⟩ := Option.map_eq_some_iff.1 hinfo
    simp only [Prod.mk.injEq] at hzz
    obtain ⟨hz0, hz1, hz2⟩ := hzz
    have hr := run_make (P := P) W t e i0 z ht hi hz0 .i64 .i64 (n : Int) (m : Int) (by omega) (by omega)
      (by
        have h3 : ((i0.bytes * m : Nat) : Int) ≤ 281474976710656 := by rw [hz2, Nat.mul_comm]; omega
        rwa [Int.natCast_mul] at h3) (by omega)
    simp only [Int.toNat_natCast] at hr
    rw [hz1] at hr
    simp [execOp, ho, hx, hy, hr]
  have hR : d.R e (W.alloc (.cells (madeCells z.cells (m * d.sz)) e)) base ok (.slice (some ⟨W.heap.size, 0, none⟩) n m) (List.replicate n z0) := by
    refine ⟨fun k hk => ?_, (madeCells z.cells (n * d.sz)).toList, ⟨by simp [size_madeCells], .inr ⟨W.heap.size, m, madeCells z.cells (m * d.sz), by rw [List.length_replicate], hbase, heap_alloc_new W _, by rw [List.length_replicate]; exact hnm, by simp only [maxLen]; omega, by simp [size_madeCells], by rw [List.length_replicate]; exact made_take z d.sz n m hnm⟩⟩, ?_⟩
    · have : W.heap.size = k := by simpa [Value.ownBlock] using hk
      subst this
      exact hfresh
    · refine (reps_made (R := d.M W base okp) hz hs0 hzero n).imp_ (fun p c hp => d.M_mono (fun k hk => ⟨hok k hk.1, fun he => ?_⟩) (M_below (d.M_bound hp) (below_alloc (Below.refl _ _) _)))
      have h3 : k = W.heap.size := by simpa [Value.ownBlock] using he
      have := hk.2.2.1
      omega
  exact event_run hgd hrun (h _ _ hR (HB.alloc hbase _) (World.grownBy_alloc W _ none) ⟨W.heap.size, by simp [Value.ownBlock], Nat.le_refl _⟩)
end
/-- A row of numbers in one block lies in that block alone. -/
theorem F_block {k : IntKind} {W : World} {g n : Nat} {xs : List Int} (h : (Kd.int k).C W (some ⟨g, 0, none⟩) n xs) : F (Kd.int k) W (fun b => b = g) (some ⟨g, 0, none⟩) n xs := by
  intro W' hW
  refine ⟨h.1, h.2.1, fun hn => ?_⟩
  obtain ⟨ad, e, hc⟩ := h.2.2 hn
  injection e with e
  subst e
  refine ⟨_, rfl, fun j p hj => ?_⟩
  obtain ⟨c, hs, hr, hcell⟩ := hc j p hj
  refine ⟨c, hs, hr, fun i u hu => ?_⟩
  have h1 := hcell i u hu
  rw [add_plain] at h1 ⊢
  have hlt : g < W.heap.size := World.block_lt_of_cell? W _ h1
  exact (World.cell?_of_block (hW g rfl hlt)).trans h1
theorem take_app3 {α : Type} (a b c : List α) (n : Nat) (h : a.length + b.length ≤ n) : (a ++ (b ++ c)).take n = a ++ (b ++ c.take (n - (a.length + b.length))) := by
  rw [← List.append_assoc, List.take_append, List.take_of_length_le (by simp; omega), List.length_append, List.append_assoc]
section
variable {P : Program} {ops : Array Oper} {rest : List Oper} {o : Oper} {a : Act} {Q : Exit → Act → World → Prop}
theorem R_copyin {k : IntKind} {w0 W : World} (base : Nat) (hgd : o.guard = none) (s x : Operand) (t e : TypeId)
    (ho : o.op = .call { callee := .builtin .copy, args := #[s, x], argTypes := #[t, t] }) (ht : P.underlying t = some (.slice e)) (hsz : (P.info? e).map (·.size) = some 1)
    (A1 : Option Addr) (n c : Nat) (xs ys : List Int) (off : Nat) (dp : Option Addr) (dLen dCap : Nat) (A : Option Addr) (m cs : Nat) {ok : Nat → Prop}
    (hs : a.eval s = .slice dp dLen dCap) (hx : a.eval x = .slice A m cs) (hdl : dLen = n - off) (hdp : dp = if c = off then A1 else A1.map (·.add (off * 1))) (hoff : off ≤ n)
    (HO : (Kd.int k).R e W base ok (.slice A1 n c) xs) (HR : (Kd.int k).C W A m ys) (HB : Below base w0 W)
    (h : ∀ w1, (Kd.int k).R e w1 base ok (.slice A1 n c) (cpy xs off ys) → Below base w0 w1 → W.grownBy w1 (Value.slice A1 n c).ownBlock → wpList P ops Q rest (a.put o.dst (.int .i64 (cpn xs off ys))) w1) : wpList P ops Q (o :: rest) a W := by
  obtain rfl : n = xs.length := (R_reads' HO).1
  have hm : ys.length = m := HR.1
  have hlen : (ys.take (xs.length - off)).length = Nat.min m dLen := by
    rw [List.length_take, hm, hdl, Nat.min_comm]
  by_cases h0 : (ys.take (xs.length - off)).length = 0
  · have e0 : ys.take (xs.length - off) = [] := List.eq_nil_of_length_eq_zero h0
    have e1 : cpy xs off ys = xs := by unfold cpy; rw [e0]; simp
    have e2 : cpn xs off ys = 0 := by unfold cpn; rw [e0]; rfl
    rw [e1, e2] at h
    exact wpList_copy_nothing hgd s x t t ho e ht hsz dp A dLen dCap m cs hs hx (by rw [← hlen, h0]) (h W HO HB (World.grownBy.refl _ _))
  · have hok := HO.1
    obtain ⟨hl, hcase⟩ := own_of_R (enc := Value.int k) (h1 := fun _ => rfl) HO
    have hmin : (ys.take (xs.length - off)).length ≤ xs.length - off := by rw [List.length_take]; omega
    rcases hcase with ⟨hv, hn⟩ | ⟨g, cap, cur, hv, hbg, hh, hnc, hcm, hcs, hcur⟩
    · omega
    · injection hv with hA1 _ hc
      subst hA1
      subst hc
      have hdp' : dp = some ⟨g, off, none⟩ := by
        rw [hdp, if_neg (by omega)]
        simp [Addr.add]
        try omega
      have hmp : (ys.take (xs.length - off)).length ≤ ys.length := by rw [List.length_take]; omega
      obtain ⟨ad, rfl, hcell⟩ := HR.2.2 (by omega)
      have hsrc : ∀ j v, ((ys.take (xs.length - off)).map (Value.int k))[j]? = some v → W.cell? (ad.add j) = some v := by
        intro j v hj
        rw [List.getElem?_map] at hj
        obtain ⟨p, hp, rfl⟩ := Option.map_eq_some_iff.1 hj
        have hp' : ys[j]? = some p := by
          rw [List.getElem?_take] at hp
          split at hp
          · exact hp
          · cases hp
        obtain ⟨c', hs', hr', hcl⟩ := hcell j p hp'
        have hr2 : c' = [.int k p] := hr'
        subst hr2
        have := hcl 0 _ rfl
        rwa [show j * (Kd.int k).sz + 0 = j from Nat.mul_one j] at this
      rw [Nat.mul_one] at hcs
      have hfit : off + (ys.take (xs.length - off)).length ≤ cur.size := by omega
      refine wpList_copy_own hgd s x t t ho e ht hsz g off dLen dCap ad m cs (by rw [hs, hdp']) hx cur e hh ((ys.take (xs.length - off)).map (Value.int k)) (by rw [List.length_map, hlen]) hsrc (by rw [List.length_map]; exact hfit) (by intro v hv; obtain ⟨p, _, rfl⟩ := List.mem_map.1 hv; rfl) ?_
      rw [List.length_map]
      refine h _ (R_of_own (enc := Value.int k) (h1 := fun _ => rfl) ?_ hok) (below_setRow HB hbg _) ?_
      · have hcl := cpy_length xs off ys hoff
        have hT : cur.toList.take xs.length = xs.map (Value.int k) := by rw [Nat.mul_one] at hcur; exact hcur
        have hcz : cur.toList.length = cur.size := by simp
        have hTl : xs.length ≤ cur.toList.length := by omega
        refine ⟨by rw [Nat.mul_one]; exact List.length_map _, .inr ⟨g, c, _, by rw [hcl], hbg, setRow_heap W g cur _ e _ hh, by rw [hcl]; exact hnc, hcm, ?_, ?_⟩⟩
        · rw [List.size_toArray, List.length_append, List.length_append, List.length_take, List.length_map, List.length_drop, Nat.min_eq_left (by omega)]
          omega
        · rw [Nat.mul_one, hcl]
          show ((cur.toList.take off ++ ((ys.take (xs.length - off)).map (Value.int k) ++ cur.toList.drop (off + (ys.take (xs.length - off)).length))).toArray.toList).take xs.length = (cpy xs off ys).map (Value.int k)
          have e1 : cur.toList.take off = (xs.take off).map (Value.int k) := by rw [List.map_take, ← hT, List.take_take, Nat.min_eq_left hoff]
          have e2 : (cur.toList.drop (off + (ys.take (xs.length - off)).length)).take (xs.length - (off + (ys.take (xs.length - off)).length)) = (xs.drop (off + (ys.take (xs.length - off)).length)).map (Value.int k) := by
            rw [List.map_drop, ← hT, List.drop_take]
          rw [e1]
          have l1 : ((xs.take off).map (Value.int k)).length = off := by rw [List.length_map, List.length_take]; omega
          have l2 : ((ys.take (xs.length - off)).map (Value.int k)).length = (ys.take (xs.length - off)).length := List.length_map _
          rw [take_app3 _ _ _ _ (by rw [l1, l2]; omega), l1, l2, e2]
          unfold cpy
          rw [List.map_append, List.map_append]
      · exact ⟨rfl, rfl, rfl, by simp [World.setRow], fun k hk hne => setRow_other W g k _ (by intro e; subst e; exact hne rfl)⟩
end
end Kd
end Go.Proofs.YtiefmocfgneldaaW.PrintWords
