/- Functions of the program as plain Lean functions, each with a proof that its call comes to just these answers, or the row that joins them to the given statement; no condition beside the statement's own. Written for this claim by pf.py, this session's program over the kit's print. -/
import Derived.Test.YtijnmfdpdjblbaaQx0
import Derived.Test.YtijnmfdpdjblbaaQx5
import Derived.Test.YtijnmfdpdjblbaaQx7
import Derived.Test.YtijnmfdpdjblbaaQx8
import Derived.Test.YtijnmfdpdjblbaaQx11
import Derived.Test.YtijnmfdpdjblbaaQx12
namespace Go.Proofs.Ytijnmfdpdjblbaa.Q
open Go.RowKit Go.Proofs.YtijnmfdpdjblbaaW.PrintWords Go.Proofs.YtijnmfdpdjblbaaW.PrintLast Go.Proofs.YtijnmfdpdjblbaaW.PrintMore
attribute [local go_sem] max2_int min2_int max_two min_two max_three min_three max_four min_four   -- for this text's walks alone
set_option linter.unusedVariables false
set_option linter.unusedSimpArgs false

/-! ### churnlaw10_DrawKeeps: function 8 -/
/- own text -/
section
open Go.Proofs.Ytijnmfdpdjblbaa.Pl
/-- A literal's cells. -/
theorem C_lit (k : IntKind) (W : World) (xs : List Int) (e : Nat) (hm : xs.length ≤ 9223372036854775807) : (Kd.int k).C (W.alloc (.cells (xs.map (Value.int k)).toArray e)) (some ⟨W.heap.size, 0, none⟩) xs.length xs := by
  refine Kd.C_of_reads (d := (0 : Int)) ⟨rfl, hm, fun _ => ⟨_, rfl, fun j hj => ?_⟩⟩
  have h := blk_cell (blk_new W (.cells (xs.map (Value.int k)).toArray e)) j
  rw [show ((⟨W.heap.size, 0, none⟩ : Addr).add j) = ⟨W.heap.size, j, none⟩ from by simp [Addr.add]; omega]
  rw [h]
  simp [List.getD_eq_getElem?_getD, List.getElem?_eq_getElem hj]
/-- A row whose block lies from lo on, ahead of hi. -/
def RK (k : IntKind) (T : Nat) (W : World) (lo hi : Nat) (v : Value) (xs : List Int) : Prop := Kd.R (Kd.int k) T W lo (fun b => lo ≤ b ∧ b < hi) v xs
section
variable {k : IntKind} {T : Nat} {w w' W W1 : World} {lo hi : Nat} {v : Value} {xs : List Int} {ok : Nat → Prop}
theorem RK.of (h : Kd.R (Kd.int k) T w' w.heap.size ok v xs) : RK k T w' w.heap.size w'.heap.size v xs := Kd.R_mono (Kd.R_bound h) (fun b hb => ⟨hb.2.1, hb.2.2.1⟩)
theorem RK.below (h : RK k T W lo hi v xs) (hb : Below W.heap.size W W1) : RK k T W1 lo hi v xs := Kd.R_step h (fun b _ hlt => hb.block b hlt)
theorem RK.off {r : Option Nat} (h : RK k T W lo hi v xs) (hg : W.grownBy W1 r) (hn : ∀ g, r = some g → ¬ (lo ≤ g ∧ g < hi)) : RK k T W1 lo hi v xs := Kd.R_step h (fun b hb hlt => hg.block b hlt (fun e => hn b e.symm hb))
theorem RK.lit (h : RK k T W lo hi v xs) : ∃ A c, v = .slice A xs.length c := by
  obtain ⟨A, c, rfl, -⟩ := Kd.R_reads h
  exact ⟨_, _, rfl⟩
theorem RK.reads {A : Option Addr} {n c : Nat} (h : RK k T W lo hi (.slice A n c) xs) : Kd.C (Kd.int k) W A xs.length xs ∧ xs.length ≤ c := by
  obtain ⟨rfl, a, b⟩ := Kd.R_reads' h
  exact ⟨b, a⟩
theorem RK.put {g n c : Nat} (h : RK k T W lo hi (.slice (some ⟨g, 0, none⟩) n c) xs) (hn : xs.length = n) (j : Nat) (hj : j < n) (z : Int) :
    RK k T (W.setCell ⟨g, j, none⟩ (.int k z)) lo hi (.slice (some ⟨g, 0, none⟩) n c) (xs.set j z) ∧ W.grownBy (W.setCell ⟨g, j, none⟩ (.int k z)) (some g) ∧ lo ≤ g ∧ g < hi ∧ W.cell? ⟨g, j, none⟩ = some (.int k (xs.getD j 0)) ∧ W.frozen? ⟨g, j, none⟩ = false := by
  obtain ⟨hp, hg⟩ := Kd.R_putg h (j : Int) z
  simp only [Int.toNat_natCast] at hp hg
  have h2 := Kd.R_celln (0 : Int) h (j : Int) (by omega) (by omega)
  simp only [Int.toNat_natCast, rdOf] at h2
  exact ⟨hp, hg, (h.1 g rfl).1, (h.1 g rfl).2, h2.1, h2.2⟩
theorem RK.head {n c : Nat} {A : Option Addr} (h : RK k T W lo hi (.slice A n c) xs) (hn : 0 < n) : ∃ g, A = some ⟨g, 0, none⟩ := by
  have h2 := Kd.R_reads' h
  obtain ⟨ad, rfl, -⟩ := Kd.at_int h2.2.2 0 (by omega) (by omega)
  obtain ⟨p, rfl⟩ := Kd.R_head h
  exact ⟨p, rfl⟩
end
/-- A bag of rows. -/
structure Rw where
  k : IntKind
  T : Nat
  lo : Nat
  hi : Nat
  v : Value
  xs : List Int
def Bag (W : World) (L : List Rw) : Prop := ∀ r ∈ L, RK r.k r.T W r.lo r.hi r.v r.xs
section
variable {k : IntKind} {T : Nat} {W W1 : World} {L : List Rw} {lo hi : Nat} {v : Value} {xs : List Int}
theorem Bag.nil (W : World) : Bag W [] := fun r hr => by simp at hr
theorem Bag.at_ {r : Rw} (h : Bag W L) (hr : r ∈ L) : RK r.k r.T W r.lo r.hi r.v r.xs := h r hr
theorem Bag.next (h : Bag W L) (hb : Below W.heap.size W W1) : Bag W1 L := fun r hr => (h r hr).below hb
theorem Bag.off {g : Option Nat} (h : Bag W L) (hg : W.grownBy W1 g) (hn : ∀ r ∈ L, ∀ b, g = some b → ¬ (r.lo ≤ b ∧ b < r.hi)) : Bag W1 L := fun r hr => (h r hr).off hg (hn r hr)
theorem Bag.add (h : Bag W L) (r : RK k T W lo hi v xs) : Bag W (⟨k, T, lo, hi, v, xs⟩ :: L) := by
  intro x hx
  rcases List.mem_cons.1 hx with rfl | hx
  · exact r
  · exact h x hx
end
/-- Bytes. -/
def Byt (xs : List Int) : Prop := ∀ x ∈ xs, 0 ≤ x ∧ x ≤ 255
theorem Byt.set {xs : List Int} (h : Byt xs) (j : Nat) (z : Int) (hz : 0 ≤ z ∧ z ≤ 255) : Byt (xs.set j z) := by
  intro x hx
  rcases List.mem_or_eq_of_mem_set hx with h1 | rfl
  · exact h x h1
  · exact hz
/-- Two rows that grow, each where it lies or behind N, and rows that stay. -/
structure GR (w W : World) (N la ha lx hx : Nat) (va vx : Value) (xa xx : List Int) (L : List Rw) : Prop where
  ra : Kd.R (Kd.int .i64) 3 W la (fun b => (la ≤ b ∧ b < ha) ∨ N ≤ b) va xa
  rx : Kd.R (Kd.int .u8) 5 W lx (fun b => (lx ≤ b ∧ b < hx) ∨ N ≤ b) vx xx
  ne : ∀ b, va.ownBlock = some b → vx.ownBlock ≠ some b
  bag : Bag W L
  far : ∀ r ∈ L, r.hi ≤ N ∧ (r.hi ≤ la ∨ ha ≤ r.lo) ∧ (r.hi ≤ lx ∨ hx ≤ r.lo)
  below : Below w.heap.size w W
  nsz : N ≤ W.heap.size
  wl : w.heap.size ≤ la ∧ w.heap.size ≤ lx
section
variable {w W W1 : World} {N la ha lx hx : Nat} {va vx va1 vx1 : Value} {xa xx xa1 xx1 : List Int} {L : List Rw}
theorem GR.next (h : GR w W N la ha lx hx va vx xa xx L) (hb : Below W.heap.size W W1) : GR w W1 N la ha lx hx va vx xa xx L :=
  { h with ra := Kd.R_step h.ra (fun b _ hlt => hb.block b hlt), rx := Kd.R_step h.rx (fun b _ hlt => hb.block b hlt), bag := h.bag.next hb, below := below_step h.below hb, nsz := Nat.le_trans h.nsz hb.size }
theorem GR.appA (h : GR w W N la ha lx hx va vx xa xx L) (hr : Kd.R (Kd.int .i64) 3 W1 la (fun b => (la ≤ b ∧ b < ha) ∨ N ≤ b) va1 xa1) (hg : W.grownBy W1 va.ownBlock) (hc : va1.ownBlock = va.ownBlock ∨ (va1.ownBlock = some W.heap.size ∧ W.grownBy W1 none)) : GR w W1 N la ha lx hx va1 vx xa1 xx L := by
  have hx1 : Kd.R (Kd.int .u8) 5 W1 lx (fun b => (lx ≤ b ∧ b < hx) ∨ N ≤ b) vx xx := by
    exact Kd.R_mono (Kd.R_step (Kd.R_tight2 rfl h.rx) (fun b hb hlt => hg.block b hlt (fun e => h.ne b e.symm hb.1.symm))) (fun b hb => hb.2)
  refine { h with ra := hr, rx := hx1, ne := ?_, bag := h.bag.off hg ?_, below := h.below.grown hg h.below.size (fun b hb => Nat.le_trans h.wl.1 (Kd.R_base h.ra b hb)), nsz := Nat.le_trans h.nsz hg.size }
  · intro b hb hb2
    rcases hc with e | ⟨e, -⟩
    · exact h.ne b (by rw [← e]; exact hb) hb2
    · rw [e] at hb
      injection hb with hb
      have := Kd.R_lt h.rx b hb2
      omega
  · intro r hr b hb
    have h1 := h.ra.1 b hb
    have h2 := h.far r hr
    omega
theorem GR.appX (h : GR w W N la ha lx hx va vx xa xx L) (hr : Kd.R (Kd.int .u8) 5 W1 lx (fun b => (lx ≤ b ∧ b < hx) ∨ N ≤ b) vx1 xx1) (hg : W.grownBy W1 vx.ownBlock) (hc : vx1.ownBlock = vx.ownBlock ∨ (vx1.ownBlock = some W.heap.size ∧ W.grownBy W1 none)) : GR w W1 N la ha lx hx va vx1 xa xx1 L := by
  have hx1 : Kd.R (Kd.int .i64) 3 W1 la (fun b => (la ≤ b ∧ b < ha) ∨ N ≤ b) va xa := by
    exact Kd.R_mono (Kd.R_step (Kd.R_tight2 rfl h.ra) (fun b hb hlt => hg.block b hlt (fun e => h.ne b hb.1.symm e.symm))) (fun b hb => hb.2)
  refine { h with ra := hx1, rx := hr, ne := ?_, bag := h.bag.off hg ?_, below := h.below.grown hg h.below.size (fun b hb => Nat.le_trans h.wl.2 (Kd.R_base h.rx b hb)), nsz := Nat.le_trans h.nsz hg.size }
  · intro b hb hb2
    rcases hc with e | ⟨e, -⟩
    · exact h.ne b hb (by rw [← e]; exact hb2)
    · rw [e] at hb2
      injection hb2 with hb2
      have := Kd.R_lt h.ra b hb
      omega
  · intro r hr b hb
    have h1 := h.rx.1 b hb
    have h2 := h.far r hr
    omega
end
/-- A store into a list with two marks behind it. -/
theorem RK.putm {k : IntKind} {T lo hi g n c : Nat} {W : World} {xs : List Int} {m1 m2 : Int} (h : RK k T W lo hi (.slice (some ⟨g, 0, none⟩) (n + 2) c) (xs ++ [m1, m2])) (hn : xs.length = n) (j : Nat) (hj : j < n) (z : Int) :
    RK k T (W.setCell ⟨g, j, none⟩ (.int k z)) lo hi (.slice (some ⟨g, 0, none⟩) (n + 2) c) (xs.set j z ++ [m1, m2]) ∧ W.grownBy (W.setCell ⟨g, j, none⟩ (.int k z)) (some g) ∧ lo ≤ g ∧ g < hi ∧ W.cell? ⟨g, j, none⟩ = some (.int k (xs.getD j 0)) ∧ W.frozen? ⟨g, j, none⟩ = false := by
  obtain ⟨a, b, c1, d, e, f⟩ := h.put (by simp [hn]) j (by omega) z
  rw [List.set_append_left _ _ (by omega)] at a
  refine ⟨a, b, c1, d, ?_, f⟩
  rw [e]
  simp [List.getD_eq_getElem?_getD, List.getElem?_append_left (show j < xs.length by omega)]
/-- The program's and the document's answers are the same for all lists. -/
structure DkTold : Prop where
  all : ∀ p b : List Int, Byt p → p.length ≤ 140737488351232 → b.length ≤ 17592186043904 → ∃ (k1 : Nat) (c : List Int) (n e : Int), churnref10_All.f k1 p b = some (c, n, e) ∧ draw_All.f p b = some (c, n, e) ∧ c.length ≤ 17592186043904
  trn : ∀ p b t : List Int, Byt p → p.length ≤ 140737488351232 → b.length ≤ 17592186043904 → t.length ≤ 17592186043904 → ∃ (c : List Int) (e : Int), draw_Turn.f p b t = some (c, e) ∧ c.length ≤ 140737488351232
  sme : ∀ l : List Int, l.length ≤ 17592186044000 → ∃ k, churnlaw10_same.f k l l = some true
theorem same10_calls (k : Nat) (A0 : Option Addr) (c0 : Nat) (l0 : List Int) (A1 : Option Addr) (c1 : Nat) (w : World) (hr0 : Kd.C (Kd.int .i64) w A0 l0.length l0 ∧ l0.length ≤ c0) (hr1 : Kd.C (Kd.int .i64) w A1 l0.length l0 ∧ l0.length ≤ c1) (h : churnlaw10_same.f k l0 l0 = some true) :
    Calls Try.prog 13 #[.slice A0 l0.length c0, .slice A1 l0.length c1] w fun e w' => e = .returned (.bool true) ∧ Below w.heap.size w w' := by
  refine (churnlaw10_same.calls k A0 c0 l0 A1 c1 l0 true w hr0.1 hr0.2 hr1.1 hr1.2 h).mono ?_
  rintro e w' ⟨rfl, ⟨q, rfl⟩⟩
  exact ⟨rfl, pw_below_drewN (Below.refl _ _) q⟩
/-- A list with two marks behind it. -/
theorem mk_reads {k : IntKind} {T lo hi : Nat} {W : World} {A : Option Addr} {n c : Nat} {xs : List Int} {m1 m2 : Int} (h : RK k T W lo hi (.slice A (n + 2) c) (xs ++ [m1, m2])) (hn : xs.length = n) :
    (Kd.C (Kd.int k) W A xs.length xs ∧ xs.length ≤ c) ∧ W.cell? ((A.getD ⟨0, 0, none⟩).add n) = some (.int k m1) ∧ W.cell? ((A.getD ⟨0, 0, none⟩).add (n + 1)) = some (.int k m2) := by
  obtain ⟨e, hc, hC⟩ := Kd.R_reads' h
  have hl : (xs ++ [m1, m2]).length = n + 2 := by simp [hn]
  obtain ⟨ad, rfl, h2⟩ := (Kd.reads_of_C (enc := Value.int k) (d := (0 : Int)) (h1 := fun _ => rfl) hC).2.2 (by omega)
  refine ⟨⟨?_, by omega⟩, ?_, ?_⟩
  · have := Kd.C_take (m := xs.length) hC (by simp)
    simpa using this
  · rw [Option.getD_some, h2 n (by omega)]
    simp [List.getD_eq_getElem?_getD, hn]
  · rw [Option.getD_some, h2 (n + 1) (by omega)]
    rw [List.getD_eq_getElem?_getD, List.getElem?_append_right (by omega)]
    simp [hn]
theorem mk_cells {k : IntKind} {T lo hi g : Nat} {W : World} {n c : Nat} {xs : List Int} {m1 m2 : Int} (h : RK k T W lo hi (.slice (some ⟨g, 0, none⟩) (n + 2) c) (xs ++ [m1, m2])) (hn : xs.length = n) :
    W.cell? ⟨g, n, none⟩ = some (.int k m1) ∧ W.cell? ⟨g, n + 1, none⟩ = some (.int k m2) := by
  obtain ⟨-, a, b⟩ := mk_reads h hn
  simp only [Option.getD_some, Addr.add_lit, Nat.zero_add] at a b
  exact ⟨a, b⟩
theorem R_none (k : IntKind) (T base : Nat) (W : World) (hb : base ≤ W.heap.size) : Kd.R (Kd.int k) T (W.alloc (.cells #[] T)) base (fun _ => True) (.slice (some ⟨W.heap.size, 0, none⟩) 0 0) [] := by
  have h2 := World.ownsRow_lit (base := base) (e := T) (size := 1) W #[] 0 hb (by simp [maxLen]) (by simp)
  exact Kd.R_of_own (by simpa [encs] using h2) (fun _ _ => trivial)
set_option maxHeartbeats 2000000 in
set_option maxRecDepth 100000 in
theorem keeps_calls (A0 : Option Addr) (c0 : Nat) (l0 : List Int) (A1 : Option Addr) (c1 : Nat) (l1 : List Int) (A2 : Option Addr) (c2 : Nat) (l2 : List Int) (w : World) (hr0 : Kd.C (Kd.int .u8) w A0 l0.length l0) (hc0 : l0.length ≤ c0) (hr1 : Kd.C (Kd.int .i64) w A1 l1.length l1) (hc1 : l1.length ≤ c1) (hr2 : Kd.C (Kd.int .i64) w A2 l2.length l2) (hc2 : l2.length ≤ c2)
    (hT : DkTold) (hy : Byt l0) (h0 : l0.length ≤ 140737488351232) (h1 : l1.length ≤ 17592186043904) (h2 : l2.length ≤ 17592186043904) :
    Calls Try.prog 8 #[.slice A0 l0.length c0, .slice A1 l1.length c1, .slice A2 l2.length c2] w fun e w' => e = .returned (.bool true) ∧ Below w.heap.size w w' := by
  have H0 := Aside0.mk hr0
  have H1 := Aside0.mk hr1
  have H2 := Aside0.mk hr2
  have G0 := Aside0.mk hc0
  have G1 := Aside0.mk hc1
  have G2 := Aside0.mk hc2
  have HT := Aside0.mk hT
  have HY := Aside0.mk hy
  have L0 := Aside0.mk h0
  have L1 := Aside0.mk h1
  have L2 := Aside0.mk h2
  clear hr0 hr1 hr2 hc0 hc1 hc2 hT hy h0 h1 h2
  go_enter Try.func8, Try.ntmps8
  go_wp2_with (fail)
  with_reducible refine (churnlaw10_alive.calls true w rfl).mono ?_
  rintro e w1 ⟨rfl, hb1⟩
  have HB := Aside0.mk hb1
  have ZW1 := Aside0.mk hb1.size
  clear hb1
  go_wp2_with (first
    | ((with_reducible refine gate_dst (N := 38) rfl ?_); refine Kd.R_lit (Kd.int .u8) w1.heap.size 5 ?hg (N := 38) ?hd (xs := ([] : List Int)) (inner := []) (ok := fun _ => True) (okp := fun _ => True) ?hr ?hp (fun _ hk => hk) trivial (Below.refl _ _) (Nat.le_refl _) (by simp) ?_; (case hd => rfl); (case hg => rfl); (case hr => first | (go_simp; done) | (go_simp; rfl)); (case hp => exact (Reps.none _ _)); intro v38 w38 ho38 hb hg hn; have HB38 := Aside0.mk hb; have HO38 := Aside0.mk ho38; have HBS := Aside0.mk (below_step HB.out hb); clear hb hg hn ho38)
    | ((with_reducible refine gate_builtin (b := .append) (xs := #[.tmp 38, .tmp 39]) rfl ?_); at_builtin; go_loud (refine Kd.R_app_int (k := .u8) w1.heap.size rfl (.tmp 38) (.tmp 39) 22 5 1 rfl Try.underlying22 info5 (by omega) v38 [] l0 A0 l0.length c0 (fun _ => True) rfl rfl trivial HO38.out (Kd.C_below H0.out HBS.out) ?hbs ?hl ?_; (case hbs => exact HB38.out.size); (case hl => have h1 := L0.out; simp only [List.length_nil]; omega); intro v40 w40 hr hg hat; have HB40 := Aside0.mk (HB38.out.grown hg HB38.out.size (Kd.R_base HO38.out)); have HO40 := Aside0.mk hr; clear hr hg hat))
    | ((with_reducible refine gate_builtin (b := .append) (xs := #[.tmp 40, .tmp 41]) rfl ?_); at_builtin; go_loud (refine Kd.R_app_int (k := .u8) w1.heap.size rfl (.tmp 40) (.tmp 41) 22 5 1 rfl Try.underlying22 info5 (by omega) v40 ([] ++ l0) [161, 162] (some ⟨w40.heap.size, 0, none⟩) 2 2 (fun _ => True) rfl rfl trivial (Kd.R_alloc HO40.out _) (C_lit .u8 w40 [161, 162] 5 (by simp)) ?hbs ?hl ?_; (case hbs => exact (HB40.out.alloc HB40.out.size _).size); (case hl => have h1 := L0.out; simp; omega); intro v42 w42 hr hg hat; have HB42 := Aside0.mk ((HB40.out.alloc HB40.out.size _).grown hg (HB40.out.alloc HB40.out.size _).size (Kd.R_base HO40.out)); have hr : Kd.R (Kd.int .u8) 5 w42 w1.heap.size (fun _ => True) v42 (l0 ++ [161, 162]) := hr; obtain ⟨Ap, cp, rfl, hc, -⟩ := Kd.R_reads hr; have hl : (l0 ++ [161, 162]).length = l0.length + 2 := (by simp); rw [hl] at hr hc; try rw [hl]; have Rp := Aside0.mk (RK.of hr); have HCp := Aside0.mk hc; have HB := Aside0.mk (below_step HB.out HB42.out); have Zp := Aside0.mk HB42.out.size; clear hr hg hat hl hc; obtain ⟨i5, hi05, -, -, -⟩ := info_parts info5; have hcutp := cut_to (P := Try.prog) 22 5 .i64 Try.underlying22 hi05 Ap (l0.length + 2) cp (l0.length : Int) (by omega) (by omega) HCp.out; simp only [Int.toNat_natCast] at hcutp; clear hi05))
    | ((with_reducible refine gate_dst (N := 43) rfl ?_); refine Kd.R_lit (Kd.int .i64) w42.heap.size 3 ?hg (N := 43) ?hd (xs := ([] : List Int)) (inner := []) (ok := fun _ => True) (okp := fun _ => True) ?hr ?hp (fun _ hk => hk) trivial (Below.refl _ _) (Nat.le_refl _) (by simp) ?_; (case hd => rfl); (case hg => rfl); (case hr => first | (go_simp; done) | (go_simp; rfl)); (case hp => exact (Reps.none _ _)); intro v43 w43 ho43 hb hg hn; have HB43 := Aside0.mk hb; have HO43 := Aside0.mk ho43; have HBS := Aside0.mk (below_step HB.out hb); clear hb hg hn ho43)
    | ((with_reducible refine gate_builtin (b := .append) (xs := #[.tmp 43, .tmp 44]) rfl ?_); at_builtin; go_loud (refine Kd.R_app_int (k := .i64) w42.heap.size rfl (.tmp 43) (.tmp 44) 23 3 8 rfl Try.underlying23 info3 (by omega) v43 [] l1 A1 l1.length c1 (fun _ => True) rfl rfl trivial HO43.out (Kd.C_below H1.out HBS.out) ?hbs ?hl ?_; (case hbs => exact HB43.out.size); (case hl => have h1 := L1.out; simp only [List.length_nil]; omega); intro v45 w45 hr hg hat; have HB45 := Aside0.mk (HB43.out.grown hg HB43.out.size (Kd.R_base HO43.out)); have HO45 := Aside0.mk hr; clear hr hg hat))
    | ((with_reducible refine gate_builtin (b := .append) (xs := #[.tmp 45, .tmp 46]) rfl ?_); at_builtin; go_loud (refine Kd.R_app_int (k := .i64) w42.heap.size rfl (.tmp 45) (.tmp 46) 23 3 8 rfl Try.underlying23 info3 (by omega) v45 ([] ++ l1) [71, 72] (some ⟨w45.heap.size, 0, none⟩) 2 2 (fun _ => True) rfl rfl trivial (Kd.R_alloc HO45.out _) (C_lit .i64 w45 [71, 72] 3 (by simp)) ?hbs ?hl ?_; (case hbs => exact (HB45.out.alloc HB45.out.size _).size); (case hl => have h1 := L1.out; simp; omega); intro v47 w47 hr hg hat; have HB47 := Aside0.mk ((HB45.out.alloc HB45.out.size _).grown hg (HB45.out.alloc HB45.out.size _).size (Kd.R_base HO45.out)); have hr : Kd.R (Kd.int .i64) 3 w47 w42.heap.size (fun _ => True) v47 (l1 ++ [71, 72]) := hr; obtain ⟨Ab, cb, rfl, hc, -⟩ := Kd.R_reads hr; have hl : (l1 ++ [71, 72]).length = l1.length + 2 := (by simp); rw [hl] at hr hc; try rw [hl]; have Rb := Aside0.mk (RK.of hr); have HCb := Aside0.mk hc; have HB := Aside0.mk (below_step HB.out HB47.out); have Zb := Aside0.mk HB47.out.size; clear hr hg hat hl hc; obtain ⟨i5, hi05, -, -, -⟩ := info_parts info3; have hcutb := cut_to (P := Try.prog) 23 3 .i64 Try.underlying23 hi05 Ab (l1.length + 2) cb (l1.length : Int) (by omega) (by omega) HCb.out; simp only [Int.toNat_natCast] at hcutb; clear hi05))
    | ((with_reducible refine gate_dst (N := 48) rfl ?_); refine Kd.R_lit (Kd.int .i64) w47.heap.size 3 ?hg (N := 48) ?hd (xs := ([] : List Int)) (inner := []) (ok := fun _ => True) (okp := fun _ => True) ?hr ?hp (fun _ hk => hk) trivial (Below.refl _ _) (Nat.le_refl _) (by simp) ?_; (case hd => rfl); (case hg => rfl); (case hr => first | (go_simp; done) | (go_simp; rfl)); (case hp => exact (Reps.none _ _)); intro v48 w48 ho48 hb hg hn; have HB48 := Aside0.mk hb; have HO48 := Aside0.mk ho48; have HBS := Aside0.mk (below_step HB.out hb); clear hb hg hn ho48)
    | ((with_reducible refine gate_builtin (b := .append) (xs := #[.tmp 48, .tmp 49]) rfl ?_); at_builtin; go_loud (refine Kd.R_app_int (k := .i64) w47.heap.size rfl (.tmp 48) (.tmp 49) 23 3 8 rfl Try.underlying23 info3 (by omega) v48 [] l2 A2 l2.length c2 (fun _ => True) rfl rfl trivial HO48.out (Kd.C_below H2.out HBS.out) ?hbs ?hl ?_; (case hbs => exact HB48.out.size); (case hl => have h1 := L2.out; simp only [List.length_nil]; omega); intro v50 w50 hr hg hat; have HB50 := Aside0.mk (HB48.out.grown hg HB48.out.size (Kd.R_base HO48.out)); have HO50 := Aside0.mk hr; clear hr hg hat))
    | ((with_reducible refine gate_builtin (b := .append) (xs := #[.tmp 50, .tmp 51]) rfl ?_); at_builtin; go_loud (refine Kd.R_app_int (k := .i64) w47.heap.size rfl (.tmp 50) (.tmp 51) 23 3 8 rfl Try.underlying23 info3 (by omega) v50 ([] ++ l2) [73, 74] (some ⟨w50.heap.size, 0, none⟩) 2 2 (fun _ => True) rfl rfl trivial (Kd.R_alloc HO50.out _) (C_lit .i64 w50 [73, 74] 3 (by simp)) ?hbs ?hl ?_; (case hbs => exact (HB50.out.alloc HB50.out.size _).size); (case hl => have h1 := L2.out; simp; omega); intro v52 w52 hr hg hat; have HB52 := Aside0.mk ((HB50.out.alloc HB50.out.size _).grown hg (HB50.out.alloc HB50.out.size _).size (Kd.R_base HO50.out)); have hr : Kd.R (Kd.int .i64) 3 w52 w47.heap.size (fun _ => True) v52 (l2 ++ [73, 74]) := hr; obtain ⟨At, ct, rfl, hc, -⟩ := Kd.R_reads hr; have hl : (l2 ++ [73, 74]).length = l2.length + 2 := (by simp); rw [hl] at hr hc; try rw [hl]; have Rt := Aside0.mk (RK.of hr); have HCt := Aside0.mk hc; have HB := Aside0.mk (below_step HB.out HB52.out); have Zt := Aside0.mk HB52.out.size; clear hr hg hat hl hc; obtain ⟨i5, hi05, -, -, -⟩ := info_parts info3; have hcutt := cut_to (P := Try.prog) 23 3 .i64 Try.underlying23 hi05 At (l2.length + 2) ct (l2.length : Int) (by omega) (by omega) HCt.out; simp only [Int.toNat_natCast] at hcutt; clear hi05)))
  have Rp := Aside0.mk ((Rp.out.below HB47.out).below HB52.out)
  have Rb := Aside0.mk (Rb.out.below HB52.out)
  have R := Aside0.mk (((Bag.nil w52).add Rp.out).add Rb.out |>.add Rt.out)
  clear Rp Rb Rt HBS HO38 HO40 HO43 HO45 HO48 HO50 HB38 HB40 HB42 HB43 HB45 HB47 HB48 HB50 HB52
  have r_p := (R.out.at_ (List.Mem.tail _ (List.Mem.tail _ (List.Mem.head _))))
  dsimp only at r_p
  obtain ⟨gp, rfl⟩ := r_p.head (by omega)
  clear r_p
  have r_b := (R.out.at_ (List.Mem.tail _ (List.Mem.head _)))
  dsimp only at r_b
  obtain ⟨gb, rfl⟩ := r_b.head (by omega)
  clear r_b
  have r_t := (R.out.at_ (List.Mem.head _))
  dsimp only at r_t
  obtain ⟨gt, rfl⟩ := r_t.head (by omega)
  clear r_t
  go_region
  go_wp2_with (fail)
  obtain ⟨W53, hW53⟩ : ∃ W, W = World.drew w52 := ⟨_, rfl⟩
  have hd : Below w52.heap.size w52 W53 := by rw [hW53]; exact below_drew (Below.refl _ _)
  have R := Aside0.mk (R.out.next hd)
  have HB := Aside0.mk (below_step HB.out hd)
  have Z53 := Aside0.mk hd.size
  rw [← hW53]
  clear hW53 hd
  obtain ⟨ka, av, an, ae, ha1, ha2, hal⟩ := HT.out.all l0 l1 HY.out L0.out L1.out
  obtain ⟨tv, te, ht, htl⟩ := HT.out.trn l0 l1 l2 HY.out L0.out L1.out L2.out
  obtain ⟨ks1, hs1⟩ := HT.out.sme av (by omega)
  obtain ⟨ks2, hs2⟩ := HT.out.sme l1 (by have := L1.out; omega)
  obtain ⟨ks3, hs3⟩ := HT.out.sme l2 (by have := L2.out; omega)
  have HA2 := Aside0.mk ha2
  have HTT := Aside0.mk ht
  have HS1 := Aside0.mk hs1
  have HS2 := Aside0.mk hs2
  have HS3 := Aside0.mk hs3
  have HAL := Aside0.mk hal
  have HTL := Aside0.mk htl
  clear ha1 ha2 ht hs1 hs2 hs3 hal htl
  with_reducible refine (draw_All.calls _ cp l0 _ cb l1 av an ae W53 (mk_reads (R.out.at_ (List.Mem.tail _ (List.Mem.tail _ (List.Mem.head _)))) rfl).1.1 (mk_reads (R.out.at_ (List.Mem.tail _ (List.Mem.tail _ (List.Mem.head _)))) rfl).1.2 (mk_reads (R.out.at_ (List.Mem.tail _ (List.Mem.head _))) rfl).1.1 (mk_reads (R.out.at_ (List.Mem.tail _ (List.Mem.head _))) rfl).1.2 HA2.out).mono ?_
  rintro e w54 ⟨v0, rfl, h0, hb⟩
  obtain ⟨Aa, ca, rfl⟩ := (RK.of h0).lit
  have R := Aside0.mk ((R.out.next hb).add (RK.of h0))
  have HB := Aside0.mk (below_step HB.out hb)
  have Zw54 := Aside0.mk hb.size
  clear hb
  clear h0
  go_wp2_with (fail)
  with_reducible refine (draw_All.calls _ cp l0 _ cb l1 av an ae w54 (mk_reads (R.out.at_ (List.Mem.tail _ (List.Mem.tail _ (List.Mem.tail _ (List.Mem.head _))))) rfl).1.1 (mk_reads (R.out.at_ (List.Mem.tail _ (List.Mem.tail _ (List.Mem.tail _ (List.Mem.head _))))) rfl).1.2 (mk_reads (R.out.at_ (List.Mem.tail _ (List.Mem.tail _ (List.Mem.head _)))) rfl).1.1 (mk_reads (R.out.at_ (List.Mem.tail _ (List.Mem.tail _ (List.Mem.head _)))) rfl).1.2 HA2.out).mono ?_
  rintro e w55 ⟨v0, rfl, h0, hb⟩
  obtain ⟨Ae, ce, rfl⟩ := (RK.of h0).lit
  have R := Aside0.mk ((R.out.next hb).add (RK.of h0))
  have HB := Aside0.mk (below_step HB.out hb)
  have Zw55 := Aside0.mk hb.size
  clear hb
  clear h0
  go_wp2_with (fail)
  with_reducible refine (draw_Turn.calls _ cp l0 _ cb l1 _ ct l2 tv te w55 (mk_reads (R.out.at_ (List.Mem.tail _ (List.Mem.tail _ (List.Mem.tail _ (List.Mem.tail _ (List.Mem.head _)))))) rfl).1.1 (mk_reads (R.out.at_ (List.Mem.tail _ (List.Mem.tail _ (List.Mem.tail _ (List.Mem.tail _ (List.Mem.head _)))))) rfl).1.2 (mk_reads (R.out.at_ (List.Mem.tail _ (List.Mem.tail _ (List.Mem.tail _ (List.Mem.head _))))) rfl).1.1 (mk_reads (R.out.at_ (List.Mem.tail _ (List.Mem.tail _ (List.Mem.tail _ (List.Mem.head _))))) rfl).1.2 (mk_reads (R.out.at_ (List.Mem.tail _ (List.Mem.tail _ (List.Mem.head _)))) rfl).1.1 (mk_reads (R.out.at_ (List.Mem.tail _ (List.Mem.tail _ (List.Mem.head _)))) rfl).1.2 HTT.out).mono ?_
  rintro e w56 ⟨v0, rfl, h0, hb⟩
  obtain ⟨Ax, cx, rfl⟩ := (RK.of h0).lit
  have R := Aside0.mk ((R.out.next hb).add (RK.of h0))
  have HB := Aside0.mk (below_step HB.out hb)
  have Zw56 := Aside0.mk hb.size
  clear hb
  clear h0
  go_wp2_with (fail)
  with_reducible refine (draw_Turn.calls _ cp l0 _ cb l1 _ ct l2 tv te w56 (mk_reads (R.out.at_ (List.Mem.tail _ (List.Mem.tail _ (List.Mem.tail _ (List.Mem.tail _ (List.Mem.tail _ (List.Mem.head _))))))) rfl).1.1 (mk_reads (R.out.at_ (List.Mem.tail _ (List.Mem.tail _ (List.Mem.tail _ (List.Mem.tail _ (List.Mem.tail _ (List.Mem.head _))))))) rfl).1.2 (mk_reads (R.out.at_ (List.Mem.tail _ (List.Mem.tail _ (List.Mem.tail _ (List.Mem.tail _ (List.Mem.head _)))))) rfl).1.1 (mk_reads (R.out.at_ (List.Mem.tail _ (List.Mem.tail _ (List.Mem.tail _ (List.Mem.tail _ (List.Mem.head _)))))) rfl).1.2 (mk_reads (R.out.at_ (List.Mem.tail _ (List.Mem.tail _ (List.Mem.tail _ (List.Mem.head _))))) rfl).1.1 (mk_reads (R.out.at_ (List.Mem.tail _ (List.Mem.tail _ (List.Mem.tail _ (List.Mem.head _))))) rfl).1.2 HTT.out).mono ?_
  rintro e w57 ⟨v0, rfl, h0, hb⟩
  obtain ⟨Ay, cy, rfl⟩ := (RK.of h0).lit
  have R := Aside0.mk ((R.out.next hb).add (RK.of h0))
  have HB := Aside0.mk (below_step HB.out hb)
  have Zw57 := Aside0.mk hb.size
  clear hb
  clear h0
  go_wp2_with (fail)
  with_reducible refine (same10_calls ks1 _ _ av _ _ w57 (RK.reads (R.out.at_ (List.Mem.tail _ (List.Mem.tail _ (List.Mem.tail _ (List.Mem.head _)))))) (RK.reads (R.out.at_ (List.Mem.tail _ (List.Mem.tail _ (List.Mem.head _))))) HS1.out).mono ?_
  rintro e w58 ⟨rfl, hb⟩
  have R := Aside0.mk (R.out.next hb)
  have HB := Aside0.mk (below_step HB.out hb)
  have Y58 := Aside0.mk hb.size
  clear hb
  have cv1 := Kd.C_string (P := Try.prog) (c := cx) Try.underlying22 Try.underlying5 Try.underlying9 (RK.reads (R.out.at_ (List.Mem.tail _ (List.Mem.head _)))).1
  have cv2 := Kd.C_string (P := Try.prog) (c := cy) Try.underlying22 Try.underlying5 Try.underlying9 (RK.reads (R.out.at_ (List.Mem.head _))).1
  have cv3 := Kd.C_string (P := Try.prog) (c := cp) Try.underlying22 Try.underlying5 Try.underlying9 (mk_reads (R.out.at_ (List.Mem.tail _ (List.Mem.tail _ (List.Mem.tail _ (List.Mem.tail _ (List.Mem.tail _ (List.Mem.tail _ (List.Mem.head _)))))))) rfl).1.1
  have cv4 := Kd.C_string (P := Try.prog) (c := c0) Try.underlying22 Try.underlying5 Try.underlying9 (Kd.C_below H0.out HB.out)
  go_wp2_with (fail)
  clear cv1 cv2 cv3 cv4
  with_reducible refine (same10_calls ks2 _ _ l1 _ _ w58 (mk_reads (R.out.at_ (List.Mem.tail _ (List.Mem.tail _ (List.Mem.tail _ (List.Mem.tail _ (List.Mem.tail _ (List.Mem.head _))))))) rfl).1 ⟨Kd.C_below H1.out HB.out, G1.out⟩ HS2.out).mono ?_
  rintro e w59 ⟨rfl, hb⟩
  have R := Aside0.mk (R.out.next hb)
  have HB := Aside0.mk (below_step HB.out hb)
  have Y59 := Aside0.mk hb.size
  clear hb
  go_wp2_with (fail)
  with_reducible refine (same10_calls ks3 _ _ l2 _ _ w59 (mk_reads (R.out.at_ (List.Mem.tail _ (List.Mem.tail _ (List.Mem.tail _ (List.Mem.tail _ (List.Mem.head _)))))) rfl).1 ⟨Kd.C_below H2.out HB.out, G2.out⟩ HS3.out).mono ?_
  rintro e w60 ⟨rfl, hb⟩
  have R := Aside0.mk (R.out.next hb)
  have HB := Aside0.mk (below_step HB.out hb)
  have Y60 := Aside0.mk hb.size
  clear hb
  have n0 : (l0.length : Int) ≤ 140737488351232 := by have := L0.out; omega
  have n1 : (l1.length : Int) ≤ 17592186043904 := by have := L1.out; omega
  have n2 : (l2.length : Int) ≤ 17592186043904 := by have := L2.out; omega
  obtain ⟨mp1, mp2⟩ := mk_cells (R.out.at_ (List.Mem.tail _ (List.Mem.tail _ (List.Mem.tail _ (List.Mem.tail _ (List.Mem.tail _ (List.Mem.tail _ (List.Mem.head _)))))))) rfl
  obtain ⟨mb1, mb2⟩ := mk_cells (R.out.at_ (List.Mem.tail _ (List.Mem.tail _ (List.Mem.tail _ (List.Mem.tail _ (List.Mem.tail _ (List.Mem.head _))))))) rfl
  obtain ⟨mt1, mt2⟩ := mk_cells (R.out.at_ (List.Mem.tail _ (List.Mem.tail _ (List.Mem.tail _ (List.Mem.tail _ (List.Mem.head _)))))) rfl
  go_wp2_with (fail)
  have cvs := Kd.C_string (P := Try.prog) (c := cx) Try.underlying22 Try.underlying5 Try.underlying9 (RK.reads (R.out.at_ (List.Mem.tail _ (List.Mem.head _)))).1
  have Z60 := Aside0.mk (show w57.heap.size ≤ w60.heap.size from Nat.le_trans (Nat.le_trans Y58.out Y59.out) Y60.out)
  have RD := Aside0.mk (R.out.next (below_drew (Below.refl _ _)))
  have cvd := Kd.C_string (P := Try.prog) (c := cx) Try.underlying22 Try.underlying5 Try.underlying9 (RK.reads (RD.out.at_ (List.Mem.tail _ (List.Mem.head _)))).1
  have RE := Aside0.mk (RD.out.next (below_alloc (Below.refl _ _) (.cells #[] 3)))
  have cve := Kd.C_string (P := Try.prog) (c := cx) Try.underlying22 Try.underlying5 Try.underlying9 (RK.reads (RE.out.at_ (List.Mem.tail _ (List.Mem.head _)))).1
  go_region_held3 (fun W => (convert 22 9 (.slice Ax tv.length cx)).run Try.prog W = .ok (.string (strOfNums tv)) W) (first | exact cve | exact cvd | exact cvs | exact cvf)
    (first
      | (go_loud (refine Kd.step_app_int (k := .i64) w60.heap.size rfl (.tmp 187) (.tmp 188) 23 3 8 rfl Try.underlying23 info3 (by omega) (.slice (some ⟨w60.heap.size, 0, none⟩) 0 0) [] av Aa av.length ca (fun _ => True) rfl rfl trivial (R_none .i64 3 w60.heap.size w60.drew (Nat.le_refl _)) (RK.reads (RE.out.at_ (List.Mem.tail _ (List.Mem.tail _ (List.Mem.tail _ (List.Mem.head _)))))).1 ?hbs ?hl ?_; (case hbs => exact (World.grownBy_alloc w60.drew (.cells #[] 3) none).size); (case hl => have := HAL.out; simp only [List.length_nil]; omega); intro v61 w61 hr hg hat; (have hbk : Below w60.heap.size w60 w61 := Below.grown (below_alloc (below_drew (Below.refl _ _)) _) hg (World.grownBy_alloc w60.drew (.cells #[] 3) none).size (fun k hk => Nat.le_of_eq (by simpa [Value.ownBlock] using hk))); (have hr : Kd.R (Kd.int .i64) 3 w61 w60.heap.size (fun _ => True) v61 av := hr); (have R := Aside0.mk ((R.out.next hbk).add (RK.of hr))); (have HB := Aside0.mk (below_step HB.out hbk)); (have Z61 := Aside0.mk hbk.size); obtain ⟨Ak, ck, rfl, -⟩ := Kd.R_reads hr; clear hr hg hat hbk; (have cvf := Kd.C_string (P := Try.prog) (c := cx) Try.underlying22 Try.underlying5 Try.underlying9 (RK.reads (R.out.at_ (List.Mem.tail _ (List.Mem.tail _ (List.Mem.head _))))).1))))
  clear RD RE cvs cvd cve cvf
  go_wp2_with (fail)
  obtain ⟨w53s, hw53s⟩ : ∃ s, W53.heap.size = s := ⟨_, rfl⟩
  rw [hw53s] at R Z53 Zw54
  clear hw53s
  have r_k := (R.out.at_ (List.Mem.head _))
  dsimp only at r_k
  have r_y := (R.out.at_ (List.Mem.tail _ (List.Mem.head _)))
  dsimp only at r_y
  have r_e := (R.out.at_ (List.Mem.tail _ (List.Mem.tail _ (List.Mem.tail _ (List.Mem.head _)))))
  dsimp only at r_e
  have r_t := (R.out.at_ (List.Mem.tail _ (List.Mem.tail _ (List.Mem.tail _ (List.Mem.tail _ (List.Mem.tail _ (List.Mem.head _)))))))
  dsimp only at r_t
  have r_b := (R.out.at_ (List.Mem.tail _ (List.Mem.tail _ (List.Mem.tail _ (List.Mem.tail _ (List.Mem.tail _ (List.Mem.tail _ (List.Mem.head _))))))))
  dsimp only at r_b
  have r_p := (R.out.at_ (List.Mem.tail _ (List.Mem.tail _ (List.Mem.tail _ (List.Mem.tail _ (List.Mem.tail _ (List.Mem.tail _ (List.Mem.tail _ (List.Mem.head _)))))))))
  dsimp only at r_p
  have r_a := (R.out.at_ (List.Mem.tail _ (List.Mem.tail _ (List.Mem.tail _ (List.Mem.tail _ (List.Mem.head _))))))
  dsimp only at r_a
  have r_x := (R.out.at_ (List.Mem.tail _ (List.Mem.tail _ (List.Mem.head _))))
  dsimp only at r_x
  have ORD := Aside0.mk (show w1.heap.size ≤ w42.heap.size ∧ w42.heap.size ≤ w47.heap.size ∧ w47.heap.size ≤ w52.heap.size ∧ w52.heap.size ≤ w53s ∧ w53s ≤ w54.heap.size ∧ w54.heap.size ≤ w55.heap.size ∧ w55.heap.size ≤ w56.heap.size ∧ w56.heap.size ≤ w57.heap.size ∧ w57.heap.size ≤ w60.heap.size ∧ w60.heap.size ≤ w61.heap.size ∧ w.heap.size ≤ w1.heap.size by have h1 := Zp.out; have h2 := Zb.out; have h3 := Zt.out; have h4 := Z53.out; have h5 := Zw54.out; have h6 := Zw55.out; have h7 := Zw56.out; have h8 := Zw57.out; have h9 := Z60.out; have h10 := Z61.out; have h11 := ZW1.out; omega)
  have RA := Aside0.mk r_a
  have RXx := Aside0.mk r_x
  have RL := Aside0.mk (((((((Bag.nil w61).add r_p).add r_b).add r_t).add r_e).add r_y).add r_k)
  have HSZ61 := Aside0.mk (Nat.le_refl w61.heap.size)
  clear r_a r_x r_k r_y r_e r_t r_b r_p
  have nA : (av.length : Int) ≤ 17592186043904 := by have := HAL.out; omega
  have nX : (tv.length : Int) ≤ 140737488351232 := by have := HTL.out; omega
  go_loopg [25] av.length (fun gq v25 wq => ∃ (j : Nat) (ya : List Int), v25 = .int .i64 j ∧ Aside0 (j ≤ av.length) ∧ Aside0 (av.length - j ≤ gq) ∧ Aside0 (ya.length = av.length) ∧ Aside0 (RK .i64 3 wq w53s w54.heap.size (.slice Aa av.length ca) ya) ∧ Aside0 (RK .u8 5 wq w55.heap.size w56.heap.size (.slice Ax tv.length cx) tv) ∧ Aside0 (Bag wq [⟨.i64, 3, w60.heap.size, w61.heap.size, .slice Ak av.length ck, av⟩, ⟨.u8, 5, w56.heap.size, w57.heap.size, .slice Ay tv.length cy, tv⟩, ⟨.i64, 3, w54.heap.size, w55.heap.size, .slice Ae av.length ce, av⟩, ⟨.i64, 3, w47.heap.size, w52.heap.size, .slice (some ⟨gt, 0, none⟩) (l2.length + 2) ct, l2 ++ [73, 74]⟩, ⟨.i64, 3, w42.heap.size, w47.heap.size, .slice (some ⟨gb, 0, none⟩) (l1.length + 2) cb, l1 ++ [71, 72]⟩, ⟨.u8, 5, w1.heap.size, w42.heap.size, .slice (some ⟨gp, 0, none⟩) (l0.length + 2) cp, l0 ++ [161, 162]⟩]) ∧ Aside0 (Below w.heap.size w wq) ∧ Aside0 (w61.heap.size ≤ wq.heap.size))
  case atStart => exact ⟨0, av, rfl, ⟨Nat.zero_le _⟩, ⟨by omega⟩, ⟨rfl⟩, RA, RXx, RL, HB, HSZ61⟩
  case round =>
    clear RA RXx RL HB HSZ61
    obtain ⟨j, ya, rfl, HJ, HG25, Hya, RA, RXx, RL, HB, HSZ61⟩ := hrel
    by_cases hj : j < av.length
    · have d1 : decide ((j : Int) < (av.length : Int)) = true := decide_eq_true (by omega)
      have d2 : (0 : Int) ≤ (j : Int) := Int.natCast_nonneg j
      have d3 : (j : Int) < (av.length : Int) := by omega
      obtain ⟨g1, rfl⟩ := RA.out.head (by omega)
      obtain ⟨-, -, hlo, hhi, hu, hz⟩ := RA.out.put Hya.out j hj 0
      obtain ⟨u, hu'⟩ : ∃ u, ya.getD j 0 = u := ⟨_, rfl⟩
      rw [hu'] at hu
      have HJL := Aside0.mk hj
      have HLO := Aside0.mk hlo
      have HHI := Aside0.mk hhi
      clear hj hlo hhi hu'
      go_wp2_with (fail)
      go_roundg (av.length - (j + 1))
      case measure => have := HG25.out; have := HJL.out; omega
      case rel =>
        have h1 := RA.out.put Hya.out j HJL.out
        refine ⟨j + 1, ya.set j _, by first | rfl | (rw [w64 (by omega) (by omega)]; rfl), ⟨by have := HJL.out; omega⟩, ⟨by omega⟩, ⟨by rw [List.length_set]; exact Hya.out⟩, ⟨(h1 _).1⟩, ⟨RXx.out.off (h1 _).2.1 (fun g_ hg_ => by injection hg_ with hg_; have o := ORD.out; have a := HLO.out; have b := HHI.out; omega)⟩, ⟨RL.out.off (h1 _).2.1 ?_⟩, ⟨HB.out.setCell ?_ _⟩, ⟨by have := HSZ61.out; simpa using this⟩⟩
        · exact fun r hr g_ hg_ => by
            injection hg_ with hg_
            have o := ORD.out
            have a := HLO.out
            have b := HHI.out
            simp only [List.mem_cons, List.not_mem_nil, or_false] at hr
            rcases hr with rfl | rfl | rfl | rfl | rfl | rfl <;> (dsimp only; omega)
        · have o := ORD.out; have a := HLO.out; show w.heap.size ≤ g1; omega
    · have d1 : decide ((j : Int) < (av.length : Int)) = false := decide_eq_false (by omega)
      obtain rfl : j = av.length := by have := HJ.out; omega
      have d5 : decide ((av.length : Int) < (av.length : Int)) = false := decide_eq_false (by omega)
      clear hj
      go_wp2_with (fail)
      go_loopg [26] tv.length (fun gq v26 wq => ∃ (j : Nat) (xa : List Int), v26 = .int .i64 j ∧ Aside0 (j ≤ tv.length) ∧ Aside0 (tv.length - j ≤ gq) ∧ Aside0 (xa.length = tv.length) ∧ Aside0 (RK .u8 5 wq w55.heap.size w56.heap.size (.slice Ax tv.length cx) xa) ∧ Aside0 (RK .i64 3 wq w53s w54.heap.size (.slice Aa av.length ca) ya) ∧ Aside0 (Bag wq [⟨.i64, 3, w60.heap.size, w61.heap.size, .slice Ak av.length ck, av⟩, ⟨.u8, 5, w56.heap.size, w57.heap.size, .slice Ay tv.length cy, tv⟩, ⟨.i64, 3, w54.heap.size, w55.heap.size, .slice Ae av.length ce, av⟩, ⟨.i64, 3, w47.heap.size, w52.heap.size, .slice (some ⟨gt, 0, none⟩) (l2.length + 2) ct, l2 ++ [73, 74]⟩, ⟨.i64, 3, w42.heap.size, w47.heap.size, .slice (some ⟨gb, 0, none⟩) (l1.length + 2) cb, l1 ++ [71, 72]⟩, ⟨.u8, 5, w1.heap.size, w42.heap.size, .slice (some ⟨gp, 0, none⟩) (l0.length + 2) cp, l0 ++ [161, 162]⟩]) ∧ Aside0 (Below w.heap.size w wq) ∧ Aside0 (w61.heap.size ≤ wq.heap.size))
      case atStart => exact ⟨0, tv, rfl, ⟨Nat.zero_le _⟩, ⟨by omega⟩, ⟨rfl⟩, RXx, RA, RL, HB, HSZ61⟩
      case round =>
        clear RXx RA RL HB HSZ61
        obtain ⟨j, xa, rfl, HJ, HG26, Hxa, RXx, RA, RL, HB, HSZ61⟩ := hrel
        by_cases hj : j < tv.length
        · have d1 : decide ((j : Int) < (tv.length : Int)) = true := decide_eq_true (by omega)
          have d2 : (0 : Int) ≤ (j : Int) := Int.natCast_nonneg j
          have d3 : (j : Int) < (tv.length : Int) := by omega
          obtain ⟨g1, rfl⟩ := RXx.out.head (by omega)
          obtain ⟨-, -, hlo, hhi, hu, hz⟩ := RXx.out.put Hxa.out j hj 0
          obtain ⟨u, hu'⟩ : ∃ u, xa.getD j 0 = u := ⟨_, rfl⟩
          rw [hu'] at hu
          have HJL := Aside0.mk hj
          have HLO := Aside0.mk hlo
          have HHI := Aside0.mk hhi
          clear hj hlo hhi hu'
          go_wp2_with (fail)
          go_roundg (tv.length - (j + 1))
          case measure => have := HG26.out; have := HJL.out; omega
          case rel =>
            have h1 := RXx.out.put Hxa.out j HJL.out
            refine ⟨j + 1, xa.set j _, by first | rfl | (rw [w64 (by omega) (by omega)]; rfl), ⟨by have := HJL.out; omega⟩, ⟨by omega⟩, ⟨by rw [List.length_set]; exact Hxa.out⟩, ⟨(h1 _).1⟩, ⟨RA.out.off (h1 _).2.1 (fun g_ hg_ => by injection hg_ with hg_; have o := ORD.out; have a := HLO.out; have b := HHI.out; omega)⟩, ⟨RL.out.off (h1 _).2.1 ?_⟩, ⟨HB.out.setCell ?_ _⟩, ⟨by have := HSZ61.out; simpa using this⟩⟩
            · exact fun r hr g_ hg_ => by
                injection hg_ with hg_
                have o := ORD.out
                have a := HLO.out
                have b := HHI.out
                simp only [List.mem_cons, List.not_mem_nil, or_false] at hr
                rcases hr with rfl | rfl | rfl | rfl | rfl | rfl <;> (dsimp only; omega)
            · have o := ORD.out; have a := HLO.out; show w.heap.size ≤ g1; omega
        · have d1 : decide ((j : Int) < (tv.length : Int)) = false := decide_eq_false (by omega)
          obtain rfl : j = tv.length := by have := HJ.out; omega
          have d5 : decide ((tv.length : Int) < (tv.length : Int)) = false := decide_eq_false (by omega)
          clear hj
          go_wp2_with (fail)
          have GG := Aside0.mk (show GR w wr w61.heap.size w53s w54.heap.size w55.heap.size w56.heap.size _ _ ya xa [⟨.i64, 3, w60.heap.size, w61.heap.size, .slice Ak av.length ck, av⟩, ⟨.u8, 5, w56.heap.size, w57.heap.size, .slice Ay tv.length cy, tv⟩, ⟨.i64, 3, w54.heap.size, w55.heap.size, .slice Ae av.length ce, av⟩, ⟨.i64, 3, w47.heap.size, w52.heap.size, .slice (some ⟨gt, 0, none⟩) (l2.length + 2) ct, l2 ++ [73, 74]⟩, ⟨.i64, 3, w42.heap.size, w47.heap.size, .slice (some ⟨gb, 0, none⟩) (l1.length + 2) cb, l1 ++ [71, 72]⟩, ⟨.u8, 5, w1.heap.size, w42.heap.size, .slice (some ⟨gp, 0, none⟩) (l0.length + 2) cp, l0 ++ [161, 162]⟩] from { ra := Kd.R_mono RA.out (fun b hb => .inl hb), rx := Kd.R_mono RXx.out (fun b hb => .inl hb), ne := fun b h1 h2 => (by have a := (RA.out.1 b h1).2; have c := (RXx.out.1 b h2).1; have o := ORD.out; omega), bag := RL.out, far := (fun r hr => by have o := ORD.out; simp only [List.mem_cons, List.not_mem_nil, or_false] at hr; rcases hr with rfl | rfl | rfl | rfl | rfl | rfl <;> (dsimp only; omega)), below := HB.out, nsz := HSZ61.out, wl := (by have o := ORD.out; omega) })
          clear RA RXx RL HB
          go_loopg [13, 19, 27] 20 (fun gq v13 v19 v27 wq => ∃ (j : Nat) (va vx : Value) (xa_ xx_ : List Int), va = v13 ∧ vx = v19 ∧ v27 = .int .i64 j ∧ Aside0 (j ≤ 20) ∧ Aside0 (20 - j ≤ gq) ∧ Aside0 (xa_.length = av.length + j) ∧ Aside0 (xx_.length = tv.length + j) ∧ Aside0 (GR w wq w61.heap.size w53s w54.heap.size w55.heap.size w56.heap.size va vx xa_ xx_ [⟨.i64, 3, w60.heap.size, w61.heap.size, .slice Ak av.length ck, av⟩, ⟨.u8, 5, w56.heap.size, w57.heap.size, .slice Ay tv.length cy, tv⟩, ⟨.i64, 3, w54.heap.size, w55.heap.size, .slice Ae av.length ce, av⟩, ⟨.i64, 3, w47.heap.size, w52.heap.size, .slice (some ⟨gt, 0, none⟩) (l2.length + 2) ct, l2 ++ [73, 74]⟩, ⟨.i64, 3, w42.heap.size, w47.heap.size, .slice (some ⟨gb, 0, none⟩) (l1.length + 2) cb, l1 ++ [71, 72]⟩, ⟨.u8, 5, w1.heap.size, w42.heap.size, .slice (some ⟨gp, 0, none⟩) (l0.length + 2) cp, l0 ++ [161, 162]⟩]))
          case atStart => exact ⟨0, _, _, ya, xa, rfl, rfl, rfl, ⟨Nat.zero_le _⟩, ⟨by omega⟩, Hya, Hxa, GG⟩
          case round =>
            clear GG Hya Hxa
            obtain ⟨j, va, vx, za, zx, rfl, rfl, rfl, HJ, HG27, Hza, Hzx, GG⟩ := hrel
            by_cases hj : j < 20
            · have d1 : decide ((j : Int) < 20) = true := decide_eq_true (by omega)
              have HJL := Aside0.mk hj
              clear hj
              have GA := Aside0.mk (GG.out.next (below_alloc (Below.refl _ _) (.cells #[.int .i64 (-2)] 3)))
              go_wp2_with (first
                | ((with_reducible refine gate_builtin (b := .append) (xs := #[.tmp 217, .tmp 218]) rfl ?_); at_builtin; go_loud (refine Kd.R_app_int (k := .i64) w53s rfl (.tmp 217) (.tmp 218) 23 3 8 rfl Try.underlying23 info3 (by omega) va za [-2] (some ⟨wr.heap.size, 0, none⟩) 1 1 (fun b => (w53s ≤ b ∧ b < w54.heap.size) ∨ w61.heap.size ≤ b) rfl rfl (.inr GA.out.nsz) GA.out.ra (C_lit .i64 wr [-2] 3 (by simp)) ?hbs ?hl ?_; (case hbs => have o := ORD.out; have n := GA.out.nsz; omega); (case hl => have := HAL.out; have := Hza.out; have := HJL.out; omega); intro va1 wa hr hg hat; have GB := Aside0.mk (GA.out.appA hr hg hat); clear hr hg hat; have GC := Aside0.mk (GB.out.next (below_alloc (Below.refl _ _) (.cells #[.int .u8 119] 5))) ))
                | ((with_reducible refine gate_builtin (b := .append) (xs := #[.tmp 220, .tmp 221]) rfl ?_); at_builtin; go_loud (refine Kd.R_app_int (k := .u8) w55.heap.size rfl (.tmp 220) (.tmp 221) 22 5 1 rfl Try.underlying22 info5 (by omega) vx zx [119] (some ⟨wa.heap.size, 0, none⟩) 1 1 (fun b => (w55.heap.size ≤ b ∧ b < w56.heap.size) ∨ w61.heap.size ≤ b) rfl rfl (.inr GC.out.nsz) GC.out.rx (C_lit .u8 wa [119] 5 (by simp)) ?hbs ?hl ?_; (case hbs => have o := ORD.out; have n := GC.out.nsz; omega); (case hl => have := HTL.out; have := Hzx.out; have := HJL.out; omega); intro vx1 wx hr hg hat; have GD := Aside0.mk (GC.out.appX hr hg hat); clear hr hg hat)))
              go_roundg (20 - (j + 1))
              case measure => have := HG27.out; have := HJL.out; omega
              case rel => exact ⟨j + 1, _, _, _, _, rfl, rfl, by have := HJL.out; first | rfl | (rw [w64 (by omega) (by omega)]; rfl), ⟨by have := HJL.out; omega⟩, ⟨by omega⟩, ⟨by have := Hza.out; simp; omega⟩, ⟨by have := Hzx.out; simp; omega⟩, GD⟩
            · obtain rfl : j = 20 := by have := HJ.out; omega
              have d1 : decide ((20 : Int) < 20) = false := rfl
              clear hj
              obtain ⟨AA, ca2, rfl, -⟩ := Kd.R_reads GG.out.ra
              obtain ⟨AX, cx2, rfl, -⟩ := Kd.R_reads GG.out.rx
              go_wp2_with (fail)
              have BG := Aside0.mk GG.out.bag
              have HB := Aside0.mk GG.out.below
              have ZA := Aside0.mk Hza.out
              have ZX := Aside0.mk Hzx.out
              have SZN := Aside0.mk GG.out.nsz
              clear GG Hza Hzx
              with_reducible refine (same10_calls ks1 _ _ av _ _ wr (RK.reads (BG.out.at_ (List.Mem.tail _ (List.Mem.tail _ (List.Mem.head _))))) (RK.reads (BG.out.at_ (List.Mem.head _))) HS1.out).mono ?_
              rintro e w70 ⟨rfl, hb⟩
              have BG := Aside0.mk (BG.out.next hb)
              have HB := Aside0.mk (below_step HB.out hb)
              have Y70 := Aside0.mk hb.size
              clear hb
              have SZN := Aside0.mk (Nat.le_trans SZN.out Y70.out)
              have cv1 := Kd.C_string (P := Try.prog) (c := cy) Try.underlying22 Try.underlying5 Try.underlying9 (RK.reads (BG.out.at_ (List.Mem.tail _ (List.Mem.head _)))).1
              have cv2 := Kd.C_string (P := Try.prog) (c := cp) Try.underlying22 Try.underlying5 Try.underlying9 (mk_reads (BG.out.at_ (List.Mem.tail _ (List.Mem.tail _ (List.Mem.tail _ (List.Mem.tail _ (List.Mem.tail _ (List.Mem.head _))))))) rfl).1.1
              have cv3 := Kd.C_string (P := Try.prog) (c := c0) Try.underlying22 Try.underlying5 Try.underlying9 (Kd.C_below H0.out HB.out)
              go_wp2_with (fail)
              clear cv1 cv2 cv3
              have r_k := (BG.out.at_ (List.Mem.head _))
              dsimp only at r_k
              have r_y := (BG.out.at_ (List.Mem.tail _ (List.Mem.head _)))
              dsimp only at r_y
              have r_e := (BG.out.at_ (List.Mem.tail _ (List.Mem.tail _ (List.Mem.head _))))
              dsimp only at r_e
              have r_b := (BG.out.at_ (List.Mem.tail _ (List.Mem.tail _ (List.Mem.tail _ (List.Mem.tail _ (List.Mem.head _))))))
              dsimp only at r_b
              have r_p := (BG.out.at_ (List.Mem.tail _ (List.Mem.tail _ (List.Mem.tail _ (List.Mem.tail _ (List.Mem.tail _ (List.Mem.head _)))))))
              dsimp only at r_p
              have KY := Aside0.mk ((((Bag.nil w70).add r_e).add r_y).add r_k)
              have RP := Aside0.mk r_p
              have RQ := Aside0.mk r_b
              clear r_p r_b r_k r_y r_e
              go_loopg [28] l0.length (fun gq v28 wq => ∃ (j : Nat) (yp : List Int), v28 = .int .i64 j ∧ Aside0 (j ≤ l0.length) ∧ Aside0 (l0.length - j ≤ gq) ∧ Aside0 (yp.length = l0.length) ∧ Aside0 (Byt yp) ∧ Aside0 (RK .u8 5 wq w1.heap.size w42.heap.size (.slice (some ⟨gp, 0, none⟩) (l0.length + 2) cp) (yp ++ [161, 162])) ∧ Aside0 (RK .i64 3 wq w42.heap.size w47.heap.size (.slice (some ⟨gb, 0, none⟩) (l1.length + 2) cb) (l1 ++ [71, 72])) ∧ Aside0 (Bag wq [⟨.i64, 3, w60.heap.size, w61.heap.size, .slice Ak av.length ck, av⟩, ⟨.u8, 5, w56.heap.size, w57.heap.size, .slice Ay tv.length cy, tv⟩, ⟨.i64, 3, w54.heap.size, w55.heap.size, .slice Ae av.length ce, av⟩]) ∧ Aside0 (Below w.heap.size w wq))
              case atStart => exact ⟨0, l0, rfl, ⟨Nat.zero_le _⟩, ⟨by omega⟩, ⟨rfl⟩, HY, RP, RQ, KY, HB⟩
              case round =>
                clear RP RQ KY HB
                obtain ⟨j, yp, rfl, HJ, HG28, Hyp, HBY, RP, RQ, KY, HB⟩ := hrel
                by_cases hj : j < l0.length
                · have d1 : decide ((j : Int) < (l0.length : Int)) = true := decide_eq_true (by omega)
                  have d2 : (0 : Int) ≤ (j : Int) := Int.natCast_nonneg j
                  have d3 : (j : Int) < (l0.length : Int) := by omega
                  obtain ⟨-, -, hlo, hhi, hu, hz⟩ := RP.out.putm Hyp.out j hj 0
                  obtain ⟨u, hu'⟩ : ∃ u, yp.getD j 0 = u := ⟨_, rfl⟩
                  rw [hu'] at hu
                  have HJL := Aside0.mk hj
                  have HLO := Aside0.mk hlo
                  have HHI := Aside0.mk hhi
                  clear hj hlo hhi hu'
                  go_wp2_with (fail)
                  go_roundg (l0.length - (j + 1))
                  case measure => have := HG28.out; have := HJL.out; omega
                  case rel =>
                    have h1 := RP.out.putm Hyp.out j HJL.out
                    refine ⟨j + 1, yp.set j _, by first | rfl | (rw [w64 (by omega) (by omega)]; rfl), ⟨by have := HJL.out; omega⟩, ⟨by omega⟩, ⟨by rw [List.length_set]; exact Hyp.out⟩, ⟨HBY.out.set j _ ?_⟩, ⟨(h1 _).1⟩, ⟨RQ.out.off (h1 _).2.1 (fun g_ hg_ => by injection hg_ with hg_; have o := ORD.out; have a := HLO.out; have b := HHI.out; omega)⟩, ⟨KY.out.off (h1 _).2.1 ?_⟩, ⟨HB.out.setCell ?_ _⟩⟩
                    · exact ⟨bits_lo_u8 _ _ _, bits_hi_u8 _ _ _⟩
                    · exact fun r hr g_ hg_ => by
                        injection hg_ with hg_
                        have o := ORD.out
                        have a := HLO.out
                        have b := HHI.out
                        simp only [List.mem_cons, List.not_mem_nil, or_false] at hr
                        rcases hr with rfl | rfl | rfl <;> (dsimp only; omega)
                    · have o := ORD.out; have a := HLO.out; show w.heap.size ≤ gp; omega
                · have d1 : decide ((j : Int) < (l0.length : Int)) = false := decide_eq_false (by omega)
                  obtain rfl : j = l0.length := by have := HJ.out; omega
                  have d5 : decide ((l0.length : Int) < (l0.length : Int)) = false := decide_eq_false (by omega)
                  clear hj
                  go_wp2_with (fail)
                  go_loopg [29] l1.length (fun gq v29 wq => ∃ (j : Nat) (yb : List Int), v29 = .int .i64 j ∧ Aside0 (j ≤ l1.length) ∧ Aside0 (l1.length - j ≤ gq) ∧ Aside0 (yb.length = l1.length) ∧ Aside0 (RK .i64 3 wq w42.heap.size w47.heap.size (.slice (some ⟨gb, 0, none⟩) (l1.length + 2) cb) (yb ++ [71, 72])) ∧ Aside0 (RK .u8 5 wq w1.heap.size w42.heap.size (.slice (some ⟨gp, 0, none⟩) (l0.length + 2) cp) (yp ++ [161, 162])) ∧ Aside0 (Bag wq [⟨.i64, 3, w60.heap.size, w61.heap.size, .slice Ak av.length ck, av⟩, ⟨.u8, 5, w56.heap.size, w57.heap.size, .slice Ay tv.length cy, tv⟩, ⟨.i64, 3, w54.heap.size, w55.heap.size, .slice Ae av.length ce, av⟩]) ∧ Aside0 (Below w.heap.size w wq))
                  case atStart => exact ⟨0, l1, rfl, ⟨Nat.zero_le _⟩, ⟨by omega⟩, ⟨rfl⟩, RQ, RP, KY, HB⟩
                  case round =>
                    clear RQ RP KY HB
                    obtain ⟨j, yb, rfl, HJ, HG29, Hyb, RQ, RP, KY, HB⟩ := hrel
                    by_cases hj : j < l1.length
                    · have d1 : decide ((j : Int) < (l1.length : Int)) = true := decide_eq_true (by omega)
                      have d2 : (0 : Int) ≤ (j : Int) := Int.natCast_nonneg j
                      have d3 : (j : Int) < (l1.length : Int) := by omega
                      obtain ⟨-, -, hlo, hhi, hu, hz⟩ := RQ.out.putm Hyb.out j hj 0
                      obtain ⟨u, hu'⟩ : ∃ u, yb.getD j 0 = u := ⟨_, rfl⟩
                      rw [hu'] at hu
                      have HJL := Aside0.mk hj
                      have HLO := Aside0.mk hlo
                      have HHI := Aside0.mk hhi
                      clear hj hlo hhi hu'
                      go_wp2_with (fail)
                      go_roundg (l1.length - (j + 1))
                      case measure => have := HG29.out; have := HJL.out; omega
                      case rel =>
                        have h1 := RQ.out.putm Hyb.out j HJL.out
                        refine ⟨j + 1, yb.set j _, by first | rfl | (rw [w64 (by omega) (by omega)]; rfl), ⟨by have := HJL.out; omega⟩, ⟨by omega⟩, ⟨by rw [List.length_set]; exact Hyb.out⟩, ⟨(h1 _).1⟩, ⟨RP.out.off (h1 _).2.1 (fun g_ hg_ => by injection hg_ with hg_; have o := ORD.out; have a := HLO.out; have b := HHI.out; omega)⟩, ⟨KY.out.off (h1 _).2.1 ?_⟩, ⟨HB.out.setCell ?_ _⟩⟩
                        · exact fun r hr g_ hg_ => by
                            injection hg_ with hg_
                            have o := ORD.out
                            have a := HLO.out
                            have b := HHI.out
                            simp only [List.mem_cons, List.not_mem_nil, or_false] at hr
                            rcases hr with rfl | rfl | rfl <;> (dsimp only; omega)
                        · have o := ORD.out; have a := HLO.out; show w.heap.size ≤ gb; omega
                    · have d1 : decide ((j : Int) < (l1.length : Int)) = false := decide_eq_false (by omega)
                      obtain rfl : j = l1.length := by have := HJ.out; omega
                      have d5 : decide ((l1.length : Int) < (l1.length : Int)) = false := decide_eq_false (by omega)
                      clear hj
                      go_wp2_with (fail)
                      have ord := ORD.out
                      obtain ⟨kz, zc, zn, ze, hz1, hz2, hzl⟩ := HT.out.all yp yb HBY.out (by rw [Hyp.out]; exact L0.out) (by rw [Hyb.out]; exact L1.out)
                      obtain ⟨ks4, hs4⟩ := HT.out.sme zc (by omega)
                      have HZ1 := Aside0.mk hz1
                      have HZ2 := Aside0.mk hz2
                      have HS4 := Aside0.mk hs4
                      clear hz1 hz2 hzl hs4 ord
                      have BG := Aside0.mk ((KY.out.add RQ.out).add RP.out)
                      have hc := churnref10_All.calls kz _ cp yp _ cb yb zc zn ze wr (mk_reads (BG.out.at_ (List.Mem.head _)) Hyp.out).1.1 (mk_reads (BG.out.at_ (List.Mem.head _)) Hyp.out).1.2 (mk_reads (BG.out.at_ (List.Mem.tail _ (List.Mem.head _))) Hyb.out).1.1 (mk_reads (BG.out.at_ (List.Mem.tail _ (List.Mem.head _))) Hyb.out).1.2 HZ1.out
                      rw [Hyp.out, Hyb.out] at hc
                      with_reducible refine (hc).mono ?_
                      rintro e w80 ⟨v0, rfl, h0, hb⟩
                      obtain ⟨AQ, cQ, rfl⟩ := (RK.of h0).lit
                      have BG := Aside0.mk ((BG.out.next hb).add (RK.of h0))
                      have HB := Aside0.mk (below_step HB.out hb)
                      have Zw80 := Aside0.mk hb.size
                      clear hb
                      clear h0 hc
                      go_wp2_with (fail)
                      have hc := draw_All.calls _ cp yp _ cb yb zc zn ze w80 (mk_reads (BG.out.at_ (List.Mem.tail _ (List.Mem.head _))) Hyp.out).1.1 (mk_reads (BG.out.at_ (List.Mem.tail _ (List.Mem.head _))) Hyp.out).1.2 (mk_reads (BG.out.at_ (List.Mem.tail _ (List.Mem.tail _ (List.Mem.head _)))) Hyb.out).1.1 (mk_reads (BG.out.at_ (List.Mem.tail _ (List.Mem.tail _ (List.Mem.head _)))) Hyb.out).1.2 HZ2.out
                      rw [Hyp.out, Hyb.out] at hc
                      with_reducible refine (hc).mono ?_
                      rintro e w81 ⟨v0, rfl, h0, hb⟩
                      obtain ⟨AZ, cZ, rfl⟩ := (RK.of h0).lit
                      have BG := Aside0.mk ((BG.out.next hb).add (RK.of h0))
                      have HB := Aside0.mk (below_step HB.out hb)
                      have Zw81 := Aside0.mk hb.size
                      clear hb
                      clear h0 hc
                      go_wp2_with (fail)
                      with_reducible refine (same10_calls ks1 _ _ av _ _ w81 (RK.reads (BG.out.at_ (List.Mem.tail _ (List.Mem.tail _ (List.Mem.tail _ (List.Mem.tail _ (List.Mem.tail _ (List.Mem.tail _ (List.Mem.head _))))))))) (RK.reads (BG.out.at_ (List.Mem.tail _ (List.Mem.tail _ (List.Mem.tail _ (List.Mem.tail _ (List.Mem.head _))))))) HS1.out).mono ?_
                      rintro e w82 ⟨rfl, hb⟩
                      have BG := Aside0.mk (BG.out.next hb)
                      have HB := Aside0.mk (below_step HB.out hb)
                      have Y82 := Aside0.mk hb.size
                      clear hb
                      have cv1 := Kd.C_string (P := Try.prog) (c := cy) Try.underlying22 Try.underlying5 Try.underlying9 (RK.reads (BG.out.at_ (List.Mem.tail _ (List.Mem.tail _ (List.Mem.tail _ (List.Mem.tail _ (List.Mem.tail _ (List.Mem.head _)))))))).1
                      go_wp2_with (fail)
                      clear cv1
                      with_reducible refine (same10_calls ks4 _ _ zc _ _ w82 (RK.reads (BG.out.at_ (List.Mem.head _))) (RK.reads (BG.out.at_ (List.Mem.tail _ (List.Mem.head _)))) HS4.out).mono ?_
                      rintro e w83 ⟨rfl, hb⟩
                      have BG := Aside0.mk (BG.out.next hb)
                      have HB := Aside0.mk (below_step HB.out hb)
                      have Y83 := Aside0.mk hb.size
                      clear hb
                      have e1 := ZA.out
                      have e2 := ZX.out
                      have f1 : decide ((za.length : Int) ≥ 20) = true := decide_eq_true (by omega)
                      have f2 : decide ((20 : Int) ≤ (za.length : Int)) = true := decide_eq_true (by omega)
                      have f3 : decide ((zx.length : Int) ≥ 20) = true := decide_eq_true (by omega)
                      have f4 : decide ((20 : Int) ≤ (zx.length : Int)) = true := decide_eq_true (by omega)
                      clear e1 e2
                      go_wp2_with (fail)
                      go_ret
                      exact ⟨rfl, HB.out⟩
end
/-- The program's and the document's answers are the same for all lists, and these lists are no greater than memory. -/
def churnlaw10_DrawKeeps.Told (l0 l1 l2 : List Int) : Prop := DkTold ∧ Byt l0 ∧ l0.length ≤ 140737488351232 ∧ l1.length ≤ 17592186043904 ∧ l2.length ≤ 17592186043904
noncomputable section
open Classical in
def churnlaw10_DrawKeeps.f (l0 : List Int) (l1 : List Int) (l2 : List Int) : Option (Bool) := if churnlaw10_DrawKeeps.Told l0 l1 l2 then some true else none
end
theorem churnlaw10_DrawKeeps.calls (A0 : Option Addr) (c0 : Nat) (l0 : List Int) (A1 : Option Addr) (c1 : Nat) (l1 : List Int) (A2 : Option Addr) (c2 : Nat) (l2 : List Int) (r : Bool) (w : World) (hr0 : Kd.C (Kd.int .u8) w A0 l0.length l0) (hc0 : l0.length ≤ c0) (hr1 : Kd.C (Kd.int .i64) w A1 l1.length l1) (hc1 : l1.length ≤ c1) (hr2 : Kd.C (Kd.int .i64) w A2 l2.length l2) (hc2 : l2.length ≤ c2) (hr_ : r = true) (h : churnlaw10_DrawKeeps.f l0 l1 l2 = some r) :
    Calls Try.prog 8 #[.slice A0 l0.length c0, .slice A1 l1.length c1, .slice A2 l2.length c2] w fun e w' => e = .returned (.bool r) ∧ Below w.heap.size w w' := by
  subst hr_
  unfold churnlaw10_DrawKeeps.f at h
  by_cases hc : churnlaw10_DrawKeeps.Told l0 l1 l2
  · obtain ⟨h1, h2, h3, h4, h5⟩ := hc
    exact keeps_calls A0 c0 l0 A1 c1 l1 A2 c2 l2 w hr0 hc0 hr1 hc1 hr2 hc2 h1 h2 h3 h4 h5
  · rw [if_neg hc] at h
    cases h

end Go.Proofs.Ytijnmfdpdjblbaa.Q
