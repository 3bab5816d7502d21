/- Functions of the program as plain Lean functions, each with a proof that its call comes to just these answers, or the row that joins them to the given statement; no condition beside the statement's own. Written for this claim by pf.py, this session's program over the kit's print. -/
import Derived.Test.YtiefmocfgneldaaQx0
import Derived.Test.YtiefmocfgneldaaQx4
import Derived.Test.YtiefmocfgneldaaQx5
import Derived.Test.YtiefmocfgneldaaQx8
import Derived.Test.YtiefmocfgneldaaQx9
import Derived.Test.YtiefmocfgneldaaQx15
import Derived.Test.YtiefmocfgneldaaQx17
import Derived.Test.YtiefmocfgneldaaQx18
import Derived.Test.YtiefmocfgneldaaQx19
namespace Go.Proofs.Ytiefmocfgneldaa.Q
open Go.RowKit Go.Proofs.YtiefmocfgneldaaW.PrintWords Go.Proofs.YtiefmocfgneldaaW.PrintLast Go.Proofs.YtiefmocfgneldaaW.PrintMore
attribute [local go_sem] max2_int min2_int max_two min_two max_three min_three max_four min_four   -- for this text's walks alone
set_option linter.unusedVariables false
set_option linter.unusedSimpArgs false

/-! ### churnlaw12_BraidPatterns: function 5 -/
/- own text -/
section
open Go.Proofs.Ytiefmocfgneldaa.Pl
theorem RB.of {w w' : World} {ok : Nat → Prop} {v : Value} {xs : List Int} (h : Kd.R (Kd.int .i64) 3 w' w.heap.size ok v xs) : RB w' w.heap.size w'.heap.size v xs := Kd.R_mono (Kd.R_bound h) (fun k hk => ⟨hk.2.1, hk.2.2.1⟩)
/-- A bag of rows. -/
def Rows (W : World) (L : List (Nat × Nat × Value × List Int)) : Prop := ∀ r ∈ L, RB W r.1 r.2.1 r.2.2.1 r.2.2.2
section
variable {W W1 : World} {L : List (Nat × Nat × Value × List Int)} {lo hi lo2 hi2 base : Nat} {v u : Value} {xs ys : List Int} {ls ls' : List Value} {xss xss' : List (List Int)}
theorem Rows.nil (W : World) : Rows W [] := fun r hr => by simp at hr
theorem Rows.at_ {r : Nat × Nat × Value × List Int} (h : Rows W L) (hr : r ∈ L) : RB W r.1 r.2.1 r.2.2.1 r.2.2.2 := h r hr
theorem Rows.next (h : Rows W L) (hb : Below W.heap.size W W1) : Rows W1 L := fun r hr => (h r hr).below hb
theorem Rows.add (h : Rows W L) (r : RB W lo hi v xs) : Rows W ((lo, hi, v, xs) :: L) := by
  intro x hx
  rcases List.mem_cons.1 hx with rfl | hx
  · exact r
  · exact h x hx
theorem Lists.pairB (r0 : RB W lo hi v xs) (r1 : RB W lo hi u ys) (ne : ∀ b, v.ownBlock = some b → some b ≠ u.ownBlock) : Lists .i64 W lo 3 (fun k => lo ≤ k ∧ k < hi) [v, u] [xs, ys] :=
  ((Lists.nil .i64 W lo 3 (fun k => lo ≤ k ∧ k < hi)).cons r1 (fun u hu => by simp at hu)).cons r0 (fun u' hu b hb hb2 => by
    simp only [List.mem_cons, List.not_mem_nil, or_false] at hu
    subst hu
    exact ne b hb hb2.symm)
theorem Lists.oneB (r : RB W lo hi v xs) : Lists .i64 W lo 3 (fun k => lo ≤ k ∧ k < hi) [v] [xs] := (Lists.nil .i64 W lo 3 (fun k => lo ≤ k ∧ k < hi)).cons r (fun u hu => by simp at hu)
theorem Lists.appB (h : Lists .i64 W lo 3 (fun k => lo ≤ k ∧ k < hi) ls xss) (h' : Lists .i64 W lo2 3 (fun k => lo2 ≤ k ∧ k < hi2) ls' xss') (h1 : hi ≤ lo2) (h2 : lo ≤ hi) (h3 : lo2 ≤ hi2) : Lists .i64 W lo 3 (fun k => lo ≤ k ∧ k < hi2) (ls ++ ls') (xss ++ xss') := by
  have hl : Lists .i64 W lo 3 (fun k => lo2 ≤ k ∧ k < hi2) ls' xss' := ⟨h'.len, fun j v x hv hx => Kd.R_lower (h'.row j v x hv hx) (by omega), h'.two⟩
  refine (h.append hl (fun b a c => by have := a.2; have := c.1; omega)).mono (fun b hb => ?_)
  rcases hb with hb | hb
  · exact ⟨hb.1, by have := hb.2; omega⟩
  · exact ⟨by have := hb.1; omega, hb.2⟩
/-- A lent list: its marks lie behind it. -/
theorem lent_reads {A : Option Addr} {n c : Nat} (h : RB W lo hi (.slice A (n + 2) c) (xs ++ [-77, -78])) (hn : xs.length = n) : (Kd.C (Kd.int .i64) W A xs.length xs ∧ xs.length ≤ c) ∧ (Kd.C (Kd.int .i64) W A (xs ++ [-77, -78]).length (xs ++ [-77, -78]) ∧ (xs ++ [-77, -78]).length ≤ c) := by
  obtain ⟨e, hc, hC⟩ := Kd.R_reads' h
  have hl : (xs ++ [-77, -78]).length = n + 2 := by simp [hn]
  refine ⟨⟨?_, by omega⟩, hC, by omega⟩
  have := Kd.C_take (m := xs.length) hC (by simp)
  simpa using this
theorem lent_put {g n c : Nat} (h : RB W lo hi (.slice (some ⟨g, 0, none⟩) (n + 2) c) (xs ++ [-77, -78])) (hn : xs.length = n) (j : Nat) (hj : j < n) (z : Int) :
    RB (W.setCell ⟨g, j, none⟩ (.int .i64 z)) lo hi (.slice (some ⟨g, 0, none⟩) (n + 2) c) (xs.set j z ++ [-77, -78]) ∧ W.grownBy (W.setCell ⟨g, j, none⟩ (.int .i64 z)) (some g) ∧ lo ≤ g ∧ g < hi ∧ (∃ u, W.cell? ⟨g, j, none⟩ = some (.int .i64 u)) ∧ W.frozen? ⟨g, j, none⟩ = false := by
  obtain ⟨hp, hg⟩ := Kd.R_putg h (j : Int) z
  simp only [Int.toNat_natCast] at hp hg
  have e : (xs ++ [-77, -78]).set j z = xs.set j z ++ [-77, -78] := by rw [List.set_append_left _ _ (by omega)]
  rw [e] at hp
  have h2 := Kd.R_celln (0 : Int) h (j : Int) (by omega) (by omega)
  simp only [Int.toNat_natCast] at h2
  exact ⟨hp, hg, (h.1 g rfl).1, (h.1 g rfl).2, ⟨_, h2.1⟩, h2.2⟩
theorem RB.off {g : Nat} (h : RB W lo hi v xs) (hg : W.grownBy W1 (some g)) (hn : ¬ (lo ≤ g ∧ g < hi)) : RB W1 lo hi v xs :=
  Kd.R_step h (fun k hk hlt => hg.block k hlt (fun e => by injection e with e; subst e; exact hn hk))
end
set_option maxHeartbeats 1000000 in
set_option maxRecDepth 100000 in
theorem lent_calls (A : Option Addr) (c : Nat) (l : List Int) (w : World) (hC : Kd.C (Kd.int .i64) w A l.length l ∧ l.length ≤ c) (hl : l.length ≤ 17592186044000) :
    Calls Try.prog 11 #[.slice A l.length c] w fun e w' => ∃ (A1 : Option Addr) (c1 : Nat), e = .returned (.tuple #[.slice A1 l.length c1, .slice A1 (l.length + 2) c1]) ∧ RB w' w.heap.size w'.heap.size (.slice A1 (l.length + 2) c1) (l ++ [-77, -78]) ∧ Below w.heap.size w w' := by
  have HC := Aside0.mk hC
  have HL := Aside0.mk hl
  clear hC hl
  go_enter Try.func11, Try.ntmps11
  go_wp2_with (first
    | ((with_reducible refine gate_dst (N := 4) rfl ?_); refine Kd.R_lit (Kd.int .i64) w.heap.size 3 ?hg (N := 4) ?hd (xs := ([] : List Int)) (inner := []) (ok := fun _ => True) (okp := fun _ => True) ?hr ?hp (fun _ hk => hk) trivial (Below.refl _ _) (Nat.le_refl _) (by simp) ?_; (case hd => rfl); (case hg => rfl); (case hr => first | (go_simp; done) | (go_simp; rfl)); (case hp => exact (Reps.none _ _)); intro v4 w4 ho4 hb4 hg4 hn4; have HB4 := Aside0.mk hb4; have HO4 := Aside0.mk ho4; clear hb4 ho4 hg4 hn4)
    | ((with_reducible refine gate_builtin (b := .append) (xs := #[.tmp 4, .tmp 5]) rfl ?_); at_builtin; go_loud (refine Kd.R_app_int (k := .i64) w.heap.size rfl (.tmp 4) (.tmp 5) 22 3 8 rfl Try.underlying22 info3 (by omega) v4 [] l A l.length c (fun _ => True) rfl rfl trivial HO4.out (Kd.C_below HC.out.1 HB4.out) HB4.out.size ?hl ?_; (case hl => have h1 := HL.out; simp only [List.length_nil]; omega); intro v6 w6 hr6 hg6 hat6; have HB6 := Aside0.mk (HB4.out.grown hg6 HB4.out.size (Kd.R_base HO4.out)); have HO6 := Aside0.mk hr6; clear hr6 hg6 hat6))
    | ((with_reducible refine gate_builtin (b := .append) (xs := #[.tmp 6, .tmp 7]) rfl ?_); at_builtin; go_loud (refine Kd.R_app_int (k := .i64) w.heap.size rfl (.tmp 6) (.tmp 7) 22 3 8 rfl Try.underlying22 info3 (by omega) v6 ([] ++ l) [-77, -78] (some ⟨w6.heap.size, 0, none⟩) 2 2 (fun _ => True) rfl rfl trivial (Kd.R_alloc HO6.out _) (C_lit .i64 w6 [-77, -78] 3 (by simp)) ?hbs ?hl ?_; (case hbs => exact (HB6.out.alloc HB6.out.size _).size); (case hl => have h1 := HL.out; simp; omega); intro v8 w8 hr8 hg8 hat8; have HB8 := Aside0.mk ((HB6.out.alloc HB6.out.size _).grown hg8 (HB6.out.alloc HB6.out.size _).size (Kd.R_base HO6.out)); have hr8 : Kd.R (Kd.int .i64) 3 w8 w.heap.size (fun _ => True) v8 (l ++ [-77, -78]) := hr8; obtain ⟨A8, c8, rfl, hc8, -⟩ := Kd.R_reads hr8; have hl8 : (l ++ [-77, -78]).length = l.length + 2 := (by simp); rw [hl8] at hr8 hc8; try rw [hl8]; have HO8 := Aside0.mk hr8; have HC8 := Aside0.mk hc8; clear hr8 hg8 hat8 hl8 hc8; obtain ⟨i5, hi05, -, -, -⟩ := info_parts info3; have hcut := cut_to (P := Try.prog) 22 3 .i64 Try.underlying22 hi05 A8 (l.length + 2) c8 (l.length : Int) (by omega) (by omega) HC8.out; simp only [Int.toNat_natCast] at hcut; clear hi05)))
  go_ret2
  exact ⟨_, _, rfl, RB.of HO8.out, HB8.out⟩
theorem whole_calls (k : Nat) (A : Option Addr) (c : Nat) (A1 : Option Addr) (c1 : Nat) (l : List Int) (w : World) {lo hi : Nat} (h0 : RB w lo hi (.slice A (l.length + 2) c) (l ++ [-77, -78])) (h1 : Kd.C (Kd.int .i64) w A1 l.length l ∧ l.length ≤ c1) (h : churnlaw12_whole.f k (l ++ [-77, -78]) l = some true) :
    Calls Try.prog 15 #[.slice A (l.length + 2) c, .slice A1 l.length c1] w fun e w' => e = .returned (.bool true) ∧ Below w.heap.size w w' := by
  obtain ⟨-, a, b⟩ := lent_reads h0 rfl
  have hc := churnlaw12_whole.calls k A c (l ++ [-77, -78]) A1 c1 l true w a b h1.1 h1.2 h
  have hl : (l ++ [-77, -78]).length = l.length + 2 := by simp
  rw [hl] at hc
  refine hc.mono ?_
  rintro e w' ⟨rfl, ⟨q, rfl⟩⟩
  exact ⟨rfl, pw_below_drewN (Below.refl _ _) q⟩
/-- The program's and the document's answers are the same for all lists. -/
structure PatTold : Prop where
  pat : ∀ s d : List Int, s.length ≤ 17592186044000 → d.length ≤ 17592186044000 → ∃ (k1 k2 k3 k4 : Nat) (c o : List Int) (e : Int), braid_Pattern.f k1 s d = some (c, o, e) ∧ churnref12_Pattern.f k2 s d = some (c, o, e) ∧ churnlaw12_same.f k3 c c = some true ∧ churnlaw12_same.f k4 o o = some true ∧ c.length ≤ 1048576 ∧ o.length ≤ 1048576
  drw : ∀ s c o : List Int, s.length ≤ 17592186044000 → c.length ≤ 17592186044000 → o.length ≤ 17592186044000 → ∃ (k1 k2 k3 : Nat) (ds : List Int) (e : Int), braid_Draws.f k1 s c o = some (ds, e) ∧ churnref12_Draws.f k2 s c o = some (ds, e) ∧ churnlaw12_same.f k3 ds ds = some true ∧ ds.length ≤ 1048576
  whl : ∀ l : List Int, l.length ≤ 17592186044000 → ∃ k, churnlaw12_whole.f k (l ++ [-77, -78]) l = some true
  awk : ∃ k, churnlaw12_awake.f k = some true
/-- What the two loops that write noughts keep. -/
structure ZS (W0 W : World) (s0 s1 s2 s3 s4 : Nat) (v0 v1 v2 v3 : Value) (xs yd xc yo : List Int) : Prop where
  below : Below s0 W0 W
  r0 : RB W s0 s1 v0 (xs ++ [-77, -78])
  r1 : RB W s1 s2 v1 (yd ++ [-77, -78])
  r2 : RB W s2 s3 v2 (xc ++ [-77, -78])
  r3 : RB W s3 s4 v3 (yo ++ [-77, -78])
  ord : s0 ≤ s1 ∧ s1 ≤ s2 ∧ s2 ≤ s3 ∧ s3 ≤ s4
section
variable {W0 W W1 : World} {s0 s1 s2 s3 s4 g n c : Nat} {v0 v1 v2 v3 : Value} {xs yd xc yo : List Int}
theorem ZS.put1 (h : ZS W0 W s0 s1 s2 s3 s4 v0 (.slice (some ⟨g, 0, none⟩) (n + 2) c) v2 v3 xs yd xc yo) (hn : yd.length = n) (j : Nat) (hj : j < n) : ZS W0 (W.setCell ⟨g, j, none⟩ (.int .i64 0)) s0 s1 s2 s3 s4 v0 (.slice (some ⟨g, 0, none⟩) (n + 2) c) v2 v3 xs (yd.set j 0) xc yo := by
  obtain ⟨hp, hg, h1, h2, -, -⟩ := lent_put h.r1 hn j hj 0
  obtain ⟨o1, o2, o3, o4⟩ := h.ord
  exact ⟨h.below.setCell (by show s0 ≤ g; omega) _, h.r0.off hg (by omega), hp, h.r2.off hg (by omega), h.r3.off hg (by omega), h.ord⟩
theorem ZS.put3 (h : ZS W0 W s0 s1 s2 s3 s4 v0 v1 v2 (.slice (some ⟨g, 0, none⟩) (n + 2) c) xs yd xc yo) (hn : yo.length = n) (j : Nat) (hj : j < n) : ZS W0 (W.setCell ⟨g, j, none⟩ (.int .i64 0)) s0 s1 s2 s3 s4 v0 v1 v2 (.slice (some ⟨g, 0, none⟩) (n + 2) c) xs yd xc (yo.set j 0) := by
  obtain ⟨hp, hg, h1, h2, -, -⟩ := lent_put h.r3 hn j hj 0
  obtain ⟨o1, o2, o3, o4⟩ := h.ord
  exact ⟨h.below.setCell (by show s0 ≤ g; omega) _, h.r0.off hg (by omega), h.r1.off hg (by omega), h.r2.off hg (by omega), hp, h.ord⟩
theorem lent_head {lo hi : Nat} {A : Option Addr} (h : RB W lo hi (.slice A (n + 2) c) (xs ++ [-77, -78])) : ∃ g, A = some ⟨g, 0, none⟩ := by
  have h2 := Kd.R_reads' h
  obtain ⟨ad, rfl, -⟩ := Kd.at_int h2.2.2 0 (by omega) (by simp; omega)
  obtain ⟨p, rfl⟩ := Kd.R_head h
  exact ⟨p, rfl⟩
end
theorem RB.lowW1 {W : World} {lo lo2 hi : Nat} {v : Value} {xs : List Int} (h : RB W lo hi v xs) (hl : lo2 ≤ lo) : RB W lo2 hi v xs := Kd.R_lower (Kd.R_mono h (fun k hk => ⟨by have := hk.1; omega, hk.2⟩)) hl
set_option maxHeartbeats 2000000 in
set_option maxRecDepth 100000 in
theorem patterns_calls (A0 : Option Addr) (c0 : Nat) (l0 : List S52) (w : World) (hr0 : Kd.C k52 w A0 l0.length l0) (hc0 : l0.length ≤ c0) (hT : PatTold) (hlen : l0.length ≤ 17592186044000)
    (hbd : ∀ q ∈ l0, q.f0.length ≤ 17592186044000 ∧ q.f1.length ≤ 17592186044000 ∧ q.f2.length ≤ 17592186044000 ∧ q.f3.length ≤ 17592186044000) :
    Calls Try.prog 5 #[.slice A0 l0.length c0] w fun e w' => e = .returned (.bool true) ∧ Below w.heap.size w w' := by
  have HR0 := Aside0.mk hr0
  have HT := Aside0.mk hT
  have HBD := Aside0.mk hbd
  have b9 : (l0.length : Int) ≤ 17592186044000 := by omega
  clear hr0 hc0 hT hbd hlen
  have hu52 := Try.underlying52
  go_enter Try.func5, Try.ntmps5
  go_wp2_with (fail)
  obtain ⟨k0, hk0⟩ := HT.out.awk
  with_reducible refine (churnlaw12_awake.calls k0 true w hk0).mono ?_
  rintro e w1 ⟨rfl, hb1⟩
  have HB1 := Aside0.mk hb1
  clear hb1 hk0
  go_wp2_with (fail)
  go_loopg [34] l0.length (fun gq v34 wr => ∃ (i : Nat), v34 = .int .i64 i ∧ Aside0 (i ≤ l0.length) ∧ Aside0 (l0.length - i ≤ gq) ∧ Aside0 (Below w.heap.size w wr))
  case atStart => exact ⟨0, rfl, ⟨Nat.zero_le _⟩, ⟨by omega⟩, HB1⟩
  case round =>
    clear HB1
    obtain ⟨i, rfl, HI, HG, I⟩ := hrel
    obtain ⟨W0, rfl⟩ : ∃ W0, W0 = wr := ⟨_, rfl⟩
    by_cases hlt : i < l0.length
    · have c1 : decide ((i : Int) < (l0.length : Int)) = true := decide_eq_true (by omega)
      have c2 : (0 : Int) ≤ (i : Int) := Int.natCast_nonneg i
      have c3 : (i : Int) < (l0.length : Int) := by omega
      obtain ⟨ad, As, cs, Ad, cd, Ac, cc, Ao, co, rfl, q0, q1, q2, q3, ls, gs, ld, gd, lc, gc, lo, go_⟩ := at_T52 (Kd.C_below HR0.out I.out) (i : Int) c2 c3
      have hmem : rd_T52 l0 (i : Int) ∈ l0 := by
        have : rd_T52 l0 (i : Int) = l0[i] := by simp [rd_T52, List.getD_eq_getElem?_getD, hlt]
        rw [this]
        exact List.getElem_mem hlt
      have hbb := HBD.out _ hmem
      clear hmem
      generalize rd_T52 l0 (i : Int) = q at *
      obtain ⟨xs, xd, xc, xo⟩ := q
      simp only [Int.toNat_natCast] at q0 q1 q2 q3 ls gs ld gd lc gc lo go_ hbb
      have GS := Aside0.mk (And.intro gs ls)
      have GD := Aside0.mk (And.intro gd ld)
      have GC := Aside0.mk (And.intro gc lc)
      have GO := Aside0.mk (And.intro go_ lo)
      have b0 := Aside0.mk hbb.1
      have b1 := Aside0.mk hbb.2.1
      have b2 := Aside0.mk hbb.2.2.1
      have b3 := Aside0.mk hbb.2.2.2
      clear ls gs ld gd lc gc lo go_ hbb
      obtain ⟨kp1, kp2, ks1, ks2, pc, po, pe, hp1, hp2, hs1, hs2, hl1, hl2⟩ := HT.out.pat xs xd b0.out b1.out
      obtain ⟨kd1, kd2, ks3, dd, de, hd1, hd2, hs3, hl3⟩ := HT.out.drw xs xc xo b0.out b2.out b3.out
      obtain ⟨kw0, hw0⟩ := HT.out.whl xs b0.out
      obtain ⟨kw1, hw1⟩ := HT.out.whl xd b1.out
      obtain ⟨kw2, hw2⟩ := HT.out.whl xc b2.out
      obtain ⟨kw3, hw3⟩ := HT.out.whl xo b3.out
      have HP1 := Aside0.mk hp1
      have HP2 := Aside0.mk hp2
      have HD1 := Aside0.mk hd1
      have HD2 := Aside0.mk hd2
      have HS1 := Aside0.mk hs1
      have HS2 := Aside0.mk hs2
      have HS3 := Aside0.mk hs3
      have HL1 := Aside0.mk hl1
      have HL2 := Aside0.mk hl2
      have HL3 := Aside0.mk hl3
      have HW0 := Aside0.mk hw0
      have HW1 := Aside0.mk hw1
      have HW2 := Aside0.mk hw2
      have HW3 := Aside0.mk hw3
      have HLT := Aside0.mk hlt
      clear hp1 hp2 hd1 hd2 hs1 hs2 hs3 hl1 hl2 hl3 hw0 hw1 hw2 hw3 hlt
      obtain ⟨W1, hW1⟩ : ∃ W, W = W0.alloc (.cells #[.slice As xs.length cs, .slice Ad xd.length cd, .slice Ac xc.length cc, .slice Ao xo.length co] 52) := ⟨_, rfl⟩
      have hbW : Below W0.heap.size W0 W1 := by rw [hW1]; exact below_alloc (Below.refl _ _) _
      have hbx : W1.heap[W0.heap.size]? = some (.cells #[.slice As xs.length cs, .slice Ad xd.length cd, .slice Ac xc.length cc, .slice Ao xo.length co] 52 (0, 0)) := by rw [hW1]; exact blk_new _ _
      have BX := Aside0.mk hbx
      have HBr := Aside0.mk hbW
      have HW1s := Aside0.mk (blk_lt hbx)
      have R := Aside0.mk (Rows.nil W1)
      clear hbW hbx
      have t0 := (blk_cell BX.out 0).trans rfl
      have t1 := (blk_cell BX.out 1).trans rfl
      have t2 := (blk_cell BX.out 2).trans rfl
      have t3 := (blk_cell BX.out 3).trans rfl
      rw [hW1] at t0 t1 t2 t3
      go_wp2_with (fail)
      rw [← hW1] at *
      clear hW1 q0 q1 q2 q3
      with_reducible refine (lent_calls As cs xs W1 ⟨Kd.C_below GS.out.1 HBr.out, GS.out.2⟩ b0.out).mono ?_
      rintro e w2 ⟨L0, e0, rfl, hr, hb⟩
      have R := Aside0.mk ((R.out.next hb).add hr)
      have HBr := Aside0.mk (below_step HBr.out hb)
      have Zw2 := Aside0.mk hb.size
      have BX := Aside0.mk (blk_below BX.out hb)
      clear hb t0 t1 t2 t3
      have t0 := (blk_cell BX.out 0).trans rfl
      have t1 := (blk_cell BX.out 1).trans rfl
      have t2 := (blk_cell BX.out 2).trans rfl
      have t3 := (blk_cell BX.out 3).trans rfl
      clear hr
      go_wp2_with (fail)
      with_reducible refine (lent_calls Ad cd xd w2 ⟨Kd.C_below GD.out.1 HBr.out, GD.out.2⟩ b1.out).mono ?_
      rintro e w3 ⟨L1, e1, rfl, hr, hb⟩
      have R := Aside0.mk ((R.out.next hb).add hr)
      have HBr := Aside0.mk (below_step HBr.out hb)
      have Zw3 := Aside0.mk hb.size
      have BX := Aside0.mk (blk_below BX.out hb)
      clear hb t0 t1 t2 t3
      have t0 := (blk_cell BX.out 0).trans rfl
      have t1 := (blk_cell BX.out 1).trans rfl
      have t2 := (blk_cell BX.out 2).trans rfl
      have t3 := (blk_cell BX.out 3).trans rfl
      clear hr
      go_wp2_with (fail)
      with_reducible refine (lent_calls Ac cc xc w3 ⟨Kd.C_below GC.out.1 HBr.out, GC.out.2⟩ b2.out).mono ?_
      rintro e w4 ⟨L2, e2, rfl, hr, hb⟩
      have R := Aside0.mk ((R.out.next hb).add hr)
      have HBr := Aside0.mk (below_step HBr.out hb)
      have Zw4 := Aside0.mk hb.size
      have BX := Aside0.mk (blk_below BX.out hb)
      clear hb t0 t1 t2 t3
      have t0 := (blk_cell BX.out 0).trans rfl
      have t1 := (blk_cell BX.out 1).trans rfl
      have t2 := (blk_cell BX.out 2).trans rfl
      have t3 := (blk_cell BX.out 3).trans rfl
      clear hr
      go_wp2_with (fail)
      with_reducible refine (lent_calls Ao co xo w4 ⟨Kd.C_below GO.out.1 HBr.out, GO.out.2⟩ b3.out).mono ?_
      rintro e w5 ⟨L3, e3, rfl, hr, hb⟩
      have R := Aside0.mk ((R.out.next hb).add hr)
      have HBr := Aside0.mk (below_step HBr.out hb)
      have Zw5 := Aside0.mk hb.size
      have BX := Aside0.mk (blk_below BX.out hb)
      clear hb t0 t1 t2 t3
      have t0 := (blk_cell BX.out 0).trans rfl
      have t1 := (blk_cell BX.out 1).trans rfl
      have t2 := (blk_cell BX.out 2).trans rfl
      have t3 := (blk_cell BX.out 3).trans rfl
      clear hr
      go_wp2_with (fail)
      with_reducible refine (churnref12_Pattern.calls kp2 As cs xs Ad cd xd pc po pe w5 (Kd.C_below GS.out.1 HBr.out) GS.out.2 (Kd.C_below GD.out.1 HBr.out) GD.out.2 HP2.out).mono ?_
      rintro e w6 ⟨v0, v1, rfl, h0, h1, hb⟩
      obtain ⟨M0, m0, rfl⟩ := (RB.of h0).lit
      obtain ⟨M1, m1, rfl⟩ := (RB.of h1).lit
      have R := Aside0.mk (((R.out.next hb).add (RB.of h0)).add (RB.of h1))
      have HBr := Aside0.mk (below_step HBr.out hb)
      have Zw6 := Aside0.mk hb.size
      have BX := Aside0.mk (blk_below BX.out hb)
      clear hb t0 t1 t2 t3
      have t0 := (blk_cell BX.out 0).trans rfl
      have t1 := (blk_cell BX.out 1).trans rfl
      have t2 := (blk_cell BX.out 2).trans rfl
      have t3 := (blk_cell BX.out 3).trans rfl
      clear h0 h1
      go_wp2_with (fail)
      with_reducible refine (churnref12_Draws.calls kd2 As cs xs Ac cc xc Ao co xo dd de w6 (Kd.C_below GS.out.1 HBr.out) GS.out.2 (Kd.C_below GC.out.1 HBr.out) GC.out.2 (Kd.C_below GO.out.1 HBr.out) GO.out.2 HD2.out).mono ?_
      rintro e w7 ⟨v0, rfl, h0, hb⟩
      obtain ⟨M2, m2, rfl⟩ := (RB.of h0).lit
      have R := Aside0.mk ((R.out.next hb).add (RB.of h0))
      have HBr := Aside0.mk (below_step HBr.out hb)
      have Zw7 := Aside0.mk hb.size
      have BX := Aside0.mk (blk_below BX.out hb)
      clear hb t0 t1 t2 t3
      have t0 := (blk_cell BX.out 0).trans rfl
      have t1 := (blk_cell BX.out 1).trans rfl
      have t2 := (blk_cell BX.out 2).trans rfl
      have t3 := (blk_cell BX.out 3).trans rfl
      clear h0
      go_wp2_with (fail)
      with_reducible refine (braid_Pattern.calls kp1 L0 e0 xs L1 e1 xd pc po pe w7 (lent_reads (R.out.at_ (List.Mem.tail _ (List.Mem.tail _ (List.Mem.tail _ (List.Mem.tail _ (List.Mem.tail _ (List.Mem.tail _ (List.Mem.head _)))))))) rfl).1.1 (lent_reads (R.out.at_ (List.Mem.tail _ (List.Mem.tail _ (List.Mem.tail _ (List.Mem.tail _ (List.Mem.tail _ (List.Mem.tail _ (List.Mem.head _)))))))) rfl).1.2 (lent_reads (R.out.at_ (List.Mem.tail _ (List.Mem.tail _ (List.Mem.tail _ (List.Mem.tail _ (List.Mem.tail _ (List.Mem.head _))))))) rfl).1.1 (lent_reads (R.out.at_ (List.Mem.tail _ (List.Mem.tail _ (List.Mem.tail _ (List.Mem.tail _ (List.Mem.tail _ (List.Mem.head _))))))) rfl).1.2 HP1.out).mono ?_
      rintro e w8 ⟨v0, v1, rfl, h0, h1, hb⟩
      obtain ⟨N0, n0, rfl⟩ := (RB.of h0).lit
      obtain ⟨N1, n1, rfl⟩ := (RB.of h1).lit
      have NE0 := Aside0.mk h0.1
      have R := Aside0.mk (((R.out.next hb).add (RB.of h0)).add (RB.of h1))
      have HBr := Aside0.mk (below_step HBr.out hb)
      have Zw8 := Aside0.mk hb.size
      have BX := Aside0.mk (blk_below BX.out hb)
      clear hb t0 t1 t2 t3
      have t0 := (blk_cell BX.out 0).trans rfl
      have t1 := (blk_cell BX.out 1).trans rfl
      have t2 := (blk_cell BX.out 2).trans rfl
      have t3 := (blk_cell BX.out 3).trans rfl
      clear h0 h1
      go_wp2_with (fail)
      with_reducible refine (braid_Pattern.calls kp1 L0 e0 xs L1 e1 xd pc po pe w8 (lent_reads (R.out.at_ (List.Mem.tail _ (List.Mem.tail _ (List.Mem.tail _ (List.Mem.tail _ (List.Mem.tail _ (List.Mem.tail _ (List.Mem.tail _ (List.Mem.tail _ (List.Mem.head _)))))))))) rfl).1.1 (lent_reads (R.out.at_ (List.Mem.tail _ (List.Mem.tail _ (List.Mem.tail _ (List.Mem.tail _ (List.Mem.tail _ (List.Mem.tail _ (List.Mem.tail _ (List.Mem.tail _ (List.Mem.head _)))))))))) rfl).1.2 (lent_reads (R.out.at_ (List.Mem.tail _ (List.Mem.tail _ (List.Mem.tail _ (List.Mem.tail _ (List.Mem.tail _ (List.Mem.tail _ (List.Mem.tail _ (List.Mem.head _))))))))) rfl).1.1 (lent_reads (R.out.at_ (List.Mem.tail _ (List.Mem.tail _ (List.Mem.tail _ (List.Mem.tail _ (List.Mem.tail _ (List.Mem.tail _ (List.Mem.tail _ (List.Mem.head _))))))))) rfl).1.2 HP1.out).mono ?_
      rintro e w9 ⟨v0, v1, rfl, h0, h1, hb⟩
      obtain ⟨N2, n2, rfl⟩ := (RB.of h0).lit
      obtain ⟨N3, n3, rfl⟩ := (RB.of h1).lit
      have NE2 := Aside0.mk h0.1
      have R := Aside0.mk (((R.out.next hb).add (RB.of h0)).add (RB.of h1))
      have HBr := Aside0.mk (below_step HBr.out hb)
      have Zw9 := Aside0.mk hb.size
      have BX := Aside0.mk (blk_below BX.out hb)
      clear hb t0 t1 t2 t3
      have t0 := (blk_cell BX.out 0).trans rfl
      have t1 := (blk_cell BX.out 1).trans rfl
      have t2 := (blk_cell BX.out 2).trans rfl
      have t3 := (blk_cell BX.out 3).trans rfl
      clear h0 h1
      go_wp2_with (fail)
      with_reducible refine (braid_Draws.calls kd1 L0 e0 xs L2 e2 xc L3 e3 xo dd de w9 (lent_reads (R.out.at_ (List.Mem.tail _ (List.Mem.tail _ (List.Mem.tail _ (List.Mem.tail _ (List.Mem.tail _ (List.Mem.tail _ (List.Mem.tail _ (List.Mem.tail _ (List.Mem.tail _ (List.Mem.tail _ (List.Mem.head _)))))))))))) rfl).1.1 (lent_reads (R.out.at_ (List.Mem.tail _ (List.Mem.tail _ (List.Mem.tail _ (List.Mem.tail _ (List.Mem.tail _ (List.Mem.tail _ (List.Mem.tail _ (List.Mem.tail _ (List.Mem.tail _ (List.Mem.tail _ (List.Mem.head _)))))))))))) rfl).1.2 (lent_reads (R.out.at_ (List.Mem.tail _ (List.Mem.tail _ (List.Mem.tail _ (List.Mem.tail _ (List.Mem.tail _ (List.Mem.tail _ (List.Mem.tail _ (List.Mem.tail _ (List.Mem.head _)))))))))) rfl).1.1 (lent_reads (R.out.at_ (List.Mem.tail _ (List.Mem.tail _ (List.Mem.tail _ (List.Mem.tail _ (List.Mem.tail _ (List.Mem.tail _ (List.Mem.tail _ (List.Mem.tail _ (List.Mem.head _)))))))))) rfl).1.2 (lent_reads (R.out.at_ (List.Mem.tail _ (List.Mem.tail _ (List.Mem.tail _ (List.Mem.tail _ (List.Mem.tail _ (List.Mem.tail _ (List.Mem.tail _ (List.Mem.head _))))))))) rfl).1.1 (lent_reads (R.out.at_ (List.Mem.tail _ (List.Mem.tail _ (List.Mem.tail _ (List.Mem.tail _ (List.Mem.tail _ (List.Mem.tail _ (List.Mem.tail _ (List.Mem.head _))))))))) rfl).1.2 HD1.out).mono ?_
      rintro e w10 ⟨v0, rfl, h0, hb⟩
      obtain ⟨N4, n4, rfl⟩ := (RB.of h0).lit
      have R := Aside0.mk ((R.out.next hb).add (RB.of h0))
      have HBr := Aside0.mk (below_step HBr.out hb)
      have Zw10 := Aside0.mk hb.size
      have BX := Aside0.mk (blk_below BX.out hb)
      clear hb t0 t1 t2 t3
      have t0 := (blk_cell BX.out 0).trans rfl
      have t1 := (blk_cell BX.out 1).trans rfl
      have t2 := (blk_cell BX.out 2).trans rfl
      have t3 := (blk_cell BX.out 3).trans rfl
      clear h0
      go_wp2_with (fail)
      with_reducible refine (braid_Draws.calls kd1 L0 e0 xs L2 e2 xc L3 e3 xo dd de w10 (lent_reads (R.out.at_ (List.Mem.tail _ (List.Mem.tail _ (List.Mem.tail _ (List.Mem.tail _ (List.Mem.tail _ (List.Mem.tail _ (List.Mem.tail _ (List.Mem.tail _ (List.Mem.tail _ (List.Mem.tail _ (List.Mem.tail _ (List.Mem.head _))))))))))))) rfl).1.1 (lent_reads (R.out.at_ (List.Mem.tail _ (List.Mem.tail _ (List.Mem.tail _ (List.Mem.tail _ (List.Mem.tail _ (List.Mem.tail _ (List.Mem.tail _ (List.Mem.tail _ (List.Mem.tail _ (List.Mem.tail _ (List.Mem.tail _ (List.Mem.head _))))))))))))) rfl).1.2 (lent_reads (R.out.at_ (List.Mem.tail _ (List.Mem.tail _ (List.Mem.tail _ (List.Mem.tail _ (List.Mem.tail _ (List.Mem.tail _ (List.Mem.tail _ (List.Mem.tail _ (List.Mem.tail _ (List.Mem.head _))))))))))) rfl).1.1 (lent_reads (R.out.at_ (List.Mem.tail _ (List.Mem.tail _ (List.Mem.tail _ (List.Mem.tail _ (List.Mem.tail _ (List.Mem.tail _ (List.Mem.tail _ (List.Mem.tail _ (List.Mem.tail _ (List.Mem.head _))))))))))) rfl).1.2 (lent_reads (R.out.at_ (List.Mem.tail _ (List.Mem.tail _ (List.Mem.tail _ (List.Mem.tail _ (List.Mem.tail _ (List.Mem.tail _ (List.Mem.tail _ (List.Mem.tail _ (List.Mem.head _)))))))))) rfl).1.1 (lent_reads (R.out.at_ (List.Mem.tail _ (List.Mem.tail _ (List.Mem.tail _ (List.Mem.tail _ (List.Mem.tail _ (List.Mem.tail _ (List.Mem.tail _ (List.Mem.tail _ (List.Mem.head _)))))))))) rfl).1.2 HD1.out).mono ?_
      rintro e w11 ⟨v0, rfl, h0, hb⟩
      obtain ⟨N5, n5, rfl⟩ := (RB.of h0).lit
      have R := Aside0.mk ((R.out.next hb).add (RB.of h0))
      have HBr := Aside0.mk (below_step HBr.out hb)
      have Zw11 := Aside0.mk hb.size
      have BX := Aside0.mk (blk_below BX.out hb)
      clear hb t0 t1 t2 t3
      have t0 := (blk_cell BX.out 0).trans rfl
      have t1 := (blk_cell BX.out 1).trans rfl
      have t2 := (blk_cell BX.out 2).trans rfl
      have t3 := (blk_cell BX.out 3).trans rfl
      clear h0
      go_wp2_with (fail)
      obtain ⟨h11, hh11⟩ : ∃ h11, w11.heap.size = h11 := ⟨_, rfl⟩
      have Y11 := Aside0.mk (show h11 ≤ w11.heap.size by omega)
      rw [hh11] at R Zw11
      clear hh11
      with_reducible refine (same12_calls _ _ _ _ _ _ _ w11 (RB.reads (R.out.at_ (List.Mem.tail _ (List.Mem.tail _ (List.Mem.tail _ (List.Mem.tail _ (List.Mem.tail _ (List.Mem.head _)))))))) (RB.reads (R.out.at_ (List.Mem.tail _ (List.Mem.tail _ (List.Mem.tail _ (List.Mem.tail _ (List.Mem.tail _ (List.Mem.tail _ (List.Mem.tail _ (List.Mem.tail _ (List.Mem.head _))))))))))) HS1.out).mono ?_
      rintro e w12 ⟨rfl, hb⟩
      have Y11 := Aside0.mk (Nat.le_trans Y11.out hb.size)
      have R := Aside0.mk (R.out.next hb)
      have HBr := Aside0.mk (below_step HBr.out hb)
      have BX := Aside0.mk (blk_below BX.out hb)
      clear hb t0 t1 t2 t3
      have t0 := (blk_cell BX.out 0).trans rfl
      have t1 := (blk_cell BX.out 1).trans rfl
      have t2 := (blk_cell BX.out 2).trans rfl
      have t3 := (blk_cell BX.out 3).trans rfl
      go_wp2_with (fail)
      with_reducible refine (same12_calls _ _ _ _ _ _ _ w12 (RB.reads (R.out.at_ (List.Mem.tail _ (List.Mem.tail _ (List.Mem.tail _ (List.Mem.head _)))))) (RB.reads (R.out.at_ (List.Mem.tail _ (List.Mem.tail _ (List.Mem.tail _ (List.Mem.tail _ (List.Mem.tail _ (List.Mem.tail _ (List.Mem.tail _ (List.Mem.tail _ (List.Mem.head _))))))))))) HS1.out).mono ?_
      rintro e w13 ⟨rfl, hb⟩
      have Y11 := Aside0.mk (Nat.le_trans Y11.out hb.size)
      have R := Aside0.mk (R.out.next hb)
      have HBr := Aside0.mk (below_step HBr.out hb)
      have BX := Aside0.mk (blk_below BX.out hb)
      clear hb t0 t1 t2 t3
      have t0 := (blk_cell BX.out 0).trans rfl
      have t1 := (blk_cell BX.out 1).trans rfl
      have t2 := (blk_cell BX.out 2).trans rfl
      have t3 := (blk_cell BX.out 3).trans rfl
      go_wp2_with (fail)
      with_reducible refine (same12_calls _ _ _ _ _ _ _ w13 (RB.reads (R.out.at_ (List.Mem.tail _ (List.Mem.tail _ (List.Mem.tail _ (List.Mem.tail _ (List.Mem.head _))))))) (RB.reads (R.out.at_ (List.Mem.tail _ (List.Mem.tail _ (List.Mem.tail _ (List.Mem.tail _ (List.Mem.tail _ (List.Mem.tail _ (List.Mem.tail _ (List.Mem.head _)))))))))) HS2.out).mono ?_
      rintro e w14 ⟨rfl, hb⟩
      have Y11 := Aside0.mk (Nat.le_trans Y11.out hb.size)
      have R := Aside0.mk (R.out.next hb)
      have HBr := Aside0.mk (below_step HBr.out hb)
      have BX := Aside0.mk (blk_below BX.out hb)
      clear hb t0 t1 t2 t3
      have t0 := (blk_cell BX.out 0).trans rfl
      have t1 := (blk_cell BX.out 1).trans rfl
      have t2 := (blk_cell BX.out 2).trans rfl
      have t3 := (blk_cell BX.out 3).trans rfl
      go_wp2_with (fail)
      with_reducible refine (same12_calls _ _ _ _ _ _ _ w14 (RB.reads (R.out.at_ (List.Mem.tail _ (List.Mem.tail _ (List.Mem.head _))))) (RB.reads (R.out.at_ (List.Mem.tail _ (List.Mem.tail _ (List.Mem.tail _ (List.Mem.tail _ (List.Mem.tail _ (List.Mem.tail _ (List.Mem.tail _ (List.Mem.head _)))))))))) HS2.out).mono ?_
      rintro e w15 ⟨rfl, hb⟩
      have Y11 := Aside0.mk (Nat.le_trans Y11.out hb.size)
      have R := Aside0.mk (R.out.next hb)
      have HBr := Aside0.mk (below_step HBr.out hb)
      have BX := Aside0.mk (blk_below BX.out hb)
      clear hb t0 t1 t2 t3
      have t0 := (blk_cell BX.out 0).trans rfl
      have t1 := (blk_cell BX.out 1).trans rfl
      have t2 := (blk_cell BX.out 2).trans rfl
      have t3 := (blk_cell BX.out 3).trans rfl
      go_wp2_with (fail)
      with_reducible refine (same12_calls _ _ _ _ _ _ _ w15 (RB.reads (R.out.at_ (List.Mem.tail _ (List.Mem.head _)))) (RB.reads (R.out.at_ (List.Mem.tail _ (List.Mem.tail _ (List.Mem.tail _ (List.Mem.tail _ (List.Mem.tail _ (List.Mem.tail _ (List.Mem.head _))))))))) HS3.out).mono ?_
      rintro e w16 ⟨rfl, hb⟩
      have Y11 := Aside0.mk (Nat.le_trans Y11.out hb.size)
      have R := Aside0.mk (R.out.next hb)
      have HBr := Aside0.mk (below_step HBr.out hb)
      have BX := Aside0.mk (blk_below BX.out hb)
      clear hb t0 t1 t2 t3
      have t0 := (blk_cell BX.out 0).trans rfl
      have t1 := (blk_cell BX.out 1).trans rfl
      have t2 := (blk_cell BX.out 2).trans rfl
      have t3 := (blk_cell BX.out 3).trans rfl
      go_wp2_with (fail)
      with_reducible refine (same12_calls _ _ _ _ _ _ _ w16 (RB.reads (R.out.at_ (List.Mem.head _))) (RB.reads (R.out.at_ (List.Mem.tail _ (List.Mem.tail _ (List.Mem.tail _ (List.Mem.tail _ (List.Mem.tail _ (List.Mem.tail _ (List.Mem.head _))))))))) HS3.out).mono ?_
      rintro e w17 ⟨rfl, hb⟩
      have Y11 := Aside0.mk (Nat.le_trans Y11.out hb.size)
      have R := Aside0.mk (R.out.next hb)
      have HBr := Aside0.mk (below_step HBr.out hb)
      have BX := Aside0.mk (blk_below BX.out hb)
      clear hb t0 t1 t2 t3
      have t0 := (blk_cell BX.out 0).trans rfl
      have t1 := (blk_cell BX.out 1).trans rfl
      have t2 := (blk_cell BX.out 2).trans rfl
      have t3 := (blk_cell BX.out 3).trans rfl
      go_wp2_with ((with_reducible refine gate_dst (N := 167) rfl ?_); (try (refine gate_guard (by rfl) ?_; dsimp only)); go_loud (refine cells_lit w17.heap.size 22 ?hg (N := 167) ?hd (inner := [.slice N0 pc.length n0, .slice N1 po.length n1, .slice N2 pc.length n2, .slice N3 po.length n3, .slice N4 dd.length n4, .slice N5 dd.length n5]) ?hr (Nat.le_refl _) (by simp) ?_; (case hd => rfl); (case hg => rfl); (case hr => first | (go_simp; done) | (go_simp; rfl)); intro v18 w18 ho18 hg18 he18; obtain ⟨A18, c18, rfl, -, -, hbs18, hc18⟩ := own_cells ho18; have HC18 := Aside0.mk hc18; have HS18 := Aside0.mk hbs18; have HG18 := Aside0.mk (Below.grown (Below.refl w17.heap.size w17) hg18 (Nat.le_refl _) (fun k hk => by cases hk)); clear ho18 hg18 he18 hc18 hbs18))
      have R := Aside0.mk (R.out.next HG18.out)
      have HBr := Aside0.mk (below_step HBr.out HG18.out)
      have BX := Aside0.mk (blk_below BX.out HG18.out)
      have g18 := HG18.out.size
      have y11 := Y11.out
      have zHW1s := HW1s.out
      have zZw2 := Zw2.out
      have zZw3 := Zw3.out
      have zZw4 := Zw4.out
      have zZw5 := Zw5.out
      have zZw6 := Zw6.out
      have zZw7 := Zw7.out
      have zZw8 := Zw8.out
      have zZw9 := Zw9.out
      have zZw10 := Zw10.out
      have zZw11 := Zw11.out
      have r_a := (R.out.at_ (List.Mem.tail _ (List.Mem.tail _ (List.Mem.tail _ (List.Mem.tail _ (List.Mem.tail _ (List.Mem.head _)))))))
      dsimp only at r_a
      have r_b := (R.out.at_ (List.Mem.tail _ (List.Mem.tail _ (List.Mem.tail _ (List.Mem.tail _ (List.Mem.head _))))))
      dsimp only at r_b
      have r_x := (R.out.at_ (List.Mem.tail _ (List.Mem.tail _ (List.Mem.tail _ (List.Mem.head _)))))
      dsimp only at r_x
      have r_y := (R.out.at_ (List.Mem.tail _ (List.Mem.tail _ (List.Mem.head _))))
      dsimp only at r_y
      have r_z := (R.out.at_ (List.Mem.tail _ (List.Mem.head _)))
      dsimp only at r_z
      have r_v := (R.out.at_ (List.Mem.head _))
      dsimp only at r_v
      have LL := Lists.appB (Lists.appB (Lists.appB (Lists.pairB r_a r_b NE0.out) (Lists.pairB r_x r_y NE2.out) (by omega) (by omega) (by omega)) (Lists.oneB r_z) (by omega) (by omega) (by omega)) (Lists.oneB r_v) (by omega) (by omega) (by omega)
      clear r_a r_b r_x r_y r_z r_v
      have hap := apart_calls A18 6 c18 w7.heap.size _ _ _ w18 LL rfl HC18.out (fun g e hg => by have h1 := (HS18.out g e).1; have h2 := hg.2; omega) (by omega) (by omega) (fun x hx => by
        simp only [List.cons_append, List.nil_append, List.mem_cons, List.not_mem_nil, or_false] at hx
        rcases hx with rfl | rfl | rfl | rfl | rfl | rfl
        · exact HL1.out
        · exact HL2.out
        · exact HL1.out
        · exact HL2.out
        · exact HL3.out
        · exact HL3.out)
      with_reducible refine hap.mono ?_
      rintro e w19 ⟨rfl, hb, -⟩
      have r_s := (R.out.at_ (List.Mem.tail _ (List.Mem.tail _ (List.Mem.tail _ (List.Mem.tail _ (List.Mem.tail _ (List.Mem.tail _ (List.Mem.tail _ (List.Mem.tail _ (List.Mem.tail _ (List.Mem.tail _ (List.Mem.tail _ (List.Mem.tail _ (List.Mem.head _))))))))))))))
      dsimp only at r_s
      have r_d := (R.out.at_ (List.Mem.tail _ (List.Mem.tail _ (List.Mem.tail _ (List.Mem.tail _ (List.Mem.tail _ (List.Mem.tail _ (List.Mem.tail _ (List.Mem.tail _ (List.Mem.tail _ (List.Mem.tail _ (List.Mem.tail _ (List.Mem.head _)))))))))))))
      dsimp only at r_d
      have r_c := (R.out.at_ (List.Mem.tail _ (List.Mem.tail _ (List.Mem.tail _ (List.Mem.tail _ (List.Mem.tail _ (List.Mem.tail _ (List.Mem.tail _ (List.Mem.tail _ (List.Mem.tail _ (List.Mem.tail _ (List.Mem.head _))))))))))))
      dsimp only at r_c
      have r_o := (R.out.at_ (List.Mem.tail _ (List.Mem.tail _ (List.Mem.tail _ (List.Mem.tail _ (List.Mem.tail _ (List.Mem.tail _ (List.Mem.tail _ (List.Mem.tail _ (List.Mem.tail _ (List.Mem.head _)))))))))))
      dsimp only at r_o
      have BX := Aside0.mk ((hb.block _ (by omega)).trans BX.out)
      have R := Aside0.mk (((((Rows.nil _).add (r_s.keep hb (by omega))).add (r_d.keep hb (by omega))).add (r_c.keep hb (by omega))).add (r_o.keep hb (by omega)))
      have HBr := Aside0.mk (HBr.out.trans (hb.mono (show W0.heap.size ≤ w7.heap.size by omega)))
      clear zHW1s r_s r_d r_c r_o hb hap LL g18 y11 HC18 HS18 HG18 t0 t1 t2 t3 zZw2 zZw3 zZw4 zZw5 zZw6 zZw7 zZw8 zZw9 zZw10 zZw11
      have t0 := (blk_cell BX.out 0).trans rfl
      have t1 := (blk_cell BX.out 1).trans rfl
      have t2 := (blk_cell BX.out 2).trans rfl
      have t3 := (blk_cell BX.out 3).trans rfl
      go_wp2_with (fail)
      with_reducible refine (whole_calls _ L0 e0 As cs xs w19 (R.out.at_ (List.Mem.tail _ (List.Mem.tail _ (List.Mem.tail _ (List.Mem.head _))))) ⟨Kd.C_below GS.out.1 HBr.out, GS.out.2⟩ HW0.out).mono ?_
      rintro e w20 ⟨rfl, hb⟩
      have R := Aside0.mk (R.out.next hb)
      have HBr := Aside0.mk (below_step HBr.out hb)
      have BX := Aside0.mk (blk_below BX.out hb)
      clear hb t0 t1 t2 t3
      have t0 := (blk_cell BX.out 0).trans rfl
      have t1 := (blk_cell BX.out 1).trans rfl
      have t2 := (blk_cell BX.out 2).trans rfl
      have t3 := (blk_cell BX.out 3).trans rfl
      go_wp2_with (fail)
      with_reducible refine (whole_calls _ L1 e1 Ad cd xd w20 (R.out.at_ (List.Mem.tail _ (List.Mem.tail _ (List.Mem.head _)))) ⟨Kd.C_below GD.out.1 HBr.out, GD.out.2⟩ HW1.out).mono ?_
      rintro e w21 ⟨rfl, hb⟩
      have R := Aside0.mk (R.out.next hb)
      have HBr := Aside0.mk (below_step HBr.out hb)
      have BX := Aside0.mk (blk_below BX.out hb)
      clear hb t0 t1 t2 t3
      have t0 := (blk_cell BX.out 0).trans rfl
      have t1 := (blk_cell BX.out 1).trans rfl
      have t2 := (blk_cell BX.out 2).trans rfl
      have t3 := (blk_cell BX.out 3).trans rfl
      go_wp2_with (fail)
      with_reducible refine (whole_calls _ L2 e2 Ac cc xc w21 (R.out.at_ (List.Mem.tail _ (List.Mem.head _))) ⟨Kd.C_below GC.out.1 HBr.out, GC.out.2⟩ HW2.out).mono ?_
      rintro e w22 ⟨rfl, hb⟩
      have R := Aside0.mk (R.out.next hb)
      have HBr := Aside0.mk (below_step HBr.out hb)
      have BX := Aside0.mk (blk_below BX.out hb)
      clear hb t0 t1 t2 t3
      have t0 := (blk_cell BX.out 0).trans rfl
      have t1 := (blk_cell BX.out 1).trans rfl
      have t2 := (blk_cell BX.out 2).trans rfl
      have t3 := (blk_cell BX.out 3).trans rfl
      go_wp2_with (fail)
      with_reducible refine (whole_calls _ L3 e3 Ao co xo w22 (R.out.at_ (List.Mem.head _)) ⟨Kd.C_below GO.out.1 HBr.out, GO.out.2⟩ HW3.out).mono ?_
      rintro e w23 ⟨rfl, hb⟩
      have R := Aside0.mk (R.out.next hb)
      have HBr := Aside0.mk (below_step HBr.out hb)
      have BX := Aside0.mk (blk_below BX.out hb)
      clear hb t0 t1 t2 t3
      have t0 := (blk_cell BX.out 0).trans rfl
      have t1 := (blk_cell BX.out 1).trans rfl
      have t2 := (blk_cell BX.out 2).trans rfl
      have t3 := (blk_cell BX.out 3).trans rfl
      have r_s := (R.out.at_ (List.Mem.tail _ (List.Mem.tail _ (List.Mem.tail _ (List.Mem.head _)))))
      dsimp only at r_s
      have r_d := (R.out.at_ (List.Mem.tail _ (List.Mem.tail _ (List.Mem.head _))))
      dsimp only at r_d
      have r_c := (R.out.at_ (List.Mem.tail _ (List.Mem.head _)))
      dsimp only at r_c
      have r_o := (R.out.at_ (List.Mem.head _))
      dsimp only at r_o
      have ZZ := Aside0.mk (show ZS W0 w23 W0.heap.size w2.heap.size w3.heap.size w4.heap.size w5.heap.size _ _ _ _ xs xd xc xo from ⟨HBr.out, r_s.lowW1 (Nat.le_of_lt HW1s.out), r_d, r_c, r_o, by have h1 := HW1s.out; have h2 := Zw2.out; have h3 := Zw3.out; have h4 := Zw4.out; have h5 := Zw5.out; omega⟩)
      obtain ⟨g1, rfl⟩ := lent_head r_d
      obtain ⟨g3, rfl⟩ := lent_head r_o
      clear r_s r_d r_c r_o R BX t0 t1 t2 t3 HBr
      go_wp2_with (fail)
      go_loopg [200] xd.length (fun gq v200 wq => ∃ (j : Nat) (yd : List Int), v200 = .int .i64 j ∧ Aside0 (j ≤ xd.length) ∧ Aside0 (xd.length - j ≤ gq) ∧ Aside0 (yd.length = xd.length) ∧ Aside0 (ZS W0 wq W0.heap.size w2.heap.size w3.heap.size w4.heap.size w5.heap.size (.slice L0 (xs.length + 2) e0) (.slice (some ⟨g1, 0, none⟩) (xd.length + 2) e1) (.slice L2 (xc.length + 2) e2) (.slice (some ⟨g3, 0, none⟩) (xo.length + 2) e3) xs yd xc xo))
      case atStart => exact ⟨0, xd, rfl, ⟨Nat.zero_le _⟩, ⟨by omega⟩, ⟨rfl⟩, ZZ⟩
      case round =>
        clear ZZ
        obtain ⟨j, yd, rfl, HJ, HG200, Hyd, ZZ⟩ := hrel
        by_cases hj : j < xd.length
        · have d1 : decide ((j : Int) < (xd.length : Int)) = true := decide_eq_true (by omega)
          have d2 : (0 : Int) ≤ (j : Int) := Int.natCast_nonneg j
          have d3 : (j : Int) < (xd.length : Int) := by omega
          have d4 : (xd.length : Int) ≤ 17592186044000 := by have := b1.out; omega
          obtain ⟨-, -, -, -, ⟨u, hu⟩, hz⟩ := lent_put ZZ.out.r1 Hyd.out j hj 0
          have HJL := Aside0.mk hj
          clear hj
          go_wp2_with (fail)
          go_roundg (xd.length - (j + 1))
          case measure => have := HG200.out; have := HJL.out; omega
          case rel => exact ⟨j + 1, yd.set j 0, by first | rfl | (rw [w64 (by omega) (by omega)]; rfl), ⟨by have := HJL.out; omega⟩, ⟨by omega⟩, ⟨by rw [List.length_set]; exact Hyd.out⟩, ⟨ZZ.out.put1 Hyd.out j HJL.out⟩⟩
        · have d1 : decide ((j : Int) < (xd.length : Int)) = false := decide_eq_false (by omega)
          obtain rfl : j = xd.length := by have := HJ.out; omega
          clear hj
          have d5 : decide ((xd.length : Int) < (xd.length : Int)) = false := decide_eq_false (by omega)
          go_wp2_with (fail)
          go_loopg [209] xo.length (fun gq v209 wq => ∃ (j : Nat) (yo : List Int), v209 = .int .i64 j ∧ Aside0 (j ≤ xo.length) ∧ Aside0 (xo.length - j ≤ gq) ∧ Aside0 (yo.length = xo.length) ∧ Aside0 (ZS W0 wq W0.heap.size w2.heap.size w3.heap.size w4.heap.size w5.heap.size (.slice L0 (xs.length + 2) e0) (.slice (some ⟨g1, 0, none⟩) (xd.length + 2) e1) (.slice L2 (xc.length + 2) e2) (.slice (some ⟨g3, 0, none⟩) (xo.length + 2) e3) xs yd xc yo))
          case atStart => exact ⟨0, xo, rfl, ⟨Nat.zero_le _⟩, ⟨by omega⟩, ⟨rfl⟩, ZZ⟩
          case round =>
            clear ZZ
            obtain ⟨j, yo, rfl, HJ, HG209, Hyo, ZZ⟩ := hrel
            by_cases hj : j < xo.length
            · have d1 : decide ((j : Int) < (xo.length : Int)) = true := decide_eq_true (by omega)
              have d2 : (0 : Int) ≤ (j : Int) := Int.natCast_nonneg j
              have d3 : (j : Int) < (xo.length : Int) := by omega
              have d4 : (xo.length : Int) ≤ 17592186044000 := by have := b3.out; omega
              obtain ⟨-, -, -, -, ⟨u, hu⟩, hz⟩ := lent_put ZZ.out.r3 Hyo.out j hj 0
              have HJL := Aside0.mk hj
              clear hj
              go_wp2_with (fail)
              go_roundg (xo.length - (j + 1))
              case measure => have := HG209.out; have := HJL.out; omega
              case rel => exact ⟨j + 1, yo.set j 0, by first | rfl | (rw [w64 (by omega) (by omega)]; rfl), ⟨by have := HJL.out; omega⟩, ⟨by omega⟩, ⟨by rw [List.length_set]; exact Hyo.out⟩, ⟨ZZ.out.put3 Hyo.out j HJL.out⟩⟩
            · have d1 : decide ((j : Int) < (xo.length : Int)) = false := decide_eq_false (by omega)
              obtain rfl : j = xo.length := by have := HJ.out; omega
              clear hj
              have d5 : decide ((xo.length : Int) < (xo.length : Int)) = false := decide_eq_false (by omega)
              go_wp2_with (fail)
              obtain ⟨kq1, kq2, kt1, kt2, qc, qo, qe, hp1, hp2, hs1, hs2, -, -⟩ := HT.out.pat xs yd b0.out (by rw [Hyd.out]; exact b1.out)
              obtain ⟨kr1, kr2, kt3, ee, fe, hd1, hd2, hs3, -⟩ := HT.out.drw xs xc yo b0.out b2.out (by rw [Hyo.out]; exact b3.out)
              have HQ1 := Aside0.mk hp1
              have HQ2 := Aside0.mk hp2
              have HE1 := Aside0.mk hd1
              have HE2 := Aside0.mk hd2
              have HT1 := Aside0.mk hs1
              have HT2 := Aside0.mk hs2
              have HT3 := Aside0.mk hs3
              have R := Aside0.mk ((((Rows.nil wr).add ZZ.out.r0).add ZZ.out.r1).add ZZ.out.r2 |>.add ZZ.out.r3)
              have HBr := Aside0.mk (show Below W0.heap.size W0 wr from ZZ.out.below)
              clear hp1 hp2 hd1 hd2 hs1 hs2 hs3 ZZ
              have hc := churnref12_Pattern.calls kq2 L0 e0 xs (some ⟨g1, 0, none⟩) e1 yd qc qo qe wr (lent_reads (R.out.at_ (List.Mem.tail _ (List.Mem.tail _ (List.Mem.tail _ (List.Mem.head _))))) rfl).1.1 (lent_reads (R.out.at_ (List.Mem.tail _ (List.Mem.tail _ (List.Mem.tail _ (List.Mem.head _))))) rfl).1.2 (lent_reads (R.out.at_ (List.Mem.tail _ (List.Mem.tail _ (List.Mem.head _)))) Hyd.out).1.1 (lent_reads (R.out.at_ (List.Mem.tail _ (List.Mem.tail _ (List.Mem.head _)))) Hyd.out).1.2 HQ2.out
              rw [Hyd.out] at hc
              with_reducible refine (hc).mono ?_
              rintro e w30 ⟨v0, v1, rfl, h0, h1, hb⟩
              obtain ⟨O0, o0, rfl⟩ := (RB.of h0).lit
              obtain ⟨O1, o1, rfl⟩ := (RB.of h1).lit
              have R := Aside0.mk (((R.out.next hb).add (RB.of h0)).add (RB.of h1))
              have HBr := Aside0.mk (below_step HBr.out hb)
              clear hb
              clear h0 h1 hc
              go_wp2_with (fail)
              have hc := churnref12_Draws.calls kr2 L0 e0 xs L2 e2 xc (some ⟨g3, 0, none⟩) e3 yo ee fe w30 (lent_reads (R.out.at_ (List.Mem.tail _ (List.Mem.tail _ (List.Mem.tail _ (List.Mem.tail _ (List.Mem.tail _ (List.Mem.head _))))))) rfl).1.1 (lent_reads (R.out.at_ (List.Mem.tail _ (List.Mem.tail _ (List.Mem.tail _ (List.Mem.tail _ (List.Mem.tail _ (List.Mem.head _))))))) rfl).1.2 (lent_reads (R.out.at_ (List.Mem.tail _ (List.Mem.tail _ (List.Mem.tail _ (List.Mem.head _))))) rfl).1.1 (lent_reads (R.out.at_ (List.Mem.tail _ (List.Mem.tail _ (List.Mem.tail _ (List.Mem.head _))))) rfl).1.2 (lent_reads (R.out.at_ (List.Mem.tail _ (List.Mem.tail _ (List.Mem.head _)))) Hyo.out).1.1 (lent_reads (R.out.at_ (List.Mem.tail _ (List.Mem.tail _ (List.Mem.head _)))) Hyo.out).1.2 HE2.out
              rw [Hyo.out] at hc
              with_reducible refine (hc).mono ?_
              rintro e w31 ⟨v0, rfl, h0, hb⟩
              obtain ⟨O2, o2, rfl⟩ := (RB.of h0).lit
              have R := Aside0.mk ((R.out.next hb).add (RB.of h0))
              have HBr := Aside0.mk (below_step HBr.out hb)
              clear hb
              clear h0 hc
              go_wp2_with (fail)
              have hc := braid_Pattern.calls kq1 L0 e0 xs (some ⟨g1, 0, none⟩) e1 yd qc qo qe w31 (lent_reads (R.out.at_ (List.Mem.tail _ (List.Mem.tail _ (List.Mem.tail _ (List.Mem.tail _ (List.Mem.tail _ (List.Mem.tail _ (List.Mem.head _)))))))) rfl).1.1 (lent_reads (R.out.at_ (List.Mem.tail _ (List.Mem.tail _ (List.Mem.tail _ (List.Mem.tail _ (List.Mem.tail _ (List.Mem.tail _ (List.Mem.head _)))))))) rfl).1.2 (lent_reads (R.out.at_ (List.Mem.tail _ (List.Mem.tail _ (List.Mem.tail _ (List.Mem.tail _ (List.Mem.tail _ (List.Mem.head _))))))) Hyd.out).1.1 (lent_reads (R.out.at_ (List.Mem.tail _ (List.Mem.tail _ (List.Mem.tail _ (List.Mem.tail _ (List.Mem.tail _ (List.Mem.head _))))))) Hyd.out).1.2 HQ1.out
              rw [Hyd.out] at hc
              with_reducible refine (hc).mono ?_
              rintro e w32 ⟨v0, v1, rfl, h0, h1, hb⟩
              obtain ⟨O3, o3, rfl⟩ := (RB.of h0).lit
              obtain ⟨O4, o4, rfl⟩ := (RB.of h1).lit
              have R := Aside0.mk (((R.out.next hb).add (RB.of h0)).add (RB.of h1))
              have HBr := Aside0.mk (below_step HBr.out hb)
              clear hb
              clear h0 h1 hc
              go_wp2_with (fail)
              have hc := braid_Draws.calls kr1 L0 e0 xs L2 e2 xc (some ⟨g3, 0, none⟩) e3 yo ee fe w32 (lent_reads (R.out.at_ (List.Mem.tail _ (List.Mem.tail _ (List.Mem.tail _ (List.Mem.tail _ (List.Mem.tail _ (List.Mem.tail _ (List.Mem.tail _ (List.Mem.tail _ (List.Mem.head _)))))))))) rfl).1.1 (lent_reads (R.out.at_ (List.Mem.tail _ (List.Mem.tail _ (List.Mem.tail _ (List.Mem.tail _ (List.Mem.tail _ (List.Mem.tail _ (List.Mem.tail _ (List.Mem.tail _ (List.Mem.head _)))))))))) rfl).1.2 (lent_reads (R.out.at_ (List.Mem.tail _ (List.Mem.tail _ (List.Mem.tail _ (List.Mem.tail _ (List.Mem.tail _ (List.Mem.tail _ (List.Mem.head _)))))))) rfl).1.1 (lent_reads (R.out.at_ (List.Mem.tail _ (List.Mem.tail _ (List.Mem.tail _ (List.Mem.tail _ (List.Mem.tail _ (List.Mem.tail _ (List.Mem.head _)))))))) rfl).1.2 (lent_reads (R.out.at_ (List.Mem.tail _ (List.Mem.tail _ (List.Mem.tail _ (List.Mem.tail _ (List.Mem.tail _ (List.Mem.head _))))))) Hyo.out).1.1 (lent_reads (R.out.at_ (List.Mem.tail _ (List.Mem.tail _ (List.Mem.tail _ (List.Mem.tail _ (List.Mem.tail _ (List.Mem.head _))))))) Hyo.out).1.2 HE1.out
              rw [Hyo.out] at hc
              with_reducible refine (hc).mono ?_
              rintro e w33 ⟨v0, rfl, h0, hb⟩
              obtain ⟨O5, o5, rfl⟩ := (RB.of h0).lit
              have R := Aside0.mk ((R.out.next hb).add (RB.of h0))
              have HBr := Aside0.mk (below_step HBr.out hb)
              clear hb
              clear h0 hc
              go_wp2_with (fail)
              with_reducible refine (same12_calls _ _ _ _ _ _ _ w33 (RB.reads (R.out.at_ (List.Mem.tail _ (List.Mem.tail _ (List.Mem.head _))))) (RB.reads (R.out.at_ (List.Mem.tail _ (List.Mem.tail _ (List.Mem.tail _ (List.Mem.tail _ (List.Mem.tail _ (List.Mem.head _)))))))) HT1.out).mono ?_
              rintro e w34 ⟨rfl, hb⟩
              have R := Aside0.mk (R.out.next hb)
              have HBr := Aside0.mk (below_step HBr.out hb)
              clear hb
              go_wp2_with (fail)
              with_reducible refine (same12_calls _ _ _ _ _ _ _ w34 (RB.reads (R.out.at_ (List.Mem.tail _ (List.Mem.head _)))) (RB.reads (R.out.at_ (List.Mem.tail _ (List.Mem.tail _ (List.Mem.tail _ (List.Mem.tail _ (List.Mem.head _))))))) HT2.out).mono ?_
              rintro e w35 ⟨rfl, hb⟩
              have R := Aside0.mk (R.out.next hb)
              have HBr := Aside0.mk (below_step HBr.out hb)
              clear hb
              go_wp2_with (fail)
              with_reducible refine (same12_calls _ _ _ _ _ _ _ w35 (RB.reads (R.out.at_ (List.Mem.head _))) (RB.reads (R.out.at_ (List.Mem.tail _ (List.Mem.tail _ (List.Mem.tail _ (List.Mem.head _)))))) HT3.out).mono ?_
              rintro e w36 ⟨rfl, hb⟩
              have R := Aside0.mk (R.out.next hb)
              have HBr := Aside0.mk (below_step HBr.out hb)
              clear hb
              go_wp2_with (fail)
              go_roundg (l0.length - (i + 1))
              case measure => have := HG.out; have := HLT.out; omega
              case rel => exact ⟨i + 1, by have := HLT.out; first | rfl | (rw [w64 (by omega) (by omega)]; rfl), ⟨by have := HLT.out; omega⟩, ⟨by omega⟩, ⟨below_then I.out I.out.size HBr.out⟩⟩
    · obtain rfl : i = l0.length := by have := HI.out; omega
      have c1 : decide ((l0.length : Int) < (l0.length : Int)) = false := decide_eq_false (by omega)
      clear hlt
      go_wp2_with (fail)
      go_ret
      exact ⟨rfl, I.out⟩
end
/-- The program's and the document's answers are the same for all lists, and these asks are no greater than memory. -/
def churnlaw12_BraidPatterns.Told (l0 : List (S52)) : Prop := PatTold ∧ l0.length ≤ 17592186044000 ∧ ∀ q ∈ l0, q.f0.length ≤ 17592186044000 ∧ q.f1.length ≤ 17592186044000 ∧ q.f2.length ≤ 17592186044000 ∧ q.f3.length ≤ 17592186044000
noncomputable section
open Classical in
def churnlaw12_BraidPatterns.f (l0 : List (S52)) : Option (Bool) := if churnlaw12_BraidPatterns.Told l0 then some true else none
end
theorem churnlaw12_BraidPatterns.calls (A0 : Option Addr) (c0 : Nat) (l0 : List (S52)) (r : Bool) (w : World) (hr0 : Kd.C k52 w A0 l0.length l0) (hc0 : l0.length ≤ c0) (hr_ : r = true) (h : churnlaw12_BraidPatterns.f l0 = some r) :
    Calls Try.prog 5 #[.slice A0 l0.length c0] w fun e w' => e = .returned (.bool r) ∧ Below w.heap.size w w' := by
  subst hr_
  unfold churnlaw12_BraidPatterns.f at h
  by_cases hc : churnlaw12_BraidPatterns.Told l0
  · obtain ⟨h1, h2, h3⟩ := hc
    exact patterns_calls A0 c0 l0 w hr0 hc0 h1 h2 h3
  · rw [if_neg hc] at h
    cases h

end Go.Proofs.Ytiefmocfgneldaa.Q
