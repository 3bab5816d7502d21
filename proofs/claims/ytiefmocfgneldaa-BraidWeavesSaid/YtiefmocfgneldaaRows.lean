/-
  No cell of these rows narrows 'for every input' (looked for: loops, veiled, ifaces, maps, wideKeys, modest, calm, conditions, laid).
  DERIVED. THE GIVEN ROWS OF THIS SEAT. 6 by the template 'for every input the law returns true; each argument reads behind the call as it read before'; 0 by the template 'total and deterministic' (their statements: YtiefmocfgneldaaTotals.lean).
  GIVEN WITH THE SEED: the statements are not yours to turn. If you find one false, say at which input.
  Laid BY PROGRAM, IN A SANDBOX (cutbox-rows.mjs): the forced cells as the released guide's own fill.sh prints them over the translation e2f6b92c206c89a6… (all of the seat's roots in one cut). By AI agents, Wed Nov 11 2026. No macro, syntax, notation, axiom, sorry.
-/
import Derived.Test.YtiefmocfgneldaaChecked
import GoSem.Claim
import GoSem.ClaimJoined
import GoSem.ClaimMapViews
import Derived.JoinedTies
import Derived.KernelRfl
namespace Go.Proofs.Ytiefmocfgneldaa
/- THE CELL 'sum', in the pinned program and in every row, IS THE sha256 OF THE DUMP (.gsa) THAT YtiefmocfgneldaaProg.lean LOADS. Nothing in Lean hashes anything: it is a label: what it is worth is what the hold of that sum in a sandbox is worth. -/
noncomputable def Try.pinned : Pinned := { name := "ytiefmocfgneldaa", sum := "e2f6b92c206c89a6c6bb29ab88791bc3f9b8bf23ebbcd5c6aa2e59e00d2de334", checked := Try.checked }
namespace Rows
def none {H : Type} : Left H := { results := [], args := [] }

/-- 'churnlaw12.BraidWeaves': WHATEVER THE INPUT: true; the input reads as it did. -/
def braidWeavesSpec : ChangeSpec := { name := "braidWeaves", fn := fun _ => fun
  | [d1, d2] => { results := [.lit (.bool true)], args := [d1, d2] }
  | _ => none }
def braidWeavesRow : OpenClaim := { program := "ytiefmocfgneldaa", sum := "e2f6b92c206c89a6c6bb29ab88791bc3f9b8bf23ebbcd5c6aa2e59e00d2de334", func := "churn/churnlaw12.BraidWeaves", spec := "braidWeaves", apart := false }
def BraidWeavesSaid : Prop := braidWeavesRow.holds Try.pinned (OpenSpec.ofChange braidWeavesSpec)

/-- ITS FALSE NEIGHBOUR: 'it returns false'. Refute it at one input. -/
def braidWeavesWrong : ChangeSpec := { name := "braidWeaves", fn := fun _ => fun
  | [d1, d2] => { results := [.lit (.bool false)], args := [d1, d2] }
  | _ => none }
def BraidWeavesWrongFalsely : Prop := braidWeavesRow.holds Try.pinned (OpenSpec.ofChange braidWeavesWrong)

/-- 'churnlaw12.BraidSizes': WHATEVER THE INPUT: true; the input reads as it did. -/
def braidSizesSpec : ChangeSpec := { name := "braidSizes", fn := fun _ => fun
  | [d1, d2] => { results := [.lit (.bool true)], args := [d1, d2] }
  | _ => none }
def braidSizesRow : OpenClaim := { program := "ytiefmocfgneldaa", sum := "e2f6b92c206c89a6c6bb29ab88791bc3f9b8bf23ebbcd5c6aa2e59e00d2de334", func := "churn/churnlaw12.BraidSizes", spec := "braidSizes", apart := false }
def BraidSizesSaid : Prop := braidSizesRow.holds Try.pinned (OpenSpec.ofChange braidSizesSpec)

/-- ITS FALSE NEIGHBOUR: 'it returns false'. Refute it at one input. -/
def braidSizesWrong : ChangeSpec := { name := "braidSizes", fn := fun _ => fun
  | [d1, d2] => { results := [.lit (.bool false)], args := [d1, d2] }
  | _ => none }
def BraidSizesWrongFalsely : Prop := braidSizesRow.holds Try.pinned (OpenSpec.ofChange braidSizesWrong)

/-- 'churnlaw12.BraidPatterns': WHATEVER THE INPUT: true; the input reads as it did. -/
def braidPatternsSpec : ChangeSpec := { name := "braidPatterns", fn := fun _ => fun
  | [d] => { results := [.lit (.bool true)], args := [d] }
  | _ => none }
def braidPatternsRow : OpenClaim := { program := "ytiefmocfgneldaa", sum := "e2f6b92c206c89a6c6bb29ab88791bc3f9b8bf23ebbcd5c6aa2e59e00d2de334", func := "churn/churnlaw12.BraidPatterns", spec := "braidPatterns", apart := false }
def BraidPatternsSaid : Prop := braidPatternsRow.holds Try.pinned (OpenSpec.ofChange braidPatternsSpec)

/-- ITS FALSE NEIGHBOUR: 'it returns false'. Refute it at one input. -/
def braidPatternsWrong : ChangeSpec := { name := "braidPatterns", fn := fun _ => fun
  | [d] => { results := [.lit (.bool false)], args := [d] }
  | _ => none }
def BraidPatternsWrongFalsely : Prop := braidPatternsRow.holds Try.pinned (OpenSpec.ofChange braidPatternsWrong)

/-- 'churnlaw12.BraidBack': WHATEVER THE INPUT: true; the input reads as it did. -/
def braidBackSpec : ChangeSpec := { name := "braidBack", fn := fun _ => fun
  | [d] => { results := [.lit (.bool true)], args := [d] }
  | _ => none }
def braidBackRow : OpenClaim := { program := "ytiefmocfgneldaa", sum := "e2f6b92c206c89a6c6bb29ab88791bc3f9b8bf23ebbcd5c6aa2e59e00d2de334", func := "churn/churnlaw12.BraidBack", spec := "braidBack", apart := false }
def BraidBackSaid : Prop := braidBackRow.holds Try.pinned (OpenSpec.ofChange braidBackSpec)

/-- ITS FALSE NEIGHBOUR: 'it returns false'. Refute it at one input. -/
def braidBackWrong : ChangeSpec := { name := "braidBack", fn := fun _ => fun
  | [d] => { results := [.lit (.bool false)], args := [d] }
  | _ => none }
def BraidBackWrongFalsely : Prop := braidBackRow.holds Try.pinned (OpenSpec.ofChange braidBackWrong)

/-- 'churnlaw12.BraidCarries': WHATEVER THE INPUT: true; the input reads as it did. -/
def braidCarriesSpec : ChangeSpec := { name := "braidCarries", fn := fun _ => fun
  | [d1, d2, d3] => { results := [.lit (.bool true)], args := [d1, d2, d3] }
  | _ => none }
def braidCarriesRow : OpenClaim := { program := "ytiefmocfgneldaa", sum := "e2f6b92c206c89a6c6bb29ab88791bc3f9b8bf23ebbcd5c6aa2e59e00d2de334", func := "churn/churnlaw12.BraidCarries", spec := "braidCarries", apart := false }
def BraidCarriesSaid : Prop := braidCarriesRow.holds Try.pinned (OpenSpec.ofChange braidCarriesSpec)

/-- ITS FALSE NEIGHBOUR: 'it returns false'. Refute it at one input. -/
def braidCarriesWrong : ChangeSpec := { name := "braidCarries", fn := fun _ => fun
  | [d1, d2, d3] => { results := [.lit (.bool false)], args := [d1, d2, d3] }
  | _ => none }
def BraidCarriesWrongFalsely : Prop := braidCarriesRow.holds Try.pinned (OpenSpec.ofChange braidCarriesWrong)

/-- 'churnlaw12.BraidDeals': WHATEVER THE INPUT: true; the input reads as it did. -/
def braidDealsSpec : ChangeSpec := { name := "braidDeals", fn := fun _ => fun
  | [d1, d2, d3] => { results := [.lit (.bool true)], args := [d1, d2, d3] }
  | _ => none }
def braidDealsRow : OpenClaim := { program := "ytiefmocfgneldaa", sum := "e2f6b92c206c89a6c6bb29ab88791bc3f9b8bf23ebbcd5c6aa2e59e00d2de334", func := "churn/churnlaw12.BraidDeals", spec := "braidDeals", apart := false }
def BraidDealsSaid : Prop := braidDealsRow.holds Try.pinned (OpenSpec.ofChange braidDealsSpec)

/-- ITS FALSE NEIGHBOUR: 'it returns false'. Refute it at one input. -/
def braidDealsWrong : ChangeSpec := { name := "braidDeals", fn := fun _ => fun
  | [d1, d2, d3] => { results := [.lit (.bool false)], args := [d1, d2, d3] }
  | _ => none }
def BraidDealsWrongFalsely : Prop := braidDealsRow.holds Try.pinned (OpenSpec.ofChange braidDealsWrong)

/- THE SECOND FORM. 'bulk': how many values and letters a reading holds, each counted each time it is reached (what is shared counts as often as it is met; a slice's spare places count too). A statement '..UptoSaid' is the law's where the arguments, and the package variables that the reading takes, are together of bulk at most 1048576: NARROWER than '..Said'. Prove '..Said' where nothing that the law and all that it calls make is longer than what came in: it says more and counts as full. Else prove '..UptoSaid'. A law counts once. -/
mutual
def uptoBulk {H : Type} : DataW H → Nat
  | .lit (.string bytes) => bytes.length + 1
  | .lit _ => 1
  | .nil => 1
  | .ptr d => uptoBulk d + 1
  | .slice elems spare => uptoBulkAll elems + uptoBulkAll spare + 1
  | .agg parts => uptoBulkAll parts + 1
  | .iface _ d => uptoBulk d + 1
  | .map entries => uptoBulkEntries entries + 1
  | .held _ => 1
def uptoBulkAll {H : Type} : List (DataW H) → Nat
  | [] => 0
  | d :: r => uptoBulk d + uptoBulkAll r
def uptoBulkEntries {H : Type} : List (Lit × DataW H) → Nat
  | [] => 0
  | x :: r => uptoBulkEntry x + uptoBulkEntries r
def uptoBulkEntry {H : Type} : Lit × DataW H → Nat
  | (.string bytes, d) => bytes.length + uptoBulk d + 1
  | (_, d) => uptoBulk d + 1
 end
def uptoSmall : (H : Type) → List (DataW H) → Bool := fun _ ds => decide (uptoBulkAll ds ≤ 1048576)
def OpenSpec.upto (s : _root_.Go.ChangeSpec) : _root_.Go.OpenSpec := { _root_.Go.OpenSpec.ofChange s with cond := some uptoSmall }

/-- 'churnlaw12.BraidWeaves', WHERE WHAT IT READS IS OF BULK AT MOST 1048576: true; the input reads as it did. -/
def braidWeavesUptoRow : OpenClaim := { program := "ytiefmocfgneldaa", sum := "e2f6b92c206c89a6c6bb29ab88791bc3f9b8bf23ebbcd5c6aa2e59e00d2de334", func := "churn/churnlaw12.BraidWeaves", spec := "braidWeaves", apart := false, narrowed := true }
def BraidWeavesUptoSaid : Prop := braidWeavesUptoRow.holds Try.pinned (OpenSpec.upto braidWeavesSpec)

/-- 'churnlaw12.BraidSizes', WHERE WHAT IT READS IS OF BULK AT MOST 1048576: true; the input reads as it did. -/
def braidSizesUptoRow : OpenClaim := { program := "ytiefmocfgneldaa", sum := "e2f6b92c206c89a6c6bb29ab88791bc3f9b8bf23ebbcd5c6aa2e59e00d2de334", func := "churn/churnlaw12.BraidSizes", spec := "braidSizes", apart := false, narrowed := true }
def BraidSizesUptoSaid : Prop := braidSizesUptoRow.holds Try.pinned (OpenSpec.upto braidSizesSpec)

/-- 'churnlaw12.BraidPatterns', WHERE WHAT IT READS IS OF BULK AT MOST 1048576: true; the input reads as it did. -/
def braidPatternsUptoRow : OpenClaim := { program := "ytiefmocfgneldaa", sum := "e2f6b92c206c89a6c6bb29ab88791bc3f9b8bf23ebbcd5c6aa2e59e00d2de334", func := "churn/churnlaw12.BraidPatterns", spec := "braidPatterns", apart := false, narrowed := true }
def BraidPatternsUptoSaid : Prop := braidPatternsUptoRow.holds Try.pinned (OpenSpec.upto braidPatternsSpec)

/-- 'churnlaw12.BraidBack', WHERE WHAT IT READS IS OF BULK AT MOST 1048576: true; the input reads as it did. -/
def braidBackUptoRow : OpenClaim := { program := "ytiefmocfgneldaa", sum := "e2f6b92c206c89a6c6bb29ab88791bc3f9b8bf23ebbcd5c6aa2e59e00d2de334", func := "churn/churnlaw12.BraidBack", spec := "braidBack", apart := false, narrowed := true }
def BraidBackUptoSaid : Prop := braidBackUptoRow.holds Try.pinned (OpenSpec.upto braidBackSpec)

/-- 'churnlaw12.BraidCarries', WHERE WHAT IT READS IS OF BULK AT MOST 1048576: true; the input reads as it did. -/
def braidCarriesUptoRow : OpenClaim := { program := "ytiefmocfgneldaa", sum := "e2f6b92c206c89a6c6bb29ab88791bc3f9b8bf23ebbcd5c6aa2e59e00d2de334", func := "churn/churnlaw12.BraidCarries", spec := "braidCarries", apart := false, narrowed := true }
def BraidCarriesUptoSaid : Prop := braidCarriesUptoRow.holds Try.pinned (OpenSpec.upto braidCarriesSpec)

/-- 'churnlaw12.BraidDeals', WHERE WHAT IT READS IS OF BULK AT MOST 1048576: true; the input reads as it did. -/
def braidDealsUptoRow : OpenClaim := { program := "ytiefmocfgneldaa", sum := "e2f6b92c206c89a6c6bb29ab88791bc3f9b8bf23ebbcd5c6aa2e59e00d2de334", func := "churn/churnlaw12.BraidDeals", spec := "braidDeals", apart := false, narrowed := true }
def BraidDealsUptoSaid : Prop := braidDealsUptoRow.holds Try.pinned (OpenSpec.upto braidDealsSpec)

end Rows
end Go.Proofs.Ytiefmocfgneldaa
