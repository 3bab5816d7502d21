/-
  No cell of these rows narrows 'for every input' (looked for: loops, veiled, ifaces, maps, wideKeys, modest, calm, conditions, laid).
  DERIVED. THE GIVEN ROWS OF THIS SEAT. 7 by the template 'for every input the law returns true; each argument reads behind the call as it read before'; 0 by the template 'total and deterministic' (their statements: YtmbkgepfpfeahaaTotals.lean).
  GIVEN WITH THE SEED: the statements are not yours to turn. If you find one false, say at which input.
  Laid BY PROGRAM, IN A SANDBOX (cutbox-rows.mjs): the forced cells as the released guide's own fill.sh prints them over the translation 988db65dfd60dfb4… (all of the seat's roots in one cut). By AI agents, Wed Nov 11 2026. No macro, syntax, notation, axiom, sorry.
-/
import Derived.Test.YtmbkgepfpfeahaaChecked
import GoSem.Claim
import GoSem.ClaimJoined
import GoSem.ClaimMapViews
import Derived.JoinedTies
import Derived.KernelRfl
namespace Go.Proofs.Ytmbkgepfpfeahaa
/- THE CELL 'sum', in the pinned program and in every row, IS THE sha256 OF THE DUMP (.gsa) THAT YtmbkgepfpfeahaaProg.lean LOADS. Nothing in Lean hashes anything: it is a label: what it is worth is what the hold of that sum in a sandbox is worth. -/
noncomputable def Try.pinned : Pinned := { name := "ytmbkgepfpfeahaa", sum := "988db65dfd60dfb477171bdb683f1be5a33ddd5c6eb5dca6514452099601ac5d", checked := Try.checked }
namespace Rows
def none {H : Type} : Left H := { results := [], args := [] }

/-- 'churnlaw11.PermPairs': WHATEVER THE INPUT: true; the input reads as it did. -/
def permPairsSpec : ChangeSpec := { name := "permPairs", fn := fun _ => fun
  | [d1, d2] => { results := [.lit (.bool true)], args := [d1, d2] }
  | _ => none }
def permPairsRow : OpenClaim := { program := "ytmbkgepfpfeahaa", sum := "988db65dfd60dfb477171bdb683f1be5a33ddd5c6eb5dca6514452099601ac5d", func := "churn/churnlaw11.PermPairs", spec := "permPairs", apart := false }
def PermPairsSaid : Prop := permPairsRow.holds Try.pinned (OpenSpec.ofChange permPairsSpec)

/-- ITS FALSE NEIGHBOUR: 'it returns false'. Refute it at one input. -/
def permPairsWrong : ChangeSpec := { name := "permPairs", fn := fun _ => fun
  | [d1, d2] => { results := [.lit (.bool false)], args := [d1, d2] }
  | _ => none }
def PermPairsWrongFalsely : Prop := permPairsRow.holds Try.pinned (OpenSpec.ofChange permPairsWrong)

/-- 'churnlaw11.PermMakes': WHATEVER THE INPUT: true; the input reads as it did. -/
def permMakesSpec : ChangeSpec := { name := "permMakes", fn := fun _ => fun
  | [d1, d2] => { results := [.lit (.bool true)], args := [d1, d2] }
  | _ => none }
def permMakesRow : OpenClaim := { program := "ytmbkgepfpfeahaa", sum := "988db65dfd60dfb477171bdb683f1be5a33ddd5c6eb5dca6514452099601ac5d", func := "churn/churnlaw11.PermMakes", spec := "permMakes", apart := false }
def PermMakesSaid : Prop := permMakesRow.holds Try.pinned (OpenSpec.ofChange permMakesSpec)

/-- ITS FALSE NEIGHBOUR: 'it returns false'. Refute it at one input. -/
def permMakesWrong : ChangeSpec := { name := "permMakes", fn := fun _ => fun
  | [d1, d2] => { results := [.lit (.bool false)], args := [d1, d2] }
  | _ => none }
def PermMakesWrongFalsely : Prop := permMakesRow.holds Try.pinned (OpenSpec.ofChange permMakesWrong)

/-- 'churnlaw11.PermGroup': WHATEVER THE INPUT: true; the input reads as it did. -/
def permGroupSpec : ChangeSpec := { name := "permGroup", fn := fun _ => fun
  | [d1, d2, d3, d4] => { results := [.lit (.bool true)], args := [d1, d2, d3, d4] }
  | _ => none }
def permGroupRow : OpenClaim := { program := "ytmbkgepfpfeahaa", sum := "988db65dfd60dfb477171bdb683f1be5a33ddd5c6eb5dca6514452099601ac5d", func := "churn/churnlaw11.PermGroup", spec := "permGroup", apart := false }
def PermGroupSaid : Prop := permGroupRow.holds Try.pinned (OpenSpec.ofChange permGroupSpec)

/-- ITS FALSE NEIGHBOUR: 'it returns false'. Refute it at one input. -/
def permGroupWrong : ChangeSpec := { name := "permGroup", fn := fun _ => fun
  | [d1, d2, d3, d4] => { results := [.lit (.bool false)], args := [d1, d2, d3, d4] }
  | _ => none }
def PermGroupWrongFalsely : Prop := permGroupRow.holds Try.pinned (OpenSpec.ofChange permGroupWrong)

/-- 'churnlaw11.PermRises': WHATEVER THE INPUT: true; the input reads as it did. -/
def permRisesSpec : ChangeSpec := { name := "permRises", fn := fun _ => fun
  | [d1, d2] => { results := [.lit (.bool true)], args := [d1, d2] }
  | _ => none }
def permRisesRow : OpenClaim := { program := "ytmbkgepfpfeahaa", sum := "988db65dfd60dfb477171bdb683f1be5a33ddd5c6eb5dca6514452099601ac5d", func := "churn/churnlaw11.PermRises", spec := "permRises", apart := false }
def PermRisesSaid : Prop := permRisesRow.holds Try.pinned (OpenSpec.ofChange permRisesSpec)

/-- ITS FALSE NEIGHBOUR: 'it returns false'. Refute it at one input. -/
def permRisesWrong : ChangeSpec := { name := "permRises", fn := fun _ => fun
  | [d1, d2] => { results := [.lit (.bool false)], args := [d1, d2] }
  | _ => none }
def PermRisesWrongFalsely : Prop := permRisesRow.holds Try.pinned (OpenSpec.ofChange permRisesWrong)

/-- 'churnlaw11.PermChecks': WHATEVER THE INPUT: true; the input reads as it did. -/
def permChecksSpec : ChangeSpec := { name := "permChecks", fn := fun _ => fun
  | [d] => { results := [.lit (.bool true)], args := [d] }
  | _ => none }
def permChecksRow : OpenClaim := { program := "ytmbkgepfpfeahaa", sum := "988db65dfd60dfb477171bdb683f1be5a33ddd5c6eb5dca6514452099601ac5d", func := "churn/churnlaw11.PermChecks", spec := "permChecks", apart := false }
def PermChecksSaid : Prop := permChecksRow.holds Try.pinned (OpenSpec.ofChange permChecksSpec)

/-- ITS FALSE NEIGHBOUR: 'it returns false'. Refute it at one input. -/
def permChecksWrong : ChangeSpec := { name := "permChecks", fn := fun _ => fun
  | [d] => { results := [.lit (.bool false)], args := [d] }
  | _ => none }
def PermChecksWrongFalsely : Prop := permChecksRow.holds Try.pinned (OpenSpec.ofChange permChecksWrong)

/-- 'churnlaw11.PermOneToOne': WHATEVER THE INPUT: true; the input reads as it did. -/
def permOneToOneSpec : ChangeSpec := { name := "permOneToOne", fn := fun _ => fun
  | [d1, d2] => { results := [.lit (.bool true)], args := [d1, d2] }
  | _ => none }
def permOneToOneRow : OpenClaim := { program := "ytmbkgepfpfeahaa", sum := "988db65dfd60dfb477171bdb683f1be5a33ddd5c6eb5dca6514452099601ac5d", func := "churn/churnlaw11.PermOneToOne", spec := "permOneToOne", apart := false }
def PermOneToOneSaid : Prop := permOneToOneRow.holds Try.pinned (OpenSpec.ofChange permOneToOneSpec)

/-- ITS FALSE NEIGHBOUR: 'it returns false'. Refute it at one input. -/
def permOneToOneWrong : ChangeSpec := { name := "permOneToOne", fn := fun _ => fun
  | [d1, d2] => { results := [.lit (.bool false)], args := [d1, d2] }
  | _ => none }
def PermOneToOneWrongFalsely : Prop := permOneToOneRow.holds Try.pinned (OpenSpec.ofChange permOneToOneWrong)

/-- 'churnlaw11.PermKeeps': WHATEVER THE INPUT: true; the input reads as it did. -/
def permKeepsSpec : ChangeSpec := { name := "permKeeps", fn := fun _ => fun
  | [d1, d2] => { results := [.lit (.bool true)], args := [d1, d2] }
  | _ => none }
def permKeepsRow : OpenClaim := { program := "ytmbkgepfpfeahaa", sum := "988db65dfd60dfb477171bdb683f1be5a33ddd5c6eb5dca6514452099601ac5d", func := "churn/churnlaw11.PermKeeps", spec := "permKeeps", apart := false }
def PermKeepsSaid : Prop := permKeepsRow.holds Try.pinned (OpenSpec.ofChange permKeepsSpec)

/-- ITS FALSE NEIGHBOUR: 'it returns false'. Refute it at one input. -/
def permKeepsWrong : ChangeSpec := { name := "permKeeps", fn := fun _ => fun
  | [d1, d2] => { results := [.lit (.bool false)], args := [d1, d2] }
  | _ => none }
def PermKeepsWrongFalsely : Prop := permKeepsRow.holds Try.pinned (OpenSpec.ofChange permKeepsWrong)

/- THE SECOND FORM. 'bulk': how many values and letters a reading holds, each counted each time it is reached (what is shared counts as often as it is met; a slice's spare places count too). A statement '..UptoSaid' is the law's where the arguments, and the package variables that the reading takes, are together of bulk at most 1048576: NARROWER than '..Said'. Prove '..Said' where nothing that the law and all that it calls make is longer than what came in: it says more and counts as full. Else prove '..UptoSaid'. A law counts once. -/
mutual
def uptoBulk {H : Type} : DataW H → Nat
  | .lit (.string bytes) => bytes.length + 1
  | .lit _ => 1
  | .nil => 1
  | .ptr d => uptoBulk d + 1
  | .slice elems spare => uptoBulkAll elems + uptoBulkAll spare + 1
  | .agg parts => uptoBulkAll parts + 1
  | .iface _ d => uptoBulk d + 1
  | .map entries => uptoBulkEntries entries + 1
  | .held _ => 1
def uptoBulkAll {H : Type} : List (DataW H) → Nat
  | [] => 0
  | d :: r => uptoBulk d + uptoBulkAll r
def uptoBulkEntries {H : Type} : List (Lit × DataW H) → Nat
  | [] => 0
  | x :: r => uptoBulkEntry x + uptoBulkEntries r
def uptoBulkEntry {H : Type} : Lit × DataW H → Nat
  | (.string bytes, d) => bytes.length + uptoBulk d + 1
  | (_, d) => uptoBulk d + 1
 end
def uptoSmall : (H : Type) → List (DataW H) → Bool := fun _ ds => decide (uptoBulkAll ds ≤ 1048576)
def OpenSpec.upto (s : _root_.Go.ChangeSpec) : _root_.Go.OpenSpec := { _root_.Go.OpenSpec.ofChange s with cond := some uptoSmall }

/-- 'churnlaw11.PermPairs', WHERE WHAT IT READS IS OF BULK AT MOST 1048576: true; the input reads as it did. -/
def permPairsUptoRow : OpenClaim := { program := "ytmbkgepfpfeahaa", sum := "988db65dfd60dfb477171bdb683f1be5a33ddd5c6eb5dca6514452099601ac5d", func := "churn/churnlaw11.PermPairs", spec := "permPairs", apart := false, narrowed := true }
def PermPairsUptoSaid : Prop := permPairsUptoRow.holds Try.pinned (OpenSpec.upto permPairsSpec)

/-- 'churnlaw11.PermMakes', WHERE WHAT IT READS IS OF BULK AT MOST 1048576: true; the input reads as it did. -/
def permMakesUptoRow : OpenClaim := { program := "ytmbkgepfpfeahaa", sum := "988db65dfd60dfb477171bdb683f1be5a33ddd5c6eb5dca6514452099601ac5d", func := "churn/churnlaw11.PermMakes", spec := "permMakes", apart := false, narrowed := true }
def PermMakesUptoSaid : Prop := permMakesUptoRow.holds Try.pinned (OpenSpec.upto permMakesSpec)

/-- 'churnlaw11.PermGroup', WHERE WHAT IT READS IS OF BULK AT MOST 1048576: true; the input reads as it did. -/
def permGroupUptoRow : OpenClaim := { program := "ytmbkgepfpfeahaa", sum := "988db65dfd60dfb477171bdb683f1be5a33ddd5c6eb5dca6514452099601ac5d", func := "churn/churnlaw11.PermGroup", spec := "permGroup", apart := false, narrowed := true }
def PermGroupUptoSaid : Prop := permGroupUptoRow.holds Try.pinned (OpenSpec.upto permGroupSpec)

/-- 'churnlaw11.PermRises', WHERE WHAT IT READS IS OF BULK AT MOST 1048576: true; the input reads as it did. -/
def permRisesUptoRow : OpenClaim := { program := "ytmbkgepfpfeahaa", sum := "988db65dfd60dfb477171bdb683f1be5a33ddd5c6eb5dca6514452099601ac5d", func := "churn/churnlaw11.PermRises", spec := "permRises", apart := false, narrowed := true }
def PermRisesUptoSaid : Prop := permRisesUptoRow.holds Try.pinned (OpenSpec.upto permRisesSpec)

/-- 'churnlaw11.PermChecks', WHERE WHAT IT READS IS OF BULK AT MOST 1048576: true; the input reads as it did. -/
def permChecksUptoRow : OpenClaim := { program := "ytmbkgepfpfeahaa", sum := "988db65dfd60dfb477171bdb683f1be5a33ddd5c6eb5dca6514452099601ac5d", func := "churn/churnlaw11.PermChecks", spec := "permChecks", apart := false, narrowed := true }
def PermChecksUptoSaid : Prop := permChecksUptoRow.holds Try.pinned (OpenSpec.upto permChecksSpec)

/-- 'churnlaw11.PermOneToOne', WHERE WHAT IT READS IS OF BULK AT MOST 1048576: true; the input reads as it did. -/
def permOneToOneUptoRow : OpenClaim := { program := "ytmbkgepfpfeahaa", sum := "988db65dfd60dfb477171bdb683f1be5a33ddd5c6eb5dca6514452099601ac5d", func := "churn/churnlaw11.PermOneToOne", spec := "permOneToOne", apart := false, narrowed := true }
def PermOneToOneUptoSaid : Prop := permOneToOneUptoRow.holds Try.pinned (OpenSpec.upto permOneToOneSpec)

/-- 'churnlaw11.PermKeeps', WHERE WHAT IT READS IS OF BULK AT MOST 1048576: true; the input reads as it did. -/
def permKeepsUptoRow : OpenClaim := { program := "ytmbkgepfpfeahaa", sum := "988db65dfd60dfb477171bdb683f1be5a33ddd5c6eb5dca6514452099601ac5d", func := "churn/churnlaw11.PermKeeps", spec := "permKeeps", apart := false, narrowed := true }
def PermKeepsUptoSaid : Prop := permKeepsUptoRow.holds Try.pinned (OpenSpec.upto permKeepsSpec)

end Rows
end Go.Proofs.Ytmbkgepfpfeahaa
