/-
  No cell of these rows narrows 'for every input' (looked for: loops, veiled, ifaces, maps, wideKeys, modest, calm, conditions, laid).
  DERIVED. THE GIVEN ROWS OF THIS SEAT. 4 by the template 'for every input the law returns true; each argument reads behind the call as it read before'; 0 by the template 'total and deterministic' (their statements: YtangepklgeikkaaTotals.lean).
  GIVEN WITH THE SEED: the statements are not yours to turn. If you find one false, say at which input.
  Laid BY PROGRAM, IN A SANDBOX (cutbox-rows.mjs): the forced cells as the released guide's own fill.sh prints them over the translation a12b4811321006de… (all of the seat's roots in one cut). By AI agents, Wed Nov 11 2026. No macro, syntax, notation, axiom, sorry.
-/
import Derived.Test.YtangepklgeikkaaChecked
import GoSem.Claim
import GoSem.ClaimJoined
import GoSem.ClaimMapViews
import Derived.JoinedTies
import Derived.KernelRfl
namespace Go.Proofs.Ytangepklgeikkaa
/- THE CELL 'sum', in the pinned program and in every row, IS THE sha256 OF THE DUMP (.gsa) THAT YtangepklgeikkaaProg.lean LOADS. Nothing in Lean hashes anything: it is a label: what it is worth is what the hold of that sum in a sandbox is worth. -/
noncomputable def Try.pinned : Pinned := { name := "ytangepklgeikkaa", sum := "a12b4811321006deba0feadf4d6c9e56411738863ac8b32b3655765f49613532", checked := Try.checked }
namespace Rows
def none {H : Type} : Left H := { results := [], args := [] }

/-- 'churnlaw09.TapeScripts': WHATEVER THE INPUT: true; the input reads as it did. -/
def tapeScriptsSpec : ChangeSpec := { name := "tapeScripts", fn := fun _ => fun
  | [d] => { results := [.lit (.bool true)], args := [d] }
  | _ => none }
def tapeScriptsRow : OpenClaim := { program := "ytangepklgeikkaa", sum := "a12b4811321006deba0feadf4d6c9e56411738863ac8b32b3655765f49613532", func := "churn/churnlaw09.TapeScripts", spec := "tapeScripts", apart := false }
def TapeScriptsSaid : Prop := tapeScriptsRow.holds Try.pinned (OpenSpec.ofChange tapeScriptsSpec)

/-- ITS FALSE NEIGHBOUR: 'it returns false'. Refute it at one input. -/
def tapeScriptsWrong : ChangeSpec := { name := "tapeScripts", fn := fun _ => fun
  | [d] => { results := [.lit (.bool false)], args := [d] }
  | _ => none }
def TapeScriptsWrongFalsely : Prop := tapeScriptsRow.holds Try.pinned (OpenSpec.ofChange tapeScriptsWrong)

/-- 'churnlaw09.TapeJoins': WHATEVER THE INPUT: true; the input reads as it did. -/
def tapeJoinsSpec : ChangeSpec := { name := "tapeJoins", fn := fun _ => fun
  | [d1, d2, d3] => { results := [.lit (.bool true)], args := [d1, d2, d3] }
  | _ => none }
def tapeJoinsRow : OpenClaim := { program := "ytangepklgeikkaa", sum := "a12b4811321006deba0feadf4d6c9e56411738863ac8b32b3655765f49613532", func := "churn/churnlaw09.TapeJoins", spec := "tapeJoins", apart := false }
def TapeJoinsSaid : Prop := tapeJoinsRow.holds Try.pinned (OpenSpec.ofChange tapeJoinsSpec)

/-- ITS FALSE NEIGHBOUR: 'it returns false'. Refute it at one input. -/
def tapeJoinsWrong : ChangeSpec := { name := "tapeJoins", fn := fun _ => fun
  | [d1, d2, d3] => { results := [.lit (.bool false)], args := [d1, d2, d3] }
  | _ => none }
def TapeJoinsWrongFalsely : Prop := tapeJoinsRow.holds Try.pinned (OpenSpec.ofChange tapeJoinsWrong)

/-- 'churnlaw09.TapeSplits': WHATEVER THE INPUT: true; the input reads as it did. -/
def tapeSplitsSpec : ChangeSpec := { name := "tapeSplits", fn := fun _ => fun
  | [d1, d2] => { results := [.lit (.bool true)], args := [d1, d2] }
  | _ => none }
def tapeSplitsRow : OpenClaim := { program := "ytangepklgeikkaa", sum := "a12b4811321006deba0feadf4d6c9e56411738863ac8b32b3655765f49613532", func := "churn/churnlaw09.TapeSplits", spec := "tapeSplits", apart := false }
def TapeSplitsSaid : Prop := tapeSplitsRow.holds Try.pinned (OpenSpec.ofChange tapeSplitsSpec)

/-- ITS FALSE NEIGHBOUR: 'it returns false'. Refute it at one input. -/
def tapeSplitsWrong : ChangeSpec := { name := "tapeSplits", fn := fun _ => fun
  | [d1, d2] => { results := [.lit (.bool false)], args := [d1, d2] }
  | _ => none }
def TapeSplitsWrongFalsely : Prop := tapeSplitsRow.holds Try.pinned (OpenSpec.ofChange tapeSplitsWrong)

/-- 'churnlaw09.TapeParts': WHATEVER THE INPUT: true; the input reads as it did. -/
def tapePartsSpec : ChangeSpec := { name := "tapeParts", fn := fun _ => fun
  | [d1, d2] => { results := [.lit (.bool true)], args := [d1, d2] }
  | _ => none }
def tapePartsRow : OpenClaim := { program := "ytangepklgeikkaa", sum := "a12b4811321006deba0feadf4d6c9e56411738863ac8b32b3655765f49613532", func := "churn/churnlaw09.TapeParts", spec := "tapeParts", apart := false }
def TapePartsSaid : Prop := tapePartsRow.holds Try.pinned (OpenSpec.ofChange tapePartsSpec)

/-- ITS FALSE NEIGHBOUR: 'it returns false'. Refute it at one input. -/
def tapePartsWrong : ChangeSpec := { name := "tapeParts", fn := fun _ => fun
  | [d1, d2] => { results := [.lit (.bool false)], args := [d1, d2] }
  | _ => none }
def TapePartsWrongFalsely : Prop := tapePartsRow.holds Try.pinned (OpenSpec.ofChange tapePartsWrong)

/- THE SECOND FORM. 'bulk': how many values and letters a reading holds, each counted each time it is reached (what is shared counts as often as it is met; a slice's spare places count too). A statement '..UptoSaid' is the law's where the arguments, and the package variables that the reading takes, are together of bulk at most 1048576: NARROWER than '..Said'. Prove '..Said' where nothing that the law and all that it calls make is longer than what came in: it says more and counts as full. Else prove '..UptoSaid'. A law counts once. -/
mutual
def uptoBulk {H : Type} : DataW H → Nat
  | .lit (.string bytes) => bytes.length + 1
  | .lit _ => 1
  | .nil => 1
  | .ptr d => uptoBulk d + 1
  | .slice elems spare => uptoBulkAll elems + uptoBulkAll spare + 1
  | .agg parts => uptoBulkAll parts + 1
  | .iface _ d => uptoBulk d + 1
  | .map entries => uptoBulkEntries entries + 1
  | .held _ => 1
def uptoBulkAll {H : Type} : List (DataW H) → Nat
  | [] => 0
  | d :: r => uptoBulk d + uptoBulkAll r
def uptoBulkEntries {H : Type} : List (Lit × DataW H) → Nat
  | [] => 0
  | x :: r => uptoBulkEntry x + uptoBulkEntries r
def uptoBulkEntry {H : Type} : Lit × DataW H → Nat
  | (.string bytes, d) => bytes.length + uptoBulk d + 1
  | (_, d) => uptoBulk d + 1
 end
def uptoSmall : (H : Type) → List (DataW H) → Bool := fun _ ds => decide (uptoBulkAll ds ≤ 1048576)
def OpenSpec.upto (s : _root_.Go.ChangeSpec) : _root_.Go.OpenSpec := { _root_.Go.OpenSpec.ofChange s with cond := some uptoSmall }

/-- 'churnlaw09.TapeScripts', WHERE WHAT IT READS IS OF BULK AT MOST 1048576: true; the input reads as it did. -/
def tapeScriptsUptoRow : OpenClaim := { program := "ytangepklgeikkaa", sum := "a12b4811321006deba0feadf4d6c9e56411738863ac8b32b3655765f49613532", func := "churn/churnlaw09.TapeScripts", spec := "tapeScripts", apart := false, narrowed := true }
def TapeScriptsUptoSaid : Prop := tapeScriptsUptoRow.holds Try.pinned (OpenSpec.upto tapeScriptsSpec)

/-- 'churnlaw09.TapeJoins', WHERE WHAT IT READS IS OF BULK AT MOST 1048576: true; the input reads as it did. -/
def tapeJoinsUptoRow : OpenClaim := { program := "ytangepklgeikkaa", sum := "a12b4811321006deba0feadf4d6c9e56411738863ac8b32b3655765f49613532", func := "churn/churnlaw09.TapeJoins", spec := "tapeJoins", apart := false, narrowed := true }
def TapeJoinsUptoSaid : Prop := tapeJoinsUptoRow.holds Try.pinned (OpenSpec.upto tapeJoinsSpec)

/-- 'churnlaw09.TapeSplits', WHERE WHAT IT READS IS OF BULK AT MOST 1048576: true; the input reads as it did. -/
def tapeSplitsUptoRow : OpenClaim := { program := "ytangepklgeikkaa", sum := "a12b4811321006deba0feadf4d6c9e56411738863ac8b32b3655765f49613532", func := "churn/churnlaw09.TapeSplits", spec := "tapeSplits", apart := false, narrowed := true }
def TapeSplitsUptoSaid : Prop := tapeSplitsUptoRow.holds Try.pinned (OpenSpec.upto tapeSplitsSpec)

/-- 'churnlaw09.TapeParts', WHERE WHAT IT READS IS OF BULK AT MOST 1048576: true; the input reads as it did. -/
def tapePartsUptoRow : OpenClaim := { program := "ytangepklgeikkaa", sum := "a12b4811321006deba0feadf4d6c9e56411738863ac8b32b3655765f49613532", func := "churn/churnlaw09.TapeParts", spec := "tapeParts", apart := false, narrowed := true }
def TapePartsUptoSaid : Prop := tapePartsUptoRow.holds Try.pinned (OpenSpec.upto tapePartsSpec)

end Rows
end Go.Proofs.Ytangepklgeikkaa
