/-
  No cell of these rows narrows 'for every input' (looked for: loops, veiled, ifaces, maps, wideKeys, modest, calm, conditions, laid).
  DERIVED. THE GIVEN ROWS OF THIS SEAT. 7 by the template 'for every input the law returns true; each argument reads behind the call as it read before'; 0 by the template 'total and deterministic' (their statements: YtijnmfdpdjblbaaTotals.lean).
  GIVEN WITH THE SEED: the statements are not yours to turn. If you find one false, say at which input.
  Laid BY PROGRAM, IN A SANDBOX (cutbox-rows.mjs): the forced cells as the released guide's own fill.sh prints them over the translation 31b69856aa8f2e89… (all of the seat's roots in one cut). By AI agents, Wed Nov 11 2026. No macro, syntax, notation, axiom, sorry.
-/
import Derived.Test.YtijnmfdpdjblbaaChecked
import GoSem.Claim
import GoSem.ClaimJoined
import GoSem.ClaimMapViews
import Derived.JoinedTies
import Derived.KernelRfl
namespace Go.Proofs.Ytijnmfdpdjblbaa
/- THE CELL 'sum', in the pinned program and in every row, IS THE sha256 OF THE DUMP (.gsa) THAT YtijnmfdpdjblbaaProg.lean LOADS. Nothing in Lean hashes anything: it is a label: what it is worth is what the hold of that sum in a sandbox is worth. -/
noncomputable def Try.pinned : Pinned := { name := "ytijnmfdpdjblbaa", sum := "31b69856aa8f2e89a43b25cbe7fab2c5e4005123a094a4e30f200544efc643d8", checked := Try.checked }
namespace Rows
def none {H : Type} : Left H := { results := [], args := [] }

/-- 'churnlaw10.DrawAlls': WHATEVER THE INPUT: true; the input reads as it did. -/
def drawAllsSpec : ChangeSpec := { name := "drawAlls", fn := fun _ => fun
  | [d1, d2] => { results := [.lit (.bool true)], args := [d1, d2] }
  | _ => none }
def drawAllsRow : OpenClaim := { program := "ytijnmfdpdjblbaa", sum := "31b69856aa8f2e89a43b25cbe7fab2c5e4005123a094a4e30f200544efc643d8", func := "churn/churnlaw10.DrawAlls", spec := "drawAlls", unfollowed := true, recurses := true, apart := false }
def DrawAllsSaid : Prop := drawAllsRow.holds Try.pinned (OpenSpec.ofChange drawAllsSpec)

/-- ITS FALSE NEIGHBOUR: 'it returns false'. Refute it at one input. -/
def drawAllsWrong : ChangeSpec := { name := "drawAlls", fn := fun _ => fun
  | [d1, d2] => { results := [.lit (.bool false)], args := [d1, d2] }
  | _ => none }
def DrawAllsWrongFalsely : Prop := drawAllsRow.holds Try.pinned (OpenSpec.ofChange drawAllsWrong)

/-- 'churnlaw10.DrawTurns': WHATEVER THE INPUT: true; the input reads as it did. -/
def drawTurnsSpec : ChangeSpec := { name := "drawTurns", fn := fun _ => fun
  | [d1, d2, d3] => { results := [.lit (.bool true)], args := [d1, d2, d3] }
  | _ => none }
def drawTurnsRow : OpenClaim := { program := "ytijnmfdpdjblbaa", sum := "31b69856aa8f2e89a43b25cbe7fab2c5e4005123a094a4e30f200544efc643d8", func := "churn/churnlaw10.DrawTurns", spec := "drawTurns", unfollowed := true, recurses := true, apart := false }
def DrawTurnsSaid : Prop := drawTurnsRow.holds Try.pinned (OpenSpec.ofChange drawTurnsSpec)

/-- ITS FALSE NEIGHBOUR: 'it returns false'. Refute it at one input. -/
def drawTurnsWrong : ChangeSpec := { name := "drawTurns", fn := fun _ => fun
  | [d1, d2, d3] => { results := [.lit (.bool false)], args := [d1, d2, d3] }
  | _ => none }
def DrawTurnsWrongFalsely : Prop := drawTurnsRow.holds Try.pinned (OpenSpec.ofChange drawTurnsWrong)

/-- 'churnlaw10.DrawEven': WHATEVER THE INPUT: true; the input reads as it did. -/
def drawEvenSpec : ChangeSpec := { name := "drawEven", fn := fun _ => fun
  | [d1, d2, d3] => { results := [.lit (.bool true)], args := [d1, d2, d3] }
  | _ => none }
def drawEvenRow : OpenClaim := { program := "ytijnmfdpdjblbaa", sum := "31b69856aa8f2e89a43b25cbe7fab2c5e4005123a094a4e30f200544efc643d8", func := "churn/churnlaw10.DrawEven", spec := "drawEven", unfollowed := true, recurses := true, apart := false }
def DrawEvenSaid : Prop := drawEvenRow.holds Try.pinned (OpenSpec.ofChange drawEvenSpec)

/-- ITS FALSE NEIGHBOUR: 'it returns false'. Refute it at one input. -/
def drawEvenWrong : ChangeSpec := { name := "drawEven", fn := fun _ => fun
  | [d1, d2, d3] => { results := [.lit (.bool false)], args := [d1, d2, d3] }
  | _ => none }
def DrawEvenWrongFalsely : Prop := drawEvenRow.holds Try.pinned (OpenSpec.ofChange drawEvenWrong)

/-- 'churnlaw10.DrawBytes': WHATEVER THE INPUT: true; the input reads as it did. -/
def drawBytesSpec : ChangeSpec := { name := "drawBytes", fn := fun _ => fun
  | [d] => { results := [.lit (.bool true)], args := [d] }
  | _ => none }
def drawBytesRow : OpenClaim := { program := "ytijnmfdpdjblbaa", sum := "31b69856aa8f2e89a43b25cbe7fab2c5e4005123a094a4e30f200544efc643d8", func := "churn/churnlaw10.DrawBytes", spec := "drawBytes", unfollowed := true, recurses := true, apart := false }
def DrawBytesSaid : Prop := drawBytesRow.holds Try.pinned (OpenSpec.ofChange drawBytesSpec)

/-- ITS FALSE NEIGHBOUR: 'it returns false'. Refute it at one input. -/
def drawBytesWrong : ChangeSpec := { name := "drawBytes", fn := fun _ => fun
  | [d] => { results := [.lit (.bool false)], args := [d] }
  | _ => none }
def DrawBytesWrongFalsely : Prop := drawBytesRow.holds Try.pinned (OpenSpec.ofChange drawBytesWrong)

/-- 'churnlaw10.DrawPieces': WHATEVER THE INPUT: true; the input reads as it did. -/
def drawPiecesSpec : ChangeSpec := { name := "drawPieces", fn := fun _ => fun
  | [d1, d2, d3] => { results := [.lit (.bool true)], args := [d1, d2, d3] }
  | _ => none }
def drawPiecesRow : OpenClaim := { program := "ytijnmfdpdjblbaa", sum := "31b69856aa8f2e89a43b25cbe7fab2c5e4005123a094a4e30f200544efc643d8", func := "churn/churnlaw10.DrawPieces", spec := "drawPieces", unfollowed := true, recurses := true, apart := false }
def DrawPiecesSaid : Prop := drawPiecesRow.holds Try.pinned (OpenSpec.ofChange drawPiecesSpec)

/-- ITS FALSE NEIGHBOUR: 'it returns false'. Refute it at one input. -/
def drawPiecesWrong : ChangeSpec := { name := "drawPieces", fn := fun _ => fun
  | [d1, d2, d3] => { results := [.lit (.bool false)], args := [d1, d2, d3] }
  | _ => none }
def DrawPiecesWrongFalsely : Prop := drawPiecesRow.holds Try.pinned (OpenSpec.ofChange drawPiecesWrong)

/-- 'churnlaw10.DrawKeeps': WHATEVER THE INPUT: true; the input reads as it did. -/
def drawKeepsSpec : ChangeSpec := { name := "drawKeeps", fn := fun _ => fun
  | [d1, d2, d3] => { results := [.lit (.bool true)], args := [d1, d2, d3] }
  | _ => none }
def drawKeepsRow : OpenClaim := { program := "ytijnmfdpdjblbaa", sum := "31b69856aa8f2e89a43b25cbe7fab2c5e4005123a094a4e30f200544efc643d8", func := "churn/churnlaw10.DrawKeeps", spec := "drawKeeps", unfollowed := true, recurses := true, apart := false }
def DrawKeepsSaid : Prop := drawKeepsRow.holds Try.pinned (OpenSpec.ofChange drawKeepsSpec)

/-- ITS FALSE NEIGHBOUR: 'it returns false'. Refute it at one input. -/
def drawKeepsWrong : ChangeSpec := { name := "drawKeeps", fn := fun _ => fun
  | [d1, d2, d3] => { results := [.lit (.bool false)], args := [d1, d2, d3] }
  | _ => none }
def DrawKeepsWrongFalsely : Prop := drawKeepsRow.holds Try.pinned (OpenSpec.ofChange drawKeepsWrong)

/-- 'churnlaw10.DrawBelows': WHATEVER THE INPUT: true; the input reads as it did. -/
def drawBelowsSpec : ChangeSpec := { name := "drawBelows", fn := fun _ => fun
  | [d1, d2, d3] => { results := [.lit (.bool true)], args := [d1, d2, d3] }
  | _ => none }
def drawBelowsRow : OpenClaim := { program := "ytijnmfdpdjblbaa", sum := "31b69856aa8f2e89a43b25cbe7fab2c5e4005123a094a4e30f200544efc643d8", func := "churn/churnlaw10.DrawBelows", spec := "drawBelows", unfollowed := true, recurses := true, apart := false }
def DrawBelowsSaid : Prop := drawBelowsRow.holds Try.pinned (OpenSpec.ofChange drawBelowsSpec)

/-- ITS FALSE NEIGHBOUR: 'it returns false'. Refute it at one input. -/
def drawBelowsWrong : ChangeSpec := { name := "drawBelows", fn := fun _ => fun
  | [d1, d2, d3] => { results := [.lit (.bool false)], args := [d1, d2, d3] }
  | _ => none }
def DrawBelowsWrongFalsely : Prop := drawBelowsRow.holds Try.pinned (OpenSpec.ofChange drawBelowsWrong)

/- THE SECOND FORM. 'bulk': how many values and letters a reading holds, each counted each time it is reached (what is shared counts as often as it is met; a slice's spare places count too). A statement '..UptoSaid' is the law's where the arguments, and the package variables that the reading takes, are together of bulk at most 1048576: NARROWER than '..Said'. Prove '..Said' where nothing that the law and all that it calls make is longer than what came in: it says more and counts as full. Else prove '..UptoSaid'. A law counts once. -/
mutual
def uptoBulk {H : Type} : DataW H → Nat
  | .lit (.string bytes) => bytes.length + 1
  | .lit _ => 1
  | .nil => 1
  | .ptr d => uptoBulk d + 1
  | .slice elems spare => uptoBulkAll elems + uptoBulkAll spare + 1
  | .agg parts => uptoBulkAll parts + 1
  | .iface _ d => uptoBulk d + 1
  | .map entries => uptoBulkEntries entries + 1
  | .held _ => 1
def uptoBulkAll {H : Type} : List (DataW H) → Nat
  | [] => 0
  | d :: r => uptoBulk d + uptoBulkAll r
def uptoBulkEntries {H : Type} : List (Lit × DataW H) → Nat
  | [] => 0
  | x :: r => uptoBulkEntry x + uptoBulkEntries r
def uptoBulkEntry {H : Type} : Lit × DataW H → Nat
  | (.string bytes, d) => bytes.length + uptoBulk d + 1
  | (_, d) => uptoBulk d + 1
 end
def uptoSmall : (H : Type) → List (DataW H) → Bool := fun _ ds => decide (uptoBulkAll ds ≤ 1048576)
def OpenSpec.upto (s : _root_.Go.ChangeSpec) : _root_.Go.OpenSpec := { _root_.Go.OpenSpec.ofChange s with cond := some uptoSmall }

/-- 'churnlaw10.DrawAlls', WHERE WHAT IT READS IS OF BULK AT MOST 1048576: true; the input reads as it did. -/
def drawAllsUptoRow : OpenClaim := { program := "ytijnmfdpdjblbaa", sum := "31b69856aa8f2e89a43b25cbe7fab2c5e4005123a094a4e30f200544efc643d8", func := "churn/churnlaw10.DrawAlls", spec := "drawAlls", unfollowed := true, recurses := true, apart := false, narrowed := true }
def DrawAllsUptoSaid : Prop := drawAllsUptoRow.holds Try.pinned (OpenSpec.upto drawAllsSpec)

/-- 'churnlaw10.DrawTurns', WHERE WHAT IT READS IS OF BULK AT MOST 1048576: true; the input reads as it did. -/
def drawTurnsUptoRow : OpenClaim := { program := "ytijnmfdpdjblbaa", sum := "31b69856aa8f2e89a43b25cbe7fab2c5e4005123a094a4e30f200544efc643d8", func := "churn/churnlaw10.DrawTurns", spec := "drawTurns", unfollowed := true, recurses := true, apart := false, narrowed := true }
def DrawTurnsUptoSaid : Prop := drawTurnsUptoRow.holds Try.pinned (OpenSpec.upto drawTurnsSpec)

/-- 'churnlaw10.DrawEven', WHERE WHAT IT READS IS OF BULK AT MOST 1048576: true; the input reads as it did. -/
def drawEvenUptoRow : OpenClaim := { program := "ytijnmfdpdjblbaa", sum := "31b69856aa8f2e89a43b25cbe7fab2c5e4005123a094a4e30f200544efc643d8", func := "churn/churnlaw10.DrawEven", spec := "drawEven", unfollowed := true, recurses := true, apart := false, narrowed := true }
def DrawEvenUptoSaid : Prop := drawEvenUptoRow.holds Try.pinned (OpenSpec.upto drawEvenSpec)

/-- 'churnlaw10.DrawBytes', WHERE WHAT IT READS IS OF BULK AT MOST 1048576: true; the input reads as it did. -/
def drawBytesUptoRow : OpenClaim := { program := "ytijnmfdpdjblbaa", sum := "31b69856aa8f2e89a43b25cbe7fab2c5e4005123a094a4e30f200544efc643d8", func := "churn/churnlaw10.DrawBytes", spec := "drawBytes", unfollowed := true, recurses := true, apart := false, narrowed := true }
def DrawBytesUptoSaid : Prop := drawBytesUptoRow.holds Try.pinned (OpenSpec.upto drawBytesSpec)

/-- 'churnlaw10.DrawPieces', WHERE WHAT IT READS IS OF BULK AT MOST 1048576: true; the input reads as it did. -/
def drawPiecesUptoRow : OpenClaim := { program := "ytijnmfdpdjblbaa", sum := "31b69856aa8f2e89a43b25cbe7fab2c5e4005123a094a4e30f200544efc643d8", func := "churn/churnlaw10.DrawPieces", spec := "drawPieces", unfollowed := true, recurses := true, apart := false, narrowed := true }
def DrawPiecesUptoSaid : Prop := drawPiecesUptoRow.holds Try.pinned (OpenSpec.upto drawPiecesSpec)

/-- 'churnlaw10.DrawKeeps', WHERE WHAT IT READS IS OF BULK AT MOST 1048576: true; the input reads as it did. -/
def drawKeepsUptoRow : OpenClaim := { program := "ytijnmfdpdjblbaa", sum := "31b69856aa8f2e89a43b25cbe7fab2c5e4005123a094a4e30f200544efc643d8", func := "churn/churnlaw10.DrawKeeps", spec := "drawKeeps", unfollowed := true, recurses := true, apart := false, narrowed := true }
def DrawKeepsUptoSaid : Prop := drawKeepsUptoRow.holds Try.pinned (OpenSpec.upto drawKeepsSpec)

/-- 'churnlaw10.DrawBelows', WHERE WHAT IT READS IS OF BULK AT MOST 1048576: true; the input reads as it did. -/
def drawBelowsUptoRow : OpenClaim := { program := "ytijnmfdpdjblbaa", sum := "31b69856aa8f2e89a43b25cbe7fab2c5e4005123a094a4e30f200544efc643d8", func := "churn/churnlaw10.DrawBelows", spec := "drawBelows", unfollowed := true, recurses := true, apart := false, narrowed := true }
def DrawBelowsUptoSaid : Prop := drawBelowsUptoRow.holds Try.pinned (OpenSpec.upto drawBelowsSpec)

end Rows
end Go.Proofs.Ytijnmfdpdjblbaa
