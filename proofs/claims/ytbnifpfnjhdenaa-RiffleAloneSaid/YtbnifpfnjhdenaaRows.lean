/-
  No cell of these rows narrows 'for every input' (looked for: loops, veiled, ifaces, maps, wideKeys, modest, calm, conditions, laid).
  DERIVED. THE GIVEN ROWS OF THIS SEAT. 7 by the template 'for every input the law returns true; each argument reads behind the call as it read before'; 0 by the template 'total and deterministic' (their statements: YtbnifpfnjhdenaaTotals.lean).
  GIVEN WITH THE SEED: the statements are not yours to turn. If you find one false, say at which input.
  Laid BY PROGRAM, IN A SANDBOX (cutbox-rows.mjs): the forced cells as the released guide's own fill.sh prints them over the translation 3cf9c618f1fec9f6… (all of the seat's roots in one cut). By AI agents, Wed Nov 11 2026. No macro, syntax, notation, axiom, sorry.
-/
import Derived.Test.YtbnifpfnjhdenaaChecked
import GoSem.Claim
import GoSem.ClaimJoined
import GoSem.ClaimMapViews
import Derived.JoinedTies
import Derived.KernelRfl
namespace Go.Proofs.Ytbnifpfnjhdenaa
/- THE CELL 'sum', in the pinned program and in every row, IS THE sha256 OF THE DUMP (.gsa) THAT YtbnifpfnjhdenaaProg.lean LOADS. Nothing in Lean hashes anything: it is a label: what it is worth is what the hold of that sum in a sandbox is worth. -/
noncomputable def Try.pinned : Pinned := { name := "ytbnifpfnjhdenaa", sum := "3cf9c618f1fec9f60677c8448be27f150924f405123d848c1d33f86909bb314c", checked := Try.checked }
namespace Rows
def none {H : Type} : Left H := { results := [], args := [] }

/-- 'churnlaw13.RiffleNames': WHATEVER THE INPUT: true; the input reads as it did. -/
def riffleNamesSpec : ChangeSpec := { name := "riffleNames", fn := fun _ => fun
  | [] => { results := [.lit (.bool true)], args := [] }
  | _ => none }
def riffleNamesRow : OpenClaim := { program := "ytbnifpfnjhdenaa", sum := "3cf9c618f1fec9f60677c8448be27f150924f405123d848c1d33f86909bb314c", func := "churn/churnlaw13.RiffleNames", spec := "riffleNames", unfollowed := true, recurses := true, apart := false }
def RiffleNamesSaid : Prop := riffleNamesRow.holds Try.pinned (OpenSpec.ofChange riffleNamesSpec)

/-- ITS FALSE NEIGHBOUR: 'it returns false'. Refute it at one input. -/
def riffleNamesWrong : ChangeSpec := { name := "riffleNames", fn := fun _ => fun
  | [] => { results := [.lit (.bool false)], args := [] }
  | _ => none }
def RiffleNamesWrongFalsely : Prop := riffleNamesRow.holds Try.pinned (OpenSpec.ofChange riffleNamesWrong)

/-- 'churnlaw13.RiffleOrders': WHATEVER THE INPUT: true; the input reads as it did. -/
def riffleOrdersSpec : ChangeSpec := { name := "riffleOrders", fn := fun _ => fun
  | [d1, d2, d3] => { results := [.lit (.bool true)], args := [d1, d2, d3] }
  | _ => none }
def riffleOrdersRow : OpenClaim := { program := "ytbnifpfnjhdenaa", sum := "3cf9c618f1fec9f60677c8448be27f150924f405123d848c1d33f86909bb314c", func := "churn/churnlaw13.RiffleOrders", spec := "riffleOrders", unfollowed := true, recurses := true, apart := false }
def RiffleOrdersSaid : Prop := riffleOrdersRow.holds Try.pinned (OpenSpec.ofChange riffleOrdersSpec)

/-- ITS FALSE NEIGHBOUR: 'it returns false'. Refute it at one input. -/
def riffleOrdersWrong : ChangeSpec := { name := "riffleOrders", fn := fun _ => fun
  | [d1, d2, d3] => { results := [.lit (.bool false)], args := [d1, d2, d3] }
  | _ => none }
def RiffleOrdersWrongFalsely : Prop := riffleOrdersRow.holds Try.pinned (OpenSpec.ofChange riffleOrdersWrong)

/-- 'churnlaw13.RiffleTurns': WHATEVER THE INPUT: true; the input reads as it did. -/
def riffleTurnsSpec : ChangeSpec := { name := "riffleTurns", fn := fun _ => fun
  | [d] => { results := [.lit (.bool true)], args := [d] }
  | _ => none }
def riffleTurnsRow : OpenClaim := { program := "ytbnifpfnjhdenaa", sum := "3cf9c618f1fec9f60677c8448be27f150924f405123d848c1d33f86909bb314c", func := "churn/churnlaw13.RiffleTurns", spec := "riffleTurns", unfollowed := true, recurses := true, apart := false }
def RiffleTurnsSaid : Prop := riffleTurnsRow.holds Try.pinned (OpenSpec.ofChange riffleTurnsSpec)

/-- ITS FALSE NEIGHBOUR: 'it returns false'. Refute it at one input. -/
def riffleTurnsWrong : ChangeSpec := { name := "riffleTurns", fn := fun _ => fun
  | [d] => { results := [.lit (.bool false)], args := [d] }
  | _ => none }
def RiffleTurnsWrongFalsely : Prop := riffleTurnsRow.holds Try.pinned (OpenSpec.ofChange riffleTurnsWrong)

/-- 'churnlaw13.RiffleEven': WHATEVER THE INPUT: true; the input reads as it did. -/
def riffleEvenSpec : ChangeSpec := { name := "riffleEven", fn := fun _ => fun
  | [d1, d2] => { results := [.lit (.bool true)], args := [d1, d2] }
  | _ => none }
def riffleEvenRow : OpenClaim := { program := "ytbnifpfnjhdenaa", sum := "3cf9c618f1fec9f60677c8448be27f150924f405123d848c1d33f86909bb314c", func := "churn/churnlaw13.RiffleEven", spec := "riffleEven", unfollowed := true, recurses := true, apart := false }
def RiffleEvenSaid : Prop := riffleEvenRow.holds Try.pinned (OpenSpec.ofChange riffleEvenSpec)

/-- ITS FALSE NEIGHBOUR: 'it returns false'. Refute it at one input. -/
def riffleEvenWrong : ChangeSpec := { name := "riffleEven", fn := fun _ => fun
  | [d1, d2] => { results := [.lit (.bool false)], args := [d1, d2] }
  | _ => none }
def RiffleEvenWrongFalsely : Prop := riffleEvenRow.holds Try.pinned (OpenSpec.ofChange riffleEvenWrong)

/-- 'churnlaw13.RiffleAlone': WHATEVER THE INPUT: true; the input reads as it did. -/
def riffleAloneSpec : ChangeSpec := { name := "riffleAlone", fn := fun _ => fun
  | [d] => { results := [.lit (.bool true)], args := [d] }
  | _ => none }
def riffleAloneRow : OpenClaim := { program := "ytbnifpfnjhdenaa", sum := "3cf9c618f1fec9f60677c8448be27f150924f405123d848c1d33f86909bb314c", func := "churn/churnlaw13.RiffleAlone", spec := "riffleAlone", unfollowed := true, recurses := true, apart := false }
def RiffleAloneSaid : Prop := riffleAloneRow.holds Try.pinned (OpenSpec.ofChange riffleAloneSpec)

/-- ITS FALSE NEIGHBOUR: 'it returns false'. Refute it at one input. -/
def riffleAloneWrong : ChangeSpec := { name := "riffleAlone", fn := fun _ => fun
  | [d] => { results := [.lit (.bool false)], args := [d] }
  | _ => none }
def RiffleAloneWrongFalsely : Prop := riffleAloneRow.holds Try.pinned (OpenSpec.ofChange riffleAloneWrong)

/-- 'churnlaw13.RiffleCounts': WHATEVER THE INPUT: true; the input reads as it did. -/
def riffleCountsSpec : ChangeSpec := { name := "riffleCounts", fn := fun _ => fun
  | [d1, d2] => { results := [.lit (.bool true)], args := [d1, d2] }
  | _ => none }
def riffleCountsRow : OpenClaim := { program := "ytbnifpfnjhdenaa", sum := "3cf9c618f1fec9f60677c8448be27f150924f405123d848c1d33f86909bb314c", func := "churn/churnlaw13.RiffleCounts", spec := "riffleCounts", unfollowed := true, recurses := true, apart := false }
def RiffleCountsSaid : Prop := riffleCountsRow.holds Try.pinned (OpenSpec.ofChange riffleCountsSpec)

/-- ITS FALSE NEIGHBOUR: 'it returns false'. Refute it at one input. -/
def riffleCountsWrong : ChangeSpec := { name := "riffleCounts", fn := fun _ => fun
  | [d1, d2] => { results := [.lit (.bool false)], args := [d1, d2] }
  | _ => none }
def RiffleCountsWrongFalsely : Prop := riffleCountsRow.holds Try.pinned (OpenSpec.ofChange riffleCountsWrong)

/-- 'churnlaw13.RiffleKeeps': WHATEVER THE INPUT: true; the input reads as it did. -/
def riffleKeepsSpec : ChangeSpec := { name := "riffleKeeps", fn := fun _ => fun
  | [d] => { results := [.lit (.bool true)], args := [d] }
  | _ => none }
def riffleKeepsRow : OpenClaim := { program := "ytbnifpfnjhdenaa", sum := "3cf9c618f1fec9f60677c8448be27f150924f405123d848c1d33f86909bb314c", func := "churn/churnlaw13.RiffleKeeps", spec := "riffleKeeps", unfollowed := true, recurses := true, apart := false }
def RiffleKeepsSaid : Prop := riffleKeepsRow.holds Try.pinned (OpenSpec.ofChange riffleKeepsSpec)

/-- ITS FALSE NEIGHBOUR: 'it returns false'. Refute it at one input. -/
def riffleKeepsWrong : ChangeSpec := { name := "riffleKeeps", fn := fun _ => fun
  | [d] => { results := [.lit (.bool false)], args := [d] }
  | _ => none }
def RiffleKeepsWrongFalsely : Prop := riffleKeepsRow.holds Try.pinned (OpenSpec.ofChange riffleKeepsWrong)

/- THE SECOND FORM. 'bulk': how many values and letters a reading holds, each counted each time it is reached (what is shared counts as often as it is met; a slice's spare places count too). A statement '..UptoSaid' is the law's where the arguments, and the package variables that the reading takes, are together of bulk at most 1048576: NARROWER than '..Said'. Prove '..Said' where nothing that the law and all that it calls make is longer than what came in: it says more and counts as full. Else prove '..UptoSaid'. A law counts once. -/
mutual
def uptoBulk {H : Type} : DataW H → Nat
  | .lit (.string bytes) => bytes.length + 1
  | .lit _ => 1
  | .nil => 1
  | .ptr d => uptoBulk d + 1
  | .slice elems spare => uptoBulkAll elems + uptoBulkAll spare + 1
  | .agg parts => uptoBulkAll parts + 1
  | .iface _ d => uptoBulk d + 1
  | .map entries => uptoBulkEntries entries + 1
  | .held _ => 1
def uptoBulkAll {H : Type} : List (DataW H) → Nat
  | [] => 0
  | d :: r => uptoBulk d + uptoBulkAll r
def uptoBulkEntries {H : Type} : List (Lit × DataW H) → Nat
  | [] => 0
  | x :: r => uptoBulkEntry x + uptoBulkEntries r
def uptoBulkEntry {H : Type} : Lit × DataW H → Nat
  | (.string bytes, d) => bytes.length + uptoBulk d + 1
  | (_, d) => uptoBulk d + 1
 end
def uptoSmall : (H : Type) → List (DataW H) → Bool := fun _ ds => decide (uptoBulkAll ds ≤ 1048576)
def OpenSpec.upto (s : _root_.Go.ChangeSpec) : _root_.Go.OpenSpec := { _root_.Go.OpenSpec.ofChange s with cond := some uptoSmall }

/-- 'churnlaw13.RiffleNames', WHERE WHAT IT READS IS OF BULK AT MOST 1048576: true; the input reads as it did. -/
def riffleNamesUptoRow : OpenClaim := { program := "ytbnifpfnjhdenaa", sum := "3cf9c618f1fec9f60677c8448be27f150924f405123d848c1d33f86909bb314c", func := "churn/churnlaw13.RiffleNames", spec := "riffleNames", unfollowed := true, recurses := true, apart := false, narrowed := true }
def RiffleNamesUptoSaid : Prop := riffleNamesUptoRow.holds Try.pinned (OpenSpec.upto riffleNamesSpec)

/-- 'churnlaw13.RiffleOrders', WHERE WHAT IT READS IS OF BULK AT MOST 1048576: true; the input reads as it did. -/
def riffleOrdersUptoRow : OpenClaim := { program := "ytbnifpfnjhdenaa", sum := "3cf9c618f1fec9f60677c8448be27f150924f405123d848c1d33f86909bb314c", func := "churn/churnlaw13.RiffleOrders", spec := "riffleOrders", unfollowed := true, recurses := true, apart := false, narrowed := true }
def RiffleOrdersUptoSaid : Prop := riffleOrdersUptoRow.holds Try.pinned (OpenSpec.upto riffleOrdersSpec)

/-- 'churnlaw13.RiffleTurns', WHERE WHAT IT READS IS OF BULK AT MOST 1048576: true; the input reads as it did. -/
def riffleTurnsUptoRow : OpenClaim := { program := "ytbnifpfnjhdenaa", sum := "3cf9c618f1fec9f60677c8448be27f150924f405123d848c1d33f86909bb314c", func := "churn/churnlaw13.RiffleTurns", spec := "riffleTurns", unfollowed := true, recurses := true, apart := false, narrowed := true }
def RiffleTurnsUptoSaid : Prop := riffleTurnsUptoRow.holds Try.pinned (OpenSpec.upto riffleTurnsSpec)

/-- 'churnlaw13.RiffleEven', WHERE WHAT IT READS IS OF BULK AT MOST 1048576: true; the input reads as it did. -/
def riffleEvenUptoRow : OpenClaim := { program := "ytbnifpfnjhdenaa", sum := "3cf9c618f1fec9f60677c8448be27f150924f405123d848c1d33f86909bb314c", func := "churn/churnlaw13.RiffleEven", spec := "riffleEven", unfollowed := true, recurses := true, apart := false, narrowed := true }
def RiffleEvenUptoSaid : Prop := riffleEvenUptoRow.holds Try.pinned (OpenSpec.upto riffleEvenSpec)

/-- 'churnlaw13.RiffleAlone', WHERE WHAT IT READS IS OF BULK AT MOST 1048576: true; the input reads as it did. -/
def riffleAloneUptoRow : OpenClaim := { program := "ytbnifpfnjhdenaa", sum := "3cf9c618f1fec9f60677c8448be27f150924f405123d848c1d33f86909bb314c", func := "churn/churnlaw13.RiffleAlone", spec := "riffleAlone", unfollowed := true, recurses := true, apart := false, narrowed := true }
def RiffleAloneUptoSaid : Prop := riffleAloneUptoRow.holds Try.pinned (OpenSpec.upto riffleAloneSpec)

/-- 'churnlaw13.RiffleCounts', WHERE WHAT IT READS IS OF BULK AT MOST 1048576: true; the input reads as it did. -/
def riffleCountsUptoRow : OpenClaim := { program := "ytbnifpfnjhdenaa", sum := "3cf9c618f1fec9f60677c8448be27f150924f405123d848c1d33f86909bb314c", func := "churn/churnlaw13.RiffleCounts", spec := "riffleCounts", unfollowed := true, recurses := true, apart := false, narrowed := true }
def RiffleCountsUptoSaid : Prop := riffleCountsUptoRow.holds Try.pinned (OpenSpec.upto riffleCountsSpec)

/-- 'churnlaw13.RiffleKeeps', WHERE WHAT IT READS IS OF BULK AT MOST 1048576: true; the input reads as it did. -/
def riffleKeepsUptoRow : OpenClaim := { program := "ytbnifpfnjhdenaa", sum := "3cf9c618f1fec9f60677c8448be27f150924f405123d848c1d33f86909bb314c", func := "churn/churnlaw13.RiffleKeeps", spec := "riffleKeeps", unfollowed := true, recurses := true, apart := false, narrowed := true }
def RiffleKeepsUptoSaid : Prop := riffleKeepsUptoRow.holds Try.pinned (OpenSpec.upto riffleKeepsSpec)

end Rows
end Go.Proofs.Ytbnifpfnjhdenaa
