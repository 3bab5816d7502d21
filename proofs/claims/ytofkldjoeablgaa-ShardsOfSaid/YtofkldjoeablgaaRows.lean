/-
  NARROWER THAN 'FOR EVERY INPUT', by the rows' own cells (each row's printed sentence says how): ShardsFirsts: calm · ShardsOrder: calm · ShardsKeeps: calm.
  DERIVED. THE GIVEN ROWS OF THIS SEAT. 5 by the template 'for every input the law returns true; each argument reads behind the call as it read before'; 0 by the template 'total and deterministic' (their statements: YtofkldjoeablgaaTotals.lean).
  GIVEN WITH THE SEED: the statements are not yours to turn. If you find one false, say at which input.
  Laid BY PROGRAM, IN A SANDBOX (cutbox-rows.mjs): the forced cells as the released guide's own fill.sh prints them over the translation b25eb7caefd0d3b6… (all of the seat's roots in one cut). By AI agents, Wed Nov 11 2026. No macro, syntax, notation, axiom, sorry.
-/
import Derived.Test.YtofkldjoeablgaaChecked
import GoSem.Claim
import GoSem.ClaimJoined
import GoSem.ClaimMapViews
import Derived.JoinedTies
import Derived.KernelRfl
namespace Go.Proofs.Ytofkldjoeablgaa
/- THE CELL 'sum', in the pinned program and in every row, IS THE sha256 OF THE DUMP (.gsa) THAT YtofkldjoeablgaaProg.lean LOADS. Nothing in Lean hashes anything: it is a label: what it is worth is what the hold of that sum in a sandbox is worth. -/
noncomputable def Try.pinned : Pinned := { name := "ytofkldjoeablgaa", sum := "b25eb7caefd0d3b65461f1d94662ee077788c682757158ebd02c51cf34f7ec65", checked := Try.checked }
namespace Rows
def none {H : Type} : Left H := { results := [], args := [] }

/-- 'churnlaw17.ShardsOf': WHATEVER THE INPUT: true; the input reads as it did. -/
def shardsOfSpec : ChangeSpec := { name := "shardsOf", fn := fun _ => fun
  | [d1, d2] => { results := [.lit (.bool true)], args := [d1, d2] }
  | _ => none }
def shardsOfRow : OpenClaim := { program := "ytofkldjoeablgaa", sum := "b25eb7caefd0d3b65461f1d94662ee077788c682757158ebd02c51cf34f7ec65", func := "churn/churnlaw17.ShardsOf", spec := "shardsOf", plainKeys := false, apart := false }
def ShardsOfSaid : Prop := shardsOfRow.holds Try.pinned (OpenSpec.ofChange shardsOfSpec)

/-- ITS FALSE NEIGHBOUR: 'it returns false'. Refute it at one input. -/
def shardsOfWrong : ChangeSpec := { name := "shardsOf", fn := fun _ => fun
  | [d1, d2] => { results := [.lit (.bool false)], args := [d1, d2] }
  | _ => none }
def ShardsOfWrongFalsely : Prop := shardsOfRow.holds Try.pinned (OpenSpec.ofChange shardsOfWrong)

/-- 'churnlaw17.ShardsPlays': WHATEVER THE INPUT: true; the input reads as it did. -/
def shardsPlaysSpec : ChangeSpec := { name := "shardsPlays", fn := fun _ => fun
  | [d1, d2, d3] => { results := [.lit (.bool true)], args := [d1, d2, d3] }
  | _ => none }
def shardsPlaysRow : OpenClaim := { program := "ytofkldjoeablgaa", sum := "b25eb7caefd0d3b65461f1d94662ee077788c682757158ebd02c51cf34f7ec65", func := "churn/churnlaw17.ShardsPlays", spec := "shardsPlays", inPlace := ["(*internal/sync.Mutex).Lock", "internal/race.Disable", "sync/atomic.CompareAndSwapInt32", "internal/race.Enable", "internal/race.Acquire", "(*internal/sync.Mutex).lockSlow", "internal/sync.runtime_canSpin", "internal/sync.runtime_doSpin", "internal/sync.throw", "internal/sync.runtime_nanotime", "internal/sync.runtime_SemacquireMutex", "sync/atomic.AddInt32", "(*internal/sync.Mutex).Unlock", "internal/race.ReleaseMerge", "(*internal/sync.Mutex).unlockSlow", "internal/sync.fatal", "internal/sync.runtime_Semrelease"], plainKeys := false, apart := false }
def ShardsPlaysSaid : Prop := shardsPlaysRow.holds Try.pinned (OpenSpec.ofChange shardsPlaysSpec)

/-- ITS FALSE NEIGHBOUR: 'it returns false'. Refute it at one input. -/
def shardsPlaysWrong : ChangeSpec := { name := "shardsPlays", fn := fun _ => fun
  | [d1, d2, d3] => { results := [.lit (.bool false)], args := [d1, d2, d3] }
  | _ => none }
def ShardsPlaysWrongFalsely : Prop := shardsPlaysRow.holds Try.pinned (OpenSpec.ofChange shardsPlaysWrong)

/-- 'churnlaw17.ShardsFirsts': WHATEVER THE INPUT: true; the input reads as it did. -/
def shardsFirstsSpec : ChangeSpec := { name := "shardsFirsts", fn := fun _ => fun
  | [d1, d2, d3] => { results := [.lit (.bool true)], args := [d1, d2, d3] }
  | _ => none }
def shardsFirstsRow : OpenClaim := { program := "ytofkldjoeablgaa", sum := "b25eb7caefd0d3b65461f1d94662ee077788c682757158ebd02c51cf34f7ec65", func := "churn/churnlaw17.ShardsFirsts", spec := "shardsFirsts", inPlace := ["(*sync.WaitGroup).Add", "internal/race.ReleaseMerge", "internal/race.Disable", "internal/race.Enable", "internal/synctest.IsInBubble", "internal/synctest.Associate[sync.WaitGroup]", "sync.fatal", "sync/atomic.OrUint64", "sync/atomic.AddUint64", "internal/race.Read", "sync/atomic.LoadUint64", "sync/atomic.StoreUint64", "internal/synctest.Disassociate[sync.WaitGroup]", "sync.runtime_Semrelease", "(*sync.WaitGroup).Done", "(*sync.WaitGroup).Wait", "internal/race.Acquire", "internal/synctest.IsAssociated[sync.WaitGroup]", "sync/atomic.CompareAndSwapUint64", "internal/race.Write", "sync.runtime_SemacquireWaitGroup", "(*internal/sync.Mutex).Lock", "sync/atomic.CompareAndSwapInt32", "(*internal/sync.Mutex).lockSlow", "internal/sync.runtime_canSpin", "internal/sync.runtime_doSpin", "internal/sync.throw", "internal/sync.runtime_nanotime", "internal/sync.runtime_SemacquireMutex", "sync/atomic.AddInt32", "(*internal/sync.Mutex).Unlock", "(*internal/sync.Mutex).unlockSlow", "internal/sync.fatal", "internal/sync.runtime_Semrelease"], unfollowed := true, recurses := true, plainKeys := false, leaving := true, apart := false, calm := true, outside := [.timePasses] }
def ShardsFirstsSaid : Prop := shardsFirstsRow.holds Try.pinned (OpenSpec.ofChange shardsFirstsSpec)

/-- ITS FALSE NEIGHBOUR: 'it returns false'. Refute it at one input. -/
def shardsFirstsWrong : ChangeSpec := { name := "shardsFirsts", fn := fun _ => fun
  | [d1, d2, d3] => { results := [.lit (.bool false)], args := [d1, d2, d3] }
  | _ => none }
def ShardsFirstsWrongFalsely : Prop := shardsFirstsRow.holds Try.pinned (OpenSpec.ofChange shardsFirstsWrong)

/-- 'churnlaw17.ShardsOrder': WHATEVER THE INPUT: true; the input reads as it did. -/
def shardsOrderSpec : ChangeSpec := { name := "shardsOrder", fn := fun _ => fun
  | [d1, d2, d3] => { results := [.lit (.bool true)], args := [d1, d2, d3] }
  | _ => none }
def shardsOrderRow : OpenClaim := { program := "ytofkldjoeablgaa", sum := "b25eb7caefd0d3b65461f1d94662ee077788c682757158ebd02c51cf34f7ec65", func := "churn/churnlaw17.ShardsOrder", spec := "shardsOrder", inPlace := ["(*internal/sync.Mutex).Lock", "internal/race.Disable", "sync/atomic.CompareAndSwapInt32", "internal/race.Enable", "internal/race.Acquire", "(*internal/sync.Mutex).lockSlow", "internal/sync.runtime_canSpin", "internal/sync.runtime_doSpin", "internal/sync.throw", "internal/sync.runtime_nanotime", "internal/sync.runtime_SemacquireMutex", "sync/atomic.AddInt32", "(*internal/sync.Mutex).Unlock", "internal/race.ReleaseMerge", "(*internal/sync.Mutex).unlockSlow", "internal/sync.fatal", "internal/sync.runtime_Semrelease", "(*sync.WaitGroup).Add", "internal/synctest.IsInBubble", "internal/synctest.Associate[sync.WaitGroup]", "sync.fatal", "sync/atomic.OrUint64", "sync/atomic.AddUint64", "internal/race.Read", "sync/atomic.LoadUint64", "sync/atomic.StoreUint64", "internal/synctest.Disassociate[sync.WaitGroup]", "sync.runtime_Semrelease", "(*sync.WaitGroup).Done", "(*sync.WaitGroup).Wait", "internal/synctest.IsAssociated[sync.WaitGroup]", "sync/atomic.CompareAndSwapUint64", "internal/race.Write", "sync.runtime_SemacquireWaitGroup"], unfollowed := true, recurses := true, plainKeys := false, leaving := true, apart := false, calm := true, outside := [.timePasses] }
def ShardsOrderSaid : Prop := shardsOrderRow.holds Try.pinned (OpenSpec.ofChange shardsOrderSpec)

/-- ITS FALSE NEIGHBOUR: 'it returns false'. Refute it at one input. -/
def shardsOrderWrong : ChangeSpec := { name := "shardsOrder", fn := fun _ => fun
  | [d1, d2, d3] => { results := [.lit (.bool false)], args := [d1, d2, d3] }
  | _ => none }
def ShardsOrderWrongFalsely : Prop := shardsOrderRow.holds Try.pinned (OpenSpec.ofChange shardsOrderWrong)

/-- 'churnlaw17.ShardsKeeps': WHATEVER THE INPUT: true; the input reads as it did. -/
def shardsKeepsSpec : ChangeSpec := { name := "shardsKeeps", fn := fun _ => fun
  | [d1, d2, d3] => { results := [.lit (.bool true)], args := [d1, d2, d3] }
  | _ => none }
def shardsKeepsRow : OpenClaim := { program := "ytofkldjoeablgaa", sum := "b25eb7caefd0d3b65461f1d94662ee077788c682757158ebd02c51cf34f7ec65", func := "churn/churnlaw17.ShardsKeeps", spec := "shardsKeeps", inPlace := ["(*internal/sync.Mutex).Lock", "internal/race.Disable", "sync/atomic.CompareAndSwapInt32", "internal/race.Enable", "internal/race.Acquire", "(*internal/sync.Mutex).lockSlow", "internal/sync.runtime_canSpin", "internal/sync.runtime_doSpin", "internal/sync.throw", "internal/sync.runtime_nanotime", "internal/sync.runtime_SemacquireMutex", "sync/atomic.AddInt32", "(*internal/sync.Mutex).Unlock", "internal/race.ReleaseMerge", "(*internal/sync.Mutex).unlockSlow", "internal/sync.fatal", "internal/sync.runtime_Semrelease", "(*sync.WaitGroup).Add", "internal/synctest.IsInBubble", "internal/synctest.Associate[sync.WaitGroup]", "sync.fatal", "sync/atomic.OrUint64", "sync/atomic.AddUint64", "internal/race.Read", "sync/atomic.LoadUint64", "sync/atomic.StoreUint64", "internal/synctest.Disassociate[sync.WaitGroup]", "sync.runtime_Semrelease", "(*sync.WaitGroup).Done", "(*sync.WaitGroup).Wait", "internal/synctest.IsAssociated[sync.WaitGroup]", "sync/atomic.CompareAndSwapUint64", "internal/race.Write", "sync.runtime_SemacquireWaitGroup"], unfollowed := true, recurses := true, plainKeys := false, leaving := true, apart := false, calm := true, outside := [.timePasses] }
def ShardsKeepsSaid : Prop := shardsKeepsRow.holds Try.pinned (OpenSpec.ofChange shardsKeepsSpec)

/-- ITS FALSE NEIGHBOUR: 'it returns false'. Refute it at one input. -/
def shardsKeepsWrong : ChangeSpec := { name := "shardsKeeps", fn := fun _ => fun
  | [d1, d2, d3] => { results := [.lit (.bool false)], args := [d1, d2, d3] }
  | _ => none }
def ShardsKeepsWrongFalsely : Prop := shardsKeepsRow.holds Try.pinned (OpenSpec.ofChange shardsKeepsWrong)

/- THE SECOND FORM. 'bulk': how many values and letters a reading holds, each counted each time it is reached (what is shared counts as often as it is met; a slice's spare places count too). A statement '..UptoSaid' is the law's where the arguments, and the package variables that the reading takes, are together of bulk at most 1048576: NARROWER than '..Said'. Prove '..Said' where nothing that the law and all that it calls make is longer than what came in: it says more and counts as full. Else prove '..UptoSaid'. A law counts once. -/
mutual
def uptoBulk {H : Type} : DataW H → Nat
  | .lit (.string bytes) => bytes.length + 1
  | .lit _ => 1
  | .nil => 1
  | .ptr d => uptoBulk d + 1
  | .slice elems spare => uptoBulkAll elems + uptoBulkAll spare + 1
  | .agg parts => uptoBulkAll parts + 1
  | .iface _ d => uptoBulk d + 1
  | .map entries => uptoBulkEntries entries + 1
  | .held _ => 1
def uptoBulkAll {H : Type} : List (DataW H) → Nat
  | [] => 0
  | d :: r => uptoBulk d + uptoBulkAll r
def uptoBulkEntries {H : Type} : List (Lit × DataW H) → Nat
  | [] => 0
  | x :: r => uptoBulkEntry x + uptoBulkEntries r
def uptoBulkEntry {H : Type} : Lit × DataW H → Nat
  | (.string bytes, d) => bytes.length + uptoBulk d + 1
  | (_, d) => uptoBulk d + 1
 end
def uptoSmall : (H : Type) → List (DataW H) → Bool := fun _ ds => decide (uptoBulkAll ds ≤ 1048576)
def OpenSpec.upto (s : _root_.Go.ChangeSpec) : _root_.Go.OpenSpec := { _root_.Go.OpenSpec.ofChange s with cond := some uptoSmall }

/-- 'churnlaw17.ShardsOf', WHERE WHAT IT READS IS OF BULK AT MOST 1048576: true; the input reads as it did. -/
def shardsOfUptoRow : OpenClaim := { program := "ytofkldjoeablgaa", sum := "b25eb7caefd0d3b65461f1d94662ee077788c682757158ebd02c51cf34f7ec65", func := "churn/churnlaw17.ShardsOf", spec := "shardsOf", plainKeys := false, apart := false, narrowed := true }
def ShardsOfUptoSaid : Prop := shardsOfUptoRow.holds Try.pinned (OpenSpec.upto shardsOfSpec)

/-- 'churnlaw17.ShardsPlays', WHERE WHAT IT READS IS OF BULK AT MOST 1048576: true; the input reads as it did. -/
def shardsPlaysUptoRow : OpenClaim := { program := "ytofkldjoeablgaa", sum := "b25eb7caefd0d3b65461f1d94662ee077788c682757158ebd02c51cf34f7ec65", func := "churn/churnlaw17.ShardsPlays", spec := "shardsPlays", inPlace := ["(*internal/sync.Mutex).Lock", "internal/race.Disable", "sync/atomic.CompareAndSwapInt32", "internal/race.Enable", "internal/race.Acquire", "(*internal/sync.Mutex).lockSlow", "internal/sync.runtime_canSpin", "internal/sync.runtime_doSpin", "internal/sync.throw", "internal/sync.runtime_nanotime", "internal/sync.runtime_SemacquireMutex", "sync/atomic.AddInt32", "(*internal/sync.Mutex).Unlock", "internal/race.ReleaseMerge", "(*internal/sync.Mutex).unlockSlow", "internal/sync.fatal", "internal/sync.runtime_Semrelease"], plainKeys := false, apart := false, narrowed := true }
def ShardsPlaysUptoSaid : Prop := shardsPlaysUptoRow.holds Try.pinned (OpenSpec.upto shardsPlaysSpec)

/-- 'churnlaw17.ShardsFirsts', WHERE WHAT IT READS IS OF BULK AT MOST 1048576: true; the input reads as it did. -/
def shardsFirstsUptoRow : OpenClaim := { program := "ytofkldjoeablgaa", sum := "b25eb7caefd0d3b65461f1d94662ee077788c682757158ebd02c51cf34f7ec65", func := "churn/churnlaw17.ShardsFirsts", spec := "shardsFirsts", inPlace := ["(*sync.WaitGroup).Add", "internal/race.ReleaseMerge", "internal/race.Disable", "internal/race.Enable", "internal/synctest.IsInBubble", "internal/synctest.Associate[sync.WaitGroup]", "sync.fatal", "sync/atomic.OrUint64", "sync/atomic.AddUint64", "internal/race.Read", "sync/atomic.LoadUint64", "sync/atomic.StoreUint64", "internal/synctest.Disassociate[sync.WaitGroup]", "sync.runtime_Semrelease", "(*sync.WaitGroup).Done", "(*sync.WaitGroup).Wait", "internal/race.Acquire", "internal/synctest.IsAssociated[sync.WaitGroup]", "sync/atomic.CompareAndSwapUint64", "internal/race.Write", "sync.runtime_SemacquireWaitGroup", "(*internal/sync.Mutex).Lock", "sync/atomic.CompareAndSwapInt32", "(*internal/sync.Mutex).lockSlow", "internal/sync.runtime_canSpin", "internal/sync.runtime_doSpin", "internal/sync.throw", "internal/sync.runtime_nanotime", "internal/sync.runtime_SemacquireMutex", "sync/atomic.AddInt32", "(*internal/sync.Mutex).Unlock", "(*internal/sync.Mutex).unlockSlow", "internal/sync.fatal", "internal/sync.runtime_Semrelease"], unfollowed := true, recurses := true, plainKeys := false, leaving := true, apart := false, calm := true, outside := [.timePasses], narrowed := true }
def ShardsFirstsUptoSaid : Prop := shardsFirstsUptoRow.holds Try.pinned (OpenSpec.upto shardsFirstsSpec)

/-- 'churnlaw17.ShardsOrder', WHERE WHAT IT READS IS OF BULK AT MOST 1048576: true; the input reads as it did. -/
def shardsOrderUptoRow : OpenClaim := { program := "ytofkldjoeablgaa", sum := "b25eb7caefd0d3b65461f1d94662ee077788c682757158ebd02c51cf34f7ec65", func := "churn/churnlaw17.ShardsOrder", spec := "shardsOrder", inPlace := ["(*internal/sync.Mutex).Lock", "internal/race.Disable", "sync/atomic.CompareAndSwapInt32", "internal/race.Enable", "internal/race.Acquire", "(*internal/sync.Mutex).lockSlow", "internal/sync.runtime_canSpin", "internal/sync.runtime_doSpin", "internal/sync.throw", "internal/sync.runtime_nanotime", "internal/sync.runtime_SemacquireMutex", "sync/atomic.AddInt32", "(*internal/sync.Mutex).Unlock", "internal/race.ReleaseMerge", "(*internal/sync.Mutex).unlockSlow", "internal/sync.fatal", "internal/sync.runtime_Semrelease", "(*sync.WaitGroup).Add", "internal/synctest.IsInBubble", "internal/synctest.Associate[sync.WaitGroup]", "sync.fatal", "sync/atomic.OrUint64", "sync/atomic.AddUint64", "internal/race.Read", "sync/atomic.LoadUint64", "sync/atomic.StoreUint64", "internal/synctest.Disassociate[sync.WaitGroup]", "sync.runtime_Semrelease", "(*sync.WaitGroup).Done", "(*sync.WaitGroup).Wait", "internal/synctest.IsAssociated[sync.WaitGroup]", "sync/atomic.CompareAndSwapUint64", "internal/race.Write", "sync.runtime_SemacquireWaitGroup"], unfollowed := true, recurses := true, plainKeys := false, leaving := true, apart := false, calm := true, outside := [.timePasses], narrowed := true }
def ShardsOrderUptoSaid : Prop := shardsOrderUptoRow.holds Try.pinned (OpenSpec.upto shardsOrderSpec)

/-- 'churnlaw17.ShardsKeeps', WHERE WHAT IT READS IS OF BULK AT MOST 1048576: true; the input reads as it did. -/
def shardsKeepsUptoRow : OpenClaim := { program := "ytofkldjoeablgaa", sum := "b25eb7caefd0d3b65461f1d94662ee077788c682757158ebd02c51cf34f7ec65", func := "churn/churnlaw17.ShardsKeeps", spec := "shardsKeeps", inPlace := ["(*internal/sync.Mutex).Lock", "internal/race.Disable", "sync/atomic.CompareAndSwapInt32", "internal/race.Enable", "internal/race.Acquire", "(*internal/sync.Mutex).lockSlow", "internal/sync.runtime_canSpin", "internal/sync.runtime_doSpin", "internal/sync.throw", "internal/sync.runtime_nanotime", "internal/sync.runtime_SemacquireMutex", "sync/atomic.AddInt32", "(*internal/sync.Mutex).Unlock", "internal/race.ReleaseMerge", "(*internal/sync.Mutex).unlockSlow", "internal/sync.fatal", "internal/sync.runtime_Semrelease", "(*sync.WaitGroup).Add", "internal/synctest.IsInBubble", "internal/synctest.Associate[sync.WaitGroup]", "sync.fatal", "sync/atomic.OrUint64", "sync/atomic.AddUint64", "internal/race.Read", "sync/atomic.LoadUint64", "sync/atomic.StoreUint64", "internal/synctest.Disassociate[sync.WaitGroup]", "sync.runtime_Semrelease", "(*sync.WaitGroup).Done", "(*sync.WaitGroup).Wait", "internal/synctest.IsAssociated[sync.WaitGroup]", "sync/atomic.CompareAndSwapUint64", "internal/race.Write", "sync.runtime_SemacquireWaitGroup"], unfollowed := true, recurses := true, plainKeys := false, leaving := true, apart := false, calm := true, outside := [.timePasses], narrowed := true }
def ShardsKeepsUptoSaid : Prop := shardsKeepsUptoRow.holds Try.pinned (OpenSpec.upto shardsKeepsSpec)

end Rows
end Go.Proofs.Ytofkldjoeablgaa
