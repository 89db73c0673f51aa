/-
  No cell of these rows narrows 'for every input' (looked for: loops, veiled, ifaces, maps, wideKeys, modest, calm, conditions, laid).
  DERIVED. THE GIVEN ROWS OF THIS SEAT. 12 by the template 'for every input the law returns true; each argument reads behind the call as it read before'; 0 by the template 'total and deterministic' (their statements: YtaeikigfgfcadaaGreatTotals.lean).
  GIVEN WITH THE SEED: the statements are not yours to turn. If you find one false, say at which input.
  Laid BY PROGRAM, IN A SANDBOX (cutbox-rows.mjs): the forced cells as the released guide's own fill.sh prints them over the translation 4092be7630022682… (all of the seat's roots in one cut). By AI agents, Wed Nov 11 2026. No macro, syntax, notation, axiom, sorry.
-/
import Derived.Test.YtaeikigfgfcadaaGreatChecked
import GoSem.Claim
import GoSem.ClaimJoined
import GoSem.ClaimMapViews
import Derived.JoinedTies
import Derived.KernelRfl
namespace Go.Proofs.YtaeikigfgfcadaaGreat
/- THE CELL 'sum', in the pinned program and in every row, IS THE sha256 OF THE DUMP (.gsa) THAT YtaeikigfgfcadaaGreatProg.lean LOADS. Nothing in Lean hashes anything: it is a label: what it is worth is what the hold of that sum in a sandbox is worth. -/
noncomputable def Tryz.pinned : Pinned := { name := "ytaeikigfgfcadaagreat", sum := "4092be76300226828e98e3f0001d53ed184a433a711f0c82187a39bdf3fc2107", checked := Tryz.checked }
namespace Rows
def none {H : Type} : Left H := { results := [], args := [] }

/-- 'patinatop.TopTrims': WHATEVER THE INPUT: true; the input reads as it did. -/
def topTrimsSpec : ChangeSpec := { name := "topTrims", fn := fun _ => fun
  | [d1, d2, d3, d4] => { results := [.lit (.bool true)], args := [d1, d2, d3, d4] }
  | _ => none }
def topTrimsRow : OpenClaim := { program := "ytaeikigfgfcadaagreat", sum := "4092be76300226828e98e3f0001d53ed184a433a711f0c82187a39bdf3fc2107", func := "patina/patinatop.TopTrims", spec := "topTrims", inPlace := ["sync/atomic.StoreInt64", "sync/atomic.LoadUint32", "(*internal/sync.Mutex).Lock", "internal/race.Disable", "sync/atomic.CompareAndSwapInt32", "internal/race.Enable", "internal/race.Acquire", "(*internal/sync.Mutex).lockSlow", "internal/sync.runtime_canSpin", "internal/sync.runtime_doSpin", "internal/sync.throw", "internal/sync.runtime_nanotime", "internal/sync.runtime_SemacquireMutex", "sync/atomic.AddInt32", "(*internal/sync.Mutex).Unlock", "internal/race.ReleaseMerge", "(*internal/sync.Mutex).unlockSlow", "internal/sync.fatal", "internal/sync.runtime_Semrelease", "sync/atomic.StoreUint32", "sync/atomic.AddInt64", "internal/reflectlite.TypeOf", "sync/atomic.LoadInt64"], unfollowed := true, recurses := true, apart := false }
def TopTrimsSaid : Prop := topTrimsRow.holds Tryz.pinned (OpenSpec.ofChange topTrimsSpec)

/-- ITS FALSE NEIGHBOUR: 'it returns false'. Refute it at one input. -/
def topTrimsWrong : ChangeSpec := { name := "topTrims", fn := fun _ => fun
  | [d1, d2, d3, d4] => { results := [.lit (.bool false)], args := [d1, d2, d3, d4] }
  | _ => none }
def TopTrimsWrongFalsely : Prop := topTrimsRow.holds Tryz.pinned (OpenSpec.ofChange topTrimsWrong)

/-- 'patinatop.TopWorn': WHATEVER THE INPUT: true; the input reads as it did. -/
def topWornSpec : ChangeSpec := { name := "topWorn", fn := fun _ => fun
  | [d1, d2, d3] => { results := [.lit (.bool true)], args := [d1, d2, d3] }
  | _ => none }
def topWornRow : OpenClaim := { program := "ytaeikigfgfcadaagreat", sum := "4092be76300226828e98e3f0001d53ed184a433a711f0c82187a39bdf3fc2107", func := "patina/patinatop.TopWorn", spec := "topWorn", inPlace := ["sync/atomic.StoreInt64", "sync/atomic.LoadUint32", "(*internal/sync.Mutex).Lock", "internal/race.Disable", "sync/atomic.CompareAndSwapInt32", "internal/race.Enable", "internal/race.Acquire", "(*internal/sync.Mutex).lockSlow", "internal/sync.runtime_canSpin", "internal/sync.runtime_doSpin", "internal/sync.throw", "internal/sync.runtime_nanotime", "internal/sync.runtime_SemacquireMutex", "sync/atomic.AddInt32", "(*internal/sync.Mutex).Unlock", "internal/race.ReleaseMerge", "(*internal/sync.Mutex).unlockSlow", "internal/sync.fatal", "internal/sync.runtime_Semrelease", "sync/atomic.StoreUint32", "sync/atomic.AddInt64", "internal/reflectlite.TypeOf", "sync/atomic.LoadInt64"], unfollowed := true, recurses := true, apart := false }
def TopWornSaid : Prop := topWornRow.holds Tryz.pinned (OpenSpec.ofChange topWornSpec)

/-- ITS FALSE NEIGHBOUR: 'it returns false'. Refute it at one input. -/
def topWornWrong : ChangeSpec := { name := "topWorn", fn := fun _ => fun
  | [d1, d2, d3] => { results := [.lit (.bool false)], args := [d1, d2, d3] }
  | _ => none }
def TopWornWrongFalsely : Prop := topWornRow.holds Tryz.pinned (OpenSpec.ofChange topWornWrong)

/-- 'patinatop.TopEveryCut': WHATEVER THE INPUT: true; the input reads as it did. -/
def topEveryCutSpec : ChangeSpec := { name := "topEveryCut", fn := fun _ => fun
  | [d1, d2] => { results := [.lit (.bool true)], args := [d1, d2] }
  | _ => none }
def topEveryCutRow : OpenClaim := { program := "ytaeikigfgfcadaagreat", sum := "4092be76300226828e98e3f0001d53ed184a433a711f0c82187a39bdf3fc2107", func := "patina/patinatop.TopEveryCut", spec := "topEveryCut", inPlace := ["sync/atomic.StoreInt64", "sync/atomic.LoadUint32", "(*internal/sync.Mutex).Lock", "internal/race.Disable", "sync/atomic.CompareAndSwapInt32", "internal/race.Enable", "internal/race.Acquire", "(*internal/sync.Mutex).lockSlow", "internal/sync.runtime_canSpin", "internal/sync.runtime_doSpin", "internal/sync.throw", "internal/sync.runtime_nanotime", "internal/sync.runtime_SemacquireMutex", "sync/atomic.AddInt32", "(*internal/sync.Mutex).Unlock", "internal/race.ReleaseMerge", "(*internal/sync.Mutex).unlockSlow", "internal/sync.fatal", "internal/sync.runtime_Semrelease", "sync/atomic.StoreUint32", "sync/atomic.AddInt64", "internal/reflectlite.TypeOf", "sync/atomic.LoadInt64"], unfollowed := true, recurses := true, apart := false }
def TopEveryCutSaid : Prop := topEveryCutRow.holds Tryz.pinned (OpenSpec.ofChange topEveryCutSpec)

/-- ITS FALSE NEIGHBOUR: 'it returns false'. Refute it at one input. -/
def topEveryCutWrong : ChangeSpec := { name := "topEveryCut", fn := fun _ => fun
  | [d1, d2] => { results := [.lit (.bool false)], args := [d1, d2] }
  | _ => none }
def TopEveryCutWrongFalsely : Prop := topEveryCutRow.holds Tryz.pinned (OpenSpec.ofChange topEveryCutWrong)

/-- 'patinatop.TopMountCuts': WHATEVER THE INPUT: true; the input reads as it did. -/
def topMountCutsSpec : ChangeSpec := { name := "topMountCuts", fn := fun _ => fun
  | [d1, d2, d3] => { results := [.lit (.bool true)], args := [d1, d2, d3] }
  | _ => none }
def topMountCutsRow : OpenClaim := { program := "ytaeikigfgfcadaagreat", sum := "4092be76300226828e98e3f0001d53ed184a433a711f0c82187a39bdf3fc2107", func := "patina/patinatop.TopMountCuts", spec := "topMountCuts", inPlace := ["sync/atomic.StoreInt64", "sync/atomic.LoadUint32", "(*internal/sync.Mutex).Lock", "internal/race.Disable", "sync/atomic.CompareAndSwapInt32", "internal/race.Enable", "internal/race.Acquire", "(*internal/sync.Mutex).lockSlow", "internal/sync.runtime_canSpin", "internal/sync.runtime_doSpin", "internal/sync.throw", "internal/sync.runtime_nanotime", "internal/sync.runtime_SemacquireMutex", "sync/atomic.AddInt32", "(*internal/sync.Mutex).Unlock", "internal/race.ReleaseMerge", "(*internal/sync.Mutex).unlockSlow", "internal/sync.fatal", "internal/sync.runtime_Semrelease", "sync/atomic.StoreUint32", "sync/atomic.AddInt64", "internal/reflectlite.TypeOf", "sync/atomic.LoadInt64"], unfollowed := true, recurses := true, apart := false }
def TopMountCutsSaid : Prop := topMountCutsRow.holds Tryz.pinned (OpenSpec.ofChange topMountCutsSpec)

/-- ITS FALSE NEIGHBOUR: 'it returns false'. Refute it at one input. -/
def topMountCutsWrong : ChangeSpec := { name := "topMountCuts", fn := fun _ => fun
  | [d1, d2, d3] => { results := [.lit (.bool false)], args := [d1, d2, d3] }
  | _ => none }
def TopMountCutsWrongFalsely : Prop := topMountCutsRow.holds Tryz.pinned (OpenSpec.ofChange topMountCutsWrong)

/-- 'patinatop.TopLedger': WHATEVER THE INPUT: true; the input reads as it did. -/
def topLedgerSpec : ChangeSpec := { name := "topLedger", fn := fun _ => fun
  | [d1, d2] => { results := [.lit (.bool true)], args := [d1, d2] }
  | _ => none }
def topLedgerRow : OpenClaim := { program := "ytaeikigfgfcadaagreat", sum := "4092be76300226828e98e3f0001d53ed184a433a711f0c82187a39bdf3fc2107", func := "patina/patinatop.TopLedger", spec := "topLedger", inPlace := ["sync/atomic.StoreInt64", "sync/atomic.LoadUint32", "(*internal/sync.Mutex).Lock", "internal/race.Disable", "sync/atomic.CompareAndSwapInt32", "internal/race.Enable", "internal/race.Acquire", "(*internal/sync.Mutex).lockSlow", "internal/sync.runtime_canSpin", "internal/sync.runtime_doSpin", "internal/sync.throw", "internal/sync.runtime_nanotime", "internal/sync.runtime_SemacquireMutex", "sync/atomic.AddInt32", "(*internal/sync.Mutex).Unlock", "internal/race.ReleaseMerge", "(*internal/sync.Mutex).unlockSlow", "internal/sync.fatal", "internal/sync.runtime_Semrelease", "sync/atomic.StoreUint32", "sync/atomic.AddInt64", "internal/reflectlite.TypeOf", "sync/atomic.LoadInt64"], unfollowed := true, recurses := true, apart := false }
def TopLedgerSaid : Prop := topLedgerRow.holds Tryz.pinned (OpenSpec.ofChange topLedgerSpec)

/-- ITS FALSE NEIGHBOUR: 'it returns false'. Refute it at one input. -/
def topLedgerWrong : ChangeSpec := { name := "topLedger", fn := fun _ => fun
  | [d1, d2] => { results := [.lit (.bool false)], args := [d1, d2] }
  | _ => none }
def TopLedgerWrongFalsely : Prop := topLedgerRow.holds Tryz.pinned (OpenSpec.ofChange topLedgerWrong)

/-- 'patinatop.TopRoom': WHATEVER THE INPUT: true; the input reads as it did. -/
def topRoomSpec : ChangeSpec := { name := "topRoom", fn := fun _ => fun
  | [d1, d2] => { results := [.lit (.bool true)], args := [d1, d2] }
  | _ => none }
def topRoomRow : OpenClaim := { program := "ytaeikigfgfcadaagreat", sum := "4092be76300226828e98e3f0001d53ed184a433a711f0c82187a39bdf3fc2107", func := "patina/patinatop.TopRoom", spec := "topRoom", inPlace := ["sync/atomic.StoreInt64", "sync/atomic.LoadUint32", "(*internal/sync.Mutex).Lock", "internal/race.Disable", "sync/atomic.CompareAndSwapInt32", "internal/race.Enable", "internal/race.Acquire", "(*internal/sync.Mutex).lockSlow", "internal/sync.runtime_canSpin", "internal/sync.runtime_doSpin", "internal/sync.throw", "internal/sync.runtime_nanotime", "internal/sync.runtime_SemacquireMutex", "sync/atomic.AddInt32", "(*internal/sync.Mutex).Unlock", "internal/race.ReleaseMerge", "(*internal/sync.Mutex).unlockSlow", "internal/sync.fatal", "internal/sync.runtime_Semrelease", "sync/atomic.StoreUint32", "sync/atomic.AddInt64", "internal/reflectlite.TypeOf", "sync/atomic.LoadInt64"], unfollowed := true, recurses := true, apart := false }
def TopRoomSaid : Prop := topRoomRow.holds Tryz.pinned (OpenSpec.ofChange topRoomSpec)

/-- ITS FALSE NEIGHBOUR: 'it returns false'. Refute it at one input. -/
def topRoomWrong : ChangeSpec := { name := "topRoom", fn := fun _ => fun
  | [d1, d2] => { results := [.lit (.bool false)], args := [d1, d2] }
  | _ => none }
def TopRoomWrongFalsely : Prop := topRoomRow.holds Tryz.pinned (OpenSpec.ofChange topRoomWrong)

/-- 'patinatop.TopCopies': WHATEVER THE INPUT: true; the input reads as it did. -/
def topCopiesSpec : ChangeSpec := { name := "topCopies", fn := fun _ => fun
  | [d1, d2] => { results := [.lit (.bool true)], args := [d1, d2] }
  | _ => none }
def topCopiesRow : OpenClaim := { program := "ytaeikigfgfcadaagreat", sum := "4092be76300226828e98e3f0001d53ed184a433a711f0c82187a39bdf3fc2107", func := "patina/patinatop.TopCopies", spec := "topCopies", inPlace := ["sync/atomic.StoreInt64", "sync/atomic.LoadUint32", "(*internal/sync.Mutex).Lock", "internal/race.Disable", "sync/atomic.CompareAndSwapInt32", "internal/race.Enable", "internal/race.Acquire", "(*internal/sync.Mutex).lockSlow", "internal/sync.runtime_canSpin", "internal/sync.runtime_doSpin", "internal/sync.throw", "internal/sync.runtime_nanotime", "internal/sync.runtime_SemacquireMutex", "sync/atomic.AddInt32", "(*internal/sync.Mutex).Unlock", "internal/race.ReleaseMerge", "(*internal/sync.Mutex).unlockSlow", "internal/sync.fatal", "internal/sync.runtime_Semrelease", "sync/atomic.StoreUint32", "sync/atomic.AddInt64", "internal/reflectlite.TypeOf", "sync/atomic.LoadInt64"], unfollowed := true, recurses := true, apart := false }
def TopCopiesSaid : Prop := topCopiesRow.holds Tryz.pinned (OpenSpec.ofChange topCopiesSpec)

/-- ITS FALSE NEIGHBOUR: 'it returns false'. Refute it at one input. -/
def topCopiesWrong : ChangeSpec := { name := "topCopies", fn := fun _ => fun
  | [d1, d2] => { results := [.lit (.bool false)], args := [d1, d2] }
  | _ => none }
def TopCopiesWrongFalsely : Prop := topCopiesRow.holds Tryz.pinned (OpenSpec.ofChange topCopiesWrong)

/-- 'patinatop.TopReads': WHATEVER THE INPUT: true; the input reads as it did. -/
def topReadsSpec : ChangeSpec := { name := "topReads", fn := fun _ => fun
  | [d1, d2, d3] => { results := [.lit (.bool true)], args := [d1, d2, d3] }
  | _ => none }
def topReadsRow : OpenClaim := { program := "ytaeikigfgfcadaagreat", sum := "4092be76300226828e98e3f0001d53ed184a433a711f0c82187a39bdf3fc2107", func := "patina/patinatop.TopReads", spec := "topReads", inPlace := ["sync/atomic.StoreInt64", "sync/atomic.LoadUint32", "(*internal/sync.Mutex).Lock", "internal/race.Disable", "sync/atomic.CompareAndSwapInt32", "internal/race.Enable", "internal/race.Acquire", "(*internal/sync.Mutex).lockSlow", "internal/sync.runtime_canSpin", "internal/sync.runtime_doSpin", "internal/sync.throw", "internal/sync.runtime_nanotime", "internal/sync.runtime_SemacquireMutex", "sync/atomic.AddInt32", "(*internal/sync.Mutex).Unlock", "internal/race.ReleaseMerge", "(*internal/sync.Mutex).unlockSlow", "internal/sync.fatal", "internal/sync.runtime_Semrelease", "sync/atomic.StoreUint32", "sync/atomic.AddInt64", "internal/reflectlite.TypeOf", "sync/atomic.LoadInt64"], unfollowed := true, recurses := true, apart := false }
def TopReadsSaid : Prop := topReadsRow.holds Tryz.pinned (OpenSpec.ofChange topReadsSpec)

/-- ITS FALSE NEIGHBOUR: 'it returns false'. Refute it at one input. -/
def topReadsWrong : ChangeSpec := { name := "topReads", fn := fun _ => fun
  | [d1, d2, d3] => { results := [.lit (.bool false)], args := [d1, d2, d3] }
  | _ => none }
def TopReadsWrongFalsely : Prop := topReadsRow.holds Tryz.pinned (OpenSpec.ofChange topReadsWrong)

/-- 'patinatop.TopSeqs': WHATEVER THE INPUT: true; the input reads as it did. -/
def topSeqsSpec : ChangeSpec := { name := "topSeqs", fn := fun _ => fun
  | [d1, d2] => { results := [.lit (.bool true)], args := [d1, d2] }
  | _ => none }
def topSeqsRow : OpenClaim := { program := "ytaeikigfgfcadaagreat", sum := "4092be76300226828e98e3f0001d53ed184a433a711f0c82187a39bdf3fc2107", func := "patina/patinatop.TopSeqs", spec := "topSeqs", inPlace := ["sync/atomic.StoreInt64", "sync/atomic.LoadUint32", "(*internal/sync.Mutex).Lock", "internal/race.Disable", "sync/atomic.CompareAndSwapInt32", "internal/race.Enable", "internal/race.Acquire", "(*internal/sync.Mutex).lockSlow", "internal/sync.runtime_canSpin", "internal/sync.runtime_doSpin", "internal/sync.throw", "internal/sync.runtime_nanotime", "internal/sync.runtime_SemacquireMutex", "sync/atomic.AddInt32", "(*internal/sync.Mutex).Unlock", "internal/race.ReleaseMerge", "(*internal/sync.Mutex).unlockSlow", "internal/sync.fatal", "internal/sync.runtime_Semrelease", "sync/atomic.StoreUint32", "sync/atomic.AddInt64", "internal/reflectlite.TypeOf", "sync/atomic.LoadInt64"], unfollowed := true, recurses := true, apart := false }
def TopSeqsSaid : Prop := topSeqsRow.holds Tryz.pinned (OpenSpec.ofChange topSeqsSpec)

/-- ITS FALSE NEIGHBOUR: 'it returns false'. Refute it at one input. -/
def topSeqsWrong : ChangeSpec := { name := "topSeqs", fn := fun _ => fun
  | [d1, d2] => { results := [.lit (.bool false)], args := [d1, d2] }
  | _ => none }
def TopSeqsWrongFalsely : Prop := topSeqsRow.holds Tryz.pinned (OpenSpec.ofChange topSeqsWrong)

/-- 'patinatop.TopSlack': WHATEVER THE INPUT: true; the input reads as it did. -/
def topSlackSpec : ChangeSpec := { name := "topSlack", fn := fun _ => fun
  | [d1, d2] => { results := [.lit (.bool true)], args := [d1, d2] }
  | _ => none }
def topSlackRow : OpenClaim := { program := "ytaeikigfgfcadaagreat", sum := "4092be76300226828e98e3f0001d53ed184a433a711f0c82187a39bdf3fc2107", func := "patina/patinatop.TopSlack", spec := "topSlack", inPlace := ["sync/atomic.StoreInt64", "sync/atomic.LoadUint32", "(*internal/sync.Mutex).Lock", "internal/race.Disable", "sync/atomic.CompareAndSwapInt32", "internal/race.Enable", "internal/race.Acquire", "(*internal/sync.Mutex).lockSlow", "internal/sync.runtime_canSpin", "internal/sync.runtime_doSpin", "internal/sync.throw", "internal/sync.runtime_nanotime", "internal/sync.runtime_SemacquireMutex", "sync/atomic.AddInt32", "(*internal/sync.Mutex).Unlock", "internal/race.ReleaseMerge", "(*internal/sync.Mutex).unlockSlow", "internal/sync.fatal", "internal/sync.runtime_Semrelease", "sync/atomic.StoreUint32", "sync/atomic.AddInt64", "internal/reflectlite.TypeOf", "sync/atomic.LoadInt64"], unfollowed := true, recurses := true, apart := false }
def TopSlackSaid : Prop := topSlackRow.holds Tryz.pinned (OpenSpec.ofChange topSlackSpec)

/-- ITS FALSE NEIGHBOUR: 'it returns false'. Refute it at one input. -/
def topSlackWrong : ChangeSpec := { name := "topSlack", fn := fun _ => fun
  | [d1, d2] => { results := [.lit (.bool false)], args := [d1, d2] }
  | _ => none }
def TopSlackWrongFalsely : Prop := topSlackRow.holds Tryz.pinned (OpenSpec.ofChange topSlackWrong)

/-- 'patinatop.TopHidden': WHATEVER THE INPUT: true; the input reads as it did. -/
def topHiddenSpec : ChangeSpec := { name := "topHidden", fn := fun _ => fun
  | [d1, d2] => { results := [.lit (.bool true)], args := [d1, d2] }
  | _ => none }
def topHiddenRow : OpenClaim := { program := "ytaeikigfgfcadaagreat", sum := "4092be76300226828e98e3f0001d53ed184a433a711f0c82187a39bdf3fc2107", func := "patina/patinatop.TopHidden", spec := "topHidden", inPlace := ["sync/atomic.StoreInt64", "sync/atomic.LoadUint32", "(*internal/sync.Mutex).Lock", "internal/race.Disable", "sync/atomic.CompareAndSwapInt32", "internal/race.Enable", "internal/race.Acquire", "(*internal/sync.Mutex).lockSlow", "internal/sync.runtime_canSpin", "internal/sync.runtime_doSpin", "internal/sync.throw", "internal/sync.runtime_nanotime", "internal/sync.runtime_SemacquireMutex", "sync/atomic.AddInt32", "(*internal/sync.Mutex).Unlock", "internal/race.ReleaseMerge", "(*internal/sync.Mutex).unlockSlow", "internal/sync.fatal", "internal/sync.runtime_Semrelease", "sync/atomic.StoreUint32", "sync/atomic.AddInt64", "internal/reflectlite.TypeOf", "sync/atomic.LoadInt64"], unfollowed := true, recurses := true, apart := false }
def TopHiddenSaid : Prop := topHiddenRow.holds Tryz.pinned (OpenSpec.ofChange topHiddenSpec)

/-- ITS FALSE NEIGHBOUR: 'it returns false'. Refute it at one input. -/
def topHiddenWrong : ChangeSpec := { name := "topHidden", fn := fun _ => fun
  | [d1, d2] => { results := [.lit (.bool false)], args := [d1, d2] }
  | _ => none }
def TopHiddenWrongFalsely : Prop := topHiddenRow.holds Tryz.pinned (OpenSpec.ofChange topHiddenWrong)

/-- 'patinatop.TopFailCut': WHATEVER THE INPUT: true; the input reads as it did. -/
def topFailCutSpec : ChangeSpec := { name := "topFailCut", fn := fun _ => fun
  | [d1, d2, d3, d4] => { results := [.lit (.bool true)], args := [d1, d2, d3, d4] }
  | _ => none }
def topFailCutRow : OpenClaim := { program := "ytaeikigfgfcadaagreat", sum := "4092be76300226828e98e3f0001d53ed184a433a711f0c82187a39bdf3fc2107", func := "patina/patinatop.TopFailCut", spec := "topFailCut", inPlace := ["sync/atomic.StoreInt64", "sync/atomic.LoadUint32", "(*internal/sync.Mutex).Lock", "internal/race.Disable", "sync/atomic.CompareAndSwapInt32", "internal/race.Enable", "internal/race.Acquire", "(*internal/sync.Mutex).lockSlow", "internal/sync.runtime_canSpin", "internal/sync.runtime_doSpin", "internal/sync.throw", "internal/sync.runtime_nanotime", "internal/sync.runtime_SemacquireMutex", "sync/atomic.AddInt32", "(*internal/sync.Mutex).Unlock", "internal/race.ReleaseMerge", "(*internal/sync.Mutex).unlockSlow", "internal/sync.fatal", "internal/sync.runtime_Semrelease", "sync/atomic.StoreUint32", "sync/atomic.AddInt64", "internal/reflectlite.TypeOf", "sync/atomic.LoadInt64"], unfollowed := true, recurses := true, apart := false }
def TopFailCutSaid : Prop := topFailCutRow.holds Tryz.pinned (OpenSpec.ofChange topFailCutSpec)

/-- ITS FALSE NEIGHBOUR: 'it returns false'. Refute it at one input. -/
def topFailCutWrong : ChangeSpec := { name := "topFailCut", fn := fun _ => fun
  | [d1, d2, d3, d4] => { results := [.lit (.bool false)], args := [d1, d2, d3, d4] }
  | _ => none }
def TopFailCutWrongFalsely : Prop := topFailCutRow.holds Tryz.pinned (OpenSpec.ofChange topFailCutWrong)

/- THE SECOND FORM. 'bulk': how many values and letters a reading holds, each counted each time it is reached (what is shared counts as often as it is met; a slice's spare places count too). A statement '..UptoSaid' is the law's where the arguments, and the package variables that the reading takes, are together of bulk at most 1048576: NARROWER than '..Said'. Prove '..Said' where nothing that the law and all that it calls make is longer than what came in: it says more and counts as full. Else prove '..UptoSaid'. A law counts once. -/
mutual
def uptoBulk {H : Type} : DataW H → Nat
  | .lit (.string bytes) => bytes.length + 1
  | .lit _ => 1
  | .nil => 1
  | .ptr d => uptoBulk d + 1
  | .slice elems spare => uptoBulkAll elems + uptoBulkAll spare + 1
  | .agg parts => uptoBulkAll parts + 1
  | .iface _ d => uptoBulk d + 1
  | .map entries => uptoBulkEntries entries + 1
  | .held _ => 1
def uptoBulkAll {H : Type} : List (DataW H) → Nat
  | [] => 0
  | d :: r => uptoBulk d + uptoBulkAll r
def uptoBulkEntries {H : Type} : List (Lit × DataW H) → Nat
  | [] => 0
  | x :: r => uptoBulkEntry x + uptoBulkEntries r
def uptoBulkEntry {H : Type} : Lit × DataW H → Nat
  | (.string bytes, d) => bytes.length + uptoBulk d + 1
  | (_, d) => uptoBulk d + 1
 end
def uptoSmall : (H : Type) → List (DataW H) → Bool := fun _ ds => decide (uptoBulkAll ds ≤ 1048576)
def OpenSpec.upto (s : _root_.Go.ChangeSpec) : _root_.Go.OpenSpec := { _root_.Go.OpenSpec.ofChange s with cond := some uptoSmall }

/-- 'patinatop.TopTrims', WHERE WHAT IT READS IS OF BULK AT MOST 1048576: true; the input reads as it did. -/
def topTrimsUptoRow : OpenClaim := { program := "ytaeikigfgfcadaagreat", sum := "4092be76300226828e98e3f0001d53ed184a433a711f0c82187a39bdf3fc2107", func := "patina/patinatop.TopTrims", spec := "topTrims", inPlace := ["sync/atomic.StoreInt64", "sync/atomic.LoadUint32", "(*internal/sync.Mutex).Lock", "internal/race.Disable", "sync/atomic.CompareAndSwapInt32", "internal/race.Enable", "internal/race.Acquire", "(*internal/sync.Mutex).lockSlow", "internal/sync.runtime_canSpin", "internal/sync.runtime_doSpin", "internal/sync.throw", "internal/sync.runtime_nanotime", "internal/sync.runtime_SemacquireMutex", "sync/atomic.AddInt32", "(*internal/sync.Mutex).Unlock", "internal/race.ReleaseMerge", "(*internal/sync.Mutex).unlockSlow", "internal/sync.fatal", "internal/sync.runtime_Semrelease", "sync/atomic.StoreUint32", "sync/atomic.AddInt64", "internal/reflectlite.TypeOf", "sync/atomic.LoadInt64"], unfollowed := true, recurses := true, apart := false, narrowed := true }
def TopTrimsUptoSaid : Prop := topTrimsUptoRow.holds Tryz.pinned (OpenSpec.upto topTrimsSpec)

/-- 'patinatop.TopWorn', WHERE WHAT IT READS IS OF BULK AT MOST 1048576: true; the input reads as it did. -/
def topWornUptoRow : OpenClaim := { program := "ytaeikigfgfcadaagreat", sum := "4092be76300226828e98e3f0001d53ed184a433a711f0c82187a39bdf3fc2107", func := "patina/patinatop.TopWorn", spec := "topWorn", inPlace := ["sync/atomic.StoreInt64", "sync/atomic.LoadUint32", "(*internal/sync.Mutex).Lock", "internal/race.Disable", "sync/atomic.CompareAndSwapInt32", "internal/race.Enable", "internal/race.Acquire", "(*internal/sync.Mutex).lockSlow", "internal/sync.runtime_canSpin", "internal/sync.runtime_doSpin", "internal/sync.throw", "internal/sync.runtime_nanotime", "internal/sync.runtime_SemacquireMutex", "sync/atomic.AddInt32", "(*internal/sync.Mutex).Unlock", "internal/race.ReleaseMerge", "(*internal/sync.Mutex).unlockSlow", "internal/sync.fatal", "internal/sync.runtime_Semrelease", "sync/atomic.StoreUint32", "sync/atomic.AddInt64", "internal/reflectlite.TypeOf", "sync/atomic.LoadInt64"], unfollowed := true, recurses := true, apart := false, narrowed := true }
def TopWornUptoSaid : Prop := topWornUptoRow.holds Tryz.pinned (OpenSpec.upto topWornSpec)

/-- 'patinatop.TopEveryCut', WHERE WHAT IT READS IS OF BULK AT MOST 1048576: true; the input reads as it did. -/
def topEveryCutUptoRow : OpenClaim := { program := "ytaeikigfgfcadaagreat", sum := "4092be76300226828e98e3f0001d53ed184a433a711f0c82187a39bdf3fc2107", func := "patina/patinatop.TopEveryCut", spec := "topEveryCut", inPlace := ["sync/atomic.StoreInt64", "sync/atomic.LoadUint32", "(*internal/sync.Mutex).Lock", "internal/race.Disable", "sync/atomic.CompareAndSwapInt32", "internal/race.Enable", "internal/race.Acquire", "(*internal/sync.Mutex).lockSlow", "internal/sync.runtime_canSpin", "internal/sync.runtime_doSpin", "internal/sync.throw", "internal/sync.runtime_nanotime", "internal/sync.runtime_SemacquireMutex", "sync/atomic.AddInt32", "(*internal/sync.Mutex).Unlock", "internal/race.ReleaseMerge", "(*internal/sync.Mutex).unlockSlow", "internal/sync.fatal", "internal/sync.runtime_Semrelease", "sync/atomic.StoreUint32", "sync/atomic.AddInt64", "internal/reflectlite.TypeOf", "sync/atomic.LoadInt64"], unfollowed := true, recurses := true, apart := false, narrowed := true }
def TopEveryCutUptoSaid : Prop := topEveryCutUptoRow.holds Tryz.pinned (OpenSpec.upto topEveryCutSpec)

/-- 'patinatop.TopMountCuts', WHERE WHAT IT READS IS OF BULK AT MOST 1048576: true; the input reads as it did. -/
def topMountCutsUptoRow : OpenClaim := { program := "ytaeikigfgfcadaagreat", sum := "4092be76300226828e98e3f0001d53ed184a433a711f0c82187a39bdf3fc2107", func := "patina/patinatop.TopMountCuts", spec := "topMountCuts", inPlace := ["sync/atomic.StoreInt64", "sync/atomic.LoadUint32", "(*internal/sync.Mutex).Lock", "internal/race.Disable", "sync/atomic.CompareAndSwapInt32", "internal/race.Enable", "internal/race.Acquire", "(*internal/sync.Mutex).lockSlow", "internal/sync.runtime_canSpin", "internal/sync.runtime_doSpin", "internal/sync.throw", "internal/sync.runtime_nanotime", "internal/sync.runtime_SemacquireMutex", "sync/atomic.AddInt32", "(*internal/sync.Mutex).Unlock", "internal/race.ReleaseMerge", "(*internal/sync.Mutex).unlockSlow", "internal/sync.fatal", "internal/sync.runtime_Semrelease", "sync/atomic.StoreUint32", "sync/atomic.AddInt64", "internal/reflectlite.TypeOf", "sync/atomic.LoadInt64"], unfollowed := true, recurses := true, apart := false, narrowed := true }
def TopMountCutsUptoSaid : Prop := topMountCutsUptoRow.holds Tryz.pinned (OpenSpec.upto topMountCutsSpec)

/-- 'patinatop.TopLedger', WHERE WHAT IT READS IS OF BULK AT MOST 1048576: true; the input reads as it did. -/
def topLedgerUptoRow : OpenClaim := { program := "ytaeikigfgfcadaagreat", sum := "4092be76300226828e98e3f0001d53ed184a433a711f0c82187a39bdf3fc2107", func := "patina/patinatop.TopLedger", spec := "topLedger", inPlace := ["sync/atomic.StoreInt64", "sync/atomic.LoadUint32", "(*internal/sync.Mutex).Lock", "internal/race.Disable", "sync/atomic.CompareAndSwapInt32", "internal/race.Enable", "internal/race.Acquire", "(*internal/sync.Mutex).lockSlow", "internal/sync.runtime_canSpin", "internal/sync.runtime_doSpin", "internal/sync.throw", "internal/sync.runtime_nanotime", "internal/sync.runtime_SemacquireMutex", "sync/atomic.AddInt32", "(*internal/sync.Mutex).Unlock", "internal/race.ReleaseMerge", "(*internal/sync.Mutex).unlockSlow", "internal/sync.fatal", "internal/sync.runtime_Semrelease", "sync/atomic.StoreUint32", "sync/atomic.AddInt64", "internal/reflectlite.TypeOf", "sync/atomic.LoadInt64"], unfollowed := true, recurses := true, apart := false, narrowed := true }
def TopLedgerUptoSaid : Prop := topLedgerUptoRow.holds Tryz.pinned (OpenSpec.upto topLedgerSpec)

/-- 'patinatop.TopRoom', WHERE WHAT IT READS IS OF BULK AT MOST 1048576: true; the input reads as it did. -/
def topRoomUptoRow : OpenClaim := { program := "ytaeikigfgfcadaagreat", sum := "4092be76300226828e98e3f0001d53ed184a433a711f0c82187a39bdf3fc2107", func := "patina/patinatop.TopRoom", spec := "topRoom", inPlace := ["sync/atomic.StoreInt64", "sync/atomic.LoadUint32", "(*internal/sync.Mutex).Lock", "internal/race.Disable", "sync/atomic.CompareAndSwapInt32", "internal/race.Enable", "internal/race.Acquire", "(*internal/sync.Mutex).lockSlow", "internal/sync.runtime_canSpin", "internal/sync.runtime_doSpin", "internal/sync.throw", "internal/sync.runtime_nanotime", "internal/sync.runtime_SemacquireMutex", "sync/atomic.AddInt32", "(*internal/sync.Mutex).Unlock", "internal/race.ReleaseMerge", "(*internal/sync.Mutex).unlockSlow", "internal/sync.fatal", "internal/sync.runtime_Semrelease", "sync/atomic.StoreUint32", "sync/atomic.AddInt64", "internal/reflectlite.TypeOf", "sync/atomic.LoadInt64"], unfollowed := true, recurses := true, apart := false, narrowed := true }
def TopRoomUptoSaid : Prop := topRoomUptoRow.holds Tryz.pinned (OpenSpec.upto topRoomSpec)

/-- 'patinatop.TopCopies', WHERE WHAT IT READS IS OF BULK AT MOST 1048576: true; the input reads as it did. -/
def topCopiesUptoRow : OpenClaim := { program := "ytaeikigfgfcadaagreat", sum := "4092be76300226828e98e3f0001d53ed184a433a711f0c82187a39bdf3fc2107", func := "patina/patinatop.TopCopies", spec := "topCopies", inPlace := ["sync/atomic.StoreInt64", "sync/atomic.LoadUint32", "(*internal/sync.Mutex).Lock", "internal/race.Disable", "sync/atomic.CompareAndSwapInt32", "internal/race.Enable", "internal/race.Acquire", "(*internal/sync.Mutex).lockSlow", "internal/sync.runtime_canSpin", "internal/sync.runtime_doSpin", "internal/sync.throw", "internal/sync.runtime_nanotime", "internal/sync.runtime_SemacquireMutex", "sync/atomic.AddInt32", "(*internal/sync.Mutex).Unlock", "internal/race.ReleaseMerge", "(*internal/sync.Mutex).unlockSlow", "internal/sync.fatal", "internal/sync.runtime_Semrelease", "sync/atomic.StoreUint32", "sync/atomic.AddInt64", "internal/reflectlite.TypeOf", "sync/atomic.LoadInt64"], unfollowed := true, recurses := true, apart := false, narrowed := true }
def TopCopiesUptoSaid : Prop := topCopiesUptoRow.holds Tryz.pinned (OpenSpec.upto topCopiesSpec)

/-- 'patinatop.TopReads', WHERE WHAT IT READS IS OF BULK AT MOST 1048576: true; the input reads as it did. -/
def topReadsUptoRow : OpenClaim := { program := "ytaeikigfgfcadaagreat", sum := "4092be76300226828e98e3f0001d53ed184a433a711f0c82187a39bdf3fc2107", func := "patina/patinatop.TopReads", spec := "topReads", inPlace := ["sync/atomic.StoreInt64", "sync/atomic.LoadUint32", "(*internal/sync.Mutex).Lock", "internal/race.Disable", "sync/atomic.CompareAndSwapInt32", "internal/race.Enable", "internal/race.Acquire", "(*internal/sync.Mutex).lockSlow", "internal/sync.runtime_canSpin", "internal/sync.runtime_doSpin", "internal/sync.throw", "internal/sync.runtime_nanotime", "internal/sync.runtime_SemacquireMutex", "sync/atomic.AddInt32", "(*internal/sync.Mutex).Unlock", "internal/race.ReleaseMerge", "(*internal/sync.Mutex).unlockSlow", "internal/sync.fatal", "internal/sync.runtime_Semrelease", "sync/atomic.StoreUint32", "sync/atomic.AddInt64", "internal/reflectlite.TypeOf", "sync/atomic.LoadInt64"], unfollowed := true, recurses := true, apart := false, narrowed := true }
def TopReadsUptoSaid : Prop := topReadsUptoRow.holds Tryz.pinned (OpenSpec.upto topReadsSpec)

/-- 'patinatop.TopSeqs', WHERE WHAT IT READS IS OF BULK AT MOST 1048576: true; the input reads as it did. -/
def topSeqsUptoRow : OpenClaim := { program := "ytaeikigfgfcadaagreat", sum := "4092be76300226828e98e3f0001d53ed184a433a711f0c82187a39bdf3fc2107", func := "patina/patinatop.TopSeqs", spec := "topSeqs", inPlace := ["sync/atomic.StoreInt64", "sync/atomic.LoadUint32", "(*internal/sync.Mutex).Lock", "internal/race.Disable", "sync/atomic.CompareAndSwapInt32", "internal/race.Enable", "internal/race.Acquire", "(*internal/sync.Mutex).lockSlow", "internal/sync.runtime_canSpin", "internal/sync.runtime_doSpin", "internal/sync.throw", "internal/sync.runtime_nanotime", "internal/sync.runtime_SemacquireMutex", "sync/atomic.AddInt32", "(*internal/sync.Mutex).Unlock", "internal/race.ReleaseMerge", "(*internal/sync.Mutex).unlockSlow", "internal/sync.fatal", "internal/sync.runtime_Semrelease", "sync/atomic.StoreUint32", "sync/atomic.AddInt64", "internal/reflectlite.TypeOf", "sync/atomic.LoadInt64"], unfollowed := true, recurses := true, apart := false, narrowed := true }
def TopSeqsUptoSaid : Prop := topSeqsUptoRow.holds Tryz.pinned (OpenSpec.upto topSeqsSpec)

/-- 'patinatop.TopSlack', WHERE WHAT IT READS IS OF BULK AT MOST 1048576: true; the input reads as it did. -/
def topSlackUptoRow : OpenClaim := { program := "ytaeikigfgfcadaagreat", sum := "4092be76300226828e98e3f0001d53ed184a433a711f0c82187a39bdf3fc2107", func := "patina/patinatop.TopSlack", spec := "topSlack", inPlace := ["sync/atomic.StoreInt64", "sync/atomic.LoadUint32", "(*internal/sync.Mutex).Lock", "internal/race.Disable", "sync/atomic.CompareAndSwapInt32", "internal/race.Enable", "internal/race.Acquire", "(*internal/sync.Mutex).lockSlow", "internal/sync.runtime_canSpin", "internal/sync.runtime_doSpin", "internal/sync.throw", "internal/sync.runtime_nanotime", "internal/sync.runtime_SemacquireMutex", "sync/atomic.AddInt32", "(*internal/sync.Mutex).Unlock", "internal/race.ReleaseMerge", "(*internal/sync.Mutex).unlockSlow", "internal/sync.fatal", "internal/sync.runtime_Semrelease", "sync/atomic.StoreUint32", "sync/atomic.AddInt64", "internal/reflectlite.TypeOf", "sync/atomic.LoadInt64"], unfollowed := true, recurses := true, apart := false, narrowed := true }
def TopSlackUptoSaid : Prop := topSlackUptoRow.holds Tryz.pinned (OpenSpec.upto topSlackSpec)

/-- 'patinatop.TopHidden', WHERE WHAT IT READS IS OF BULK AT MOST 1048576: true; the input reads as it did. -/
def topHiddenUptoRow : OpenClaim := { program := "ytaeikigfgfcadaagreat", sum := "4092be76300226828e98e3f0001d53ed184a433a711f0c82187a39bdf3fc2107", func := "patina/patinatop.TopHidden", spec := "topHidden", inPlace := ["sync/atomic.StoreInt64", "sync/atomic.LoadUint32", "(*internal/sync.Mutex).Lock", "internal/race.Disable", "sync/atomic.CompareAndSwapInt32", "internal/race.Enable", "internal/race.Acquire", "(*internal/sync.Mutex).lockSlow", "internal/sync.runtime_canSpin", "internal/sync.runtime_doSpin", "internal/sync.throw", "internal/sync.runtime_nanotime", "internal/sync.runtime_SemacquireMutex", "sync/atomic.AddInt32", "(*internal/sync.Mutex).Unlock", "internal/race.ReleaseMerge", "(*internal/sync.Mutex).unlockSlow", "internal/sync.fatal", "internal/sync.runtime_Semrelease", "sync/atomic.StoreUint32", "sync/atomic.AddInt64", "internal/reflectlite.TypeOf", "sync/atomic.LoadInt64"], unfollowed := true, recurses := true, apart := false, narrowed := true }
def TopHiddenUptoSaid : Prop := topHiddenUptoRow.holds Tryz.pinned (OpenSpec.upto topHiddenSpec)

/-- 'patinatop.TopFailCut', WHERE WHAT IT READS IS OF BULK AT MOST 1048576: true; the input reads as it did. -/
def topFailCutUptoRow : OpenClaim := { program := "ytaeikigfgfcadaagreat", sum := "4092be76300226828e98e3f0001d53ed184a433a711f0c82187a39bdf3fc2107", func := "patina/patinatop.TopFailCut", spec := "topFailCut", inPlace := ["sync/atomic.StoreInt64", "sync/atomic.LoadUint32", "(*internal/sync.Mutex).Lock", "internal/race.Disable", "sync/atomic.CompareAndSwapInt32", "internal/race.Enable", "internal/race.Acquire", "(*internal/sync.Mutex).lockSlow", "internal/sync.runtime_canSpin", "internal/sync.runtime_doSpin", "internal/sync.throw", "internal/sync.runtime_nanotime", "internal/sync.runtime_SemacquireMutex", "sync/atomic.AddInt32", "(*internal/sync.Mutex).Unlock", "internal/race.ReleaseMerge", "(*internal/sync.Mutex).unlockSlow", "internal/sync.fatal", "internal/sync.runtime_Semrelease", "sync/atomic.StoreUint32", "sync/atomic.AddInt64", "internal/reflectlite.TypeOf", "sync/atomic.LoadInt64"], unfollowed := true, recurses := true, apart := false, narrowed := true }
def TopFailCutUptoSaid : Prop := topFailCutUptoRow.holds Tryz.pinned (OpenSpec.upto topFailCutSpec)

end Rows
end Go.Proofs.YtaeikigfgfcadaaGreat
