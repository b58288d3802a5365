/-
  No cell of these rows narrows 'for every input' (looked for: loops, veiled, ifaces, maps, wideKeys, modest, calm, conditions, laid).
  DERIVED. THE GIVEN ROWS OF THIS SEAT. 12 by the template 'for every input the law returns true; each argument reads behind the call as it read before'; 0 by the template 'total and deterministic' (their statements: YtnognoiaakiepaaTotals.lean).
  GIVEN WITH THE SEED: the statements are not yours to turn. If you find one false, say at which input.
  Laid BY PROGRAM, IN A SANDBOX (cutbox-rows.mjs): the forced cells as the released guide's own fill.sh prints them over the translation 23ad02d9e09751d5… (all of the seat's roots in one cut). By AI agents, Wed Nov 11 2026. No macro, syntax, notation, axiom, sorry.
-/
import Derived.Test.YtnognoiaakiepaaChecked
import GoSem.Claim
import GoSem.ClaimJoined
import GoSem.ClaimMapViews
import Derived.JoinedTies
import Derived.KernelRfl
namespace Go.Proofs.Ytnognoiaakiepaa
/- THE CELL 'sum', in the pinned program and in every row, IS THE sha256 OF THE DUMP (.gsa) THAT YtnognoiaakiepaaProg.lean LOADS. Nothing in Lean hashes anything: it is a label: what it is worth is what the hold of that sum in a sandbox is worth. -/
noncomputable def Try.pinned : Pinned := { name := "ytnognoiaakiepaa", sum := "23ad02d9e09751d5515989a040cfdee868cbb28661f26df3e6bffa212a28bc4b", checked := Try.checked }
namespace Rows
def none {H : Type} : Left H := { results := [], args := [] }

/-- 'kissinggatelaw05.WalReads': WHATEVER THE INPUT: true; the input reads as it did. -/
def walReadsSpec : ChangeSpec := { name := "walReads", fn := fun _ => fun
  | [d1, d2] => { results := [.lit (.bool true)], args := [d1, d2] }
  | _ => none }
def walReadsRow : OpenClaim := { program := "ytnognoiaakiepaa", sum := "23ad02d9e09751d5515989a040cfdee868cbb28661f26df3e6bffa212a28bc4b", func := "kissinggate/kissinggatelaw05.WalReads", spec := "walReads", inPlace := ["sync/atomic.LoadUint32", "(*internal/sync.Mutex).Lock", "internal/race.Disable", "sync/atomic.CompareAndSwapInt32", "internal/race.Enable", "internal/race.Acquire", "(*internal/sync.Mutex).lockSlow", "internal/sync.runtime_canSpin", "internal/sync.runtime_doSpin", "internal/sync.throw", "internal/sync.runtime_nanotime", "internal/sync.runtime_SemacquireMutex", "sync/atomic.AddInt32", "(*internal/sync.Mutex).Unlock", "internal/race.ReleaseMerge", "(*internal/sync.Mutex).unlockSlow", "internal/sync.fatal", "internal/sync.runtime_Semrelease", "sync/atomic.StoreUint32"], unfollowed := true, recurses := true, apart := false }
def WalReadsSaid : Prop := walReadsRow.holds Try.pinned (OpenSpec.ofChange walReadsSpec)

/-- ITS FALSE NEIGHBOUR: 'it returns false'. Refute it at one input. -/
def walReadsWrong : ChangeSpec := { name := "walReads", fn := fun _ => fun
  | [d1, d2] => { results := [.lit (.bool false)], args := [d1, d2] }
  | _ => none }
def WalReadsWrongFalsely : Prop := walReadsRow.holds Try.pinned (OpenSpec.ofChange walReadsWrong)

/-- 'kissinggatelaw05.WalCrash': WHATEVER THE INPUT: true; the input reads as it did. -/
def walCrashSpec : ChangeSpec := { name := "walCrash", fn := fun _ => fun
  | [d1, d2, d3, d4, d5] => { results := [.lit (.bool true)], args := [d1, d2, d3, d4, d5] }
  | _ => none }
def walCrashRow : OpenClaim := { program := "ytnognoiaakiepaa", sum := "23ad02d9e09751d5515989a040cfdee868cbb28661f26df3e6bffa212a28bc4b", func := "kissinggate/kissinggatelaw05.WalCrash", spec := "walCrash", inPlace := ["sync/atomic.LoadUint32", "(*internal/sync.Mutex).Lock", "internal/race.Disable", "sync/atomic.CompareAndSwapInt32", "internal/race.Enable", "internal/race.Acquire", "(*internal/sync.Mutex).lockSlow", "internal/sync.runtime_canSpin", "internal/sync.runtime_doSpin", "internal/sync.throw", "internal/sync.runtime_nanotime", "internal/sync.runtime_SemacquireMutex", "sync/atomic.AddInt32", "(*internal/sync.Mutex).Unlock", "internal/race.ReleaseMerge", "(*internal/sync.Mutex).unlockSlow", "internal/sync.fatal", "internal/sync.runtime_Semrelease", "sync/atomic.StoreUint32"], unfollowed := true, recurses := true, apart := false }
def WalCrashSaid : Prop := walCrashRow.holds Try.pinned (OpenSpec.ofChange walCrashSpec)

/-- ITS FALSE NEIGHBOUR: 'it returns false'. Refute it at one input. -/
def walCrashWrong : ChangeSpec := { name := "walCrash", fn := fun _ => fun
  | [d1, d2, d3, d4, d5] => { results := [.lit (.bool false)], args := [d1, d2, d3, d4, d5] }
  | _ => none }
def WalCrashWrongFalsely : Prop := walCrashRow.holds Try.pinned (OpenSpec.ofChange walCrashWrong)

/-- 'kissinggatelaw05.WalSpoilt': WHATEVER THE INPUT: true; the input reads as it did. -/
def walSpoiltSpec : ChangeSpec := { name := "walSpoilt", fn := fun _ => fun
  | [d1, d2, d3, d4] => { results := [.lit (.bool true)], args := [d1, d2, d3, d4] }
  | _ => none }
def walSpoiltRow : OpenClaim := { program := "ytnognoiaakiepaa", sum := "23ad02d9e09751d5515989a040cfdee868cbb28661f26df3e6bffa212a28bc4b", func := "kissinggate/kissinggatelaw05.WalSpoilt", spec := "walSpoilt", inPlace := ["sync/atomic.LoadUint32", "(*internal/sync.Mutex).Lock", "internal/race.Disable", "sync/atomic.CompareAndSwapInt32", "internal/race.Enable", "internal/race.Acquire", "(*internal/sync.Mutex).lockSlow", "internal/sync.runtime_canSpin", "internal/sync.runtime_doSpin", "internal/sync.throw", "internal/sync.runtime_nanotime", "internal/sync.runtime_SemacquireMutex", "sync/atomic.AddInt32", "(*internal/sync.Mutex).Unlock", "internal/race.ReleaseMerge", "(*internal/sync.Mutex).unlockSlow", "internal/sync.fatal", "internal/sync.runtime_Semrelease", "sync/atomic.StoreUint32"], unfollowed := true, recurses := true, apart := false }
def WalSpoiltSaid : Prop := walSpoiltRow.holds Try.pinned (OpenSpec.ofChange walSpoiltSpec)

/-- ITS FALSE NEIGHBOUR: 'it returns false'. Refute it at one input. -/
def walSpoiltWrong : ChangeSpec := { name := "walSpoilt", fn := fun _ => fun
  | [d1, d2, d3, d4] => { results := [.lit (.bool false)], args := [d1, d2, d3, d4] }
  | _ => none }
def WalSpoiltWrongFalsely : Prop := walSpoiltRow.holds Try.pinned (OpenSpec.ofChange walSpoiltWrong)

/-- 'kissinggatelaw18.WireCommands': WHATEVER THE INPUT: true; the input reads as it did. -/
def wireCommandsSpec : ChangeSpec := { name := "wireCommands", fn := fun _ => fun
  | [d1, d2, d3] => { results := [.lit (.bool true)], args := [d1, d2, d3] }
  | _ => none }
def wireCommandsRow : OpenClaim := { program := "ytnognoiaakiepaa", sum := "23ad02d9e09751d5515989a040cfdee868cbb28661f26df3e6bffa212a28bc4b", func := "kissinggate/kissinggatelaw18.WireCommands", spec := "wireCommands", inPlace := ["sync/atomic.LoadUint32", "(*internal/sync.Mutex).Lock", "internal/race.Disable", "sync/atomic.CompareAndSwapInt32", "internal/race.Enable", "internal/race.Acquire", "(*internal/sync.Mutex).lockSlow", "internal/sync.runtime_canSpin", "internal/sync.runtime_doSpin", "internal/sync.throw", "internal/sync.runtime_nanotime", "internal/sync.runtime_SemacquireMutex", "sync/atomic.AddInt32", "(*internal/sync.Mutex).Unlock", "internal/race.ReleaseMerge", "(*internal/sync.Mutex).unlockSlow", "internal/sync.fatal", "internal/sync.runtime_Semrelease", "sync/atomic.StoreUint32"], unfollowed := true, recurses := true, apart := false }
def WireCommandsSaid : Prop := wireCommandsRow.holds Try.pinned (OpenSpec.ofChange wireCommandsSpec)

/-- ITS FALSE NEIGHBOUR: 'it returns false'. Refute it at one input. -/
def wireCommandsWrong : ChangeSpec := { name := "wireCommands", fn := fun _ => fun
  | [d1, d2, d3] => { results := [.lit (.bool false)], args := [d1, d2, d3] }
  | _ => none }
def WireCommandsWrongFalsely : Prop := wireCommandsRow.holds Try.pinned (OpenSpec.ofChange wireCommandsWrong)

/-- 'kissinggatelaw18.WirePackets': WHATEVER THE INPUT: true; the input reads as it did. -/
def wirePacketsSpec : ChangeSpec := { name := "wirePackets", fn := fun _ => fun
  | [d1, d2, d3, d4, d5] => { results := [.lit (.bool true)], args := [d1, d2, d3, d4, d5] }
  | _ => none }
def wirePacketsRow : OpenClaim := { program := "ytnognoiaakiepaa", sum := "23ad02d9e09751d5515989a040cfdee868cbb28661f26df3e6bffa212a28bc4b", func := "kissinggate/kissinggatelaw18.WirePackets", spec := "wirePackets", inPlace := ["sync/atomic.LoadUint32", "(*internal/sync.Mutex).Lock", "internal/race.Disable", "sync/atomic.CompareAndSwapInt32", "internal/race.Enable", "internal/race.Acquire", "(*internal/sync.Mutex).lockSlow", "internal/sync.runtime_canSpin", "internal/sync.runtime_doSpin", "internal/sync.throw", "internal/sync.runtime_nanotime", "internal/sync.runtime_SemacquireMutex", "sync/atomic.AddInt32", "(*internal/sync.Mutex).Unlock", "internal/race.ReleaseMerge", "(*internal/sync.Mutex).unlockSlow", "internal/sync.fatal", "internal/sync.runtime_Semrelease", "sync/atomic.StoreUint32"], unfollowed := true, recurses := true, apart := false }
def WirePacketsSaid : Prop := wirePacketsRow.holds Try.pinned (OpenSpec.ofChange wirePacketsSpec)

/-- ITS FALSE NEIGHBOUR: 'it returns false'. Refute it at one input. -/
def wirePacketsWrong : ChangeSpec := { name := "wirePackets", fn := fun _ => fun
  | [d1, d2, d3, d4, d5] => { results := [.lit (.bool false)], args := [d1, d2, d3, d4, d5] }
  | _ => none }
def WirePacketsWrongFalsely : Prop := wirePacketsRow.holds Try.pinned (OpenSpec.ofChange wirePacketsWrong)

/-- 'kissinggatelaw18.WireReads': WHATEVER THE INPUT: true; the input reads as it did. -/
def wireReadsSpec : ChangeSpec := { name := "wireReads", fn := fun _ => fun
  | [d] => { results := [.lit (.bool true)], args := [d] }
  | _ => none }
def wireReadsRow : OpenClaim := { program := "ytnognoiaakiepaa", sum := "23ad02d9e09751d5515989a040cfdee868cbb28661f26df3e6bffa212a28bc4b", func := "kissinggate/kissinggatelaw18.WireReads", spec := "wireReads", inPlace := ["sync/atomic.LoadUint32", "(*internal/sync.Mutex).Lock", "internal/race.Disable", "sync/atomic.CompareAndSwapInt32", "internal/race.Enable", "internal/race.Acquire", "(*internal/sync.Mutex).lockSlow", "internal/sync.runtime_canSpin", "internal/sync.runtime_doSpin", "internal/sync.throw", "internal/sync.runtime_nanotime", "internal/sync.runtime_SemacquireMutex", "sync/atomic.AddInt32", "(*internal/sync.Mutex).Unlock", "internal/race.ReleaseMerge", "(*internal/sync.Mutex).unlockSlow", "internal/sync.fatal", "internal/sync.runtime_Semrelease", "sync/atomic.StoreUint32"], unfollowed := true, recurses := true, apart := false }
def WireReadsSaid : Prop := wireReadsRow.holds Try.pinned (OpenSpec.ofChange wireReadsSpec)

/-- ITS FALSE NEIGHBOUR: 'it returns false'. Refute it at one input. -/
def wireReadsWrong : ChangeSpec := { name := "wireReads", fn := fun _ => fun
  | [d] => { results := [.lit (.bool false)], args := [d] }
  | _ => none }
def WireReadsWrongFalsely : Prop := wireReadsRow.holds Try.pinned (OpenSpec.ofChange wireReadsWrong)

/-- 'kissinggatelaw18.WireMessages': WHATEVER THE INPUT: true; the input reads as it did. -/
def wireMessagesSpec : ChangeSpec := { name := "wireMessages", fn := fun _ => fun
  | [d] => { results := [.lit (.bool true)], args := [d] }
  | _ => none }
def wireMessagesRow : OpenClaim := { program := "ytnognoiaakiepaa", sum := "23ad02d9e09751d5515989a040cfdee868cbb28661f26df3e6bffa212a28bc4b", func := "kissinggate/kissinggatelaw18.WireMessages", spec := "wireMessages", inPlace := ["sync/atomic.LoadUint32", "(*internal/sync.Mutex).Lock", "internal/race.Disable", "sync/atomic.CompareAndSwapInt32", "internal/race.Enable", "internal/race.Acquire", "(*internal/sync.Mutex).lockSlow", "internal/sync.runtime_canSpin", "internal/sync.runtime_doSpin", "internal/sync.throw", "internal/sync.runtime_nanotime", "internal/sync.runtime_SemacquireMutex", "sync/atomic.AddInt32", "(*internal/sync.Mutex).Unlock", "internal/race.ReleaseMerge", "(*internal/sync.Mutex).unlockSlow", "internal/sync.fatal", "internal/sync.runtime_Semrelease", "sync/atomic.StoreUint32"], unfollowed := true, recurses := true, apart := false }
def WireMessagesSaid : Prop := wireMessagesRow.holds Try.pinned (OpenSpec.ofChange wireMessagesSpec)

/-- ITS FALSE NEIGHBOUR: 'it returns false'. Refute it at one input. -/
def wireMessagesWrong : ChangeSpec := { name := "wireMessages", fn := fun _ => fun
  | [d] => { results := [.lit (.bool false)], args := [d] }
  | _ => none }
def WireMessagesWrongFalsely : Prop := wireMessagesRow.holds Try.pinned (OpenSpec.ofChange wireMessagesWrong)

/-- 'kissinggatelaw33.SlotReads': WHATEVER THE INPUT: true; the input reads as it did. -/
def slotReadsSpec : ChangeSpec := { name := "slotReads", fn := fun _ => fun
  | [d1, d2] => { results := [.lit (.bool true)], args := [d1, d2] }
  | _ => none }
def slotReadsRow : OpenClaim := { program := "ytnognoiaakiepaa", sum := "23ad02d9e09751d5515989a040cfdee868cbb28661f26df3e6bffa212a28bc4b", func := "kissinggate/kissinggatelaw33.SlotReads", spec := "slotReads", inPlace := ["sync/atomic.LoadUint32", "(*internal/sync.Mutex).Lock", "internal/race.Disable", "sync/atomic.CompareAndSwapInt32", "internal/race.Enable", "internal/race.Acquire", "(*internal/sync.Mutex).lockSlow", "internal/sync.runtime_canSpin", "internal/sync.runtime_doSpin", "internal/sync.throw", "internal/sync.runtime_nanotime", "internal/sync.runtime_SemacquireMutex", "sync/atomic.AddInt32", "(*internal/sync.Mutex).Unlock", "internal/race.ReleaseMerge", "(*internal/sync.Mutex).unlockSlow", "internal/sync.fatal", "internal/sync.runtime_Semrelease", "sync/atomic.StoreUint32"], unfollowed := true, recurses := true, apart := false }
def SlotReadsSaid : Prop := slotReadsRow.holds Try.pinned (OpenSpec.ofChange slotReadsSpec)

/-- ITS FALSE NEIGHBOUR: 'it returns false'. Refute it at one input. -/
def slotReadsWrong : ChangeSpec := { name := "slotReads", fn := fun _ => fun
  | [d1, d2] => { results := [.lit (.bool false)], args := [d1, d2] }
  | _ => none }
def SlotReadsWrongFalsely : Prop := slotReadsRow.holds Try.pinned (OpenSpec.ofChange slotReadsWrong)

/-- 'kissinggatelaw33.SlotSpoilt': WHATEVER THE INPUT: true; the input reads as it did. -/
def slotSpoiltSpec : ChangeSpec := { name := "slotSpoilt", fn := fun _ => fun
  | [d1, d2, d3, d4] => { results := [.lit (.bool true)], args := [d1, d2, d3, d4] }
  | _ => none }
def slotSpoiltRow : OpenClaim := { program := "ytnognoiaakiepaa", sum := "23ad02d9e09751d5515989a040cfdee868cbb28661f26df3e6bffa212a28bc4b", func := "kissinggate/kissinggatelaw33.SlotSpoilt", spec := "slotSpoilt", inPlace := ["sync/atomic.LoadUint32", "(*internal/sync.Mutex).Lock", "internal/race.Disable", "sync/atomic.CompareAndSwapInt32", "internal/race.Enable", "internal/race.Acquire", "(*internal/sync.Mutex).lockSlow", "internal/sync.runtime_canSpin", "internal/sync.runtime_doSpin", "internal/sync.throw", "internal/sync.runtime_nanotime", "internal/sync.runtime_SemacquireMutex", "sync/atomic.AddInt32", "(*internal/sync.Mutex).Unlock", "internal/race.ReleaseMerge", "(*internal/sync.Mutex).unlockSlow", "internal/sync.fatal", "internal/sync.runtime_Semrelease", "sync/atomic.StoreUint32"], unfollowed := true, recurses := true, apart := false }
def SlotSpoiltSaid : Prop := slotSpoiltRow.holds Try.pinned (OpenSpec.ofChange slotSpoiltSpec)

/-- ITS FALSE NEIGHBOUR: 'it returns false'. Refute it at one input. -/
def slotSpoiltWrong : ChangeSpec := { name := "slotSpoilt", fn := fun _ => fun
  | [d1, d2, d3, d4] => { results := [.lit (.bool false)], args := [d1, d2, d3, d4] }
  | _ => none }
def SlotSpoiltWrongFalsely : Prop := slotSpoiltRow.holds Try.pinned (OpenSpec.ofChange slotSpoiltWrong)

/-- 'kissinggatelaw33.SlotWhole': WHATEVER THE INPUT: true; the input reads as it did. -/
def slotWholeSpec : ChangeSpec := { name := "slotWhole", fn := fun _ => fun
  | [d] => { results := [.lit (.bool true)], args := [d] }
  | _ => none }
def slotWholeRow : OpenClaim := { program := "ytnognoiaakiepaa", sum := "23ad02d9e09751d5515989a040cfdee868cbb28661f26df3e6bffa212a28bc4b", func := "kissinggate/kissinggatelaw33.SlotWhole", spec := "slotWhole", inPlace := ["sync/atomic.LoadUint32", "(*internal/sync.Mutex).Lock", "internal/race.Disable", "sync/atomic.CompareAndSwapInt32", "internal/race.Enable", "internal/race.Acquire", "(*internal/sync.Mutex).lockSlow", "internal/sync.runtime_canSpin", "internal/sync.runtime_doSpin", "internal/sync.throw", "internal/sync.runtime_nanotime", "internal/sync.runtime_SemacquireMutex", "sync/atomic.AddInt32", "(*internal/sync.Mutex).Unlock", "internal/race.ReleaseMerge", "(*internal/sync.Mutex).unlockSlow", "internal/sync.fatal", "internal/sync.runtime_Semrelease", "sync/atomic.StoreUint32"], unfollowed := true, recurses := true, apart := false }
def SlotWholeSaid : Prop := slotWholeRow.holds Try.pinned (OpenSpec.ofChange slotWholeSpec)

/-- ITS FALSE NEIGHBOUR: 'it returns false'. Refute it at one input. -/
def slotWholeWrong : ChangeSpec := { name := "slotWhole", fn := fun _ => fun
  | [d] => { results := [.lit (.bool false)], args := [d] }
  | _ => none }
def SlotWholeWrongFalsely : Prop := slotWholeRow.holds Try.pinned (OpenSpec.ofChange slotWholeWrong)

/-- 'kissinggatelaw06.HardRecords': WHATEVER THE INPUT: true; the input reads as it did. -/
def hardRecordsSpec : ChangeSpec := { name := "hardRecords", fn := fun _ => fun
  | [d] => { results := [.lit (.bool true)], args := [d] }
  | _ => none }
def hardRecordsRow : OpenClaim := { program := "ytnognoiaakiepaa", sum := "23ad02d9e09751d5515989a040cfdee868cbb28661f26df3e6bffa212a28bc4b", func := "kissinggate/kissinggatelaw06.HardRecords", spec := "hardRecords", inPlace := ["sync/atomic.LoadUint32", "(*internal/sync.Mutex).Lock", "internal/race.Disable", "sync/atomic.CompareAndSwapInt32", "internal/race.Enable", "internal/race.Acquire", "(*internal/sync.Mutex).lockSlow", "internal/sync.runtime_canSpin", "internal/sync.runtime_doSpin", "internal/sync.throw", "internal/sync.runtime_nanotime", "internal/sync.runtime_SemacquireMutex", "sync/atomic.AddInt32", "(*internal/sync.Mutex).Unlock", "internal/race.ReleaseMerge", "(*internal/sync.Mutex).unlockSlow", "internal/sync.fatal", "internal/sync.runtime_Semrelease", "sync/atomic.StoreUint32"], unfollowed := true, recurses := true, apart := false }
def HardRecordsSaid : Prop := hardRecordsRow.holds Try.pinned (OpenSpec.ofChange hardRecordsSpec)

/-- ITS FALSE NEIGHBOUR: 'it returns false'. Refute it at one input. -/
def hardRecordsWrong : ChangeSpec := { name := "hardRecords", fn := fun _ => fun
  | [d] => { results := [.lit (.bool false)], args := [d] }
  | _ => none }
def HardRecordsWrongFalsely : Prop := hardRecordsRow.holds Try.pinned (OpenSpec.ofChange hardRecordsWrong)

/-- 'kissinggatelaw06.HardCrash': WHATEVER THE INPUT: true; the input reads as it did. -/
def hardCrashSpec : ChangeSpec := { name := "hardCrash", fn := fun _ => fun
  | [d1, d2, d3, d4, d5] => { results := [.lit (.bool true)], args := [d1, d2, d3, d4, d5] }
  | _ => none }
def hardCrashRow : OpenClaim := { program := "ytnognoiaakiepaa", sum := "23ad02d9e09751d5515989a040cfdee868cbb28661f26df3e6bffa212a28bc4b", func := "kissinggate/kissinggatelaw06.HardCrash", spec := "hardCrash", inPlace := ["sync/atomic.LoadUint32", "(*internal/sync.Mutex).Lock", "internal/race.Disable", "sync/atomic.CompareAndSwapInt32", "internal/race.Enable", "internal/race.Acquire", "(*internal/sync.Mutex).lockSlow", "internal/sync.runtime_canSpin", "internal/sync.runtime_doSpin", "internal/sync.throw", "internal/sync.runtime_nanotime", "internal/sync.runtime_SemacquireMutex", "sync/atomic.AddInt32", "(*internal/sync.Mutex).Unlock", "internal/race.ReleaseMerge", "(*internal/sync.Mutex).unlockSlow", "internal/sync.fatal", "internal/sync.runtime_Semrelease", "sync/atomic.StoreUint32"], unfollowed := true, recurses := true, apart := false }
def HardCrashSaid : Prop := hardCrashRow.holds Try.pinned (OpenSpec.ofChange hardCrashSpec)

/-- ITS FALSE NEIGHBOUR: 'it returns false'. Refute it at one input. -/
def hardCrashWrong : ChangeSpec := { name := "hardCrash", fn := fun _ => fun
  | [d1, d2, d3, d4, d5] => { results := [.lit (.bool false)], args := [d1, d2, d3, d4, d5] }
  | _ => none }
def HardCrashWrongFalsely : Prop := hardCrashRow.holds Try.pinned (OpenSpec.ofChange hardCrashWrong)

/- THE SECOND FORM. 'bulk': how many values and letters a reading holds, each counted each time it is reached (what is shared counts as often as it is met; a slice's spare places count too). A statement '..UptoSaid' is the law's where the arguments, and the package variables that the reading takes, are together of bulk at most 1048576: NARROWER than '..Said'. Prove '..Said' where nothing that the law and all that it calls make is longer than what came in: it says more and counts as full. Else prove '..UptoSaid'. A law counts once. -/
mutual
def uptoBulk {H : Type} : DataW H → Nat
  | .lit (.string bytes) => bytes.length + 1
  | .lit _ => 1
  | .nil => 1
  | .ptr d => uptoBulk d + 1
  | .slice elems spare => uptoBulkAll elems + uptoBulkAll spare + 1
  | .agg parts => uptoBulkAll parts + 1
  | .iface _ d => uptoBulk d + 1
  | .map entries => uptoBulkEntries entries + 1
  | .held _ => 1
def uptoBulkAll {H : Type} : List (DataW H) → Nat
  | [] => 0
  | d :: r => uptoBulk d + uptoBulkAll r
def uptoBulkEntries {H : Type} : List (Lit × DataW H) → Nat
  | [] => 0
  | x :: r => uptoBulkEntry x + uptoBulkEntries r
def uptoBulkEntry {H : Type} : Lit × DataW H → Nat
  | (.string bytes, d) => bytes.length + uptoBulk d + 1
  | (_, d) => uptoBulk d + 1
 end
def uptoSmall : (H : Type) → List (DataW H) → Bool := fun _ ds => decide (uptoBulkAll ds ≤ 1048576)
def OpenSpec.upto (s : _root_.Go.ChangeSpec) : _root_.Go.OpenSpec := { _root_.Go.OpenSpec.ofChange s with cond := some uptoSmall }

/-- 'kissinggatelaw05.WalReads', WHERE WHAT IT READS IS OF BULK AT MOST 1048576: true; the input reads as it did. -/
def walReadsUptoRow : OpenClaim := { program := "ytnognoiaakiepaa", sum := "23ad02d9e09751d5515989a040cfdee868cbb28661f26df3e6bffa212a28bc4b", func := "kissinggate/kissinggatelaw05.WalReads", spec := "walReads", inPlace := ["sync/atomic.LoadUint32", "(*internal/sync.Mutex).Lock", "internal/race.Disable", "sync/atomic.CompareAndSwapInt32", "internal/race.Enable", "internal/race.Acquire", "(*internal/sync.Mutex).lockSlow", "internal/sync.runtime_canSpin", "internal/sync.runtime_doSpin", "internal/sync.throw", "internal/sync.runtime_nanotime", "internal/sync.runtime_SemacquireMutex", "sync/atomic.AddInt32", "(*internal/sync.Mutex).Unlock", "internal/race.ReleaseMerge", "(*internal/sync.Mutex).unlockSlow", "internal/sync.fatal", "internal/sync.runtime_Semrelease", "sync/atomic.StoreUint32"], unfollowed := true, recurses := true, apart := false, narrowed := true }
def WalReadsUptoSaid : Prop := walReadsUptoRow.holds Try.pinned (OpenSpec.upto walReadsSpec)

/-- 'kissinggatelaw05.WalCrash', WHERE WHAT IT READS IS OF BULK AT MOST 1048576: true; the input reads as it did. -/
def walCrashUptoRow : OpenClaim := { program := "ytnognoiaakiepaa", sum := "23ad02d9e09751d5515989a040cfdee868cbb28661f26df3e6bffa212a28bc4b", func := "kissinggate/kissinggatelaw05.WalCrash", spec := "walCrash", inPlace := ["sync/atomic.LoadUint32", "(*internal/sync.Mutex).Lock", "internal/race.Disable", "sync/atomic.CompareAndSwapInt32", "internal/race.Enable", "internal/race.Acquire", "(*internal/sync.Mutex).lockSlow", "internal/sync.runtime_canSpin", "internal/sync.runtime_doSpin", "internal/sync.throw", "internal/sync.runtime_nanotime", "internal/sync.runtime_SemacquireMutex", "sync/atomic.AddInt32", "(*internal/sync.Mutex).Unlock", "internal/race.ReleaseMerge", "(*internal/sync.Mutex).unlockSlow", "internal/sync.fatal", "internal/sync.runtime_Semrelease", "sync/atomic.StoreUint32"], unfollowed := true, recurses := true, apart := false, narrowed := true }
def WalCrashUptoSaid : Prop := walCrashUptoRow.holds Try.pinned (OpenSpec.upto walCrashSpec)

/-- 'kissinggatelaw05.WalSpoilt', WHERE WHAT IT READS IS OF BULK AT MOST 1048576: true; the input reads as it did. -/
def walSpoiltUptoRow : OpenClaim := { program := "ytnognoiaakiepaa", sum := "23ad02d9e09751d5515989a040cfdee868cbb28661f26df3e6bffa212a28bc4b", func := "kissinggate/kissinggatelaw05.WalSpoilt", spec := "walSpoilt", inPlace := ["sync/atomic.LoadUint32", "(*internal/sync.Mutex).Lock", "internal/race.Disable", "sync/atomic.CompareAndSwapInt32", "internal/race.Enable", "internal/race.Acquire", "(*internal/sync.Mutex).lockSlow", "internal/sync.runtime_canSpin", "internal/sync.runtime_doSpin", "internal/sync.throw", "internal/sync.runtime_nanotime", "internal/sync.runtime_SemacquireMutex", "sync/atomic.AddInt32", "(*internal/sync.Mutex).Unlock", "internal/race.ReleaseMerge", "(*internal/sync.Mutex).unlockSlow", "internal/sync.fatal", "internal/sync.runtime_Semrelease", "sync/atomic.StoreUint32"], unfollowed := true, recurses := true, apart := false, narrowed := true }
def WalSpoiltUptoSaid : Prop := walSpoiltUptoRow.holds Try.pinned (OpenSpec.upto walSpoiltSpec)

/-- 'kissinggatelaw18.WireCommands', WHERE WHAT IT READS IS OF BULK AT MOST 1048576: true; the input reads as it did. -/
def wireCommandsUptoRow : OpenClaim := { program := "ytnognoiaakiepaa", sum := "23ad02d9e09751d5515989a040cfdee868cbb28661f26df3e6bffa212a28bc4b", func := "kissinggate/kissinggatelaw18.WireCommands", spec := "wireCommands", inPlace := ["sync/atomic.LoadUint32", "(*internal/sync.Mutex).Lock", "internal/race.Disable", "sync/atomic.CompareAndSwapInt32", "internal/race.Enable", "internal/race.Acquire", "(*internal/sync.Mutex).lockSlow", "internal/sync.runtime_canSpin", "internal/sync.runtime_doSpin", "internal/sync.throw", "internal/sync.runtime_nanotime", "internal/sync.runtime_SemacquireMutex", "sync/atomic.AddInt32", "(*internal/sync.Mutex).Unlock", "internal/race.ReleaseMerge", "(*internal/sync.Mutex).unlockSlow", "internal/sync.fatal", "internal/sync.runtime_Semrelease", "sync/atomic.StoreUint32"], unfollowed := true, recurses := true, apart := false, narrowed := true }
def WireCommandsUptoSaid : Prop := wireCommandsUptoRow.holds Try.pinned (OpenSpec.upto wireCommandsSpec)

/-- 'kissinggatelaw18.WirePackets', WHERE WHAT IT READS IS OF BULK AT MOST 1048576: true; the input reads as it did. -/
def wirePacketsUptoRow : OpenClaim := { program := "ytnognoiaakiepaa", sum := "23ad02d9e09751d5515989a040cfdee868cbb28661f26df3e6bffa212a28bc4b", func := "kissinggate/kissinggatelaw18.WirePackets", spec := "wirePackets", inPlace := ["sync/atomic.LoadUint32", "(*internal/sync.Mutex).Lock", "internal/race.Disable", "sync/atomic.CompareAndSwapInt32", "internal/race.Enable", "internal/race.Acquire", "(*internal/sync.Mutex).lockSlow", "internal/sync.runtime_canSpin", "internal/sync.runtime_doSpin", "internal/sync.throw", "internal/sync.runtime_nanotime", "internal/sync.runtime_SemacquireMutex", "sync/atomic.AddInt32", "(*internal/sync.Mutex).Unlock", "internal/race.ReleaseMerge", "(*internal/sync.Mutex).unlockSlow", "internal/sync.fatal", "internal/sync.runtime_Semrelease", "sync/atomic.StoreUint32"], unfollowed := true, recurses := true, apart := false, narrowed := true }
def WirePacketsUptoSaid : Prop := wirePacketsUptoRow.holds Try.pinned (OpenSpec.upto wirePacketsSpec)

/-- 'kissinggatelaw18.WireReads', WHERE WHAT IT READS IS OF BULK AT MOST 1048576: true; the input reads as it did. -/
def wireReadsUptoRow : OpenClaim := { program := "ytnognoiaakiepaa", sum := "23ad02d9e09751d5515989a040cfdee868cbb28661f26df3e6bffa212a28bc4b", func := "kissinggate/kissinggatelaw18.WireReads", spec := "wireReads", inPlace := ["sync/atomic.LoadUint32", "(*internal/sync.Mutex).Lock", "internal/race.Disable", "sync/atomic.CompareAndSwapInt32", "internal/race.Enable", "internal/race.Acquire", "(*internal/sync.Mutex).lockSlow", "internal/sync.runtime_canSpin", "internal/sync.runtime_doSpin", "internal/sync.throw", "internal/sync.runtime_nanotime", "internal/sync.runtime_SemacquireMutex", "sync/atomic.AddInt32", "(*internal/sync.Mutex).Unlock", "internal/race.ReleaseMerge", "(*internal/sync.Mutex).unlockSlow", "internal/sync.fatal", "internal/sync.runtime_Semrelease", "sync/atomic.StoreUint32"], unfollowed := true, recurses := true, apart := false, narrowed := true }
def WireReadsUptoSaid : Prop := wireReadsUptoRow.holds Try.pinned (OpenSpec.upto wireReadsSpec)

/-- 'kissinggatelaw18.WireMessages', WHERE WHAT IT READS IS OF BULK AT MOST 1048576: true; the input reads as it did. -/
def wireMessagesUptoRow : OpenClaim := { program := "ytnognoiaakiepaa", sum := "23ad02d9e09751d5515989a040cfdee868cbb28661f26df3e6bffa212a28bc4b", func := "kissinggate/kissinggatelaw18.WireMessages", spec := "wireMessages", inPlace := ["sync/atomic.LoadUint32", "(*internal/sync.Mutex).Lock", "internal/race.Disable", "sync/atomic.CompareAndSwapInt32", "internal/race.Enable", "internal/race.Acquire", "(*internal/sync.Mutex).lockSlow", "internal/sync.runtime_canSpin", "internal/sync.runtime_doSpin", "internal/sync.throw", "internal/sync.runtime_nanotime", "internal/sync.runtime_SemacquireMutex", "sync/atomic.AddInt32", "(*internal/sync.Mutex).Unlock", "internal/race.ReleaseMerge", "(*internal/sync.Mutex).unlockSlow", "internal/sync.fatal", "internal/sync.runtime_Semrelease", "sync/atomic.StoreUint32"], unfollowed := true, recurses := true, apart := false, narrowed := true }
def WireMessagesUptoSaid : Prop := wireMessagesUptoRow.holds Try.pinned (OpenSpec.upto wireMessagesSpec)

/-- 'kissinggatelaw33.SlotReads', WHERE WHAT IT READS IS OF BULK AT MOST 1048576: true; the input reads as it did. -/
def slotReadsUptoRow : OpenClaim := { program := "ytnognoiaakiepaa", sum := "23ad02d9e09751d5515989a040cfdee868cbb28661f26df3e6bffa212a28bc4b", func := "kissinggate/kissinggatelaw33.SlotReads", spec := "slotReads", inPlace := ["sync/atomic.LoadUint32", "(*internal/sync.Mutex).Lock", "internal/race.Disable", "sync/atomic.CompareAndSwapInt32", "internal/race.Enable", "internal/race.Acquire", "(*internal/sync.Mutex).lockSlow", "internal/sync.runtime_canSpin", "internal/sync.runtime_doSpin", "internal/sync.throw", "internal/sync.runtime_nanotime", "internal/sync.runtime_SemacquireMutex", "sync/atomic.AddInt32", "(*internal/sync.Mutex).Unlock", "internal/race.ReleaseMerge", "(*internal/sync.Mutex).unlockSlow", "internal/sync.fatal", "internal/sync.runtime_Semrelease", "sync/atomic.StoreUint32"], unfollowed := true, recurses := true, apart := false, narrowed := true }
def SlotReadsUptoSaid : Prop := slotReadsUptoRow.holds Try.pinned (OpenSpec.upto slotReadsSpec)

/-- 'kissinggatelaw33.SlotSpoilt', WHERE WHAT IT READS IS OF BULK AT MOST 1048576: true; the input reads as it did. -/
def slotSpoiltUptoRow : OpenClaim := { program := "ytnognoiaakiepaa", sum := "23ad02d9e09751d5515989a040cfdee868cbb28661f26df3e6bffa212a28bc4b", func := "kissinggate/kissinggatelaw33.SlotSpoilt", spec := "slotSpoilt", inPlace := ["sync/atomic.LoadUint32", "(*internal/sync.Mutex).Lock", "internal/race.Disable", "sync/atomic.CompareAndSwapInt32", "internal/race.Enable", "internal/race.Acquire", "(*internal/sync.Mutex).lockSlow", "internal/sync.runtime_canSpin", "internal/sync.runtime_doSpin", "internal/sync.throw", "internal/sync.runtime_nanotime", "internal/sync.runtime_SemacquireMutex", "sync/atomic.AddInt32", "(*internal/sync.Mutex).Unlock", "internal/race.ReleaseMerge", "(*internal/sync.Mutex).unlockSlow", "internal/sync.fatal", "internal/sync.runtime_Semrelease", "sync/atomic.StoreUint32"], unfollowed := true, recurses := true, apart := false, narrowed := true }
def SlotSpoiltUptoSaid : Prop := slotSpoiltUptoRow.holds Try.pinned (OpenSpec.upto slotSpoiltSpec)

/-- 'kissinggatelaw33.SlotWhole', WHERE WHAT IT READS IS OF BULK AT MOST 1048576: true; the input reads as it did. -/
def slotWholeUptoRow : OpenClaim := { program := "ytnognoiaakiepaa", sum := "23ad02d9e09751d5515989a040cfdee868cbb28661f26df3e6bffa212a28bc4b", func := "kissinggate/kissinggatelaw33.SlotWhole", spec := "slotWhole", inPlace := ["sync/atomic.LoadUint32", "(*internal/sync.Mutex).Lock", "internal/race.Disable", "sync/atomic.CompareAndSwapInt32", "internal/race.Enable", "internal/race.Acquire", "(*internal/sync.Mutex).lockSlow", "internal/sync.runtime_canSpin", "internal/sync.runtime_doSpin", "internal/sync.throw", "internal/sync.runtime_nanotime", "internal/sync.runtime_SemacquireMutex", "sync/atomic.AddInt32", "(*internal/sync.Mutex).Unlock", "internal/race.ReleaseMerge", "(*internal/sync.Mutex).unlockSlow", "internal/sync.fatal", "internal/sync.runtime_Semrelease", "sync/atomic.StoreUint32"], unfollowed := true, recurses := true, apart := false, narrowed := true }
def SlotWholeUptoSaid : Prop := slotWholeUptoRow.holds Try.pinned (OpenSpec.upto slotWholeSpec)

/-- 'kissinggatelaw06.HardRecords', WHERE WHAT IT READS IS OF BULK AT MOST 1048576: true; the input reads as it did. -/
def hardRecordsUptoRow : OpenClaim := { program := "ytnognoiaakiepaa", sum := "23ad02d9e09751d5515989a040cfdee868cbb28661f26df3e6bffa212a28bc4b", func := "kissinggate/kissinggatelaw06.HardRecords", spec := "hardRecords", inPlace := ["sync/atomic.LoadUint32", "(*internal/sync.Mutex).Lock", "internal/race.Disable", "sync/atomic.CompareAndSwapInt32", "internal/race.Enable", "internal/race.Acquire", "(*internal/sync.Mutex).lockSlow", "internal/sync.runtime_canSpin", "internal/sync.runtime_doSpin", "internal/sync.throw", "internal/sync.runtime_nanotime", "internal/sync.runtime_SemacquireMutex", "sync/atomic.AddInt32", "(*internal/sync.Mutex).Unlock", "internal/race.ReleaseMerge", "(*internal/sync.Mutex).unlockSlow", "internal/sync.fatal", "internal/sync.runtime_Semrelease", "sync/atomic.StoreUint32"], unfollowed := true, recurses := true, apart := false, narrowed := true }
def HardRecordsUptoSaid : Prop := hardRecordsUptoRow.holds Try.pinned (OpenSpec.upto hardRecordsSpec)

/-- 'kissinggatelaw06.HardCrash', WHERE WHAT IT READS IS OF BULK AT MOST 1048576: true; the input reads as it did. -/
def hardCrashUptoRow : OpenClaim := { program := "ytnognoiaakiepaa", sum := "23ad02d9e09751d5515989a040cfdee868cbb28661f26df3e6bffa212a28bc4b", func := "kissinggate/kissinggatelaw06.HardCrash", spec := "hardCrash", inPlace := ["sync/atomic.LoadUint32", "(*internal/sync.Mutex).Lock", "internal/race.Disable", "sync/atomic.CompareAndSwapInt32", "internal/race.Enable", "internal/race.Acquire", "(*internal/sync.Mutex).lockSlow", "internal/sync.runtime_canSpin", "internal/sync.runtime_doSpin", "internal/sync.throw", "internal/sync.runtime_nanotime", "internal/sync.runtime_SemacquireMutex", "sync/atomic.AddInt32", "(*internal/sync.Mutex).Unlock", "internal/race.ReleaseMerge", "(*internal/sync.Mutex).unlockSlow", "internal/sync.fatal", "internal/sync.runtime_Semrelease", "sync/atomic.StoreUint32"], unfollowed := true, recurses := true, apart := false, narrowed := true }
def HardCrashUptoSaid : Prop := hardCrashUptoRow.holds Try.pinned (OpenSpec.upto hardCrashSpec)

end Rows
end Go.Proofs.Ytnognoiaakiepaa
