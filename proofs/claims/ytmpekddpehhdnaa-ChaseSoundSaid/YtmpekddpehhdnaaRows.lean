/-
  No cell of these rows narrows 'for every input' (looked for: loops, veiled, ifaces, maps, wideKeys, modest, calm, conditions, laid).
  DERIVED. THE GIVEN ROWS OF THIS SEAT. 12 by the template 'for every input the law returns true; each argument reads behind the call as it read before'; 0 by the template 'total and deterministic' (their statements: YtmpekddpehhdnaaTotals.lean).
  GIVEN WITH THE SEED: the statements are not yours to turn. If you find one false, say at which input.
  Laid BY PROGRAM, IN A SANDBOX (cutbox-rows.mjs): the forced cells as the released guide's own fill.sh prints them over the translation 3f29c4ec63201a79… (all of the seat's roots in one cut). By AI agents, Wed Nov 11 2026. No macro, syntax, notation, axiom, sorry.
-/
import Derived.Test.YtmpekddpehhdnaaChecked
import GoSem.Claim
import GoSem.ClaimJoined
import GoSem.ClaimMapViews
import Derived.JoinedTies
import Derived.KernelRfl
namespace Go.Proofs.Ytmpekddpehhdnaa
/- THE CELL 'sum', in the pinned program and in every row, IS THE sha256 OF THE DUMP (.gsa) THAT YtmpekddpehhdnaaProg.lean LOADS. Nothing in Lean hashes anything: it is a label: what it is worth is what the hold of that sum in a sandbox is worth. -/
noncomputable def Try.pinned : Pinned := { name := "ytmpekddpehhdnaa", sum := "3f29c4ec63201a79fb080442db7dd6cd8a2f069640834953e81f431279dc32ea", checked := Try.checked }
namespace Rows
def none {H : Type} : Left H := { results := [], args := [] }

/-- 'kissinggatelaw14.ChaseOldest': WHATEVER THE INPUT: true; the input reads as it did. -/
def chaseOldestSpec : ChangeSpec := { name := "chaseOldest", fn := fun _ => fun
  | [d1, d2] => { results := [.lit (.bool true)], args := [d1, d2] }
  | _ => none }
def chaseOldestRow : OpenClaim := { program := "ytmpekddpehhdnaa", sum := "3f29c4ec63201a79fb080442db7dd6cd8a2f069640834953e81f431279dc32ea", func := "kissinggate/kissinggatelaw14.ChaseOldest", spec := "chaseOldest", inPlace := ["slices.overlaps[int]"], plainKeys := false, apart := false }
def ChaseOldestSaid : Prop := chaseOldestRow.holds Try.pinned (OpenSpec.ofChange chaseOldestSpec)

/-- ITS FALSE NEIGHBOUR: 'it returns false'. Refute it at one input. -/
def chaseOldestWrong : ChangeSpec := { name := "chaseOldest", fn := fun _ => fun
  | [d1, d2] => { results := [.lit (.bool false)], args := [d1, d2] }
  | _ => none }
def ChaseOldestWrongFalsely : Prop := chaseOldestRow.holds Try.pinned (OpenSpec.ofChange chaseOldestWrong)

/-- 'kissinggatelaw34.TwopcPlays': WHATEVER THE INPUT: true; the input reads as it did. -/
def twopcPlaysSpec : ChangeSpec := { name := "twopcPlays", fn := fun _ => fun
  | [d1, d2] => { results := [.lit (.bool true)], args := [d1, d2] }
  | _ => none }
def twopcPlaysRow : OpenClaim := { program := "ytmpekddpehhdnaa", sum := "3f29c4ec63201a79fb080442db7dd6cd8a2f069640834953e81f431279dc32ea", func := "kissinggate/kissinggatelaw34.TwopcPlays", spec := "twopcPlays", unfollowed := true, recurses := true, plainKeys := false, apart := false }
def TwopcPlaysSaid : Prop := twopcPlaysRow.holds Try.pinned (OpenSpec.ofChange twopcPlaysSpec)

/-- ITS FALSE NEIGHBOUR: 'it returns false'. Refute it at one input. -/
def twopcPlaysWrong : ChangeSpec := { name := "twopcPlays", fn := fun _ => fun
  | [d1, d2] => { results := [.lit (.bool false)], args := [d1, d2] }
  | _ => none }
def TwopcPlaysWrongFalsely : Prop := twopcPlaysRow.holds Try.pinned (OpenSpec.ofChange twopcPlaysWrong)

/-- 'kissinggatelaw34.TwopcAtomic': WHATEVER THE INPUT: true; the input reads as it did. -/
def twopcAtomicSpec : ChangeSpec := { name := "twopcAtomic", fn := fun _ => fun
  | [d1, d2] => { results := [.lit (.bool true)], args := [d1, d2] }
  | _ => none }
def twopcAtomicRow : OpenClaim := { program := "ytmpekddpehhdnaa", sum := "3f29c4ec63201a79fb080442db7dd6cd8a2f069640834953e81f431279dc32ea", func := "kissinggate/kissinggatelaw34.TwopcAtomic", spec := "twopcAtomic", unfollowed := true, recurses := true, plainKeys := false, apart := false }
def TwopcAtomicSaid : Prop := twopcAtomicRow.holds Try.pinned (OpenSpec.ofChange twopcAtomicSpec)

/-- ITS FALSE NEIGHBOUR: 'it returns false'. Refute it at one input. -/
def twopcAtomicWrong : ChangeSpec := { name := "twopcAtomic", fn := fun _ => fun
  | [d1, d2] => { results := [.lit (.bool false)], args := [d1, d2] }
  | _ => none }
def TwopcAtomicWrongFalsely : Prop := twopcAtomicRow.holds Try.pinned (OpenSpec.ofChange twopcAtomicWrong)

/-- 'kissinggatelaw34.TwopcEnds': WHATEVER THE INPUT: true; the input reads as it did. -/
def twopcEndsSpec : ChangeSpec := { name := "twopcEnds", fn := fun _ => fun
  | [d1, d2] => { results := [.lit (.bool true)], args := [d1, d2] }
  | _ => none }
def twopcEndsRow : OpenClaim := { program := "ytmpekddpehhdnaa", sum := "3f29c4ec63201a79fb080442db7dd6cd8a2f069640834953e81f431279dc32ea", func := "kissinggate/kissinggatelaw34.TwopcEnds", spec := "twopcEnds", unfollowed := true, recurses := true, plainKeys := false, apart := false }
def TwopcEndsSaid : Prop := twopcEndsRow.holds Try.pinned (OpenSpec.ofChange twopcEndsSpec)

/-- ITS FALSE NEIGHBOUR: 'it returns false'. Refute it at one input. -/
def twopcEndsWrong : ChangeSpec := { name := "twopcEnds", fn := fun _ => fun
  | [d1, d2] => { results := [.lit (.bool false)], args := [d1, d2] }
  | _ => none }
def TwopcEndsWrongFalsely : Prop := twopcEndsRow.holds Try.pinned (OpenSpec.ofChange twopcEndsWrong)

/-- 'kissinggatelaw34.TwopcWilling': WHATEVER THE INPUT: true; the input reads as it did. -/
def twopcWillingSpec : ChangeSpec := { name := "twopcWilling", fn := fun _ => fun
  | [d1, d2] => { results := [.lit (.bool true)], args := [d1, d2] }
  | _ => none }
def twopcWillingRow : OpenClaim := { program := "ytmpekddpehhdnaa", sum := "3f29c4ec63201a79fb080442db7dd6cd8a2f069640834953e81f431279dc32ea", func := "kissinggate/kissinggatelaw34.TwopcWilling", spec := "twopcWilling", unfollowed := true, recurses := true, plainKeys := false, apart := false }
def TwopcWillingSaid : Prop := twopcWillingRow.holds Try.pinned (OpenSpec.ofChange twopcWillingSpec)

/-- ITS FALSE NEIGHBOUR: 'it returns false'. Refute it at one input. -/
def twopcWillingWrong : ChangeSpec := { name := "twopcWilling", fn := fun _ => fun
  | [d1, d2] => { results := [.lit (.bool false)], args := [d1, d2] }
  | _ => none }
def TwopcWillingWrongFalsely : Prop := twopcWillingRow.holds Try.pinned (OpenSpec.ofChange twopcWillingWrong)

/-- 'kissinggatelaw16.StatusPlays': WHATEVER THE INPUT: true; the input reads as it did. -/
def statusPlaysSpec : ChangeSpec := { name := "statusPlays", fn := fun _ => fun
  | [d] => { results := [.lit (.bool true)], args := [d] }
  | _ => none }
def statusPlaysRow : OpenClaim := { program := "ytmpekddpehhdnaa", sum := "3f29c4ec63201a79fb080442db7dd6cd8a2f069640834953e81f431279dc32ea", func := "kissinggate/kissinggatelaw16.StatusPlays", spec := "statusPlays", inPlace := ["slices.overlaps[kissinggate/api.Row]"], unfollowed := true, recurses := true, plainKeys := false, apart := false }
def StatusPlaysSaid : Prop := statusPlaysRow.holds Try.pinned (OpenSpec.ofChange statusPlaysSpec)

/-- ITS FALSE NEIGHBOUR: 'it returns false'. Refute it at one input. -/
def statusPlaysWrong : ChangeSpec := { name := "statusPlays", fn := fun _ => fun
  | [d] => { results := [.lit (.bool false)], args := [d] }
  | _ => none }
def StatusPlaysWrongFalsely : Prop := statusPlaysRow.holds Try.pinned (OpenSpec.ofChange statusPlaysWrong)

/-- 'kissinggatelaw16.StatusOnce': WHATEVER THE INPUT: true; the input reads as it did. -/
def statusOnceSpec : ChangeSpec := { name := "statusOnce", fn := fun _ => fun
  | [d] => { results := [.lit (.bool true)], args := [d] }
  | _ => none }
def statusOnceRow : OpenClaim := { program := "ytmpekddpehhdnaa", sum := "3f29c4ec63201a79fb080442db7dd6cd8a2f069640834953e81f431279dc32ea", func := "kissinggate/kissinggatelaw16.StatusOnce", spec := "statusOnce", inPlace := ["slices.overlaps[kissinggate/api.Row]"], unfollowed := true, recurses := true, plainKeys := false, apart := false }
def StatusOnceSaid : Prop := statusOnceRow.holds Try.pinned (OpenSpec.ofChange statusOnceSpec)

/-- ITS FALSE NEIGHBOUR: 'it returns false'. Refute it at one input. -/
def statusOnceWrong : ChangeSpec := { name := "statusOnce", fn := fun _ => fun
  | [d] => { results := [.lit (.bool false)], args := [d] }
  | _ => none }
def StatusOnceWrongFalsely : Prop := statusOnceRow.holds Try.pinned (OpenSpec.ofChange statusOnceWrong)

/-- 'kissinggatelaw14.ChasePlays': WHATEVER THE INPUT: true; the input reads as it did. -/
def chasePlaysSpec : ChangeSpec := { name := "chasePlays", fn := fun _ => fun
  | [d1, d2] => { results := [.lit (.bool true)], args := [d1, d2] }
  | _ => none }
def chasePlaysRow : OpenClaim := { program := "ytmpekddpehhdnaa", sum := "3f29c4ec63201a79fb080442db7dd6cd8a2f069640834953e81f431279dc32ea", func := "kissinggate/kissinggatelaw14.ChasePlays", spec := "chasePlays", inPlace := ["slices.overlaps[int]"], plainKeys := false, apart := false }
def ChasePlaysSaid : Prop := chasePlaysRow.holds Try.pinned (OpenSpec.ofChange chasePlaysSpec)

/-- ITS FALSE NEIGHBOUR: 'it returns false'. Refute it at one input. -/
def chasePlaysWrong : ChangeSpec := { name := "chasePlays", fn := fun _ => fun
  | [d1, d2] => { results := [.lit (.bool false)], args := [d1, d2] }
  | _ => none }
def ChasePlaysWrongFalsely : Prop := chasePlaysRow.holds Try.pinned (OpenSpec.ofChange chasePlaysWrong)

/-- 'kissinggatelaw14.ChaseSound': WHATEVER THE INPUT: true; the input reads as it did. -/
def chaseSoundSpec : ChangeSpec := { name := "chaseSound", fn := fun _ => fun
  | [d1, d2] => { results := [.lit (.bool true)], args := [d1, d2] }
  | _ => none }
def chaseSoundRow : OpenClaim := { program := "ytmpekddpehhdnaa", sum := "3f29c4ec63201a79fb080442db7dd6cd8a2f069640834953e81f431279dc32ea", func := "kissinggate/kissinggatelaw14.ChaseSound", spec := "chaseSound", inPlace := ["slices.overlaps[int]"], plainKeys := false, apart := false }
def ChaseSoundSaid : Prop := chaseSoundRow.holds Try.pinned (OpenSpec.ofChange chaseSoundSpec)

/-- ITS FALSE NEIGHBOUR: 'it returns false'. Refute it at one input. -/
def chaseSoundWrong : ChangeSpec := { name := "chaseSound", fn := fun _ => fun
  | [d1, d2] => { results := [.lit (.bool false)], args := [d1, d2] }
  | _ => none }
def ChaseSoundWrongFalsely : Prop := chaseSoundRow.holds Try.pinned (OpenSpec.ofChange chaseSoundWrong)

/-- 'kissinggatelaw14.ChaseAll': WHATEVER THE INPUT: true; the input reads as it did. -/
def chaseAllSpec : ChangeSpec := { name := "chaseAll", fn := fun _ => fun
  | [d1, d2] => { results := [.lit (.bool true)], args := [d1, d2] }
  | _ => none }
def chaseAllRow : OpenClaim := { program := "ytmpekddpehhdnaa", sum := "3f29c4ec63201a79fb080442db7dd6cd8a2f069640834953e81f431279dc32ea", func := "kissinggate/kissinggatelaw14.ChaseAll", spec := "chaseAll", inPlace := ["slices.overlaps[int]"], plainKeys := false, apart := false }
def ChaseAllSaid : Prop := chaseAllRow.holds Try.pinned (OpenSpec.ofChange chaseAllSpec)

/-- ITS FALSE NEIGHBOUR: 'it returns false'. Refute it at one input. -/
def chaseAllWrong : ChangeSpec := { name := "chaseAll", fn := fun _ => fun
  | [d1, d2] => { results := [.lit (.bool false)], args := [d1, d2] }
  | _ => none }
def ChaseAllWrongFalsely : Prop := chaseAllRow.holds Try.pinned (OpenSpec.ofChange chaseAllWrong)

/-- 'kissinggatelaw16.StatusFrom': WHATEVER THE INPUT: true; the input reads as it did. -/
def statusFromSpec : ChangeSpec := { name := "statusFrom", fn := fun _ => fun
  | [d1, d2, d3] => { results := [.lit (.bool true)], args := [d1, d2, d3] }
  | _ => none }
def statusFromRow : OpenClaim := { program := "ytmpekddpehhdnaa", sum := "3f29c4ec63201a79fb080442db7dd6cd8a2f069640834953e81f431279dc32ea", func := "kissinggate/kissinggatelaw16.StatusFrom", spec := "statusFrom", inPlace := ["slices.overlaps[kissinggate/api.Row]"], unfollowed := true, recurses := true, plainKeys := false, apart := false }
def StatusFromSaid : Prop := statusFromRow.holds Try.pinned (OpenSpec.ofChange statusFromSpec)

/-- ITS FALSE NEIGHBOUR: 'it returns false'. Refute it at one input. -/
def statusFromWrong : ChangeSpec := { name := "statusFrom", fn := fun _ => fun
  | [d1, d2, d3] => { results := [.lit (.bool false)], args := [d1, d2, d3] }
  | _ => none }
def StatusFromWrongFalsely : Prop := statusFromRow.holds Try.pinned (OpenSpec.ofChange statusFromWrong)

/-- 'kissinggatelaw16.StatusStamp': WHATEVER THE INPUT: true; the input reads as it did. -/
def statusStampSpec : ChangeSpec := { name := "statusStamp", fn := fun _ => fun
  | [d1, d2, d3] => { results := [.lit (.bool true)], args := [d1, d2, d3] }
  | _ => none }
def statusStampRow : OpenClaim := { program := "ytmpekddpehhdnaa", sum := "3f29c4ec63201a79fb080442db7dd6cd8a2f069640834953e81f431279dc32ea", func := "kissinggate/kissinggatelaw16.StatusStamp", spec := "statusStamp", inPlace := ["slices.overlaps[kissinggate/api.Row]"], unfollowed := true, recurses := true, plainKeys := false, apart := false }
def StatusStampSaid : Prop := statusStampRow.holds Try.pinned (OpenSpec.ofChange statusStampSpec)

/-- ITS FALSE NEIGHBOUR: 'it returns false'. Refute it at one input. -/
def statusStampWrong : ChangeSpec := { name := "statusStamp", fn := fun _ => fun
  | [d1, d2, d3] => { results := [.lit (.bool false)], args := [d1, d2, d3] }
  | _ => none }
def StatusStampWrongFalsely : Prop := statusStampRow.holds Try.pinned (OpenSpec.ofChange statusStampWrong)

/- THE SECOND FORM. 'bulk': how many values and letters a reading holds, each counted each time it is reached (what is shared counts as often as it is met; a slice's spare places count too). A statement '..UptoSaid' is the law's where the arguments, and the package variables that the reading takes, are together of bulk at most 1048576: NARROWER than '..Said'. Prove '..Said' where nothing that the law and all that it calls make is longer than what came in: it says more and counts as full. Else prove '..UptoSaid'. A law counts once. -/
mutual
def uptoBulk {H : Type} : DataW H → Nat
  | .lit (.string bytes) => bytes.length + 1
  | .lit _ => 1
  | .nil => 1
  | .ptr d => uptoBulk d + 1
  | .slice elems spare => uptoBulkAll elems + uptoBulkAll spare + 1
  | .agg parts => uptoBulkAll parts + 1
  | .iface _ d => uptoBulk d + 1
  | .map entries => uptoBulkEntries entries + 1
  | .held _ => 1
def uptoBulkAll {H : Type} : List (DataW H) → Nat
  | [] => 0
  | d :: r => uptoBulk d + uptoBulkAll r
def uptoBulkEntries {H : Type} : List (Lit × DataW H) → Nat
  | [] => 0
  | x :: r => uptoBulkEntry x + uptoBulkEntries r
def uptoBulkEntry {H : Type} : Lit × DataW H → Nat
  | (.string bytes, d) => bytes.length + uptoBulk d + 1
  | (_, d) => uptoBulk d + 1
 end
def uptoSmall : (H : Type) → List (DataW H) → Bool := fun _ ds => decide (uptoBulkAll ds ≤ 1048576)
def OpenSpec.upto (s : _root_.Go.ChangeSpec) : _root_.Go.OpenSpec := { _root_.Go.OpenSpec.ofChange s with cond := some uptoSmall }

/-- 'kissinggatelaw14.ChaseOldest', WHERE WHAT IT READS IS OF BULK AT MOST 1048576: true; the input reads as it did. -/
def chaseOldestUptoRow : OpenClaim := { program := "ytmpekddpehhdnaa", sum := "3f29c4ec63201a79fb080442db7dd6cd8a2f069640834953e81f431279dc32ea", func := "kissinggate/kissinggatelaw14.ChaseOldest", spec := "chaseOldest", inPlace := ["slices.overlaps[int]"], plainKeys := false, apart := false, narrowed := true }
def ChaseOldestUptoSaid : Prop := chaseOldestUptoRow.holds Try.pinned (OpenSpec.upto chaseOldestSpec)

/-- 'kissinggatelaw34.TwopcPlays', WHERE WHAT IT READS IS OF BULK AT MOST 1048576: true; the input reads as it did. -/
def twopcPlaysUptoRow : OpenClaim := { program := "ytmpekddpehhdnaa", sum := "3f29c4ec63201a79fb080442db7dd6cd8a2f069640834953e81f431279dc32ea", func := "kissinggate/kissinggatelaw34.TwopcPlays", spec := "twopcPlays", unfollowed := true, recurses := true, plainKeys := false, apart := false, narrowed := true }
def TwopcPlaysUptoSaid : Prop := twopcPlaysUptoRow.holds Try.pinned (OpenSpec.upto twopcPlaysSpec)

/-- 'kissinggatelaw34.TwopcAtomic', WHERE WHAT IT READS IS OF BULK AT MOST 1048576: true; the input reads as it did. -/
def twopcAtomicUptoRow : OpenClaim := { program := "ytmpekddpehhdnaa", sum := "3f29c4ec63201a79fb080442db7dd6cd8a2f069640834953e81f431279dc32ea", func := "kissinggate/kissinggatelaw34.TwopcAtomic", spec := "twopcAtomic", unfollowed := true, recurses := true, plainKeys := false, apart := false, narrowed := true }
def TwopcAtomicUptoSaid : Prop := twopcAtomicUptoRow.holds Try.pinned (OpenSpec.upto twopcAtomicSpec)

/-- 'kissinggatelaw34.TwopcEnds', WHERE WHAT IT READS IS OF BULK AT MOST 1048576: true; the input reads as it did. -/
def twopcEndsUptoRow : OpenClaim := { program := "ytmpekddpehhdnaa", sum := "3f29c4ec63201a79fb080442db7dd6cd8a2f069640834953e81f431279dc32ea", func := "kissinggate/kissinggatelaw34.TwopcEnds", spec := "twopcEnds", unfollowed := true, recurses := true, plainKeys := false, apart := false, narrowed := true }
def TwopcEndsUptoSaid : Prop := twopcEndsUptoRow.holds Try.pinned (OpenSpec.upto twopcEndsSpec)

/-- 'kissinggatelaw34.TwopcWilling', WHERE WHAT IT READS IS OF BULK AT MOST 1048576: true; the input reads as it did. -/
def twopcWillingUptoRow : OpenClaim := { program := "ytmpekddpehhdnaa", sum := "3f29c4ec63201a79fb080442db7dd6cd8a2f069640834953e81f431279dc32ea", func := "kissinggate/kissinggatelaw34.TwopcWilling", spec := "twopcWilling", unfollowed := true, recurses := true, plainKeys := false, apart := false, narrowed := true }
def TwopcWillingUptoSaid : Prop := twopcWillingUptoRow.holds Try.pinned (OpenSpec.upto twopcWillingSpec)

/-- 'kissinggatelaw16.StatusPlays', WHERE WHAT IT READS IS OF BULK AT MOST 1048576: true; the input reads as it did. -/
def statusPlaysUptoRow : OpenClaim := { program := "ytmpekddpehhdnaa", sum := "3f29c4ec63201a79fb080442db7dd6cd8a2f069640834953e81f431279dc32ea", func := "kissinggate/kissinggatelaw16.StatusPlays", spec := "statusPlays", inPlace := ["slices.overlaps[kissinggate/api.Row]"], unfollowed := true, recurses := true, plainKeys := false, apart := false, narrowed := true }
def StatusPlaysUptoSaid : Prop := statusPlaysUptoRow.holds Try.pinned (OpenSpec.upto statusPlaysSpec)

/-- 'kissinggatelaw16.StatusOnce', WHERE WHAT IT READS IS OF BULK AT MOST 1048576: true; the input reads as it did. -/
def statusOnceUptoRow : OpenClaim := { program := "ytmpekddpehhdnaa", sum := "3f29c4ec63201a79fb080442db7dd6cd8a2f069640834953e81f431279dc32ea", func := "kissinggate/kissinggatelaw16.StatusOnce", spec := "statusOnce", inPlace := ["slices.overlaps[kissinggate/api.Row]"], unfollowed := true, recurses := true, plainKeys := false, apart := false, narrowed := true }
def StatusOnceUptoSaid : Prop := statusOnceUptoRow.holds Try.pinned (OpenSpec.upto statusOnceSpec)

/-- 'kissinggatelaw14.ChasePlays', WHERE WHAT IT READS IS OF BULK AT MOST 1048576: true; the input reads as it did. -/
def chasePlaysUptoRow : OpenClaim := { program := "ytmpekddpehhdnaa", sum := "3f29c4ec63201a79fb080442db7dd6cd8a2f069640834953e81f431279dc32ea", func := "kissinggate/kissinggatelaw14.ChasePlays", spec := "chasePlays", inPlace := ["slices.overlaps[int]"], plainKeys := false, apart := false, narrowed := true }
def ChasePlaysUptoSaid : Prop := chasePlaysUptoRow.holds Try.pinned (OpenSpec.upto chasePlaysSpec)

/-- 'kissinggatelaw14.ChaseSound', WHERE WHAT IT READS IS OF BULK AT MOST 1048576: true; the input reads as it did. -/
def chaseSoundUptoRow : OpenClaim := { program := "ytmpekddpehhdnaa", sum := "3f29c4ec63201a79fb080442db7dd6cd8a2f069640834953e81f431279dc32ea", func := "kissinggate/kissinggatelaw14.ChaseSound", spec := "chaseSound", inPlace := ["slices.overlaps[int]"], plainKeys := false, apart := false, narrowed := true }
def ChaseSoundUptoSaid : Prop := chaseSoundUptoRow.holds Try.pinned (OpenSpec.upto chaseSoundSpec)

/-- 'kissinggatelaw14.ChaseAll', WHERE WHAT IT READS IS OF BULK AT MOST 1048576: true; the input reads as it did. -/
def chaseAllUptoRow : OpenClaim := { program := "ytmpekddpehhdnaa", sum := "3f29c4ec63201a79fb080442db7dd6cd8a2f069640834953e81f431279dc32ea", func := "kissinggate/kissinggatelaw14.ChaseAll", spec := "chaseAll", inPlace := ["slices.overlaps[int]"], plainKeys := false, apart := false, narrowed := true }
def ChaseAllUptoSaid : Prop := chaseAllUptoRow.holds Try.pinned (OpenSpec.upto chaseAllSpec)

/-- 'kissinggatelaw16.StatusFrom', WHERE WHAT IT READS IS OF BULK AT MOST 1048576: true; the input reads as it did. -/
def statusFromUptoRow : OpenClaim := { program := "ytmpekddpehhdnaa", sum := "3f29c4ec63201a79fb080442db7dd6cd8a2f069640834953e81f431279dc32ea", func := "kissinggate/kissinggatelaw16.StatusFrom", spec := "statusFrom", inPlace := ["slices.overlaps[kissinggate/api.Row]"], unfollowed := true, recurses := true, plainKeys := false, apart := false, narrowed := true }
def StatusFromUptoSaid : Prop := statusFromUptoRow.holds Try.pinned (OpenSpec.upto statusFromSpec)

/-- 'kissinggatelaw16.StatusStamp', WHERE WHAT IT READS IS OF BULK AT MOST 1048576: true; the input reads as it did. -/
def statusStampUptoRow : OpenClaim := { program := "ytmpekddpehhdnaa", sum := "3f29c4ec63201a79fb080442db7dd6cd8a2f069640834953e81f431279dc32ea", func := "kissinggate/kissinggatelaw16.StatusStamp", spec := "statusStamp", inPlace := ["slices.overlaps[kissinggate/api.Row]"], unfollowed := true, recurses := true, plainKeys := false, apart := false, narrowed := true }
def StatusStampUptoSaid : Prop := statusStampUptoRow.holds Try.pinned (OpenSpec.upto statusStampSpec)

end Rows
end Go.Proofs.Ytmpekddpehhdnaa
