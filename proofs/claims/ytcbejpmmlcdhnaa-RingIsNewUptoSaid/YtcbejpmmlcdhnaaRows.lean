/-
  No cell of these rows narrows 'for every input' (looked for: loops, veiled, ifaces, maps, wideKeys, modest, calm, conditions, laid).
  DERIVED. THE GIVEN ROWS OF THIS SEAT. 7 by the template 'for every input the law returns true; each argument reads behind the call as it read before'; 0 by the template 'total and deterministic' (their statements: YtcbejpmmlcdhnaaTotals.lean).
  GIVEN WITH THE SEED: the statements are not yours to turn. If you find one false, say at which input.
  Laid BY PROGRAM, IN A SANDBOX (cutbox-rows.mjs): the forced cells as the released guide's own fill.sh prints them over the translation df91bc0fa62462a2… (all of the seat's roots in one cut). By AI agents, Wed Nov 11 2026. No macro, syntax, notation, axiom, sorry.
-/
import Derived.Test.YtcbejpmmlcdhnaaChecked
import GoSem.Claim
import GoSem.ClaimJoined
import GoSem.ClaimMapViews
import Derived.JoinedTies
import Derived.KernelRfl
namespace Go.Proofs.Ytcbejpmmlcdhnaa
/- THE CELL 'sum', in the pinned program and in every row, IS THE sha256 OF THE DUMP (.gsa) THAT YtcbejpmmlcdhnaaProg.lean LOADS. Nothing in Lean hashes anything: it is a label: what it is worth is what the hold of that sum in a sandbox is worth. -/
noncomputable def Try.pinned : Pinned := { name := "ytcbejpmmlcdhnaa", sum := "df91bc0fa62462a2416f9b370b6dbf0f88c3c2817ae9913a037912d659c4717b", checked := Try.checked }
namespace Rows
def none {H : Type} : Left H := { results := [], args := [] }

/-- 'heraldlaw6.RingMayStop': WHATEVER THE INPUT: true; the input reads as it did. -/
def ringMayStopSpec : ChangeSpec := { name := "ringMayStop", fn := fun _ => fun
  | [d1, d2, d3] => { results := [.lit (.bool true)], args := [d1, d2, d3] }
  | _ => none }
def ringMayStopRow : OpenClaim := { program := "ytcbejpmmlcdhnaa", sum := "df91bc0fa62462a2416f9b370b6dbf0f88c3c2817ae9913a037912d659c4717b", func := "herald/heraldlaw6.RingMayStop", spec := "ringMayStop", unfollowed := true, recurses := true, apart := false }
def RingMayStopSaid : Prop := ringMayStopRow.holds Try.pinned (OpenSpec.ofChange ringMayStopSpec)

/-- ITS FALSE NEIGHBOUR: 'it returns false'. Refute it at one input. -/
def ringMayStopWrong : ChangeSpec := { name := "ringMayStop", fn := fun _ => fun
  | [d1, d2, d3] => { results := [.lit (.bool false)], args := [d1, d2, d3] }
  | _ => none }
def RingMayStopWrongFalsely : Prop := ringMayStopRow.holds Try.pinned (OpenSpec.ofChange ringMayStopWrong)

/-- 'heraldlaw6.RingHolds': WHATEVER THE INPUT: true; the input reads as it did. -/
def ringHoldsSpec : ChangeSpec := { name := "ringHolds", fn := fun _ => fun
  | [d1, d2, d3, d4] => { results := [.lit (.bool true)], args := [d1, d2, d3, d4] }
  | _ => none }
def ringHoldsRow : OpenClaim := { program := "ytcbejpmmlcdhnaa", sum := "df91bc0fa62462a2416f9b370b6dbf0f88c3c2817ae9913a037912d659c4717b", func := "herald/heraldlaw6.RingHolds", spec := "ringHolds", unfollowed := true, recurses := true, apart := false }
def RingHoldsSaid : Prop := ringHoldsRow.holds Try.pinned (OpenSpec.ofChange ringHoldsSpec)

/-- ITS FALSE NEIGHBOUR: 'it returns false'. Refute it at one input. -/
def ringHoldsWrong : ChangeSpec := { name := "ringHolds", fn := fun _ => fun
  | [d1, d2, d3, d4] => { results := [.lit (.bool false)], args := [d1, d2, d3, d4] }
  | _ => none }
def RingHoldsWrongFalsely : Prop := ringHoldsRow.holds Try.pinned (OpenSpec.ofChange ringHoldsWrong)

/-- 'heraldlaw6.RingTwoRooms': WHATEVER THE INPUT: true; the input reads as it did. -/
def ringTwoRoomsSpec : ChangeSpec := { name := "ringTwoRooms", fn := fun _ => fun
  | [d1, d2, d3, d4, d5] => { results := [.lit (.bool true)], args := [d1, d2, d3, d4, d5] }
  | _ => none }
def ringTwoRoomsRow : OpenClaim := { program := "ytcbejpmmlcdhnaa", sum := "df91bc0fa62462a2416f9b370b6dbf0f88c3c2817ae9913a037912d659c4717b", func := "herald/heraldlaw6.RingTwoRooms", spec := "ringTwoRooms", unfollowed := true, recurses := true, apart := false }
def RingTwoRoomsSaid : Prop := ringTwoRoomsRow.holds Try.pinned (OpenSpec.ofChange ringTwoRoomsSpec)

/-- ITS FALSE NEIGHBOUR: 'it returns false'. Refute it at one input. -/
def ringTwoRoomsWrong : ChangeSpec := { name := "ringTwoRooms", fn := fun _ => fun
  | [d1, d2, d3, d4, d5] => { results := [.lit (.bool false)], args := [d1, d2, d3, d4, d5] }
  | _ => none }
def RingTwoRoomsWrongFalsely : Prop := ringTwoRoomsRow.holds Try.pinned (OpenSpec.ofChange ringTwoRoomsWrong)

/-- 'heraldlaw6.RingTells': WHATEVER THE INPUT: true; the input reads as it did. -/
def ringTellsSpec : ChangeSpec := { name := "ringTells", fn := fun _ => fun
  | [d1, d2, d3, d4] => { results := [.lit (.bool true)], args := [d1, d2, d3, d4] }
  | _ => none }
def ringTellsRow : OpenClaim := { program := "ytcbejpmmlcdhnaa", sum := "df91bc0fa62462a2416f9b370b6dbf0f88c3c2817ae9913a037912d659c4717b", func := "herald/heraldlaw6.RingTells", spec := "ringTells", unfollowed := true, recurses := true, apart := false }
def RingTellsSaid : Prop := ringTellsRow.holds Try.pinned (OpenSpec.ofChange ringTellsSpec)

/-- ITS FALSE NEIGHBOUR: 'it returns false'. Refute it at one input. -/
def ringTellsWrong : ChangeSpec := { name := "ringTells", fn := fun _ => fun
  | [d1, d2, d3, d4] => { results := [.lit (.bool false)], args := [d1, d2, d3, d4] }
  | _ => none }
def RingTellsWrongFalsely : Prop := ringTellsRow.holds Try.pinned (OpenSpec.ofChange ringTellsWrong)

/-- 'heraldlaw6.RingPlays': WHATEVER THE INPUT: true; the input reads as it did. -/
def ringPlaysSpec : ChangeSpec := { name := "ringPlays", fn := fun _ => fun
  | [d1, d2, d3, d4] => { results := [.lit (.bool true)], args := [d1, d2, d3, d4] }
  | _ => none }
def ringPlaysRow : OpenClaim := { program := "ytcbejpmmlcdhnaa", sum := "df91bc0fa62462a2416f9b370b6dbf0f88c3c2817ae9913a037912d659c4717b", func := "herald/heraldlaw6.RingPlays", spec := "ringPlays", unfollowed := true, recurses := true, apart := false }
def RingPlaysSaid : Prop := ringPlaysRow.holds Try.pinned (OpenSpec.ofChange ringPlaysSpec)

/-- ITS FALSE NEIGHBOUR: 'it returns false'. Refute it at one input. -/
def ringPlaysWrong : ChangeSpec := { name := "ringPlays", fn := fun _ => fun
  | [d1, d2, d3, d4] => { results := [.lit (.bool false)], args := [d1, d2, d3, d4] }
  | _ => none }
def RingPlaysWrongFalsely : Prop := ringPlaysRow.holds Try.pinned (OpenSpec.ofChange ringPlaysWrong)

/-- 'heraldlaw6.RingOfNothing': WHATEVER THE INPUT: true; the input reads as it did. -/
def ringOfNothingSpec : ChangeSpec := { name := "ringOfNothing", fn := fun _ => fun
  | [d] => { results := [.lit (.bool true)], args := [d] }
  | _ => none }
def ringOfNothingRow : OpenClaim := { program := "ytcbejpmmlcdhnaa", sum := "df91bc0fa62462a2416f9b370b6dbf0f88c3c2817ae9913a037912d659c4717b", func := "herald/heraldlaw6.RingOfNothing", spec := "ringOfNothing", unfollowed := true, recurses := true, apart := false }
def RingOfNothingSaid : Prop := ringOfNothingRow.holds Try.pinned (OpenSpec.ofChange ringOfNothingSpec)

/-- ITS FALSE NEIGHBOUR: 'it returns false'. Refute it at one input. -/
def ringOfNothingWrong : ChangeSpec := { name := "ringOfNothing", fn := fun _ => fun
  | [d] => { results := [.lit (.bool false)], args := [d] }
  | _ => none }
def RingOfNothingWrongFalsely : Prop := ringOfNothingRow.holds Try.pinned (OpenSpec.ofChange ringOfNothingWrong)

/-- 'heraldlaw6.RingIsNew': WHATEVER THE INPUT: true; the input reads as it did. -/
def ringIsNewSpec : ChangeSpec := { name := "ringIsNew", fn := fun _ => fun
  | [d1, d2, d3] => { results := [.lit (.bool true)], args := [d1, d2, d3] }
  | _ => none }
def ringIsNewRow : OpenClaim := { program := "ytcbejpmmlcdhnaa", sum := "df91bc0fa62462a2416f9b370b6dbf0f88c3c2817ae9913a037912d659c4717b", func := "herald/heraldlaw6.RingIsNew", spec := "ringIsNew", unfollowed := true, recurses := true, apart := false }
def RingIsNewSaid : Prop := ringIsNewRow.holds Try.pinned (OpenSpec.ofChange ringIsNewSpec)

/-- ITS FALSE NEIGHBOUR: 'it returns false'. Refute it at one input. -/
def ringIsNewWrong : ChangeSpec := { name := "ringIsNew", fn := fun _ => fun
  | [d1, d2, d3] => { results := [.lit (.bool false)], args := [d1, d2, d3] }
  | _ => none }
def RingIsNewWrongFalsely : Prop := ringIsNewRow.holds Try.pinned (OpenSpec.ofChange ringIsNewWrong)

/- THE SECOND FORM. 'bulk': how many values and letters a reading holds, each counted each time it is reached (what is shared counts as often as it is met; a slice's spare places count too). A statement '..UptoSaid' is the law's where the arguments, and the package variables that the reading takes, are together of bulk at most 1048576: NARROWER than '..Said'. Prove '..Said' where nothing that the law and all that it calls make is longer than what came in: it says more and counts as full. Else prove '..UptoSaid'. A law counts once. -/
mutual
def uptoBulk {H : Type} : DataW H → Nat
  | .lit (.string bytes) => bytes.length + 1
  | .lit _ => 1
  | .nil => 1
  | .ptr d => uptoBulk d + 1
  | .slice elems spare => uptoBulkAll elems + uptoBulkAll spare + 1
  | .agg parts => uptoBulkAll parts + 1
  | .iface _ d => uptoBulk d + 1
  | .map entries => uptoBulkEntries entries + 1
  | .held _ => 1
def uptoBulkAll {H : Type} : List (DataW H) → Nat
  | [] => 0
  | d :: r => uptoBulk d + uptoBulkAll r
def uptoBulkEntries {H : Type} : List (Lit × DataW H) → Nat
  | [] => 0
  | x :: r => uptoBulkEntry x + uptoBulkEntries r
def uptoBulkEntry {H : Type} : Lit × DataW H → Nat
  | (.string bytes, d) => bytes.length + uptoBulk d + 1
  | (_, d) => uptoBulk d + 1
 end
def uptoSmall : (H : Type) → List (DataW H) → Bool := fun _ ds => decide (uptoBulkAll ds ≤ 1048576)
def OpenSpec.upto (s : _root_.Go.ChangeSpec) : _root_.Go.OpenSpec := { _root_.Go.OpenSpec.ofChange s with cond := some uptoSmall }

/-- 'heraldlaw6.RingMayStop', WHERE WHAT IT READS IS OF BULK AT MOST 1048576: true; the input reads as it did. -/
def ringMayStopUptoRow : OpenClaim := { program := "ytcbejpmmlcdhnaa", sum := "df91bc0fa62462a2416f9b370b6dbf0f88c3c2817ae9913a037912d659c4717b", func := "herald/heraldlaw6.RingMayStop", spec := "ringMayStop", unfollowed := true, recurses := true, apart := false, narrowed := true }
def RingMayStopUptoSaid : Prop := ringMayStopUptoRow.holds Try.pinned (OpenSpec.upto ringMayStopSpec)

/-- 'heraldlaw6.RingHolds', WHERE WHAT IT READS IS OF BULK AT MOST 1048576: true; the input reads as it did. -/
def ringHoldsUptoRow : OpenClaim := { program := "ytcbejpmmlcdhnaa", sum := "df91bc0fa62462a2416f9b370b6dbf0f88c3c2817ae9913a037912d659c4717b", func := "herald/heraldlaw6.RingHolds", spec := "ringHolds", unfollowed := true, recurses := true, apart := false, narrowed := true }
def RingHoldsUptoSaid : Prop := ringHoldsUptoRow.holds Try.pinned (OpenSpec.upto ringHoldsSpec)

/-- 'heraldlaw6.RingTwoRooms', WHERE WHAT IT READS IS OF BULK AT MOST 1048576: true; the input reads as it did. -/
def ringTwoRoomsUptoRow : OpenClaim := { program := "ytcbejpmmlcdhnaa", sum := "df91bc0fa62462a2416f9b370b6dbf0f88c3c2817ae9913a037912d659c4717b", func := "herald/heraldlaw6.RingTwoRooms", spec := "ringTwoRooms", unfollowed := true, recurses := true, apart := false, narrowed := true }
def RingTwoRoomsUptoSaid : Prop := ringTwoRoomsUptoRow.holds Try.pinned (OpenSpec.upto ringTwoRoomsSpec)

/-- 'heraldlaw6.RingTells', WHERE WHAT IT READS IS OF BULK AT MOST 1048576: true; the input reads as it did. -/
def ringTellsUptoRow : OpenClaim := { program := "ytcbejpmmlcdhnaa", sum := "df91bc0fa62462a2416f9b370b6dbf0f88c3c2817ae9913a037912d659c4717b", func := "herald/heraldlaw6.RingTells", spec := "ringTells", unfollowed := true, recurses := true, apart := false, narrowed := true }
def RingTellsUptoSaid : Prop := ringTellsUptoRow.holds Try.pinned (OpenSpec.upto ringTellsSpec)

/-- 'heraldlaw6.RingPlays', WHERE WHAT IT READS IS OF BULK AT MOST 1048576: true; the input reads as it did. -/
def ringPlaysUptoRow : OpenClaim := { program := "ytcbejpmmlcdhnaa", sum := "df91bc0fa62462a2416f9b370b6dbf0f88c3c2817ae9913a037912d659c4717b", func := "herald/heraldlaw6.RingPlays", spec := "ringPlays", unfollowed := true, recurses := true, apart := false, narrowed := true }
def RingPlaysUptoSaid : Prop := ringPlaysUptoRow.holds Try.pinned (OpenSpec.upto ringPlaysSpec)

/-- 'heraldlaw6.RingOfNothing', WHERE WHAT IT READS IS OF BULK AT MOST 1048576: true; the input reads as it did. -/
def ringOfNothingUptoRow : OpenClaim := { program := "ytcbejpmmlcdhnaa", sum := "df91bc0fa62462a2416f9b370b6dbf0f88c3c2817ae9913a037912d659c4717b", func := "herald/heraldlaw6.RingOfNothing", spec := "ringOfNothing", unfollowed := true, recurses := true, apart := false, narrowed := true }
def RingOfNothingUptoSaid : Prop := ringOfNothingUptoRow.holds Try.pinned (OpenSpec.upto ringOfNothingSpec)

/-- 'heraldlaw6.RingIsNew', WHERE WHAT IT READS IS OF BULK AT MOST 1048576: true; the input reads as it did. -/
def ringIsNewUptoRow : OpenClaim := { program := "ytcbejpmmlcdhnaa", sum := "df91bc0fa62462a2416f9b370b6dbf0f88c3c2817ae9913a037912d659c4717b", func := "herald/heraldlaw6.RingIsNew", spec := "ringIsNew", unfollowed := true, recurses := true, apart := false, narrowed := true }
def RingIsNewUptoSaid : Prop := ringIsNewUptoRow.holds Try.pinned (OpenSpec.upto ringIsNewSpec)

end Rows
end Go.Proofs.Ytcbejpmmlcdhnaa
