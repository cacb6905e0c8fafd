/-
  No cell of these rows narrows 'for every input' (looked for: loops, veiled, ifaces, maps, wideKeys, modest, calm, conditions, laid).
  DERIVED. THE GIVEN ROWS OF THIS SEAT. 7 by the template 'for every input the law returns true; each argument reads behind the call as it read before'; 0 by the template 'total and deterministic' (their statements: YtdbniihjkiecbaaTotals.lean).
  GIVEN WITH THE SEED: the statements are not yours to turn. If you find one false, say at which input.
  Laid BY PROGRAM, IN A SANDBOX (cutbox-rows.mjs): the forced cells as the released guide's own fill.sh prints them over the translation 3e73018f5c51484e… (all of the seat's roots in one cut). By AI agents, Wed Nov 11 2026. No macro, syntax, notation, axiom, sorry.
-/
import Derived.Test.YtdbniihjkiecbaaChecked
import GoSem.Claim
import GoSem.ClaimJoined
import GoSem.ClaimMapViews
import Derived.JoinedTies
import Derived.KernelRfl
namespace Go.Proofs.Ytdbniihjkiecbaa
/- THE CELL 'sum', in the pinned program and in every row, IS THE sha256 OF THE DUMP (.gsa) THAT YtdbniihjkiecbaaProg.lean LOADS. Nothing in Lean hashes anything: it is a label: what it is worth is what the hold of that sum in a sandbox is worth. -/
noncomputable def Try.pinned : Pinned := { name := "ytdbniihjkiecbaa", sum := "3e73018f5c51484e0ecaf1915215e80cc21fec6bedc49c3a1f78cebc8abdcdb6", checked := Try.checked }
namespace Rows
def none {H : Type} : Left H := { results := [], args := [] }

/-- 'heraldlaw7.JournalEncodes': WHATEVER THE INPUT: true; the input reads as it did. -/
def journalEncodesSpec : ChangeSpec := { name := "journalEncodes", fn := fun _ => fun
  | [d1, d2] => { results := [.lit (.bool true)], args := [d1, d2] }
  | _ => none }
def journalEncodesRow : OpenClaim := { program := "ytdbniihjkiecbaa", sum := "3e73018f5c51484e0ecaf1915215e80cc21fec6bedc49c3a1f78cebc8abdcdb6", func := "herald/heraldlaw7.JournalEncodes", spec := "journalEncodes", unfollowed := true, recurses := true, apart := false }
def JournalEncodesSaid : Prop := journalEncodesRow.holds Try.pinned (OpenSpec.ofChange journalEncodesSpec)

/-- ITS FALSE NEIGHBOUR: 'it returns false'. Refute it at one input. -/
def journalEncodesWrong : ChangeSpec := { name := "journalEncodes", fn := fun _ => fun
  | [d1, d2] => { results := [.lit (.bool false)], args := [d1, d2] }
  | _ => none }
def JournalEncodesWrongFalsely : Prop := journalEncodesRow.holds Try.pinned (OpenSpec.ofChange journalEncodesWrong)

/-- 'heraldlaw7.JournalBack': WHATEVER THE INPUT: true; the input reads as it did. -/
def journalBackSpec : ChangeSpec := { name := "journalBack", fn := fun _ => fun
  | [d1, d2] => { results := [.lit (.bool true)], args := [d1, d2] }
  | _ => none }
def journalBackRow : OpenClaim := { program := "ytdbniihjkiecbaa", sum := "3e73018f5c51484e0ecaf1915215e80cc21fec6bedc49c3a1f78cebc8abdcdb6", func := "herald/heraldlaw7.JournalBack", spec := "journalBack", unfollowed := true, recurses := true, apart := false }
def JournalBackSaid : Prop := journalBackRow.holds Try.pinned (OpenSpec.ofChange journalBackSpec)

/-- ITS FALSE NEIGHBOUR: 'it returns false'. Refute it at one input. -/
def journalBackWrong : ChangeSpec := { name := "journalBack", fn := fun _ => fun
  | [d1, d2] => { results := [.lit (.bool false)], args := [d1, d2] }
  | _ => none }
def JournalBackWrongFalsely : Prop := journalBackRow.holds Try.pinned (OpenSpec.ofChange journalBackWrong)

/-- 'heraldlaw7.JournalTorn': WHATEVER THE INPUT: true; the input reads as it did. -/
def journalTornSpec : ChangeSpec := { name := "journalTorn", fn := fun _ => fun
  | [d1, d2] => { results := [.lit (.bool true)], args := [d1, d2] }
  | _ => none }
def journalTornRow : OpenClaim := { program := "ytdbniihjkiecbaa", sum := "3e73018f5c51484e0ecaf1915215e80cc21fec6bedc49c3a1f78cebc8abdcdb6", func := "herald/heraldlaw7.JournalTorn", spec := "journalTorn", unfollowed := true, recurses := true, apart := false }
def JournalTornSaid : Prop := journalTornRow.holds Try.pinned (OpenSpec.ofChange journalTornSpec)

/-- ITS FALSE NEIGHBOUR: 'it returns false'. Refute it at one input. -/
def journalTornWrong : ChangeSpec := { name := "journalTorn", fn := fun _ => fun
  | [d1, d2] => { results := [.lit (.bool false)], args := [d1, d2] }
  | _ => none }
def JournalTornWrongFalsely : Prop := journalTornRow.holds Try.pinned (OpenSpec.ofChange journalTornWrong)

/-- 'heraldlaw7.JournalSpoilt': WHATEVER THE INPUT: true; the input reads as it did. -/
def journalSpoiltSpec : ChangeSpec := { name := "journalSpoilt", fn := fun _ => fun
  | [d1, d2, d3] => { results := [.lit (.bool true)], args := [d1, d2, d3] }
  | _ => none }
def journalSpoiltRow : OpenClaim := { program := "ytdbniihjkiecbaa", sum := "3e73018f5c51484e0ecaf1915215e80cc21fec6bedc49c3a1f78cebc8abdcdb6", func := "herald/heraldlaw7.JournalSpoilt", spec := "journalSpoilt", unfollowed := true, recurses := true, apart := false }
def JournalSpoiltSaid : Prop := journalSpoiltRow.holds Try.pinned (OpenSpec.ofChange journalSpoiltSpec)

/-- ITS FALSE NEIGHBOUR: 'it returns false'. Refute it at one input. -/
def journalSpoiltWrong : ChangeSpec := { name := "journalSpoilt", fn := fun _ => fun
  | [d1, d2, d3] => { results := [.lit (.bool false)], args := [d1, d2, d3] }
  | _ => none }
def JournalSpoiltWrongFalsely : Prop := journalSpoiltRow.holds Try.pinned (OpenSpec.ofChange journalSpoiltWrong)

/-- 'heraldlaw7.JournalShort': WHATEVER THE INPUT: true; the input reads as it did. -/
def journalShortSpec : ChangeSpec := { name := "journalShort", fn := fun _ => fun
  | [d] => { results := [.lit (.bool true)], args := [d] }
  | _ => none }
def journalShortRow : OpenClaim := { program := "ytdbniihjkiecbaa", sum := "3e73018f5c51484e0ecaf1915215e80cc21fec6bedc49c3a1f78cebc8abdcdb6", func := "herald/heraldlaw7.JournalShort", spec := "journalShort", unfollowed := true, recurses := true, apart := false }
def JournalShortSaid : Prop := journalShortRow.holds Try.pinned (OpenSpec.ofChange journalShortSpec)

/-- ITS FALSE NEIGHBOUR: 'it returns false'. Refute it at one input. -/
def journalShortWrong : ChangeSpec := { name := "journalShort", fn := fun _ => fun
  | [d] => { results := [.lit (.bool false)], args := [d] }
  | _ => none }
def JournalShortWrongFalsely : Prop := journalShortRow.holds Try.pinned (OpenSpec.ofChange journalShortWrong)

/-- 'heraldlaw7.JournalGoes': WHATEVER THE INPUT: true; the input reads as it did. -/
def journalGoesSpec : ChangeSpec := { name := "journalGoes", fn := fun _ => fun
  | [d1, d2] => { results := [.lit (.bool true)], args := [d1, d2] }
  | _ => none }
def journalGoesRow : OpenClaim := { program := "ytdbniihjkiecbaa", sum := "3e73018f5c51484e0ecaf1915215e80cc21fec6bedc49c3a1f78cebc8abdcdb6", func := "herald/heraldlaw7.JournalGoes", spec := "journalGoes", unfollowed := true, recurses := true, apart := false }
def JournalGoesSaid : Prop := journalGoesRow.holds Try.pinned (OpenSpec.ofChange journalGoesSpec)

/-- ITS FALSE NEIGHBOUR: 'it returns false'. Refute it at one input. -/
def journalGoesWrong : ChangeSpec := { name := "journalGoes", fn := fun _ => fun
  | [d1, d2] => { results := [.lit (.bool false)], args := [d1, d2] }
  | _ => none }
def JournalGoesWrongFalsely : Prop := journalGoesRow.holds Try.pinned (OpenSpec.ofChange journalGoesWrong)

/-- 'heraldlaw7.JournalOwn': WHATEVER THE INPUT: true; the input reads as it did. -/
def journalOwnSpec : ChangeSpec := { name := "journalOwn", fn := fun _ => fun
  | [d1, d2] => { results := [.lit (.bool true)], args := [d1, d2] }
  | _ => none }
def journalOwnRow : OpenClaim := { program := "ytdbniihjkiecbaa", sum := "3e73018f5c51484e0ecaf1915215e80cc21fec6bedc49c3a1f78cebc8abdcdb6", func := "herald/heraldlaw7.JournalOwn", spec := "journalOwn", unfollowed := true, recurses := true, apart := false }
def JournalOwnSaid : Prop := journalOwnRow.holds Try.pinned (OpenSpec.ofChange journalOwnSpec)

/-- ITS FALSE NEIGHBOUR: 'it returns false'. Refute it at one input. -/
def journalOwnWrong : ChangeSpec := { name := "journalOwn", fn := fun _ => fun
  | [d1, d2] => { results := [.lit (.bool false)], args := [d1, d2] }
  | _ => none }
def JournalOwnWrongFalsely : Prop := journalOwnRow.holds Try.pinned (OpenSpec.ofChange journalOwnWrong)

/- THE SECOND FORM. 'bulk': how many values and letters a reading holds, each counted each time it is reached (what is shared counts as often as it is met; a slice's spare places count too). A statement '..UptoSaid' is the law's where the arguments, and the package variables that the reading takes, are together of bulk at most 1048576: NARROWER than '..Said'. Prove '..Said' where nothing that the law and all that it calls make is longer than what came in: it says more and counts as full. Else prove '..UptoSaid'. A law counts once. -/
mutual
def uptoBulk {H : Type} : DataW H → Nat
  | .lit (.string bytes) => bytes.length + 1
  | .lit _ => 1
  | .nil => 1
  | .ptr d => uptoBulk d + 1
  | .slice elems spare => uptoBulkAll elems + uptoBulkAll spare + 1
  | .agg parts => uptoBulkAll parts + 1
  | .iface _ d => uptoBulk d + 1
  | .map entries => uptoBulkEntries entries + 1
  | .held _ => 1
def uptoBulkAll {H : Type} : List (DataW H) → Nat
  | [] => 0
  | d :: r => uptoBulk d + uptoBulkAll r
def uptoBulkEntries {H : Type} : List (Lit × DataW H) → Nat
  | [] => 0
  | x :: r => uptoBulkEntry x + uptoBulkEntries r
def uptoBulkEntry {H : Type} : Lit × DataW H → Nat
  | (.string bytes, d) => bytes.length + uptoBulk d + 1
  | (_, d) => uptoBulk d + 1
 end
def uptoSmall : (H : Type) → List (DataW H) → Bool := fun _ ds => decide (uptoBulkAll ds ≤ 1048576)
def OpenSpec.upto (s : _root_.Go.ChangeSpec) : _root_.Go.OpenSpec := { _root_.Go.OpenSpec.ofChange s with cond := some uptoSmall }

/-- 'heraldlaw7.JournalEncodes', WHERE WHAT IT READS IS OF BULK AT MOST 1048576: true; the input reads as it did. -/
def journalEncodesUptoRow : OpenClaim := { program := "ytdbniihjkiecbaa", sum := "3e73018f5c51484e0ecaf1915215e80cc21fec6bedc49c3a1f78cebc8abdcdb6", func := "herald/heraldlaw7.JournalEncodes", spec := "journalEncodes", unfollowed := true, recurses := true, apart := false, narrowed := true }
def JournalEncodesUptoSaid : Prop := journalEncodesUptoRow.holds Try.pinned (OpenSpec.upto journalEncodesSpec)

/-- 'heraldlaw7.JournalBack', WHERE WHAT IT READS IS OF BULK AT MOST 1048576: true; the input reads as it did. -/
def journalBackUptoRow : OpenClaim := { program := "ytdbniihjkiecbaa", sum := "3e73018f5c51484e0ecaf1915215e80cc21fec6bedc49c3a1f78cebc8abdcdb6", func := "herald/heraldlaw7.JournalBack", spec := "journalBack", unfollowed := true, recurses := true, apart := false, narrowed := true }
def JournalBackUptoSaid : Prop := journalBackUptoRow.holds Try.pinned (OpenSpec.upto journalBackSpec)

/-- 'heraldlaw7.JournalTorn', WHERE WHAT IT READS IS OF BULK AT MOST 1048576: true; the input reads as it did. -/
def journalTornUptoRow : OpenClaim := { program := "ytdbniihjkiecbaa", sum := "3e73018f5c51484e0ecaf1915215e80cc21fec6bedc49c3a1f78cebc8abdcdb6", func := "herald/heraldlaw7.JournalTorn", spec := "journalTorn", unfollowed := true, recurses := true, apart := false, narrowed := true }
def JournalTornUptoSaid : Prop := journalTornUptoRow.holds Try.pinned (OpenSpec.upto journalTornSpec)

/-- 'heraldlaw7.JournalSpoilt', WHERE WHAT IT READS IS OF BULK AT MOST 1048576: true; the input reads as it did. -/
def journalSpoiltUptoRow : OpenClaim := { program := "ytdbniihjkiecbaa", sum := "3e73018f5c51484e0ecaf1915215e80cc21fec6bedc49c3a1f78cebc8abdcdb6", func := "herald/heraldlaw7.JournalSpoilt", spec := "journalSpoilt", unfollowed := true, recurses := true, apart := false, narrowed := true }
def JournalSpoiltUptoSaid : Prop := journalSpoiltUptoRow.holds Try.pinned (OpenSpec.upto journalSpoiltSpec)

/-- 'heraldlaw7.JournalShort', WHERE WHAT IT READS IS OF BULK AT MOST 1048576: true; the input reads as it did. -/
def journalShortUptoRow : OpenClaim := { program := "ytdbniihjkiecbaa", sum := "3e73018f5c51484e0ecaf1915215e80cc21fec6bedc49c3a1f78cebc8abdcdb6", func := "herald/heraldlaw7.JournalShort", spec := "journalShort", unfollowed := true, recurses := true, apart := false, narrowed := true }
def JournalShortUptoSaid : Prop := journalShortUptoRow.holds Try.pinned (OpenSpec.upto journalShortSpec)

/-- 'heraldlaw7.JournalGoes', WHERE WHAT IT READS IS OF BULK AT MOST 1048576: true; the input reads as it did. -/
def journalGoesUptoRow : OpenClaim := { program := "ytdbniihjkiecbaa", sum := "3e73018f5c51484e0ecaf1915215e80cc21fec6bedc49c3a1f78cebc8abdcdb6", func := "herald/heraldlaw7.JournalGoes", spec := "journalGoes", unfollowed := true, recurses := true, apart := false, narrowed := true }
def JournalGoesUptoSaid : Prop := journalGoesUptoRow.holds Try.pinned (OpenSpec.upto journalGoesSpec)

/-- 'heraldlaw7.JournalOwn', WHERE WHAT IT READS IS OF BULK AT MOST 1048576: true; the input reads as it did. -/
def journalOwnUptoRow : OpenClaim := { program := "ytdbniihjkiecbaa", sum := "3e73018f5c51484e0ecaf1915215e80cc21fec6bedc49c3a1f78cebc8abdcdb6", func := "herald/heraldlaw7.JournalOwn", spec := "journalOwn", unfollowed := true, recurses := true, apart := false, narrowed := true }
def JournalOwnUptoSaid : Prop := journalOwnUptoRow.holds Try.pinned (OpenSpec.upto journalOwnSpec)

end Rows
end Go.Proofs.Ytdbniihjkiecbaa
