/-
  No cell of these rows narrows 'for every input' (looked for: loops, veiled, ifaces, maps, wideKeys, modest, calm, conditions, laid).
  DERIVED. THE GIVEN ROWS OF THIS SEAT. 15 by the template 'for every input the law returns true; each argument reads behind the call as it read before'; 0 by the template 'total and deterministic' (their statements: YtnanaojjhmpilaaTotals.lean).
  GIVEN WITH THE SEED: the statements are not yours to turn. If you find one false, say at which input.
  Laid BY PROGRAM, IN A SANDBOX (cutbox-rows.mjs): the forced cells as the released guide's own fill.sh prints them over the translation 881dc3ca2ac29b73… (all of the seat's roots in one cut). By AI agents, Wed Nov 11 2026. No macro, syntax, notation, axiom, sorry.
-/
import Derived.Test.YtnanaojjhmpilaaChecked
import GoSem.Claim
import GoSem.ClaimJoined
import GoSem.ClaimMapViews
import Derived.JoinedTies
import Derived.KernelRfl
namespace Go.Proofs.Ytnanaojjhmpilaa
/- THE CELL 'sum', in the pinned program and in every row, IS THE sha256 OF THE DUMP (.gsa) THAT YtnanaojjhmpilaaProg.lean LOADS. Nothing in Lean hashes anything: it is a label: what it is worth is what the hold of that sum in a sandbox is worth. -/
noncomputable def Try.pinned : Pinned := { name := "ytnanaojjhmpilaa", sum := "881dc3ca2ac29b7379cfd846d3722af83473aa1feea83bdb78e4607236e274f0", checked := Try.checked }
namespace Rows
def none {H : Type} : Left H := { results := [], args := [] }

/-- 'heraldlaw2.WireNumbers': WHATEVER THE INPUT: true; the input reads as it did. -/
def wireNumbersSpec : ChangeSpec := { name := "wireNumbers", fn := fun _ => fun
  | [d] => { results := [.lit (.bool true)], args := [d] }
  | _ => none }
def wireNumbersRow : OpenClaim := { program := "ytnanaojjhmpilaa", sum := "881dc3ca2ac29b7379cfd846d3722af83473aa1feea83bdb78e4607236e274f0", func := "herald/heraldlaw2.WireNumbers", spec := "wireNumbers", apart := false }
def WireNumbersSaid : Prop := wireNumbersRow.holds Try.pinned (OpenSpec.ofChange wireNumbersSpec)

/-- ITS FALSE NEIGHBOUR: 'it returns false'. Refute it at one input. -/
def wireNumbersWrong : ChangeSpec := { name := "wireNumbers", fn := fun _ => fun
  | [d] => { results := [.lit (.bool false)], args := [d] }
  | _ => none }
def WireNumbersWrongFalsely : Prop := wireNumbersRow.holds Try.pinned (OpenSpec.ofChange wireNumbersWrong)

/-- 'heraldlaw2.WireSums': WHATEVER THE INPUT: true; the input reads as it did. -/
def wireSumsSpec : ChangeSpec := { name := "wireSums", fn := fun _ => fun
  | [d] => { results := [.lit (.bool true)], args := [d] }
  | _ => none }
def wireSumsRow : OpenClaim := { program := "ytnanaojjhmpilaa", sum := "881dc3ca2ac29b7379cfd846d3722af83473aa1feea83bdb78e4607236e274f0", func := "herald/heraldlaw2.WireSums", spec := "wireSums", apart := false }
def WireSumsSaid : Prop := wireSumsRow.holds Try.pinned (OpenSpec.ofChange wireSumsSpec)

/-- ITS FALSE NEIGHBOUR: 'it returns false'. Refute it at one input. -/
def wireSumsWrong : ChangeSpec := { name := "wireSums", fn := fun _ => fun
  | [d] => { results := [.lit (.bool false)], args := [d] }
  | _ => none }
def WireSumsWrongFalsely : Prop := wireSumsRow.holds Try.pinned (OpenSpec.ofChange wireSumsWrong)

/-- 'heraldlaw2.WireTexts': WHATEVER THE INPUT: true; the input reads as it did. -/
def wireTextsSpec : ChangeSpec := { name := "wireTexts", fn := fun _ => fun
  | [d1, d2] => { results := [.lit (.bool true)], args := [d1, d2] }
  | _ => none }
def wireTextsRow : OpenClaim := { program := "ytnanaojjhmpilaa", sum := "881dc3ca2ac29b7379cfd846d3722af83473aa1feea83bdb78e4607236e274f0", func := "herald/heraldlaw2.WireTexts", spec := "wireTexts", apart := false }
def WireTextsSaid : Prop := wireTextsRow.holds Try.pinned (OpenSpec.ofChange wireTextsSpec)

/-- ITS FALSE NEIGHBOUR: 'it returns false'. Refute it at one input. -/
def wireTextsWrong : ChangeSpec := { name := "wireTexts", fn := fun _ => fun
  | [d1, d2] => { results := [.lit (.bool false)], args := [d1, d2] }
  | _ => none }
def WireTextsWrongFalsely : Prop := wireTextsRow.holds Try.pinned (OpenSpec.ofChange wireTextsWrong)

/-- 'heraldlaw2.WireFrames': WHATEVER THE INPUT: true; the input reads as it did. -/
def wireFramesSpec : ChangeSpec := { name := "wireFrames", fn := fun _ => fun
  | [d] => { results := [.lit (.bool true)], args := [d] }
  | _ => none }
def wireFramesRow : OpenClaim := { program := "ytnanaojjhmpilaa", sum := "881dc3ca2ac29b7379cfd846d3722af83473aa1feea83bdb78e4607236e274f0", func := "herald/heraldlaw2.WireFrames", spec := "wireFrames", apart := false }
def WireFramesSaid : Prop := wireFramesRow.holds Try.pinned (OpenSpec.ofChange wireFramesSpec)

/-- ITS FALSE NEIGHBOUR: 'it returns false'. Refute it at one input. -/
def wireFramesWrong : ChangeSpec := { name := "wireFrames", fn := fun _ => fun
  | [d] => { results := [.lit (.bool false)], args := [d] }
  | _ => none }
def WireFramesWrongFalsely : Prop := wireFramesRow.holds Try.pinned (OpenSpec.ofChange wireFramesWrong)

/-- 'heraldlaw2.WireReads': WHATEVER THE INPUT: true; the input reads as it did. -/
def wireReadsSpec : ChangeSpec := { name := "wireReads", fn := fun _ => fun
  | [d1, d2] => { results := [.lit (.bool true)], args := [d1, d2] }
  | _ => none }
def wireReadsRow : OpenClaim := { program := "ytnanaojjhmpilaa", sum := "881dc3ca2ac29b7379cfd846d3722af83473aa1feea83bdb78e4607236e274f0", func := "herald/heraldlaw2.WireReads", spec := "wireReads", apart := false }
def WireReadsSaid : Prop := wireReadsRow.holds Try.pinned (OpenSpec.ofChange wireReadsSpec)

/-- ITS FALSE NEIGHBOUR: 'it returns false'. Refute it at one input. -/
def wireReadsWrong : ChangeSpec := { name := "wireReads", fn := fun _ => fun
  | [d1, d2] => { results := [.lit (.bool false)], args := [d1, d2] }
  | _ => none }
def WireReadsWrongFalsely : Prop := wireReadsRow.holds Try.pinned (OpenSpec.ofChange wireReadsWrong)

/-- 'heraldlaw2.WireUnframes': WHATEVER THE INPUT: true; the input reads as it did. -/
def wireUnframesSpec : ChangeSpec := { name := "wireUnframes", fn := fun _ => fun
  | [d] => { results := [.lit (.bool true)], args := [d] }
  | _ => none }
def wireUnframesRow : OpenClaim := { program := "ytnanaojjhmpilaa", sum := "881dc3ca2ac29b7379cfd846d3722af83473aa1feea83bdb78e4607236e274f0", func := "herald/heraldlaw2.WireUnframes", spec := "wireUnframes", apart := false }
def WireUnframesSaid : Prop := wireUnframesRow.holds Try.pinned (OpenSpec.ofChange wireUnframesSpec)

/-- ITS FALSE NEIGHBOUR: 'it returns false'. Refute it at one input. -/
def wireUnframesWrong : ChangeSpec := { name := "wireUnframes", fn := fun _ => fun
  | [d] => { results := [.lit (.bool false)], args := [d] }
  | _ => none }
def WireUnframesWrongFalsely : Prop := wireUnframesRow.holds Try.pinned (OpenSpec.ofChange wireUnframesWrong)

/-- 'heraldlaw2.WireLong': WHATEVER THE INPUT: true; the input reads as it did. -/
def wireLongSpec : ChangeSpec := { name := "wireLong", fn := fun _ => fun
  | [d1, d2] => { results := [.lit (.bool true)], args := [d1, d2] }
  | _ => none }
def wireLongRow : OpenClaim := { program := "ytnanaojjhmpilaa", sum := "881dc3ca2ac29b7379cfd846d3722af83473aa1feea83bdb78e4607236e274f0", func := "herald/heraldlaw2.WireLong", spec := "wireLong", apart := false }
def WireLongSaid : Prop := wireLongRow.holds Try.pinned (OpenSpec.ofChange wireLongSpec)

/-- ITS FALSE NEIGHBOUR: 'it returns false'. Refute it at one input. -/
def wireLongWrong : ChangeSpec := { name := "wireLong", fn := fun _ => fun
  | [d1, d2] => { results := [.lit (.bool false)], args := [d1, d2] }
  | _ => none }
def WireLongWrongFalsely : Prop := wireLongRow.holds Try.pinned (OpenSpec.ofChange wireLongWrong)

/-- 'heraldlaw2.WireStreams': WHATEVER THE INPUT: true; the input reads as it did. -/
def wireStreamsSpec : ChangeSpec := { name := "wireStreams", fn := fun _ => fun
  | [d1, d2, d3] => { results := [.lit (.bool true)], args := [d1, d2, d3] }
  | _ => none }
def wireStreamsRow : OpenClaim := { program := "ytnanaojjhmpilaa", sum := "881dc3ca2ac29b7379cfd846d3722af83473aa1feea83bdb78e4607236e274f0", func := "herald/heraldlaw2.WireStreams", spec := "wireStreams", unfollowed := true, recurses := true, apart := false }
def WireStreamsSaid : Prop := wireStreamsRow.holds Try.pinned (OpenSpec.ofChange wireStreamsSpec)

/-- ITS FALSE NEIGHBOUR: 'it returns false'. Refute it at one input. -/
def wireStreamsWrong : ChangeSpec := { name := "wireStreams", fn := fun _ => fun
  | [d1, d2, d3] => { results := [.lit (.bool false)], args := [d1, d2, d3] }
  | _ => none }
def WireStreamsWrongFalsely : Prop := wireStreamsRow.holds Try.pinned (OpenSpec.ofChange wireStreamsWrong)

/-- 'heraldlaw2.WireNested': WHATEVER THE INPUT: true; the input reads as it did. -/
def wireNestedSpec : ChangeSpec := { name := "wireNested", fn := fun _ => fun
  | [d1, d2, d3, d4] => { results := [.lit (.bool true)], args := [d1, d2, d3, d4] }
  | _ => none }
def wireNestedRow : OpenClaim := { program := "ytnanaojjhmpilaa", sum := "881dc3ca2ac29b7379cfd846d3722af83473aa1feea83bdb78e4607236e274f0", func := "herald/heraldlaw2.WireNested", spec := "wireNested", unfollowed := true, recurses := true, apart := false }
def WireNestedSaid : Prop := wireNestedRow.holds Try.pinned (OpenSpec.ofChange wireNestedSpec)

/-- ITS FALSE NEIGHBOUR: 'it returns false'. Refute it at one input. -/
def wireNestedWrong : ChangeSpec := { name := "wireNested", fn := fun _ => fun
  | [d1, d2, d3, d4] => { results := [.lit (.bool false)], args := [d1, d2, d3, d4] }
  | _ => none }
def WireNestedWrongFalsely : Prop := wireNestedRow.holds Try.pinned (OpenSpec.ofChange wireNestedWrong)

/-- 'heraldlaw2.WireReturns': WHATEVER THE INPUT: true; the input reads as it did. -/
def wireReturnsSpec : ChangeSpec := { name := "wireReturns", fn := fun _ => fun
  | [d1, d2, d3, d4] => { results := [.lit (.bool true)], args := [d1, d2, d3, d4] }
  | _ => none }
def wireReturnsRow : OpenClaim := { program := "ytnanaojjhmpilaa", sum := "881dc3ca2ac29b7379cfd846d3722af83473aa1feea83bdb78e4607236e274f0", func := "herald/heraldlaw2.WireReturns", spec := "wireReturns", apart := false }
def WireReturnsSaid : Prop := wireReturnsRow.holds Try.pinned (OpenSpec.ofChange wireReturnsSpec)

/-- ITS FALSE NEIGHBOUR: 'it returns false'. Refute it at one input. -/
def wireReturnsWrong : ChangeSpec := { name := "wireReturns", fn := fun _ => fun
  | [d1, d2, d3, d4] => { results := [.lit (.bool false)], args := [d1, d2, d3, d4] }
  | _ => none }
def WireReturnsWrongFalsely : Prop := wireReturnsRow.holds Try.pinned (OpenSpec.ofChange wireReturnsWrong)

/-- 'heraldlaw2.WireOnly': WHATEVER THE INPUT: true; the input reads as it did. -/
def wireOnlySpec : ChangeSpec := { name := "wireOnly", fn := fun _ => fun
  | [d1, d2] => { results := [.lit (.bool true)], args := [d1, d2] }
  | _ => none }
def wireOnlyRow : OpenClaim := { program := "ytnanaojjhmpilaa", sum := "881dc3ca2ac29b7379cfd846d3722af83473aa1feea83bdb78e4607236e274f0", func := "herald/heraldlaw2.WireOnly", spec := "wireOnly", apart := false }
def WireOnlySaid : Prop := wireOnlyRow.holds Try.pinned (OpenSpec.ofChange wireOnlySpec)

/-- ITS FALSE NEIGHBOUR: 'it returns false'. Refute it at one input. -/
def wireOnlyWrong : ChangeSpec := { name := "wireOnly", fn := fun _ => fun
  | [d1, d2] => { results := [.lit (.bool false)], args := [d1, d2] }
  | _ => none }
def WireOnlyWrongFalsely : Prop := wireOnlyRow.holds Try.pinned (OpenSpec.ofChange wireOnlyWrong)

/-- 'heraldlaw2.WireSpoilt': WHATEVER THE INPUT: true; the input reads as it did. -/
def wireSpoiltSpec : ChangeSpec := { name := "wireSpoilt", fn := fun _ => fun
  | [d1, d2, d3, d4] => { results := [.lit (.bool true)], args := [d1, d2, d3, d4] }
  | _ => none }
def wireSpoiltRow : OpenClaim := { program := "ytnanaojjhmpilaa", sum := "881dc3ca2ac29b7379cfd846d3722af83473aa1feea83bdb78e4607236e274f0", func := "herald/heraldlaw2.WireSpoilt", spec := "wireSpoilt", apart := false }
def WireSpoiltSaid : Prop := wireSpoiltRow.holds Try.pinned (OpenSpec.ofChange wireSpoiltSpec)

/-- ITS FALSE NEIGHBOUR: 'it returns false'. Refute it at one input. -/
def wireSpoiltWrong : ChangeSpec := { name := "wireSpoilt", fn := fun _ => fun
  | [d1, d2, d3, d4] => { results := [.lit (.bool false)], args := [d1, d2, d3, d4] }
  | _ => none }
def WireSpoiltWrongFalsely : Prop := wireSpoiltRow.holds Try.pinned (OpenSpec.ofChange wireSpoiltWrong)

/-- 'heraldlaw2.WireFinds': WHATEVER THE INPUT: true; the input reads as it did. -/
def wireFindsSpec : ChangeSpec := { name := "wireFinds", fn := fun _ => fun
  | [d1, d2, d3] => { results := [.lit (.bool true)], args := [d1, d2, d3] }
  | _ => none }
def wireFindsRow : OpenClaim := { program := "ytnanaojjhmpilaa", sum := "881dc3ca2ac29b7379cfd846d3722af83473aa1feea83bdb78e4607236e274f0", func := "herald/heraldlaw2.WireFinds", spec := "wireFinds", unfollowed := true, recurses := true, apart := false }
def WireFindsSaid : Prop := wireFindsRow.holds Try.pinned (OpenSpec.ofChange wireFindsSpec)

/-- ITS FALSE NEIGHBOUR: 'it returns false'. Refute it at one input. -/
def wireFindsWrong : ChangeSpec := { name := "wireFinds", fn := fun _ => fun
  | [d1, d2, d3] => { results := [.lit (.bool false)], args := [d1, d2, d3] }
  | _ => none }
def WireFindsWrongFalsely : Prop := wireFindsRow.holds Try.pinned (OpenSpec.ofChange wireFindsWrong)

/-- 'heraldlaw2.WireKeeps': WHATEVER THE INPUT: true; the input reads as it did. -/
def wireKeepsSpec : ChangeSpec := { name := "wireKeeps", fn := fun _ => fun
  | [d1, d2, d3, d4, d5] => { results := [.lit (.bool true)], args := [d1, d2, d3, d4, d5] }
  | _ => none }
def wireKeepsRow : OpenClaim := { program := "ytnanaojjhmpilaa", sum := "881dc3ca2ac29b7379cfd846d3722af83473aa1feea83bdb78e4607236e274f0", func := "herald/heraldlaw2.WireKeeps", spec := "wireKeeps", unfollowed := true, recurses := true, apart := false }
def WireKeepsSaid : Prop := wireKeepsRow.holds Try.pinned (OpenSpec.ofChange wireKeepsSpec)

/-- ITS FALSE NEIGHBOUR: 'it returns false'. Refute it at one input. -/
def wireKeepsWrong : ChangeSpec := { name := "wireKeeps", fn := fun _ => fun
  | [d1, d2, d3, d4, d5] => { results := [.lit (.bool false)], args := [d1, d2, d3, d4, d5] }
  | _ => none }
def WireKeepsWrongFalsely : Prop := wireKeepsRow.holds Try.pinned (OpenSpec.ofChange wireKeepsWrong)

/-- 'heraldlaw2.WireNothing': WHATEVER THE INPUT: true; the input reads as it did. -/
def wireNothingSpec : ChangeSpec := { name := "wireNothing", fn := fun _ => fun
  | [] => { results := [.lit (.bool true)], args := [] }
  | _ => none }
def wireNothingRow : OpenClaim := { program := "ytnanaojjhmpilaa", sum := "881dc3ca2ac29b7379cfd846d3722af83473aa1feea83bdb78e4607236e274f0", func := "herald/heraldlaw2.WireNothing", spec := "wireNothing", unfollowed := true, recurses := true, apart := false }
def WireNothingSaid : Prop := wireNothingRow.holds Try.pinned (OpenSpec.ofChange wireNothingSpec)

/-- ITS FALSE NEIGHBOUR: 'it returns false'. Refute it at one input. -/
def wireNothingWrong : ChangeSpec := { name := "wireNothing", fn := fun _ => fun
  | [] => { results := [.lit (.bool false)], args := [] }
  | _ => none }
def WireNothingWrongFalsely : Prop := wireNothingRow.holds Try.pinned (OpenSpec.ofChange wireNothingWrong)

/- THE SECOND FORM. 'bulk': how many values and letters a reading holds, each counted each time it is reached (what is shared counts as often as it is met; a slice's spare places count too). A statement '..UptoSaid' is the law's where the arguments, and the package variables that the reading takes, are together of bulk at most 1048576: NARROWER than '..Said'. Prove '..Said' where nothing that the law and all that it calls make is longer than what came in: it says more and counts as full. Else prove '..UptoSaid'. A law counts once. -/
mutual
def uptoBulk {H : Type} : DataW H → Nat
  | .lit (.string bytes) => bytes.length + 1
  | .lit _ => 1
  | .nil => 1
  | .ptr d => uptoBulk d + 1
  | .slice elems spare => uptoBulkAll elems + uptoBulkAll spare + 1
  | .agg parts => uptoBulkAll parts + 1
  | .iface _ d => uptoBulk d + 1
  | .map entries => uptoBulkEntries entries + 1
  | .held _ => 1
def uptoBulkAll {H : Type} : List (DataW H) → Nat
  | [] => 0
  | d :: r => uptoBulk d + uptoBulkAll r
def uptoBulkEntries {H : Type} : List (Lit × DataW H) → Nat
  | [] => 0
  | x :: r => uptoBulkEntry x + uptoBulkEntries r
def uptoBulkEntry {H : Type} : Lit × DataW H → Nat
  | (.string bytes, d) => bytes.length + uptoBulk d + 1
  | (_, d) => uptoBulk d + 1
 end
def uptoSmall : (H : Type) → List (DataW H) → Bool := fun _ ds => decide (uptoBulkAll ds ≤ 1048576)
def OpenSpec.upto (s : _root_.Go.ChangeSpec) : _root_.Go.OpenSpec := { _root_.Go.OpenSpec.ofChange s with cond := some uptoSmall }

/-- 'heraldlaw2.WireNumbers', WHERE WHAT IT READS IS OF BULK AT MOST 1048576: true; the input reads as it did. -/
def wireNumbersUptoRow : OpenClaim := { program := "ytnanaojjhmpilaa", sum := "881dc3ca2ac29b7379cfd846d3722af83473aa1feea83bdb78e4607236e274f0", func := "herald/heraldlaw2.WireNumbers", spec := "wireNumbers", apart := false, narrowed := true }
def WireNumbersUptoSaid : Prop := wireNumbersUptoRow.holds Try.pinned (OpenSpec.upto wireNumbersSpec)

/-- 'heraldlaw2.WireSums', WHERE WHAT IT READS IS OF BULK AT MOST 1048576: true; the input reads as it did. -/
def wireSumsUptoRow : OpenClaim := { program := "ytnanaojjhmpilaa", sum := "881dc3ca2ac29b7379cfd846d3722af83473aa1feea83bdb78e4607236e274f0", func := "herald/heraldlaw2.WireSums", spec := "wireSums", apart := false, narrowed := true }
def WireSumsUptoSaid : Prop := wireSumsUptoRow.holds Try.pinned (OpenSpec.upto wireSumsSpec)

/-- 'heraldlaw2.WireTexts', WHERE WHAT IT READS IS OF BULK AT MOST 1048576: true; the input reads as it did. -/
def wireTextsUptoRow : OpenClaim := { program := "ytnanaojjhmpilaa", sum := "881dc3ca2ac29b7379cfd846d3722af83473aa1feea83bdb78e4607236e274f0", func := "herald/heraldlaw2.WireTexts", spec := "wireTexts", apart := false, narrowed := true }
def WireTextsUptoSaid : Prop := wireTextsUptoRow.holds Try.pinned (OpenSpec.upto wireTextsSpec)

/-- 'heraldlaw2.WireFrames', WHERE WHAT IT READS IS OF BULK AT MOST 1048576: true; the input reads as it did. -/
def wireFramesUptoRow : OpenClaim := { program := "ytnanaojjhmpilaa", sum := "881dc3ca2ac29b7379cfd846d3722af83473aa1feea83bdb78e4607236e274f0", func := "herald/heraldlaw2.WireFrames", spec := "wireFrames", apart := false, narrowed := true }
def WireFramesUptoSaid : Prop := wireFramesUptoRow.holds Try.pinned (OpenSpec.upto wireFramesSpec)

/-- 'heraldlaw2.WireReads', WHERE WHAT IT READS IS OF BULK AT MOST 1048576: true; the input reads as it did. -/
def wireReadsUptoRow : OpenClaim := { program := "ytnanaojjhmpilaa", sum := "881dc3ca2ac29b7379cfd846d3722af83473aa1feea83bdb78e4607236e274f0", func := "herald/heraldlaw2.WireReads", spec := "wireReads", apart := false, narrowed := true }
def WireReadsUptoSaid : Prop := wireReadsUptoRow.holds Try.pinned (OpenSpec.upto wireReadsSpec)

/-- 'heraldlaw2.WireUnframes', WHERE WHAT IT READS IS OF BULK AT MOST 1048576: true; the input reads as it did. -/
def wireUnframesUptoRow : OpenClaim := { program := "ytnanaojjhmpilaa", sum := "881dc3ca2ac29b7379cfd846d3722af83473aa1feea83bdb78e4607236e274f0", func := "herald/heraldlaw2.WireUnframes", spec := "wireUnframes", apart := false, narrowed := true }
def WireUnframesUptoSaid : Prop := wireUnframesUptoRow.holds Try.pinned (OpenSpec.upto wireUnframesSpec)

/-- 'heraldlaw2.WireLong', WHERE WHAT IT READS IS OF BULK AT MOST 1048576: true; the input reads as it did. -/
def wireLongUptoRow : OpenClaim := { program := "ytnanaojjhmpilaa", sum := "881dc3ca2ac29b7379cfd846d3722af83473aa1feea83bdb78e4607236e274f0", func := "herald/heraldlaw2.WireLong", spec := "wireLong", apart := false, narrowed := true }
def WireLongUptoSaid : Prop := wireLongUptoRow.holds Try.pinned (OpenSpec.upto wireLongSpec)

/-- 'heraldlaw2.WireStreams', WHERE WHAT IT READS IS OF BULK AT MOST 1048576: true; the input reads as it did. -/
def wireStreamsUptoRow : OpenClaim := { program := "ytnanaojjhmpilaa", sum := "881dc3ca2ac29b7379cfd846d3722af83473aa1feea83bdb78e4607236e274f0", func := "herald/heraldlaw2.WireStreams", spec := "wireStreams", unfollowed := true, recurses := true, apart := false, narrowed := true }
def WireStreamsUptoSaid : Prop := wireStreamsUptoRow.holds Try.pinned (OpenSpec.upto wireStreamsSpec)

/-- 'heraldlaw2.WireNested', WHERE WHAT IT READS IS OF BULK AT MOST 1048576: true; the input reads as it did. -/
def wireNestedUptoRow : OpenClaim := { program := "ytnanaojjhmpilaa", sum := "881dc3ca2ac29b7379cfd846d3722af83473aa1feea83bdb78e4607236e274f0", func := "herald/heraldlaw2.WireNested", spec := "wireNested", unfollowed := true, recurses := true, apart := false, narrowed := true }
def WireNestedUptoSaid : Prop := wireNestedUptoRow.holds Try.pinned (OpenSpec.upto wireNestedSpec)

/-- 'heraldlaw2.WireReturns', WHERE WHAT IT READS IS OF BULK AT MOST 1048576: true; the input reads as it did. -/
def wireReturnsUptoRow : OpenClaim := { program := "ytnanaojjhmpilaa", sum := "881dc3ca2ac29b7379cfd846d3722af83473aa1feea83bdb78e4607236e274f0", func := "herald/heraldlaw2.WireReturns", spec := "wireReturns", apart := false, narrowed := true }
def WireReturnsUptoSaid : Prop := wireReturnsUptoRow.holds Try.pinned (OpenSpec.upto wireReturnsSpec)

/-- 'heraldlaw2.WireOnly', WHERE WHAT IT READS IS OF BULK AT MOST 1048576: true; the input reads as it did. -/
def wireOnlyUptoRow : OpenClaim := { program := "ytnanaojjhmpilaa", sum := "881dc3ca2ac29b7379cfd846d3722af83473aa1feea83bdb78e4607236e274f0", func := "herald/heraldlaw2.WireOnly", spec := "wireOnly", apart := false, narrowed := true }
def WireOnlyUptoSaid : Prop := wireOnlyUptoRow.holds Try.pinned (OpenSpec.upto wireOnlySpec)

/-- 'heraldlaw2.WireSpoilt', WHERE WHAT IT READS IS OF BULK AT MOST 1048576: true; the input reads as it did. -/
def wireSpoiltUptoRow : OpenClaim := { program := "ytnanaojjhmpilaa", sum := "881dc3ca2ac29b7379cfd846d3722af83473aa1feea83bdb78e4607236e274f0", func := "herald/heraldlaw2.WireSpoilt", spec := "wireSpoilt", apart := false, narrowed := true }
def WireSpoiltUptoSaid : Prop := wireSpoiltUptoRow.holds Try.pinned (OpenSpec.upto wireSpoiltSpec)

/-- 'heraldlaw2.WireFinds', WHERE WHAT IT READS IS OF BULK AT MOST 1048576: true; the input reads as it did. -/
def wireFindsUptoRow : OpenClaim := { program := "ytnanaojjhmpilaa", sum := "881dc3ca2ac29b7379cfd846d3722af83473aa1feea83bdb78e4607236e274f0", func := "herald/heraldlaw2.WireFinds", spec := "wireFinds", unfollowed := true, recurses := true, apart := false, narrowed := true }
def WireFindsUptoSaid : Prop := wireFindsUptoRow.holds Try.pinned (OpenSpec.upto wireFindsSpec)

/-- 'heraldlaw2.WireKeeps', WHERE WHAT IT READS IS OF BULK AT MOST 1048576: true; the input reads as it did. -/
def wireKeepsUptoRow : OpenClaim := { program := "ytnanaojjhmpilaa", sum := "881dc3ca2ac29b7379cfd846d3722af83473aa1feea83bdb78e4607236e274f0", func := "herald/heraldlaw2.WireKeeps", spec := "wireKeeps", unfollowed := true, recurses := true, apart := false, narrowed := true }
def WireKeepsUptoSaid : Prop := wireKeepsUptoRow.holds Try.pinned (OpenSpec.upto wireKeepsSpec)

/-- 'heraldlaw2.WireNothing', WHERE WHAT IT READS IS OF BULK AT MOST 1048576: true; the input reads as it did. -/
def wireNothingUptoRow : OpenClaim := { program := "ytnanaojjhmpilaa", sum := "881dc3ca2ac29b7379cfd846d3722af83473aa1feea83bdb78e4607236e274f0", func := "herald/heraldlaw2.WireNothing", spec := "wireNothing", unfollowed := true, recurses := true, apart := false, narrowed := true }
def WireNothingUptoSaid : Prop := wireNothingUptoRow.holds Try.pinned (OpenSpec.upto wireNothingSpec)

end Rows
end Go.Proofs.Ytnanaojjhmpilaa
