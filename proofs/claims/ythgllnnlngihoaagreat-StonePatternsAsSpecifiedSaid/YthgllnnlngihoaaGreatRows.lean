/-
  No cell of these rows narrows 'for every input' (looked for: loops, veiled, ifaces, maps, wideKeys, modest, calm, conditions, laid).
  DERIVED. THE GIVEN ROWS OF THIS SEAT. 12 by the template 'for every input the law returns true; each argument reads behind the call as it read before'; 0 by the template 'total and deterministic' (their statements: YthgllnnlngihoaaGreatTotals.lean).
  GIVEN WITH THE SEED: the statements are not yours to turn. If you find one false, say at which input.
  Laid BY PROGRAM, IN A SANDBOX (cutbox-rows.mjs): the forced cells as the released guide's own fill.sh prints them over the translation 5d381bd8d1f12aaf… (all of the seat's roots in one cut). By AI agents, Wed Nov 11 2026. No macro, syntax, notation, axiom, sorry.
-/
import Derived.Test.YthgllnnlngihoaaGreatChecked
import GoSem.Claim
import GoSem.ClaimJoined
import GoSem.ClaimMapViews
import Derived.JoinedTies
import Derived.KernelRfl
namespace Go.Proofs.YthgllnnlngihoaaGreat
/- THE CELL 'sum', in the pinned program and in every row, IS THE sha256 OF THE DUMP (.gsa) THAT YthgllnnlngihoaaGreatProg.lean LOADS. Nothing in Lean hashes anything: it is a label: what it is worth is what the hold of that sum in a sandbox is worth. -/
noncomputable def Tryz.pinned : Pinned := { name := "ythgllnnlngihoaagreat", sum := "5d381bd8d1f12aaf5f6da70f7eb75cd099cfe19bf8eaad60149d41dc32106a1e", checked := Tryz.checked }
namespace Rows
def none {H : Type} : Left H := { results := [], args := [] }

/-- 'boundstonelaw05.StoneCoursesAsSpecified': WHATEVER THE INPUT: true; the input reads as it did. -/
def stoneCoursesAsSpecifiedSpec : ChangeSpec := { name := "stoneCoursesAsSpecified", fn := fun _ => fun
  | [d1, d2] => { results := [.lit (.bool true)], args := [d1, d2] }
  | _ => none }
def stoneCoursesAsSpecifiedRow : OpenClaim := { program := "ythgllnnlngihoaagreat", sum := "5d381bd8d1f12aaf5f6da70f7eb75cd099cfe19bf8eaad60149d41dc32106a1e", func := "boundstone/boundstonelaw05.StoneCoursesAsSpecified", spec := "stoneCoursesAsSpecified", unfollowed := true, recurses := true, apart := false }
def StoneCoursesAsSpecifiedSaid : Prop := stoneCoursesAsSpecifiedRow.holds Tryz.pinned (OpenSpec.ofChange stoneCoursesAsSpecifiedSpec)

/-- ITS FALSE NEIGHBOUR: 'it returns false'. Refute it at one input. -/
def stoneCoursesAsSpecifiedWrong : ChangeSpec := { name := "stoneCoursesAsSpecified", fn := fun _ => fun
  | [d1, d2] => { results := [.lit (.bool false)], args := [d1, d2] }
  | _ => none }
def StoneCoursesAsSpecifiedWrongFalsely : Prop := stoneCoursesAsSpecifiedRow.holds Tryz.pinned (OpenSpec.ofChange stoneCoursesAsSpecifiedWrong)

/-- 'boundstonelaw05.StoneNeedsAsSpecified': WHATEVER THE INPUT: true; the input reads as it did. -/
def stoneNeedsAsSpecifiedSpec : ChangeSpec := { name := "stoneNeedsAsSpecified", fn := fun _ => fun
  | [d] => { results := [.lit (.bool true)], args := [d] }
  | _ => none }
def stoneNeedsAsSpecifiedRow : OpenClaim := { program := "ythgllnnlngihoaagreat", sum := "5d381bd8d1f12aaf5f6da70f7eb75cd099cfe19bf8eaad60149d41dc32106a1e", func := "boundstone/boundstonelaw05.StoneNeedsAsSpecified", spec := "stoneNeedsAsSpecified", unfollowed := true, recurses := true, apart := false }
def StoneNeedsAsSpecifiedSaid : Prop := stoneNeedsAsSpecifiedRow.holds Tryz.pinned (OpenSpec.ofChange stoneNeedsAsSpecifiedSpec)

/-- ITS FALSE NEIGHBOUR: 'it returns false'. Refute it at one input. -/
def stoneNeedsAsSpecifiedWrong : ChangeSpec := { name := "stoneNeedsAsSpecified", fn := fun _ => fun
  | [d] => { results := [.lit (.bool false)], args := [d] }
  | _ => none }
def StoneNeedsAsSpecifiedWrongFalsely : Prop := stoneNeedsAsSpecifiedRow.holds Tryz.pinned (OpenSpec.ofChange stoneNeedsAsSpecifiedWrong)

/-- 'boundstonelaw05.StoneMoreChanges': WHATEVER THE INPUT: true; the input reads as it did. -/
def stoneMoreChangesSpec : ChangeSpec := { name := "stoneMoreChanges", fn := fun _ => fun
  | [d1, d2, d3] => { results := [.lit (.bool true)], args := [d1, d2, d3] }
  | _ => none }
def stoneMoreChangesRow : OpenClaim := { program := "ythgllnnlngihoaagreat", sum := "5d381bd8d1f12aaf5f6da70f7eb75cd099cfe19bf8eaad60149d41dc32106a1e", func := "boundstone/boundstonelaw05.StoneMoreChanges", spec := "stoneMoreChanges", unfollowed := true, recurses := true, apart := false }
def StoneMoreChangesSaid : Prop := stoneMoreChangesRow.holds Tryz.pinned (OpenSpec.ofChange stoneMoreChangesSpec)

/-- ITS FALSE NEIGHBOUR: 'it returns false'. Refute it at one input. -/
def stoneMoreChangesWrong : ChangeSpec := { name := "stoneMoreChanges", fn := fun _ => fun
  | [d1, d2, d3] => { results := [.lit (.bool false)], args := [d1, d2, d3] }
  | _ => none }
def StoneMoreChangesWrongFalsely : Prop := stoneMoreChangesRow.holds Tryz.pinned (OpenSpec.ofChange stoneMoreChangesWrong)

/-- 'boundstonelaw05.StonePatternsAsSpecified': WHATEVER THE INPUT: true; the input reads as it did. -/
def stonePatternsAsSpecifiedSpec : ChangeSpec := { name := "stonePatternsAsSpecified", fn := fun _ => fun
  | [d1, d2, d3] => { results := [.lit (.bool true)], args := [d1, d2, d3] }
  | _ => none }
def stonePatternsAsSpecifiedRow : OpenClaim := { program := "ythgllnnlngihoaagreat", sum := "5d381bd8d1f12aaf5f6da70f7eb75cd099cfe19bf8eaad60149d41dc32106a1e", func := "boundstone/boundstonelaw05.StonePatternsAsSpecified", spec := "stonePatternsAsSpecified", unfollowed := true, recurses := true, apart := false }
def StonePatternsAsSpecifiedSaid : Prop := stonePatternsAsSpecifiedRow.holds Tryz.pinned (OpenSpec.ofChange stonePatternsAsSpecifiedSpec)

/-- ITS FALSE NEIGHBOUR: 'it returns false'. Refute it at one input. -/
def stonePatternsAsSpecifiedWrong : ChangeSpec := { name := "stonePatternsAsSpecified", fn := fun _ => fun
  | [d1, d2, d3] => { results := [.lit (.bool false)], args := [d1, d2, d3] }
  | _ => none }
def StonePatternsAsSpecifiedWrongFalsely : Prop := stonePatternsAsSpecifiedRow.holds Tryz.pinned (OpenSpec.ofChange stonePatternsAsSpecifiedWrong)

/-- 'boundstonelaw05.StoneExtentsAsSpecified': WHATEVER THE INPUT: true; the input reads as it did. -/
def stoneExtentsAsSpecifiedSpec : ChangeSpec := { name := "stoneExtentsAsSpecified", fn := fun _ => fun
  | [d1, d2, d3] => { results := [.lit (.bool true)], args := [d1, d2, d3] }
  | _ => none }
def stoneExtentsAsSpecifiedRow : OpenClaim := { program := "ythgllnnlngihoaagreat", sum := "5d381bd8d1f12aaf5f6da70f7eb75cd099cfe19bf8eaad60149d41dc32106a1e", func := "boundstone/boundstonelaw05.StoneExtentsAsSpecified", spec := "stoneExtentsAsSpecified", unfollowed := true, recurses := true, apart := false }
def StoneExtentsAsSpecifiedSaid : Prop := stoneExtentsAsSpecifiedRow.holds Tryz.pinned (OpenSpec.ofChange stoneExtentsAsSpecifiedSpec)

/-- ITS FALSE NEIGHBOUR: 'it returns false'. Refute it at one input. -/
def stoneExtentsAsSpecifiedWrong : ChangeSpec := { name := "stoneExtentsAsSpecified", fn := fun _ => fun
  | [d1, d2, d3] => { results := [.lit (.bool false)], args := [d1, d2, d3] }
  | _ => none }
def StoneExtentsAsSpecifiedWrongFalsely : Prop := stoneExtentsAsSpecifiedRow.holds Tryz.pinned (OpenSpec.ofChange stoneExtentsAsSpecifiedWrong)

/-- 'boundstonelaw05.StoneExtentsHold': WHATEVER THE INPUT: true; the input reads as it did. -/
def stoneExtentsHoldSpec : ChangeSpec := { name := "stoneExtentsHold", fn := fun _ => fun
  | [d1, d2, d3, d4] => { results := [.lit (.bool true)], args := [d1, d2, d3, d4] }
  | _ => none }
def stoneExtentsHoldRow : OpenClaim := { program := "ythgllnnlngihoaagreat", sum := "5d381bd8d1f12aaf5f6da70f7eb75cd099cfe19bf8eaad60149d41dc32106a1e", func := "boundstone/boundstonelaw05.StoneExtentsHold", spec := "stoneExtentsHold", unfollowed := true, recurses := true, apart := false }
def StoneExtentsHoldSaid : Prop := stoneExtentsHoldRow.holds Tryz.pinned (OpenSpec.ofChange stoneExtentsHoldSpec)

/-- ITS FALSE NEIGHBOUR: 'it returns false'. Refute it at one input. -/
def stoneExtentsHoldWrong : ChangeSpec := { name := "stoneExtentsHold", fn := fun _ => fun
  | [d1, d2, d3, d4] => { results := [.lit (.bool false)], args := [d1, d2, d3, d4] }
  | _ => none }
def StoneExtentsHoldWrongFalsely : Prop := stoneExtentsHoldRow.holds Tryz.pinned (OpenSpec.ofChange stoneExtentsHoldWrong)

/-- 'boundstonelaw05.StoneTruthsAsSpecified': WHATEVER THE INPUT: true; the input reads as it did. -/
def stoneTruthsAsSpecifiedSpec : ChangeSpec := { name := "stoneTruthsAsSpecified", fn := fun _ => fun
  | [d1, d2] => { results := [.lit (.bool true)], args := [d1, d2] }
  | _ => none }
def stoneTruthsAsSpecifiedRow : OpenClaim := { program := "ythgllnnlngihoaagreat", sum := "5d381bd8d1f12aaf5f6da70f7eb75cd099cfe19bf8eaad60149d41dc32106a1e", func := "boundstone/boundstonelaw05.StoneTruthsAsSpecified", spec := "stoneTruthsAsSpecified", unfollowed := true, recurses := true, apart := false }
def StoneTruthsAsSpecifiedSaid : Prop := stoneTruthsAsSpecifiedRow.holds Tryz.pinned (OpenSpec.ofChange stoneTruthsAsSpecifiedSpec)

/-- ITS FALSE NEIGHBOUR: 'it returns false'. Refute it at one input. -/
def stoneTruthsAsSpecifiedWrong : ChangeSpec := { name := "stoneTruthsAsSpecified", fn := fun _ => fun
  | [d1, d2] => { results := [.lit (.bool false)], args := [d1, d2] }
  | _ => none }
def StoneTruthsAsSpecifiedWrongFalsely : Prop := stoneTruthsAsSpecifiedRow.holds Tryz.pinned (OpenSpec.ofChange stoneTruthsAsSpecifiedWrong)

/-- 'boundstonelaw05.StoneTruthsFit': WHATEVER THE INPUT: true; the input reads as it did. -/
def stoneTruthsFitSpec : ChangeSpec := { name := "stoneTruthsFit", fn := fun _ => fun
  | [d1, d2] => { results := [.lit (.bool true)], args := [d1, d2] }
  | _ => none }
def stoneTruthsFitRow : OpenClaim := { program := "ythgllnnlngihoaagreat", sum := "5d381bd8d1f12aaf5f6da70f7eb75cd099cfe19bf8eaad60149d41dc32106a1e", func := "boundstone/boundstonelaw05.StoneTruthsFit", spec := "stoneTruthsFit", unfollowed := true, recurses := true, apart := false }
def StoneTruthsFitSaid : Prop := stoneTruthsFitRow.holds Tryz.pinned (OpenSpec.ofChange stoneTruthsFitSpec)

/-- ITS FALSE NEIGHBOUR: 'it returns false'. Refute it at one input. -/
def stoneTruthsFitWrong : ChangeSpec := { name := "stoneTruthsFit", fn := fun _ => fun
  | [d1, d2] => { results := [.lit (.bool false)], args := [d1, d2] }
  | _ => none }
def StoneTruthsFitWrongFalsely : Prop := stoneTruthsFitRow.holds Tryz.pinned (OpenSpec.ofChange stoneTruthsFitWrong)

/-- 'boundstonelaw05.StoneMatchesAsSpecified': WHATEVER THE INPUT: true; the input reads as it did. -/
def stoneMatchesAsSpecifiedSpec : ChangeSpec := { name := "stoneMatchesAsSpecified", fn := fun _ => fun
  | [d1, d2, d3, d4, d5, d6] => { results := [.lit (.bool true)], args := [d1, d2, d3, d4, d5, d6] }
  | _ => none }
def stoneMatchesAsSpecifiedRow : OpenClaim := { program := "ythgllnnlngihoaagreat", sum := "5d381bd8d1f12aaf5f6da70f7eb75cd099cfe19bf8eaad60149d41dc32106a1e", func := "boundstone/boundstonelaw05.StoneMatchesAsSpecified", spec := "stoneMatchesAsSpecified", unfollowed := true, recurses := true, apart := false }
def StoneMatchesAsSpecifiedSaid : Prop := stoneMatchesAsSpecifiedRow.holds Tryz.pinned (OpenSpec.ofChange stoneMatchesAsSpecifiedSpec)

/-- ITS FALSE NEIGHBOUR: 'it returns false'. Refute it at one input. -/
def stoneMatchesAsSpecifiedWrong : ChangeSpec := { name := "stoneMatchesAsSpecified", fn := fun _ => fun
  | [d1, d2, d3, d4, d5, d6] => { results := [.lit (.bool false)], args := [d1, d2, d3, d4, d5, d6] }
  | _ => none }
def StoneMatchesAsSpecifiedWrongFalsely : Prop := stoneMatchesAsSpecifiedRow.holds Tryz.pinned (OpenSpec.ofChange stoneMatchesAsSpecifiedWrong)

/-- 'boundstonelaw05.StoneTruePairs': WHATEVER THE INPUT: true; the input reads as it did. -/
def stoneTruePairsSpec : ChangeSpec := { name := "stoneTruePairs", fn := fun _ => fun
  | [d1, d2, d3] => { results := [.lit (.bool true)], args := [d1, d2, d3] }
  | _ => none }
def stoneTruePairsRow : OpenClaim := { program := "ythgllnnlngihoaagreat", sum := "5d381bd8d1f12aaf5f6da70f7eb75cd099cfe19bf8eaad60149d41dc32106a1e", func := "boundstone/boundstonelaw05.StoneTruePairs", spec := "stoneTruePairs", unfollowed := true, recurses := true, apart := false }
def StoneTruePairsSaid : Prop := stoneTruePairsRow.holds Tryz.pinned (OpenSpec.ofChange stoneTruePairsSpec)

/-- ITS FALSE NEIGHBOUR: 'it returns false'. Refute it at one input. -/
def stoneTruePairsWrong : ChangeSpec := { name := "stoneTruePairs", fn := fun _ => fun
  | [d1, d2, d3] => { results := [.lit (.bool false)], args := [d1, d2, d3] }
  | _ => none }
def StoneTruePairsWrongFalsely : Prop := stoneTruePairsRow.holds Tryz.pinned (OpenSpec.ofChange stoneTruePairsWrong)

/-- 'boundstonelaw05.StonePairsAsSpecified': WHATEVER THE INPUT: true; the input reads as it did. -/
def stonePairsAsSpecifiedSpec : ChangeSpec := { name := "stonePairsAsSpecified", fn := fun _ => fun
  | [d1, d2, d3] => { results := [.lit (.bool true)], args := [d1, d2, d3] }
  | _ => none }
def stonePairsAsSpecifiedRow : OpenClaim := { program := "ythgllnnlngihoaagreat", sum := "5d381bd8d1f12aaf5f6da70f7eb75cd099cfe19bf8eaad60149d41dc32106a1e", func := "boundstone/boundstonelaw05.StonePairsAsSpecified", spec := "stonePairsAsSpecified", unfollowed := true, recurses := true, apart := false }
def StonePairsAsSpecifiedSaid : Prop := stonePairsAsSpecifiedRow.holds Tryz.pinned (OpenSpec.ofChange stonePairsAsSpecifiedSpec)

/-- ITS FALSE NEIGHBOUR: 'it returns false'. Refute it at one input. -/
def stonePairsAsSpecifiedWrong : ChangeSpec := { name := "stonePairsAsSpecified", fn := fun _ => fun
  | [d1, d2, d3] => { results := [.lit (.bool false)], args := [d1, d2, d3] }
  | _ => none }
def StonePairsAsSpecifiedWrongFalsely : Prop := stonePairsAsSpecifiedRow.holds Tryz.pinned (OpenSpec.ofChange stonePairsAsSpecifiedWrong)

/-- 'boundstonelaw05.StoneMatchingsProved': WHATEVER THE INPUT: true; the input reads as it did. -/
def stoneMatchingsProvedSpec : ChangeSpec := { name := "stoneMatchingsProved", fn := fun _ => fun
  | [d1, d2, d3, d4, d5, d6] => { results := [.lit (.bool true)], args := [d1, d2, d3, d4, d5, d6] }
  | _ => none }
def stoneMatchingsProvedRow : OpenClaim := { program := "ythgllnnlngihoaagreat", sum := "5d381bd8d1f12aaf5f6da70f7eb75cd099cfe19bf8eaad60149d41dc32106a1e", func := "boundstone/boundstonelaw05.StoneMatchingsProved", spec := "stoneMatchingsProved", unfollowed := true, recurses := true, apart := false }
def StoneMatchingsProvedSaid : Prop := stoneMatchingsProvedRow.holds Tryz.pinned (OpenSpec.ofChange stoneMatchingsProvedSpec)

/-- ITS FALSE NEIGHBOUR: 'it returns false'. Refute it at one input. -/
def stoneMatchingsProvedWrong : ChangeSpec := { name := "stoneMatchingsProved", fn := fun _ => fun
  | [d1, d2, d3, d4, d5, d6] => { results := [.lit (.bool false)], args := [d1, d2, d3, d4, d5, d6] }
  | _ => none }
def StoneMatchingsProvedWrongFalsely : Prop := stoneMatchingsProvedRow.holds Tryz.pinned (OpenSpec.ofChange stoneMatchingsProvedWrong)

/- THE SECOND FORM. 'bulk': how many values and letters a reading holds, each counted each time it is reached (what is shared counts as often as it is met; a slice's spare places count too). A statement '..UptoSaid' is the law's where the arguments, and the package variables that the reading takes, are together of bulk at most 1048576: NARROWER than '..Said'. Prove '..Said' where nothing that the law and all that it calls make is longer than what came in: it says more and counts as full. Else prove '..UptoSaid'. A law counts once. -/
mutual
def uptoBulk {H : Type} : DataW H → Nat
  | .lit (.string bytes) => bytes.length + 1
  | .lit _ => 1
  | .nil => 1
  | .ptr d => uptoBulk d + 1
  | .slice elems spare => uptoBulkAll elems + uptoBulkAll spare + 1
  | .agg parts => uptoBulkAll parts + 1
  | .iface _ d => uptoBulk d + 1
  | .map entries => uptoBulkEntries entries + 1
  | .held _ => 1
def uptoBulkAll {H : Type} : List (DataW H) → Nat
  | [] => 0
  | d :: r => uptoBulk d + uptoBulkAll r
def uptoBulkEntries {H : Type} : List (Lit × DataW H) → Nat
  | [] => 0
  | x :: r => uptoBulkEntry x + uptoBulkEntries r
def uptoBulkEntry {H : Type} : Lit × DataW H → Nat
  | (.string bytes, d) => bytes.length + uptoBulk d + 1
  | (_, d) => uptoBulk d + 1
 end
def uptoSmall : (H : Type) → List (DataW H) → Bool := fun _ ds => decide (uptoBulkAll ds ≤ 1048576)
def OpenSpec.upto (s : _root_.Go.ChangeSpec) : _root_.Go.OpenSpec := { _root_.Go.OpenSpec.ofChange s with cond := some uptoSmall }

/-- 'boundstonelaw05.StoneCoursesAsSpecified', WHERE WHAT IT READS IS OF BULK AT MOST 1048576: true; the input reads as it did. -/
def stoneCoursesAsSpecifiedUptoRow : OpenClaim := { program := "ythgllnnlngihoaagreat", sum := "5d381bd8d1f12aaf5f6da70f7eb75cd099cfe19bf8eaad60149d41dc32106a1e", func := "boundstone/boundstonelaw05.StoneCoursesAsSpecified", spec := "stoneCoursesAsSpecified", unfollowed := true, recurses := true, apart := false, narrowed := true }
def StoneCoursesAsSpecifiedUptoSaid : Prop := stoneCoursesAsSpecifiedUptoRow.holds Tryz.pinned (OpenSpec.upto stoneCoursesAsSpecifiedSpec)

/-- 'boundstonelaw05.StoneNeedsAsSpecified', WHERE WHAT IT READS IS OF BULK AT MOST 1048576: true; the input reads as it did. -/
def stoneNeedsAsSpecifiedUptoRow : OpenClaim := { program := "ythgllnnlngihoaagreat", sum := "5d381bd8d1f12aaf5f6da70f7eb75cd099cfe19bf8eaad60149d41dc32106a1e", func := "boundstone/boundstonelaw05.StoneNeedsAsSpecified", spec := "stoneNeedsAsSpecified", unfollowed := true, recurses := true, apart := false, narrowed := true }
def StoneNeedsAsSpecifiedUptoSaid : Prop := stoneNeedsAsSpecifiedUptoRow.holds Tryz.pinned (OpenSpec.upto stoneNeedsAsSpecifiedSpec)

/-- 'boundstonelaw05.StoneMoreChanges', WHERE WHAT IT READS IS OF BULK AT MOST 1048576: true; the input reads as it did. -/
def stoneMoreChangesUptoRow : OpenClaim := { program := "ythgllnnlngihoaagreat", sum := "5d381bd8d1f12aaf5f6da70f7eb75cd099cfe19bf8eaad60149d41dc32106a1e", func := "boundstone/boundstonelaw05.StoneMoreChanges", spec := "stoneMoreChanges", unfollowed := true, recurses := true, apart := false, narrowed := true }
def StoneMoreChangesUptoSaid : Prop := stoneMoreChangesUptoRow.holds Tryz.pinned (OpenSpec.upto stoneMoreChangesSpec)

/-- 'boundstonelaw05.StonePatternsAsSpecified', WHERE WHAT IT READS IS OF BULK AT MOST 1048576: true; the input reads as it did. -/
def stonePatternsAsSpecifiedUptoRow : OpenClaim := { program := "ythgllnnlngihoaagreat", sum := "5d381bd8d1f12aaf5f6da70f7eb75cd099cfe19bf8eaad60149d41dc32106a1e", func := "boundstone/boundstonelaw05.StonePatternsAsSpecified", spec := "stonePatternsAsSpecified", unfollowed := true, recurses := true, apart := false, narrowed := true }
def StonePatternsAsSpecifiedUptoSaid : Prop := stonePatternsAsSpecifiedUptoRow.holds Tryz.pinned (OpenSpec.upto stonePatternsAsSpecifiedSpec)

/-- 'boundstonelaw05.StoneExtentsAsSpecified', WHERE WHAT IT READS IS OF BULK AT MOST 1048576: true; the input reads as it did. -/
def stoneExtentsAsSpecifiedUptoRow : OpenClaim := { program := "ythgllnnlngihoaagreat", sum := "5d381bd8d1f12aaf5f6da70f7eb75cd099cfe19bf8eaad60149d41dc32106a1e", func := "boundstone/boundstonelaw05.StoneExtentsAsSpecified", spec := "stoneExtentsAsSpecified", unfollowed := true, recurses := true, apart := false, narrowed := true }
def StoneExtentsAsSpecifiedUptoSaid : Prop := stoneExtentsAsSpecifiedUptoRow.holds Tryz.pinned (OpenSpec.upto stoneExtentsAsSpecifiedSpec)

/-- 'boundstonelaw05.StoneExtentsHold', WHERE WHAT IT READS IS OF BULK AT MOST 1048576: true; the input reads as it did. -/
def stoneExtentsHoldUptoRow : OpenClaim := { program := "ythgllnnlngihoaagreat", sum := "5d381bd8d1f12aaf5f6da70f7eb75cd099cfe19bf8eaad60149d41dc32106a1e", func := "boundstone/boundstonelaw05.StoneExtentsHold", spec := "stoneExtentsHold", unfollowed := true, recurses := true, apart := false, narrowed := true }
def StoneExtentsHoldUptoSaid : Prop := stoneExtentsHoldUptoRow.holds Tryz.pinned (OpenSpec.upto stoneExtentsHoldSpec)

/-- 'boundstonelaw05.StoneTruthsAsSpecified', WHERE WHAT IT READS IS OF BULK AT MOST 1048576: true; the input reads as it did. -/
def stoneTruthsAsSpecifiedUptoRow : OpenClaim := { program := "ythgllnnlngihoaagreat", sum := "5d381bd8d1f12aaf5f6da70f7eb75cd099cfe19bf8eaad60149d41dc32106a1e", func := "boundstone/boundstonelaw05.StoneTruthsAsSpecified", spec := "stoneTruthsAsSpecified", unfollowed := true, recurses := true, apart := false, narrowed := true }
def StoneTruthsAsSpecifiedUptoSaid : Prop := stoneTruthsAsSpecifiedUptoRow.holds Tryz.pinned (OpenSpec.upto stoneTruthsAsSpecifiedSpec)

/-- 'boundstonelaw05.StoneTruthsFit', WHERE WHAT IT READS IS OF BULK AT MOST 1048576: true; the input reads as it did. -/
def stoneTruthsFitUptoRow : OpenClaim := { program := "ythgllnnlngihoaagreat", sum := "5d381bd8d1f12aaf5f6da70f7eb75cd099cfe19bf8eaad60149d41dc32106a1e", func := "boundstone/boundstonelaw05.StoneTruthsFit", spec := "stoneTruthsFit", unfollowed := true, recurses := true, apart := false, narrowed := true }
def StoneTruthsFitUptoSaid : Prop := stoneTruthsFitUptoRow.holds Tryz.pinned (OpenSpec.upto stoneTruthsFitSpec)

/-- 'boundstonelaw05.StoneMatchesAsSpecified', WHERE WHAT IT READS IS OF BULK AT MOST 1048576: true; the input reads as it did. -/
def stoneMatchesAsSpecifiedUptoRow : OpenClaim := { program := "ythgllnnlngihoaagreat", sum := "5d381bd8d1f12aaf5f6da70f7eb75cd099cfe19bf8eaad60149d41dc32106a1e", func := "boundstone/boundstonelaw05.StoneMatchesAsSpecified", spec := "stoneMatchesAsSpecified", unfollowed := true, recurses := true, apart := false, narrowed := true }
def StoneMatchesAsSpecifiedUptoSaid : Prop := stoneMatchesAsSpecifiedUptoRow.holds Tryz.pinned (OpenSpec.upto stoneMatchesAsSpecifiedSpec)

/-- 'boundstonelaw05.StoneTruePairs', WHERE WHAT IT READS IS OF BULK AT MOST 1048576: true; the input reads as it did. -/
def stoneTruePairsUptoRow : OpenClaim := { program := "ythgllnnlngihoaagreat", sum := "5d381bd8d1f12aaf5f6da70f7eb75cd099cfe19bf8eaad60149d41dc32106a1e", func := "boundstone/boundstonelaw05.StoneTruePairs", spec := "stoneTruePairs", unfollowed := true, recurses := true, apart := false, narrowed := true }
def StoneTruePairsUptoSaid : Prop := stoneTruePairsUptoRow.holds Tryz.pinned (OpenSpec.upto stoneTruePairsSpec)

/-- 'boundstonelaw05.StonePairsAsSpecified', WHERE WHAT IT READS IS OF BULK AT MOST 1048576: true; the input reads as it did. -/
def stonePairsAsSpecifiedUptoRow : OpenClaim := { program := "ythgllnnlngihoaagreat", sum := "5d381bd8d1f12aaf5f6da70f7eb75cd099cfe19bf8eaad60149d41dc32106a1e", func := "boundstone/boundstonelaw05.StonePairsAsSpecified", spec := "stonePairsAsSpecified", unfollowed := true, recurses := true, apart := false, narrowed := true }
def StonePairsAsSpecifiedUptoSaid : Prop := stonePairsAsSpecifiedUptoRow.holds Tryz.pinned (OpenSpec.upto stonePairsAsSpecifiedSpec)

/-- 'boundstonelaw05.StoneMatchingsProved', WHERE WHAT IT READS IS OF BULK AT MOST 1048576: true; the input reads as it did. -/
def stoneMatchingsProvedUptoRow : OpenClaim := { program := "ythgllnnlngihoaagreat", sum := "5d381bd8d1f12aaf5f6da70f7eb75cd099cfe19bf8eaad60149d41dc32106a1e", func := "boundstone/boundstonelaw05.StoneMatchingsProved", spec := "stoneMatchingsProved", unfollowed := true, recurses := true, apart := false, narrowed := true }
def StoneMatchingsProvedUptoSaid : Prop := stoneMatchingsProvedUptoRow.holds Tryz.pinned (OpenSpec.upto stoneMatchingsProvedSpec)

end Rows
end Go.Proofs.YthgllnnlngihoaaGreat
