/-
  No cell of these rows narrows 'for every input' (looked for: loops, veiled, ifaces, maps, wideKeys, modest, calm, conditions, laid).
  DERIVED. THE GIVEN ROWS OF THIS SEAT. 13 by the template 'for every input the law returns true; each argument reads behind the call as it read before'; 0 by the template 'total and deterministic' (their statements: YtmkjkkmilopcpaaTotals.lean).
  GIVEN WITH THE SEED: the statements are not yours to turn. If you find one false, say at which input.
  Laid BY PROGRAM, IN A SANDBOX (cutbox-rows.mjs): the forced cells as the released guide's own fill.sh prints them over the translation 743feb1339214319… (all of the seat's roots in one cut). By AI agents, Wed Nov 11 2026. No macro, syntax, notation, axiom, sorry.
-/
import Derived.Test.YtmkjkkmilopcpaaChecked
import GoSem.Claim
import GoSem.ClaimJoined
import GoSem.ClaimMapViews
import Derived.JoinedTies
import Derived.KernelRfl
namespace Go.Proofs.Ytmkjkkmilopcpaa
/- THE CELL 'sum', in the pinned program and in every row, IS THE sha256 OF THE DUMP (.gsa) THAT YtmkjkkmilopcpaaProg.lean LOADS. Nothing in Lean hashes anything: it is a label: what it is worth is what the hold of that sum in a sandbox is worth. -/
noncomputable def Try.pinned : Pinned := { name := "ytmkjkkmilopcpaa", sum := "743feb1339214319245897ab6f393b710696e37f555216528e7002e0b1724785", checked := Try.checked }
namespace Rows
def none {H : Type} : Left H := { results := [], args := [] }

/-- 'hypercubelaw2.CellLess': WHATEVER THE INPUT: true; the input reads as it did. -/
def cellLessSpec : ChangeSpec := { name := "cellLess", fn := fun _ => fun
  | [d1, d2, d3] => { results := [.lit (.bool true)], args := [d1, d2, d3] }
  | _ => none }
def cellLessRow : OpenClaim := { program := "ytmkjkkmilopcpaa", sum := "743feb1339214319245897ab6f393b710696e37f555216528e7002e0b1724785", func := "hypercube/hypercubelaw2.CellLess", spec := "cellLess", inPlace := ["slices.overlaps[hypercube/api.Cell]"], unfollowed := true, recurses := true, apart := false }
def CellLessSaid : Prop := cellLessRow.holds Try.pinned (OpenSpec.ofChange cellLessSpec)

/-- ITS FALSE NEIGHBOUR: 'it returns false'. Refute it at one input. -/
def cellLessWrong : ChangeSpec := { name := "cellLess", fn := fun _ => fun
  | [d1, d2, d3] => { results := [.lit (.bool false)], args := [d1, d2, d3] }
  | _ => none }
def CellLessWrongFalsely : Prop := cellLessRow.holds Try.pinned (OpenSpec.ofChange cellLessWrong)

/-- 'hypercubelaw2.CellJoins': WHATEVER THE INPUT: true; the input reads as it did. -/
def cellJoinsSpec : ChangeSpec := { name := "cellJoins", fn := fun _ => fun
  | [d1, d2] => { results := [.lit (.bool true)], args := [d1, d2] }
  | _ => none }
def cellJoinsRow : OpenClaim := { program := "ytmkjkkmilopcpaa", sum := "743feb1339214319245897ab6f393b710696e37f555216528e7002e0b1724785", func := "hypercube/hypercubelaw2.CellJoins", spec := "cellJoins", inPlace := ["slices.overlaps[hypercube/api.Cell]"], unfollowed := true, recurses := true, apart := false }
def CellJoinsSaid : Prop := cellJoinsRow.holds Try.pinned (OpenSpec.ofChange cellJoinsSpec)

/-- ITS FALSE NEIGHBOUR: 'it returns false'. Refute it at one input. -/
def cellJoinsWrong : ChangeSpec := { name := "cellJoins", fn := fun _ => fun
  | [d1, d2] => { results := [.lit (.bool false)], args := [d1, d2] }
  | _ => none }
def CellJoinsWrongFalsely : Prop := cellJoinsRow.holds Try.pinned (OpenSpec.ofChange cellJoinsWrong)

/-- 'hypercubelaw2.CellGroups': WHATEVER THE INPUT: true; the input reads as it did. -/
def cellGroupsSpec : ChangeSpec := { name := "cellGroups", fn := fun _ => fun
  | [d1, d2, d3, d4, d5, d6] => { results := [.lit (.bool true)], args := [d1, d2, d3, d4, d5, d6] }
  | _ => none }
def cellGroupsRow : OpenClaim := { program := "ytmkjkkmilopcpaa", sum := "743feb1339214319245897ab6f393b710696e37f555216528e7002e0b1724785", func := "hypercube/hypercubelaw2.CellGroups", spec := "cellGroups", inPlace := ["slices.overlaps[hypercube/api.Cell]"], unfollowed := true, recurses := true, apart := false }
def CellGroupsSaid : Prop := cellGroupsRow.holds Try.pinned (OpenSpec.ofChange cellGroupsSpec)

/-- ITS FALSE NEIGHBOUR: 'it returns false'. Refute it at one input. -/
def cellGroupsWrong : ChangeSpec := { name := "cellGroups", fn := fun _ => fun
  | [d1, d2, d3, d4, d5, d6] => { results := [.lit (.bool false)], args := [d1, d2, d3, d4, d5, d6] }
  | _ => none }
def CellGroupsWrongFalsely : Prop := cellGroupsRow.holds Try.pinned (OpenSpec.ofChange cellGroupsWrong)

/-- 'hypercubelaw2.CellKnown': WHATEVER THE INPUT: true; the input reads as it did. -/
def cellKnownSpec : ChangeSpec := { name := "cellKnown", fn := fun _ => fun
  | [d] => { results := [.lit (.bool true)], args := [d] }
  | _ => none }
def cellKnownRow : OpenClaim := { program := "ytmkjkkmilopcpaa", sum := "743feb1339214319245897ab6f393b710696e37f555216528e7002e0b1724785", func := "hypercube/hypercubelaw2.CellKnown", spec := "cellKnown", inPlace := ["slices.overlaps[hypercube/api.Cell]"], unfollowed := true, recurses := true, apart := false }
def CellKnownSaid : Prop := cellKnownRow.holds Try.pinned (OpenSpec.ofChange cellKnownSpec)

/-- ITS FALSE NEIGHBOUR: 'it returns false'. Refute it at one input. -/
def cellKnownWrong : ChangeSpec := { name := "cellKnown", fn := fun _ => fun
  | [d] => { results := [.lit (.bool false)], args := [d] }
  | _ => none }
def CellKnownWrongFalsely : Prop := cellKnownRow.holds Try.pinned (OpenSpec.ofChange cellKnownWrong)

/-- 'hypercubelaw2.CellOwn': WHATEVER THE INPUT: true; the input reads as it did. -/
def cellOwnSpec : ChangeSpec := { name := "cellOwn", fn := fun _ => fun
  | [d1, d2, d3, d4, d5, d6] => { results := [.lit (.bool true)], args := [d1, d2, d3, d4, d5, d6] }
  | _ => none }
def cellOwnRow : OpenClaim := { program := "ytmkjkkmilopcpaa", sum := "743feb1339214319245897ab6f393b710696e37f555216528e7002e0b1724785", func := "hypercube/hypercubelaw2.CellOwn", spec := "cellOwn", inPlace := ["slices.overlaps[hypercube/api.Cell]"], unfollowed := true, recurses := true, apart := false }
def CellOwnSaid : Prop := cellOwnRow.holds Try.pinned (OpenSpec.ofChange cellOwnSpec)

/-- ITS FALSE NEIGHBOUR: 'it returns false'. Refute it at one input. -/
def cellOwnWrong : ChangeSpec := { name := "cellOwn", fn := fun _ => fun
  | [d1, d2, d3, d4, d5, d6] => { results := [.lit (.bool false)], args := [d1, d2, d3, d4, d5, d6] }
  | _ => none }
def CellOwnWrongFalsely : Prop := cellOwnRow.holds Try.pinned (OpenSpec.ofChange cellOwnWrong)

/-- 'hypercubelaw2.CellParts': WHATEVER THE INPUT: true; the input reads as it did. -/
def cellPartsSpec : ChangeSpec := { name := "cellParts", fn := fun _ => fun
  | [d1, d2, d3, d4, d5, d6] => { results := [.lit (.bool true)], args := [d1, d2, d3, d4, d5, d6] }
  | _ => none }
def cellPartsRow : OpenClaim := { program := "ytmkjkkmilopcpaa", sum := "743feb1339214319245897ab6f393b710696e37f555216528e7002e0b1724785", func := "hypercube/hypercubelaw2.CellParts", spec := "cellParts", inPlace := ["slices.overlaps[hypercube/api.Cell]"], unfollowed := true, recurses := true, apart := false }
def CellPartsSaid : Prop := cellPartsRow.holds Try.pinned (OpenSpec.ofChange cellPartsSpec)

/-- ITS FALSE NEIGHBOUR: 'it returns false'. Refute it at one input. -/
def cellPartsWrong : ChangeSpec := { name := "cellParts", fn := fun _ => fun
  | [d1, d2, d3, d4, d5, d6] => { results := [.lit (.bool false)], args := [d1, d2, d3, d4, d5, d6] }
  | _ => none }
def CellPartsWrongFalsely : Prop := cellPartsRow.holds Try.pinned (OpenSpec.ofChange cellPartsWrong)

/-- 'hypercubelaw2.CellTotals': WHATEVER THE INPUT: true; the input reads as it did. -/
def cellTotalsSpec : ChangeSpec := { name := "cellTotals", fn := fun _ => fun
  | [d] => { results := [.lit (.bool true)], args := [d] }
  | _ => none }
def cellTotalsRow : OpenClaim := { program := "ytmkjkkmilopcpaa", sum := "743feb1339214319245897ab6f393b710696e37f555216528e7002e0b1724785", func := "hypercube/hypercubelaw2.CellTotals", spec := "cellTotals", inPlace := ["slices.overlaps[hypercube/api.Cell]"], unfollowed := true, recurses := true, apart := false }
def CellTotalsSaid : Prop := cellTotalsRow.holds Try.pinned (OpenSpec.ofChange cellTotalsSpec)

/-- ITS FALSE NEIGHBOUR: 'it returns false'. Refute it at one input. -/
def cellTotalsWrong : ChangeSpec := { name := "cellTotals", fn := fun _ => fun
  | [d] => { results := [.lit (.bool false)], args := [d] }
  | _ => none }
def CellTotalsWrongFalsely : Prop := cellTotalsRow.holds Try.pinned (OpenSpec.ofChange cellTotalsWrong)

/-- 'hypercubelaw2.CellSorts': WHATEVER THE INPUT: true; the input reads as it did. -/
def cellSortsSpec : ChangeSpec := { name := "cellSorts", fn := fun _ => fun
  | [d1, d2] => { results := [.lit (.bool true)], args := [d1, d2] }
  | _ => none }
def cellSortsRow : OpenClaim := { program := "ytmkjkkmilopcpaa", sum := "743feb1339214319245897ab6f393b710696e37f555216528e7002e0b1724785", func := "hypercube/hypercubelaw2.CellSorts", spec := "cellSorts", inPlace := ["slices.overlaps[hypercube/api.Cell]"], unfollowed := true, recurses := true, apart := false }
def CellSortsSaid : Prop := cellSortsRow.holds Try.pinned (OpenSpec.ofChange cellSortsSpec)

/-- ITS FALSE NEIGHBOUR: 'it returns false'. Refute it at one input. -/
def cellSortsWrong : ChangeSpec := { name := "cellSorts", fn := fun _ => fun
  | [d1, d2] => { results := [.lit (.bool false)], args := [d1, d2] }
  | _ => none }
def CellSortsWrongFalsely : Prop := cellSortsRow.holds Try.pinned (OpenSpec.ofChange cellSortsWrong)

/-- 'hypercubelaw2.CellAll': WHATEVER THE INPUT: true; the input reads as it did. -/
def cellAllSpec : ChangeSpec := { name := "cellAll", fn := fun _ => fun
  | [d1, d2, d3, d4, d5, d6] => { results := [.lit (.bool true)], args := [d1, d2, d3, d4, d5, d6] }
  | _ => none }
def cellAllRow : OpenClaim := { program := "ytmkjkkmilopcpaa", sum := "743feb1339214319245897ab6f393b710696e37f555216528e7002e0b1724785", func := "hypercube/hypercubelaw2.CellAll", spec := "cellAll", inPlace := ["slices.overlaps[hypercube/api.Cell]"], unfollowed := true, recurses := true, apart := false }
def CellAllSaid : Prop := cellAllRow.holds Try.pinned (OpenSpec.ofChange cellAllSpec)

/-- ITS FALSE NEIGHBOUR: 'it returns false'. Refute it at one input. -/
def cellAllWrong : ChangeSpec := { name := "cellAll", fn := fun _ => fun
  | [d1, d2, d3, d4, d5, d6] => { results := [.lit (.bool false)], args := [d1, d2, d3, d4, d5, d6] }
  | _ => none }
def CellAllWrongFalsely : Prop := cellAllRow.holds Try.pinned (OpenSpec.ofChange cellAllWrong)

/-- 'hypercubelaw2.CellNarrows': WHATEVER THE INPUT: true; the input reads as it did. -/
def cellNarrowsSpec : ChangeSpec := { name := "cellNarrows", fn := fun _ => fun
  | [d1, d2, d3, d4, d5, d6] => { results := [.lit (.bool true)], args := [d1, d2, d3, d4, d5, d6] }
  | _ => none }
def cellNarrowsRow : OpenClaim := { program := "ytmkjkkmilopcpaa", sum := "743feb1339214319245897ab6f393b710696e37f555216528e7002e0b1724785", func := "hypercube/hypercubelaw2.CellNarrows", spec := "cellNarrows", inPlace := ["slices.overlaps[hypercube/api.Cell]"], unfollowed := true, recurses := true, apart := false }
def CellNarrowsSaid : Prop := cellNarrowsRow.holds Try.pinned (OpenSpec.ofChange cellNarrowsSpec)

/-- ITS FALSE NEIGHBOUR: 'it returns false'. Refute it at one input. -/
def cellNarrowsWrong : ChangeSpec := { name := "cellNarrows", fn := fun _ => fun
  | [d1, d2, d3, d4, d5, d6] => { results := [.lit (.bool false)], args := [d1, d2, d3, d4, d5, d6] }
  | _ => none }
def CellNarrowsWrongFalsely : Prop := cellNarrowsRow.holds Try.pinned (OpenSpec.ofChange cellNarrowsWrong)

/-- 'hypercubelaw2.CellWays': WHATEVER THE INPUT: true; the input reads as it did. -/
def cellWaysSpec : ChangeSpec := { name := "cellWays", fn := fun _ => fun
  | [d1, d2, d3, d4, d5, d6, d7] => { results := [.lit (.bool true)], args := [d1, d2, d3, d4, d5, d6, d7] }
  | _ => none }
def cellWaysRow : OpenClaim := { program := "ytmkjkkmilopcpaa", sum := "743feb1339214319245897ab6f393b710696e37f555216528e7002e0b1724785", func := "hypercube/hypercubelaw2.CellWays", spec := "cellWays", inPlace := ["slices.overlaps[hypercube/api.Cell]"], unfollowed := true, recurses := true, apart := false }
def CellWaysSaid : Prop := cellWaysRow.holds Try.pinned (OpenSpec.ofChange cellWaysSpec)

/-- ITS FALSE NEIGHBOUR: 'it returns false'. Refute it at one input. -/
def cellWaysWrong : ChangeSpec := { name := "cellWays", fn := fun _ => fun
  | [d1, d2, d3, d4, d5, d6, d7] => { results := [.lit (.bool false)], args := [d1, d2, d3, d4, d5, d6, d7] }
  | _ => none }
def CellWaysWrongFalsely : Prop := cellWaysRow.holds Try.pinned (OpenSpec.ofChange cellWaysWrong)

/-- 'hypercubelaw2.CellReads': WHATEVER THE INPUT: true; the input reads as it did. -/
def cellReadsSpec : ChangeSpec := { name := "cellReads", fn := fun _ => fun
  | [d1, d2, d3, d4, d5, d6, d7, d8, d9, d10] => { results := [.lit (.bool true)], args := [d1, d2, d3, d4, d5, d6, d7, d8, d9, d10] }
  | _ => none }
def cellReadsRow : OpenClaim := { program := "ytmkjkkmilopcpaa", sum := "743feb1339214319245897ab6f393b710696e37f555216528e7002e0b1724785", func := "hypercube/hypercubelaw2.CellReads", spec := "cellReads", inPlace := ["slices.overlaps[hypercube/api.Cell]"], unfollowed := true, recurses := true, apart := false }
def CellReadsSaid : Prop := cellReadsRow.holds Try.pinned (OpenSpec.ofChange cellReadsSpec)

/-- ITS FALSE NEIGHBOUR: 'it returns false'. Refute it at one input. -/
def cellReadsWrong : ChangeSpec := { name := "cellReads", fn := fun _ => fun
  | [d1, d2, d3, d4, d5, d6, d7, d8, d9, d10] => { results := [.lit (.bool false)], args := [d1, d2, d3, d4, d5, d6, d7, d8, d9, d10] }
  | _ => none }
def CellReadsWrongFalsely : Prop := cellReadsRow.holds Try.pinned (OpenSpec.ofChange cellReadsWrong)

/-- 'hypercubelaw2.CellBack': WHATEVER THE INPUT: true; the input reads as it did. -/
def cellBackSpec : ChangeSpec := { name := "cellBack", fn := fun _ => fun
  | [d1, d2, d3, d4, d5] => { results := [.lit (.bool true)], args := [d1, d2, d3, d4, d5] }
  | _ => none }
def cellBackRow : OpenClaim := { program := "ytmkjkkmilopcpaa", sum := "743feb1339214319245897ab6f393b710696e37f555216528e7002e0b1724785", func := "hypercube/hypercubelaw2.CellBack", spec := "cellBack", inPlace := ["slices.overlaps[hypercube/api.Cell]"], unfollowed := true, recurses := true, apart := false }
def CellBackSaid : Prop := cellBackRow.holds Try.pinned (OpenSpec.ofChange cellBackSpec)

/-- ITS FALSE NEIGHBOUR: 'it returns false'. Refute it at one input. -/
def cellBackWrong : ChangeSpec := { name := "cellBack", fn := fun _ => fun
  | [d1, d2, d3, d4, d5] => { results := [.lit (.bool false)], args := [d1, d2, d3, d4, d5] }
  | _ => none }
def CellBackWrongFalsely : Prop := cellBackRow.holds Try.pinned (OpenSpec.ofChange cellBackWrong)

/- THE SECOND FORM. 'bulk': how many values and letters a reading holds, each counted each time it is reached (what is shared counts as often as it is met; a slice's spare places count too). A statement '..UptoSaid' is the law's where the arguments, and the package variables that the reading takes, are together of bulk at most 1048576: NARROWER than '..Said'. Prove '..Said' where nothing that the law and all that it calls make is longer than what came in: it says more and counts as full. Else prove '..UptoSaid'. A law counts once. -/
mutual
def uptoBulk {H : Type} : DataW H → Nat
  | .lit (.string bytes) => bytes.length + 1
  | .lit _ => 1
  | .nil => 1
  | .ptr d => uptoBulk d + 1
  | .slice elems spare => uptoBulkAll elems + uptoBulkAll spare + 1
  | .agg parts => uptoBulkAll parts + 1
  | .iface _ d => uptoBulk d + 1
  | .map entries => uptoBulkEntries entries + 1
  | .held _ => 1
def uptoBulkAll {H : Type} : List (DataW H) → Nat
  | [] => 0
  | d :: r => uptoBulk d + uptoBulkAll r
def uptoBulkEntries {H : Type} : List (Lit × DataW H) → Nat
  | [] => 0
  | x :: r => uptoBulkEntry x + uptoBulkEntries r
def uptoBulkEntry {H : Type} : Lit × DataW H → Nat
  | (.string bytes, d) => bytes.length + uptoBulk d + 1
  | (_, d) => uptoBulk d + 1
 end
def uptoSmall : (H : Type) → List (DataW H) → Bool := fun _ ds => decide (uptoBulkAll ds ≤ 1048576)
def OpenSpec.upto (s : _root_.Go.ChangeSpec) : _root_.Go.OpenSpec := { _root_.Go.OpenSpec.ofChange s with cond := some uptoSmall }

/-- 'hypercubelaw2.CellLess', WHERE WHAT IT READS IS OF BULK AT MOST 1048576: true; the input reads as it did. -/
def cellLessUptoRow : OpenClaim := { program := "ytmkjkkmilopcpaa", sum := "743feb1339214319245897ab6f393b710696e37f555216528e7002e0b1724785", func := "hypercube/hypercubelaw2.CellLess", spec := "cellLess", inPlace := ["slices.overlaps[hypercube/api.Cell]"], unfollowed := true, recurses := true, apart := false, narrowed := true }
def CellLessUptoSaid : Prop := cellLessUptoRow.holds Try.pinned (OpenSpec.upto cellLessSpec)

/-- 'hypercubelaw2.CellJoins', WHERE WHAT IT READS IS OF BULK AT MOST 1048576: true; the input reads as it did. -/
def cellJoinsUptoRow : OpenClaim := { program := "ytmkjkkmilopcpaa", sum := "743feb1339214319245897ab6f393b710696e37f555216528e7002e0b1724785", func := "hypercube/hypercubelaw2.CellJoins", spec := "cellJoins", inPlace := ["slices.overlaps[hypercube/api.Cell]"], unfollowed := true, recurses := true, apart := false, narrowed := true }
def CellJoinsUptoSaid : Prop := cellJoinsUptoRow.holds Try.pinned (OpenSpec.upto cellJoinsSpec)

/-- 'hypercubelaw2.CellGroups', WHERE WHAT IT READS IS OF BULK AT MOST 1048576: true; the input reads as it did. -/
def cellGroupsUptoRow : OpenClaim := { program := "ytmkjkkmilopcpaa", sum := "743feb1339214319245897ab6f393b710696e37f555216528e7002e0b1724785", func := "hypercube/hypercubelaw2.CellGroups", spec := "cellGroups", inPlace := ["slices.overlaps[hypercube/api.Cell]"], unfollowed := true, recurses := true, apart := false, narrowed := true }
def CellGroupsUptoSaid : Prop := cellGroupsUptoRow.holds Try.pinned (OpenSpec.upto cellGroupsSpec)

/-- 'hypercubelaw2.CellKnown', WHERE WHAT IT READS IS OF BULK AT MOST 1048576: true; the input reads as it did. -/
def cellKnownUptoRow : OpenClaim := { program := "ytmkjkkmilopcpaa", sum := "743feb1339214319245897ab6f393b710696e37f555216528e7002e0b1724785", func := "hypercube/hypercubelaw2.CellKnown", spec := "cellKnown", inPlace := ["slices.overlaps[hypercube/api.Cell]"], unfollowed := true, recurses := true, apart := false, narrowed := true }
def CellKnownUptoSaid : Prop := cellKnownUptoRow.holds Try.pinned (OpenSpec.upto cellKnownSpec)

/-- 'hypercubelaw2.CellOwn', WHERE WHAT IT READS IS OF BULK AT MOST 1048576: true; the input reads as it did. -/
def cellOwnUptoRow : OpenClaim := { program := "ytmkjkkmilopcpaa", sum := "743feb1339214319245897ab6f393b710696e37f555216528e7002e0b1724785", func := "hypercube/hypercubelaw2.CellOwn", spec := "cellOwn", inPlace := ["slices.overlaps[hypercube/api.Cell]"], unfollowed := true, recurses := true, apart := false, narrowed := true }
def CellOwnUptoSaid : Prop := cellOwnUptoRow.holds Try.pinned (OpenSpec.upto cellOwnSpec)

/-- 'hypercubelaw2.CellParts', WHERE WHAT IT READS IS OF BULK AT MOST 1048576: true; the input reads as it did. -/
def cellPartsUptoRow : OpenClaim := { program := "ytmkjkkmilopcpaa", sum := "743feb1339214319245897ab6f393b710696e37f555216528e7002e0b1724785", func := "hypercube/hypercubelaw2.CellParts", spec := "cellParts", inPlace := ["slices.overlaps[hypercube/api.Cell]"], unfollowed := true, recurses := true, apart := false, narrowed := true }
def CellPartsUptoSaid : Prop := cellPartsUptoRow.holds Try.pinned (OpenSpec.upto cellPartsSpec)

/-- 'hypercubelaw2.CellTotals', WHERE WHAT IT READS IS OF BULK AT MOST 1048576: true; the input reads as it did. -/
def cellTotalsUptoRow : OpenClaim := { program := "ytmkjkkmilopcpaa", sum := "743feb1339214319245897ab6f393b710696e37f555216528e7002e0b1724785", func := "hypercube/hypercubelaw2.CellTotals", spec := "cellTotals", inPlace := ["slices.overlaps[hypercube/api.Cell]"], unfollowed := true, recurses := true, apart := false, narrowed := true }
def CellTotalsUptoSaid : Prop := cellTotalsUptoRow.holds Try.pinned (OpenSpec.upto cellTotalsSpec)

/-- 'hypercubelaw2.CellSorts', WHERE WHAT IT READS IS OF BULK AT MOST 1048576: true; the input reads as it did. -/
def cellSortsUptoRow : OpenClaim := { program := "ytmkjkkmilopcpaa", sum := "743feb1339214319245897ab6f393b710696e37f555216528e7002e0b1724785", func := "hypercube/hypercubelaw2.CellSorts", spec := "cellSorts", inPlace := ["slices.overlaps[hypercube/api.Cell]"], unfollowed := true, recurses := true, apart := false, narrowed := true }
def CellSortsUptoSaid : Prop := cellSortsUptoRow.holds Try.pinned (OpenSpec.upto cellSortsSpec)

/-- 'hypercubelaw2.CellAll', WHERE WHAT IT READS IS OF BULK AT MOST 1048576: true; the input reads as it did. -/
def cellAllUptoRow : OpenClaim := { program := "ytmkjkkmilopcpaa", sum := "743feb1339214319245897ab6f393b710696e37f555216528e7002e0b1724785", func := "hypercube/hypercubelaw2.CellAll", spec := "cellAll", inPlace := ["slices.overlaps[hypercube/api.Cell]"], unfollowed := true, recurses := true, apart := false, narrowed := true }
def CellAllUptoSaid : Prop := cellAllUptoRow.holds Try.pinned (OpenSpec.upto cellAllSpec)

/-- 'hypercubelaw2.CellNarrows', WHERE WHAT IT READS IS OF BULK AT MOST 1048576: true; the input reads as it did. -/
def cellNarrowsUptoRow : OpenClaim := { program := "ytmkjkkmilopcpaa", sum := "743feb1339214319245897ab6f393b710696e37f555216528e7002e0b1724785", func := "hypercube/hypercubelaw2.CellNarrows", spec := "cellNarrows", inPlace := ["slices.overlaps[hypercube/api.Cell]"], unfollowed := true, recurses := true, apart := false, narrowed := true }
def CellNarrowsUptoSaid : Prop := cellNarrowsUptoRow.holds Try.pinned (OpenSpec.upto cellNarrowsSpec)

/-- 'hypercubelaw2.CellWays', WHERE WHAT IT READS IS OF BULK AT MOST 1048576: true; the input reads as it did. -/
def cellWaysUptoRow : OpenClaim := { program := "ytmkjkkmilopcpaa", sum := "743feb1339214319245897ab6f393b710696e37f555216528e7002e0b1724785", func := "hypercube/hypercubelaw2.CellWays", spec := "cellWays", inPlace := ["slices.overlaps[hypercube/api.Cell]"], unfollowed := true, recurses := true, apart := false, narrowed := true }
def CellWaysUptoSaid : Prop := cellWaysUptoRow.holds Try.pinned (OpenSpec.upto cellWaysSpec)

/-- 'hypercubelaw2.CellReads', WHERE WHAT IT READS IS OF BULK AT MOST 1048576: true; the input reads as it did. -/
def cellReadsUptoRow : OpenClaim := { program := "ytmkjkkmilopcpaa", sum := "743feb1339214319245897ab6f393b710696e37f555216528e7002e0b1724785", func := "hypercube/hypercubelaw2.CellReads", spec := "cellReads", inPlace := ["slices.overlaps[hypercube/api.Cell]"], unfollowed := true, recurses := true, apart := false, narrowed := true }
def CellReadsUptoSaid : Prop := cellReadsUptoRow.holds Try.pinned (OpenSpec.upto cellReadsSpec)

/-- 'hypercubelaw2.CellBack', WHERE WHAT IT READS IS OF BULK AT MOST 1048576: true; the input reads as it did. -/
def cellBackUptoRow : OpenClaim := { program := "ytmkjkkmilopcpaa", sum := "743feb1339214319245897ab6f393b710696e37f555216528e7002e0b1724785", func := "hypercube/hypercubelaw2.CellBack", spec := "cellBack", inPlace := ["slices.overlaps[hypercube/api.Cell]"], unfollowed := true, recurses := true, apart := false, narrowed := true }
def CellBackUptoSaid : Prop := cellBackUptoRow.holds Try.pinned (OpenSpec.upto cellBackSpec)

end Rows
end Go.Proofs.Ytmkjkkmilopcpaa
