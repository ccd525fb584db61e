/-
  No cell of these rows narrows 'for every input' (looked for: loops, veiled, ifaces, maps, wideKeys, modest, calm, conditions, laid).
  DERIVED. THE GIVEN ROWS OF THIS SEAT. 10 by the template 'for every input the law returns true; each argument reads behind the call as it read before'; 0 by the template 'total and deterministic' (their statements: YtndkimjmbpbcmaaTotals.lean).
  GIVEN WITH THE SEED: the statements are not yours to turn. If you find one false, say at which input.
  Laid BY PROGRAM, IN A SANDBOX (cutbox-rows.mjs): the forced cells as the released guide's own fill.sh prints them over the translation d5c8561fd81adc7b… (all of the seat's roots in one cut). By AI agents, Wed Nov 11 2026. No macro, syntax, notation, axiom, sorry.
-/
import Derived.Test.YtndkimjmbpbcmaaChecked
import GoSem.Claim
import GoSem.ClaimJoined
import GoSem.ClaimMapViews
import Derived.JoinedTies
import Derived.KernelRfl
namespace Go.Proofs.Ytndkimjmbpbcmaa
/- THE CELL 'sum', in the pinned program and in every row, IS THE sha256 OF THE DUMP (.gsa) THAT YtndkimjmbpbcmaaProg.lean LOADS. Nothing in Lean hashes anything: it is a label: what it is worth is what the hold of that sum in a sandbox is worth. -/
noncomputable def Try.pinned : Pinned := { name := "ytndkimjmbpbcmaa", sum := "d5c8561fd81adc7b8ceccd369ea0c58d24350649df68e7eb56d9312ef9f2352e", checked := Try.checked }
namespace Rows
def none {H : Type} : Left H := { results := [], args := [] }

/-- 'hypercubelaw6.MergeAll': WHATEVER THE INPUT: true; the input reads as it did. -/
def mergeAllSpec : ChangeSpec := { name := "mergeAll", fn := fun _ => fun
  | [d1, d2, d3, d4, d5, d6, d7] => { results := [.lit (.bool true)], args := [d1, d2, d3, d4, d5, d6, d7] }
  | _ => none }
def mergeAllRow : OpenClaim := { program := "ytndkimjmbpbcmaa", sum := "d5c8561fd81adc7b8ceccd369ea0c58d24350649df68e7eb56d9312ef9f2352e", func := "hypercube/hypercubelaw6.MergeAll", spec := "mergeAll", inPlace := ["slices.overlaps[hypercube/api.Cell]"], unfollowed := true, recurses := true, apart := false }
def MergeAllSaid : Prop := mergeAllRow.holds Try.pinned (OpenSpec.ofChange mergeAllSpec)

/-- ITS FALSE NEIGHBOUR: 'it returns false'. Refute it at one input. -/
def mergeAllWrong : ChangeSpec := { name := "mergeAll", fn := fun _ => fun
  | [d1, d2, d3, d4, d5, d6, d7] => { results := [.lit (.bool false)], args := [d1, d2, d3, d4, d5, d6, d7] }
  | _ => none }
def MergeAllWrongFalsely : Prop := mergeAllRow.holds Try.pinned (OpenSpec.ofChange mergeAllWrong)

/-- 'hypercubelaw6.MergeTwo': WHATEVER THE INPUT: true; the input reads as it did. -/
def mergeTwoSpec : ChangeSpec := { name := "mergeTwo", fn := fun _ => fun
  | [d1, d2, d3, d4, d5, d6] => { results := [.lit (.bool true)], args := [d1, d2, d3, d4, d5, d6] }
  | _ => none }
def mergeTwoRow : OpenClaim := { program := "ytndkimjmbpbcmaa", sum := "d5c8561fd81adc7b8ceccd369ea0c58d24350649df68e7eb56d9312ef9f2352e", func := "hypercube/hypercubelaw6.MergeTwo", spec := "mergeTwo", inPlace := ["slices.overlaps[hypercube/api.Cell]"], unfollowed := true, recurses := true, apart := false }
def MergeTwoSaid : Prop := mergeTwoRow.holds Try.pinned (OpenSpec.ofChange mergeTwoSpec)

/-- ITS FALSE NEIGHBOUR: 'it returns false'. Refute it at one input. -/
def mergeTwoWrong : ChangeSpec := { name := "mergeTwo", fn := fun _ => fun
  | [d1, d2, d3, d4, d5, d6] => { results := [.lit (.bool false)], args := [d1, d2, d3, d4, d5, d6] }
  | _ => none }
def MergeTwoWrongFalsely : Prop := mergeTwoRow.holds Try.pinned (OpenSpec.ofChange mergeTwoWrong)

/-- 'hypercubelaw6.MergeGroups': WHATEVER THE INPUT: true; the input reads as it did. -/
def mergeGroupsSpec : ChangeSpec := { name := "mergeGroups", fn := fun _ => fun
  | [d1, d2, d3, d4, d5, d6, d7] => { results := [.lit (.bool true)], args := [d1, d2, d3, d4, d5, d6, d7] }
  | _ => none }
def mergeGroupsRow : OpenClaim := { program := "ytndkimjmbpbcmaa", sum := "d5c8561fd81adc7b8ceccd369ea0c58d24350649df68e7eb56d9312ef9f2352e", func := "hypercube/hypercubelaw6.MergeGroups", spec := "mergeGroups", inPlace := ["slices.overlaps[hypercube/api.Cell]"], unfollowed := true, recurses := true, apart := false }
def MergeGroupsSaid : Prop := mergeGroupsRow.holds Try.pinned (OpenSpec.ofChange mergeGroupsSpec)

/-- ITS FALSE NEIGHBOUR: 'it returns false'. Refute it at one input. -/
def mergeGroupsWrong : ChangeSpec := { name := "mergeGroups", fn := fun _ => fun
  | [d1, d2, d3, d4, d5, d6, d7] => { results := [.lit (.bool false)], args := [d1, d2, d3, d4, d5, d6, d7] }
  | _ => none }
def MergeGroupsWrongFalsely : Prop := mergeGroupsRow.holds Try.pinned (OpenSpec.ofChange mergeGroupsWrong)

/-- 'hypercubelaw6.MergePasses': WHATEVER THE INPUT: true; the input reads as it did. -/
def mergePassesSpec : ChangeSpec := { name := "mergePasses", fn := fun _ => fun
  | [d1, d2] => { results := [.lit (.bool true)], args := [d1, d2] }
  | _ => none }
def mergePassesRow : OpenClaim := { program := "ytndkimjmbpbcmaa", sum := "d5c8561fd81adc7b8ceccd369ea0c58d24350649df68e7eb56d9312ef9f2352e", func := "hypercube/hypercubelaw6.MergePasses", spec := "mergePasses", inPlace := ["slices.overlaps[hypercube/api.Cell]"], unfollowed := true, recurses := true, apart := false }
def MergePassesSaid : Prop := mergePassesRow.holds Try.pinned (OpenSpec.ofChange mergePassesSpec)

/-- ITS FALSE NEIGHBOUR: 'it returns false'. Refute it at one input. -/
def mergePassesWrong : ChangeSpec := { name := "mergePasses", fn := fun _ => fun
  | [d1, d2] => { results := [.lit (.bool false)], args := [d1, d2] }
  | _ => none }
def MergePassesWrongFalsely : Prop := mergePassesRow.holds Try.pinned (OpenSpec.ofChange mergePassesWrong)

/-- 'hypercubelaw6.MergeEmpty': WHATEVER THE INPUT: true; the input reads as it did. -/
def mergeEmptySpec : ChangeSpec := { name := "mergeEmpty", fn := fun _ => fun
  | [d1, d2, d3, d4, d5, d6] => { results := [.lit (.bool true)], args := [d1, d2, d3, d4, d5, d6] }
  | _ => none }
def mergeEmptyRow : OpenClaim := { program := "ytndkimjmbpbcmaa", sum := "d5c8561fd81adc7b8ceccd369ea0c58d24350649df68e7eb56d9312ef9f2352e", func := "hypercube/hypercubelaw6.MergeEmpty", spec := "mergeEmpty", inPlace := ["slices.overlaps[hypercube/api.Cell]"], unfollowed := true, recurses := true, apart := false }
def MergeEmptySaid : Prop := mergeEmptyRow.holds Try.pinned (OpenSpec.ofChange mergeEmptySpec)

/-- ITS FALSE NEIGHBOUR: 'it returns false'. Refute it at one input. -/
def mergeEmptyWrong : ChangeSpec := { name := "mergeEmpty", fn := fun _ => fun
  | [d1, d2, d3, d4, d5, d6] => { results := [.lit (.bool false)], args := [d1, d2, d3, d4, d5, d6] }
  | _ => none }
def MergeEmptyWrongFalsely : Prop := mergeEmptyRow.holds Try.pinned (OpenSpec.ofChange mergeEmptyWrong)

/-- 'hypercubelaw6.MergeOwn': WHATEVER THE INPUT: true; the input reads as it did. -/
def mergeOwnSpec : ChangeSpec := { name := "mergeOwn", fn := fun _ => fun
  | [d1, d2, d3, d4, d5, d6] => { results := [.lit (.bool true)], args := [d1, d2, d3, d4, d5, d6] }
  | _ => none }
def mergeOwnRow : OpenClaim := { program := "ytndkimjmbpbcmaa", sum := "d5c8561fd81adc7b8ceccd369ea0c58d24350649df68e7eb56d9312ef9f2352e", func := "hypercube/hypercubelaw6.MergeOwn", spec := "mergeOwn", inPlace := ["slices.overlaps[hypercube/api.Cell]"], unfollowed := true, recurses := true, apart := false }
def MergeOwnSaid : Prop := mergeOwnRow.holds Try.pinned (OpenSpec.ofChange mergeOwnSpec)

/-- ITS FALSE NEIGHBOUR: 'it returns false'. Refute it at one input. -/
def mergeOwnWrong : ChangeSpec := { name := "mergeOwn", fn := fun _ => fun
  | [d1, d2, d3, d4, d5, d6] => { results := [.lit (.bool false)], args := [d1, d2, d3, d4, d5, d6] }
  | _ => none }
def MergeOwnWrongFalsely : Prop := mergeOwnRow.holds Try.pinned (OpenSpec.ofChange mergeOwnWrong)

/-- 'hypercubelaw6.MergeOne': WHATEVER THE INPUT: true; the input reads as it did. -/
def mergeOneSpec : ChangeSpec := { name := "mergeOne", fn := fun _ => fun
  | [d1, d2, d3, d4, d5, d6] => { results := [.lit (.bool true)], args := [d1, d2, d3, d4, d5, d6] }
  | _ => none }
def mergeOneRow : OpenClaim := { program := "ytndkimjmbpbcmaa", sum := "d5c8561fd81adc7b8ceccd369ea0c58d24350649df68e7eb56d9312ef9f2352e", func := "hypercube/hypercubelaw6.MergeOne", spec := "mergeOne", inPlace := ["slices.overlaps[hypercube/api.Cell]"], unfollowed := true, recurses := true, apart := false }
def MergeOneSaid : Prop := mergeOneRow.holds Try.pinned (OpenSpec.ofChange mergeOneSpec)

/-- ITS FALSE NEIGHBOUR: 'it returns false'. Refute it at one input. -/
def mergeOneWrong : ChangeSpec := { name := "mergeOne", fn := fun _ => fun
  | [d1, d2, d3, d4, d5, d6] => { results := [.lit (.bool false)], args := [d1, d2, d3, d4, d5, d6] }
  | _ => none }
def MergeOneWrongFalsely : Prop := mergeOneRow.holds Try.pinned (OpenSpec.ofChange mergeOneWrong)

/-- 'hypercubelaw6.MergeFans': WHATEVER THE INPUT: true; the input reads as it did. -/
def mergeFansSpec : ChangeSpec := { name := "mergeFans", fn := fun _ => fun
  | [d1, d2, d3, d4, d5, d6, d7] => { results := [.lit (.bool true)], args := [d1, d2, d3, d4, d5, d6, d7] }
  | _ => none }
def mergeFansRow : OpenClaim := { program := "ytndkimjmbpbcmaa", sum := "d5c8561fd81adc7b8ceccd369ea0c58d24350649df68e7eb56d9312ef9f2352e", func := "hypercube/hypercubelaw6.MergeFans", spec := "mergeFans", inPlace := ["slices.overlaps[hypercube/api.Cell]"], unfollowed := true, recurses := true, apart := false }
def MergeFansSaid : Prop := mergeFansRow.holds Try.pinned (OpenSpec.ofChange mergeFansSpec)

/-- ITS FALSE NEIGHBOUR: 'it returns false'. Refute it at one input. -/
def mergeFansWrong : ChangeSpec := { name := "mergeFans", fn := fun _ => fun
  | [d1, d2, d3, d4, d5, d6, d7] => { results := [.lit (.bool false)], args := [d1, d2, d3, d4, d5, d6, d7] }
  | _ => none }
def MergeFansWrongFalsely : Prop := mergeFansRow.holds Try.pinned (OpenSpec.ofChange mergeFansWrong)

/-- 'hypercubelaw6.MergeThree': WHATEVER THE INPUT: true; the input reads as it did. -/
def mergeThreeSpec : ChangeSpec := { name := "mergeThree", fn := fun _ => fun
  | [d1, d2, d3, d4, d5, d6, d7] => { results := [.lit (.bool true)], args := [d1, d2, d3, d4, d5, d6, d7] }
  | _ => none }
def mergeThreeRow : OpenClaim := { program := "ytndkimjmbpbcmaa", sum := "d5c8561fd81adc7b8ceccd369ea0c58d24350649df68e7eb56d9312ef9f2352e", func := "hypercube/hypercubelaw6.MergeThree", spec := "mergeThree", inPlace := ["slices.overlaps[hypercube/api.Cell]"], unfollowed := true, recurses := true, apart := false }
def MergeThreeSaid : Prop := mergeThreeRow.holds Try.pinned (OpenSpec.ofChange mergeThreeSpec)

/-- ITS FALSE NEIGHBOUR: 'it returns false'. Refute it at one input. -/
def mergeThreeWrong : ChangeSpec := { name := "mergeThree", fn := fun _ => fun
  | [d1, d2, d3, d4, d5, d6, d7] => { results := [.lit (.bool false)], args := [d1, d2, d3, d4, d5, d6, d7] }
  | _ => none }
def MergeThreeWrongFalsely : Prop := mergeThreeRow.holds Try.pinned (OpenSpec.ofChange mergeThreeWrong)

/-- 'hypercubelaw6.MergeSorted': WHATEVER THE INPUT: true; the input reads as it did. -/
def mergeSortedSpec : ChangeSpec := { name := "mergeSorted", fn := fun _ => fun
  | [d1, d2, d3, d4, d5, d6, d7] => { results := [.lit (.bool true)], args := [d1, d2, d3, d4, d5, d6, d7] }
  | _ => none }
def mergeSortedRow : OpenClaim := { program := "ytndkimjmbpbcmaa", sum := "d5c8561fd81adc7b8ceccd369ea0c58d24350649df68e7eb56d9312ef9f2352e", func := "hypercube/hypercubelaw6.MergeSorted", spec := "mergeSorted", inPlace := ["slices.overlaps[hypercube/api.Cell]"], unfollowed := true, recurses := true, apart := false }
def MergeSortedSaid : Prop := mergeSortedRow.holds Try.pinned (OpenSpec.ofChange mergeSortedSpec)

/-- ITS FALSE NEIGHBOUR: 'it returns false'. Refute it at one input. -/
def mergeSortedWrong : ChangeSpec := { name := "mergeSorted", fn := fun _ => fun
  | [d1, d2, d3, d4, d5, d6, d7] => { results := [.lit (.bool false)], args := [d1, d2, d3, d4, d5, d6, d7] }
  | _ => none }
def MergeSortedWrongFalsely : Prop := mergeSortedRow.holds Try.pinned (OpenSpec.ofChange mergeSortedWrong)

/- THE SECOND FORM. 'bulk': how many values and letters a reading holds, each counted each time it is reached (what is shared counts as often as it is met; a slice's spare places count too). A statement '..UptoSaid' is the law's where the arguments, and the package variables that the reading takes, are together of bulk at most 1048576: NARROWER than '..Said'. Prove '..Said' where nothing that the law and all that it calls make is longer than what came in: it says more and counts as full. Else prove '..UptoSaid'. A law counts once. -/
mutual
def uptoBulk {H : Type} : DataW H → Nat
  | .lit (.string bytes) => bytes.length + 1
  | .lit _ => 1
  | .nil => 1
  | .ptr d => uptoBulk d + 1
  | .slice elems spare => uptoBulkAll elems + uptoBulkAll spare + 1
  | .agg parts => uptoBulkAll parts + 1
  | .iface _ d => uptoBulk d + 1
  | .map entries => uptoBulkEntries entries + 1
  | .held _ => 1
def uptoBulkAll {H : Type} : List (DataW H) → Nat
  | [] => 0
  | d :: r => uptoBulk d + uptoBulkAll r
def uptoBulkEntries {H : Type} : List (Lit × DataW H) → Nat
  | [] => 0
  | x :: r => uptoBulkEntry x + uptoBulkEntries r
def uptoBulkEntry {H : Type} : Lit × DataW H → Nat
  | (.string bytes, d) => bytes.length + uptoBulk d + 1
  | (_, d) => uptoBulk d + 1
 end
def uptoSmall : (H : Type) → List (DataW H) → Bool := fun _ ds => decide (uptoBulkAll ds ≤ 1048576)
def OpenSpec.upto (s : _root_.Go.ChangeSpec) : _root_.Go.OpenSpec := { _root_.Go.OpenSpec.ofChange s with cond := some uptoSmall }

/-- 'hypercubelaw6.MergeAll', WHERE WHAT IT READS IS OF BULK AT MOST 1048576: true; the input reads as it did. -/
def mergeAllUptoRow : OpenClaim := { program := "ytndkimjmbpbcmaa", sum := "d5c8561fd81adc7b8ceccd369ea0c58d24350649df68e7eb56d9312ef9f2352e", func := "hypercube/hypercubelaw6.MergeAll", spec := "mergeAll", inPlace := ["slices.overlaps[hypercube/api.Cell]"], unfollowed := true, recurses := true, apart := false, narrowed := true }
def MergeAllUptoSaid : Prop := mergeAllUptoRow.holds Try.pinned (OpenSpec.upto mergeAllSpec)

/-- 'hypercubelaw6.MergeTwo', WHERE WHAT IT READS IS OF BULK AT MOST 1048576: true; the input reads as it did. -/
def mergeTwoUptoRow : OpenClaim := { program := "ytndkimjmbpbcmaa", sum := "d5c8561fd81adc7b8ceccd369ea0c58d24350649df68e7eb56d9312ef9f2352e", func := "hypercube/hypercubelaw6.MergeTwo", spec := "mergeTwo", inPlace := ["slices.overlaps[hypercube/api.Cell]"], unfollowed := true, recurses := true, apart := false, narrowed := true }
def MergeTwoUptoSaid : Prop := mergeTwoUptoRow.holds Try.pinned (OpenSpec.upto mergeTwoSpec)

/-- 'hypercubelaw6.MergeGroups', WHERE WHAT IT READS IS OF BULK AT MOST 1048576: true; the input reads as it did. -/
def mergeGroupsUptoRow : OpenClaim := { program := "ytndkimjmbpbcmaa", sum := "d5c8561fd81adc7b8ceccd369ea0c58d24350649df68e7eb56d9312ef9f2352e", func := "hypercube/hypercubelaw6.MergeGroups", spec := "mergeGroups", inPlace := ["slices.overlaps[hypercube/api.Cell]"], unfollowed := true, recurses := true, apart := false, narrowed := true }
def MergeGroupsUptoSaid : Prop := mergeGroupsUptoRow.holds Try.pinned (OpenSpec.upto mergeGroupsSpec)

/-- 'hypercubelaw6.MergePasses', WHERE WHAT IT READS IS OF BULK AT MOST 1048576: true; the input reads as it did. -/
def mergePassesUptoRow : OpenClaim := { program := "ytndkimjmbpbcmaa", sum := "d5c8561fd81adc7b8ceccd369ea0c58d24350649df68e7eb56d9312ef9f2352e", func := "hypercube/hypercubelaw6.MergePasses", spec := "mergePasses", inPlace := ["slices.overlaps[hypercube/api.Cell]"], unfollowed := true, recurses := true, apart := false, narrowed := true }
def MergePassesUptoSaid : Prop := mergePassesUptoRow.holds Try.pinned (OpenSpec.upto mergePassesSpec)

/-- 'hypercubelaw6.MergeEmpty', WHERE WHAT IT READS IS OF BULK AT MOST 1048576: true; the input reads as it did. -/
def mergeEmptyUptoRow : OpenClaim := { program := "ytndkimjmbpbcmaa", sum := "d5c8561fd81adc7b8ceccd369ea0c58d24350649df68e7eb56d9312ef9f2352e", func := "hypercube/hypercubelaw6.MergeEmpty", spec := "mergeEmpty", inPlace := ["slices.overlaps[hypercube/api.Cell]"], unfollowed := true, recurses := true, apart := false, narrowed := true }
def MergeEmptyUptoSaid : Prop := mergeEmptyUptoRow.holds Try.pinned (OpenSpec.upto mergeEmptySpec)

/-- 'hypercubelaw6.MergeOwn', WHERE WHAT IT READS IS OF BULK AT MOST 1048576: true; the input reads as it did. -/
def mergeOwnUptoRow : OpenClaim := { program := "ytndkimjmbpbcmaa", sum := "d5c8561fd81adc7b8ceccd369ea0c58d24350649df68e7eb56d9312ef9f2352e", func := "hypercube/hypercubelaw6.MergeOwn", spec := "mergeOwn", inPlace := ["slices.overlaps[hypercube/api.Cell]"], unfollowed := true, recurses := true, apart := false, narrowed := true }
def MergeOwnUptoSaid : Prop := mergeOwnUptoRow.holds Try.pinned (OpenSpec.upto mergeOwnSpec)

/-- 'hypercubelaw6.MergeOne', WHERE WHAT IT READS IS OF BULK AT MOST 1048576: true; the input reads as it did. -/
def mergeOneUptoRow : OpenClaim := { program := "ytndkimjmbpbcmaa", sum := "d5c8561fd81adc7b8ceccd369ea0c58d24350649df68e7eb56d9312ef9f2352e", func := "hypercube/hypercubelaw6.MergeOne", spec := "mergeOne", inPlace := ["slices.overlaps[hypercube/api.Cell]"], unfollowed := true, recurses := true, apart := false, narrowed := true }
def MergeOneUptoSaid : Prop := mergeOneUptoRow.holds Try.pinned (OpenSpec.upto mergeOneSpec)

/-- 'hypercubelaw6.MergeFans', WHERE WHAT IT READS IS OF BULK AT MOST 1048576: true; the input reads as it did. -/
def mergeFansUptoRow : OpenClaim := { program := "ytndkimjmbpbcmaa", sum := "d5c8561fd81adc7b8ceccd369ea0c58d24350649df68e7eb56d9312ef9f2352e", func := "hypercube/hypercubelaw6.MergeFans", spec := "mergeFans", inPlace := ["slices.overlaps[hypercube/api.Cell]"], unfollowed := true, recurses := true, apart := false, narrowed := true }
def MergeFansUptoSaid : Prop := mergeFansUptoRow.holds Try.pinned (OpenSpec.upto mergeFansSpec)

/-- 'hypercubelaw6.MergeThree', WHERE WHAT IT READS IS OF BULK AT MOST 1048576: true; the input reads as it did. -/
def mergeThreeUptoRow : OpenClaim := { program := "ytndkimjmbpbcmaa", sum := "d5c8561fd81adc7b8ceccd369ea0c58d24350649df68e7eb56d9312ef9f2352e", func := "hypercube/hypercubelaw6.MergeThree", spec := "mergeThree", inPlace := ["slices.overlaps[hypercube/api.Cell]"], unfollowed := true, recurses := true, apart := false, narrowed := true }
def MergeThreeUptoSaid : Prop := mergeThreeUptoRow.holds Try.pinned (OpenSpec.upto mergeThreeSpec)

/-- 'hypercubelaw6.MergeSorted', WHERE WHAT IT READS IS OF BULK AT MOST 1048576: true; the input reads as it did. -/
def mergeSortedUptoRow : OpenClaim := { program := "ytndkimjmbpbcmaa", sum := "d5c8561fd81adc7b8ceccd369ea0c58d24350649df68e7eb56d9312ef9f2352e", func := "hypercube/hypercubelaw6.MergeSorted", spec := "mergeSorted", inPlace := ["slices.overlaps[hypercube/api.Cell]"], unfollowed := true, recurses := true, apart := false, narrowed := true }
def MergeSortedUptoSaid : Prop := mergeSortedUptoRow.holds Try.pinned (OpenSpec.upto mergeSortedSpec)

end Rows
end Go.Proofs.Ytndkimjmbpbcmaa
