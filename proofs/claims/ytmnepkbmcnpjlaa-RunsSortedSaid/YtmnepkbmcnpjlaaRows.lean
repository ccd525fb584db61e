/-
  No cell of these rows narrows 'for every input' (looked for: loops, veiled, ifaces, maps, wideKeys, modest, calm, conditions, laid).
  DERIVED. THE GIVEN ROWS OF THIS SEAT. 9 by the template 'for every input the law returns true; each argument reads behind the call as it read before'; 0 by the template 'total and deterministic' (their statements: YtmnepkbmcnpjlaaTotals.lean).
  GIVEN WITH THE SEED: the statements are not yours to turn. If you find one false, say at which input.
  Laid BY PROGRAM, IN A SANDBOX (cutbox-rows.mjs): the forced cells as the released guide's own fill.sh prints them over the translation 0f073399829505c2… (all of the seat's roots in one cut). By AI agents, Wed Nov 11 2026. No macro, syntax, notation, axiom, sorry.
-/
import Derived.Test.YtmnepkbmcnpjlaaChecked
import GoSem.Claim
import GoSem.ClaimJoined
import GoSem.ClaimMapViews
import Derived.JoinedTies
import Derived.KernelRfl
namespace Go.Proofs.Ytmnepkbmcnpjlaa
/- THE CELL 'sum', in the pinned program and in every row, IS THE sha256 OF THE DUMP (.gsa) THAT YtmnepkbmcnpjlaaProg.lean LOADS. Nothing in Lean hashes anything: it is a label: what it is worth is what the hold of that sum in a sandbox is worth. -/
noncomputable def Try.pinned : Pinned := { name := "ytmnepkbmcnpjlaa", sum := "0f073399829505c2ea24eb0da41f505948aec87ca99711b0ef6038cce404b96c", checked := Try.checked }
namespace Rows
def none {H : Type} : Left H := { results := [], args := [] }

/-- 'hypercubelaw5.RunsAll': WHATEVER THE INPUT: true; the input reads as it did. -/
def runsAllSpec : ChangeSpec := { name := "runsAll", fn := fun _ => fun
  | [d1, d2, d3, d4, d5, d6] => { results := [.lit (.bool true)], args := [d1, d2, d3, d4, d5, d6] }
  | _ => none }
def runsAllRow : OpenClaim := { program := "ytmnepkbmcnpjlaa", sum := "0f073399829505c2ea24eb0da41f505948aec87ca99711b0ef6038cce404b96c", func := "hypercube/hypercubelaw5.RunsAll", spec := "runsAll", inPlace := ["slices.overlaps[hypercube/api.Cell]"], unfollowed := true, recurses := true, apart := false }
def RunsAllSaid : Prop := runsAllRow.holds Try.pinned (OpenSpec.ofChange runsAllSpec)

/-- ITS FALSE NEIGHBOUR: 'it returns false'. Refute it at one input. -/
def runsAllWrong : ChangeSpec := { name := "runsAll", fn := fun _ => fun
  | [d1, d2, d3, d4, d5, d6] => { results := [.lit (.bool false)], args := [d1, d2, d3, d4, d5, d6] }
  | _ => none }
def RunsAllWrongFalsely : Prop := runsAllRow.holds Try.pinned (OpenSpec.ofChange runsAllWrong)

/-- 'hypercubelaw5.RunsBounds': WHATEVER THE INPUT: true; the input reads as it did. -/
def runsBoundsSpec : ChangeSpec := { name := "runsBounds", fn := fun _ => fun
  | [d1, d2, d3, d4, d5, d6] => { results := [.lit (.bool true)], args := [d1, d2, d3, d4, d5, d6] }
  | _ => none }
def runsBoundsRow : OpenClaim := { program := "ytmnepkbmcnpjlaa", sum := "0f073399829505c2ea24eb0da41f505948aec87ca99711b0ef6038cce404b96c", func := "hypercube/hypercubelaw5.RunsBounds", spec := "runsBounds", inPlace := ["slices.overlaps[hypercube/api.Cell]"], unfollowed := true, recurses := true, apart := false }
def RunsBoundsSaid : Prop := runsBoundsRow.holds Try.pinned (OpenSpec.ofChange runsBoundsSpec)

/-- ITS FALSE NEIGHBOUR: 'it returns false'. Refute it at one input. -/
def runsBoundsWrong : ChangeSpec := { name := "runsBounds", fn := fun _ => fun
  | [d1, d2, d3, d4, d5, d6] => { results := [.lit (.bool false)], args := [d1, d2, d3, d4, d5, d6] }
  | _ => none }
def RunsBoundsWrongFalsely : Prop := runsBoundsRow.holds Try.pinned (OpenSpec.ofChange runsBoundsWrong)

/-- 'hypercubelaw5.RunsTogether': WHATEVER THE INPUT: true; the input reads as it did. -/
def runsTogetherSpec : ChangeSpec := { name := "runsTogether", fn := fun _ => fun
  | [d1, d2, d3, d4, d5, d6] => { results := [.lit (.bool true)], args := [d1, d2, d3, d4, d5, d6] }
  | _ => none }
def runsTogetherRow : OpenClaim := { program := "ytmnepkbmcnpjlaa", sum := "0f073399829505c2ea24eb0da41f505948aec87ca99711b0ef6038cce404b96c", func := "hypercube/hypercubelaw5.RunsTogether", spec := "runsTogether", inPlace := ["slices.overlaps[hypercube/api.Cell]"], unfollowed := true, recurses := true, apart := false }
def RunsTogetherSaid : Prop := runsTogetherRow.holds Try.pinned (OpenSpec.ofChange runsTogetherSpec)

/-- ITS FALSE NEIGHBOUR: 'it returns false'. Refute it at one input. -/
def runsTogetherWrong : ChangeSpec := { name := "runsTogether", fn := fun _ => fun
  | [d1, d2, d3, d4, d5, d6] => { results := [.lit (.bool false)], args := [d1, d2, d3, d4, d5, d6] }
  | _ => none }
def RunsTogetherWrongFalsely : Prop := runsTogetherRow.holds Try.pinned (OpenSpec.ofChange runsTogetherWrong)

/-- 'hypercubelaw5.RunsOne': WHATEVER THE INPUT: true; the input reads as it did. -/
def runsOneSpec : ChangeSpec := { name := "runsOne", fn := fun _ => fun
  | [d1, d2, d3, d4, d5, d6] => { results := [.lit (.bool true)], args := [d1, d2, d3, d4, d5, d6] }
  | _ => none }
def runsOneRow : OpenClaim := { program := "ytmnepkbmcnpjlaa", sum := "0f073399829505c2ea24eb0da41f505948aec87ca99711b0ef6038cce404b96c", func := "hypercube/hypercubelaw5.RunsOne", spec := "runsOne", inPlace := ["slices.overlaps[hypercube/api.Cell]"], unfollowed := true, recurses := true, apart := false }
def RunsOneSaid : Prop := runsOneRow.holds Try.pinned (OpenSpec.ofChange runsOneSpec)

/-- ITS FALSE NEIGHBOUR: 'it returns false'. Refute it at one input. -/
def runsOneWrong : ChangeSpec := { name := "runsOne", fn := fun _ => fun
  | [d1, d2, d3, d4, d5, d6] => { results := [.lit (.bool false)], args := [d1, d2, d3, d4, d5, d6] }
  | _ => none }
def RunsOneWrongFalsely : Prop := runsOneRow.holds Try.pinned (OpenSpec.ofChange runsOneWrong)

/-- 'hypercubelaw5.RunsSorted': WHATEVER THE INPUT: true; the input reads as it did. -/
def runsSortedSpec : ChangeSpec := { name := "runsSorted", fn := fun _ => fun
  | [d1, d2] => { results := [.lit (.bool true)], args := [d1, d2] }
  | _ => none }
def runsSortedRow : OpenClaim := { program := "ytmnepkbmcnpjlaa", sum := "0f073399829505c2ea24eb0da41f505948aec87ca99711b0ef6038cce404b96c", func := "hypercube/hypercubelaw5.RunsSorted", spec := "runsSorted", inPlace := ["slices.overlaps[hypercube/api.Cell]"], unfollowed := true, recurses := true, apart := false }
def RunsSortedSaid : Prop := runsSortedRow.holds Try.pinned (OpenSpec.ofChange runsSortedSpec)

/-- ITS FALSE NEIGHBOUR: 'it returns false'. Refute it at one input. -/
def runsSortedWrong : ChangeSpec := { name := "runsSorted", fn := fun _ => fun
  | [d1, d2] => { results := [.lit (.bool false)], args := [d1, d2] }
  | _ => none }
def RunsSortedWrongFalsely : Prop := runsSortedRow.holds Try.pinned (OpenSpec.ofChange runsSortedWrong)

/-- 'hypercubelaw5.RunsOwn': WHATEVER THE INPUT: true; the input reads as it did. -/
def runsOwnSpec : ChangeSpec := { name := "runsOwn", fn := fun _ => fun
  | [d1, d2, d3, d4, d5, d6] => { results := [.lit (.bool true)], args := [d1, d2, d3, d4, d5, d6] }
  | _ => none }
def runsOwnRow : OpenClaim := { program := "ytmnepkbmcnpjlaa", sum := "0f073399829505c2ea24eb0da41f505948aec87ca99711b0ef6038cce404b96c", func := "hypercube/hypercubelaw5.RunsOwn", spec := "runsOwn", inPlace := ["slices.overlaps[hypercube/api.Cell]"], unfollowed := true, recurses := true, apart := false }
def RunsOwnSaid : Prop := runsOwnRow.holds Try.pinned (OpenSpec.ofChange runsOwnSpec)

/-- ITS FALSE NEIGHBOUR: 'it returns false'. Refute it at one input. -/
def runsOwnWrong : ChangeSpec := { name := "runsOwn", fn := fun _ => fun
  | [d1, d2, d3, d4, d5, d6] => { results := [.lit (.bool false)], args := [d1, d2, d3, d4, d5, d6] }
  | _ => none }
def RunsOwnWrongFalsely : Prop := runsOwnRow.holds Try.pinned (OpenSpec.ofChange runsOwnWrong)

/-- 'hypercubelaw5.RunsOnly': WHATEVER THE INPUT: true; the input reads as it did. -/
def runsOnlySpec : ChangeSpec := { name := "runsOnly", fn := fun _ => fun
  | [d] => { results := [.lit (.bool true)], args := [d] }
  | _ => none }
def runsOnlyRow : OpenClaim := { program := "ytmnepkbmcnpjlaa", sum := "0f073399829505c2ea24eb0da41f505948aec87ca99711b0ef6038cce404b96c", func := "hypercube/hypercubelaw5.RunsOnly", spec := "runsOnly", inPlace := ["slices.overlaps[hypercube/api.Cell]"], unfollowed := true, recurses := true, apart := false }
def RunsOnlySaid : Prop := runsOnlyRow.holds Try.pinned (OpenSpec.ofChange runsOnlySpec)

/-- ITS FALSE NEIGHBOUR: 'it returns false'. Refute it at one input. -/
def runsOnlyWrong : ChangeSpec := { name := "runsOnly", fn := fun _ => fun
  | [d] => { results := [.lit (.bool false)], args := [d] }
  | _ => none }
def RunsOnlyWrongFalsely : Prop := runsOnlyRow.holds Try.pinned (OpenSpec.ofChange runsOnlyWrong)

/-- 'hypercubelaw5.RunsMore': WHATEVER THE INPUT: true; the input reads as it did. -/
def runsMoreSpec : ChangeSpec := { name := "runsMore", fn := fun _ => fun
  | [d1, d2, d3, d4, d5, d6] => { results := [.lit (.bool true)], args := [d1, d2, d3, d4, d5, d6] }
  | _ => none }
def runsMoreRow : OpenClaim := { program := "ytmnepkbmcnpjlaa", sum := "0f073399829505c2ea24eb0da41f505948aec87ca99711b0ef6038cce404b96c", func := "hypercube/hypercubelaw5.RunsMore", spec := "runsMore", inPlace := ["slices.overlaps[hypercube/api.Cell]"], unfollowed := true, recurses := true, apart := false }
def RunsMoreSaid : Prop := runsMoreRow.holds Try.pinned (OpenSpec.ofChange runsMoreSpec)

/-- ITS FALSE NEIGHBOUR: 'it returns false'. Refute it at one input. -/
def runsMoreWrong : ChangeSpec := { name := "runsMore", fn := fun _ => fun
  | [d1, d2, d3, d4, d5, d6] => { results := [.lit (.bool false)], args := [d1, d2, d3, d4, d5, d6] }
  | _ => none }
def RunsMoreWrongFalsely : Prop := runsMoreRow.holds Try.pinned (OpenSpec.ofChange runsMoreWrong)

/-- 'hypercubelaw5.RunsCounts': WHATEVER THE INPUT: true; the input reads as it did. -/
def runsCountsSpec : ChangeSpec := { name := "runsCounts", fn := fun _ => fun
  | [d1, d2, d3, d4, d5, d6] => { results := [.lit (.bool true)], args := [d1, d2, d3, d4, d5, d6] }
  | _ => none }
def runsCountsRow : OpenClaim := { program := "ytmnepkbmcnpjlaa", sum := "0f073399829505c2ea24eb0da41f505948aec87ca99711b0ef6038cce404b96c", func := "hypercube/hypercubelaw5.RunsCounts", spec := "runsCounts", inPlace := ["slices.overlaps[hypercube/api.Cell]"], unfollowed := true, recurses := true, apart := false }
def RunsCountsSaid : Prop := runsCountsRow.holds Try.pinned (OpenSpec.ofChange runsCountsSpec)

/-- ITS FALSE NEIGHBOUR: 'it returns false'. Refute it at one input. -/
def runsCountsWrong : ChangeSpec := { name := "runsCounts", fn := fun _ => fun
  | [d1, d2, d3, d4, d5, d6] => { results := [.lit (.bool false)], args := [d1, d2, d3, d4, d5, d6] }
  | _ => none }
def RunsCountsWrongFalsely : Prop := runsCountsRow.holds Try.pinned (OpenSpec.ofChange runsCountsWrong)

/- THE SECOND FORM. 'bulk': how many values and letters a reading holds, each counted each time it is reached (what is shared counts as often as it is met; a slice's spare places count too). A statement '..UptoSaid' is the law's where the arguments, and the package variables that the reading takes, are together of bulk at most 1048576: NARROWER than '..Said'. Prove '..Said' where nothing that the law and all that it calls make is longer than what came in: it says more and counts as full. Else prove '..UptoSaid'. A law counts once. -/
mutual
def uptoBulk {H : Type} : DataW H → Nat
  | .lit (.string bytes) => bytes.length + 1
  | .lit _ => 1
  | .nil => 1
  | .ptr d => uptoBulk d + 1
  | .slice elems spare => uptoBulkAll elems + uptoBulkAll spare + 1
  | .agg parts => uptoBulkAll parts + 1
  | .iface _ d => uptoBulk d + 1
  | .map entries => uptoBulkEntries entries + 1
  | .held _ => 1
def uptoBulkAll {H : Type} : List (DataW H) → Nat
  | [] => 0
  | d :: r => uptoBulk d + uptoBulkAll r
def uptoBulkEntries {H : Type} : List (Lit × DataW H) → Nat
  | [] => 0
  | x :: r => uptoBulkEntry x + uptoBulkEntries r
def uptoBulkEntry {H : Type} : Lit × DataW H → Nat
  | (.string bytes, d) => bytes.length + uptoBulk d + 1
  | (_, d) => uptoBulk d + 1
 end
def uptoSmall : (H : Type) → List (DataW H) → Bool := fun _ ds => decide (uptoBulkAll ds ≤ 1048576)
def OpenSpec.upto (s : _root_.Go.ChangeSpec) : _root_.Go.OpenSpec := { _root_.Go.OpenSpec.ofChange s with cond := some uptoSmall }

/-- 'hypercubelaw5.RunsAll', WHERE WHAT IT READS IS OF BULK AT MOST 1048576: true; the input reads as it did. -/
def runsAllUptoRow : OpenClaim := { program := "ytmnepkbmcnpjlaa", sum := "0f073399829505c2ea24eb0da41f505948aec87ca99711b0ef6038cce404b96c", func := "hypercube/hypercubelaw5.RunsAll", spec := "runsAll", inPlace := ["slices.overlaps[hypercube/api.Cell]"], unfollowed := true, recurses := true, apart := false, narrowed := true }
def RunsAllUptoSaid : Prop := runsAllUptoRow.holds Try.pinned (OpenSpec.upto runsAllSpec)

/-- 'hypercubelaw5.RunsBounds', WHERE WHAT IT READS IS OF BULK AT MOST 1048576: true; the input reads as it did. -/
def runsBoundsUptoRow : OpenClaim := { program := "ytmnepkbmcnpjlaa", sum := "0f073399829505c2ea24eb0da41f505948aec87ca99711b0ef6038cce404b96c", func := "hypercube/hypercubelaw5.RunsBounds", spec := "runsBounds", inPlace := ["slices.overlaps[hypercube/api.Cell]"], unfollowed := true, recurses := true, apart := false, narrowed := true }
def RunsBoundsUptoSaid : Prop := runsBoundsUptoRow.holds Try.pinned (OpenSpec.upto runsBoundsSpec)

/-- 'hypercubelaw5.RunsTogether', WHERE WHAT IT READS IS OF BULK AT MOST 1048576: true; the input reads as it did. -/
def runsTogetherUptoRow : OpenClaim := { program := "ytmnepkbmcnpjlaa", sum := "0f073399829505c2ea24eb0da41f505948aec87ca99711b0ef6038cce404b96c", func := "hypercube/hypercubelaw5.RunsTogether", spec := "runsTogether", inPlace := ["slices.overlaps[hypercube/api.Cell]"], unfollowed := true, recurses := true, apart := false, narrowed := true }
def RunsTogetherUptoSaid : Prop := runsTogetherUptoRow.holds Try.pinned (OpenSpec.upto runsTogetherSpec)

/-- 'hypercubelaw5.RunsOne', WHERE WHAT IT READS IS OF BULK AT MOST 1048576: true; the input reads as it did. -/
def runsOneUptoRow : OpenClaim := { program := "ytmnepkbmcnpjlaa", sum := "0f073399829505c2ea24eb0da41f505948aec87ca99711b0ef6038cce404b96c", func := "hypercube/hypercubelaw5.RunsOne", spec := "runsOne", inPlace := ["slices.overlaps[hypercube/api.Cell]"], unfollowed := true, recurses := true, apart := false, narrowed := true }
def RunsOneUptoSaid : Prop := runsOneUptoRow.holds Try.pinned (OpenSpec.upto runsOneSpec)

/-- 'hypercubelaw5.RunsSorted', WHERE WHAT IT READS IS OF BULK AT MOST 1048576: true; the input reads as it did. -/
def runsSortedUptoRow : OpenClaim := { program := "ytmnepkbmcnpjlaa", sum := "0f073399829505c2ea24eb0da41f505948aec87ca99711b0ef6038cce404b96c", func := "hypercube/hypercubelaw5.RunsSorted", spec := "runsSorted", inPlace := ["slices.overlaps[hypercube/api.Cell]"], unfollowed := true, recurses := true, apart := false, narrowed := true }
def RunsSortedUptoSaid : Prop := runsSortedUptoRow.holds Try.pinned (OpenSpec.upto runsSortedSpec)

/-- 'hypercubelaw5.RunsOwn', WHERE WHAT IT READS IS OF BULK AT MOST 1048576: true; the input reads as it did. -/
def runsOwnUptoRow : OpenClaim := { program := "ytmnepkbmcnpjlaa", sum := "0f073399829505c2ea24eb0da41f505948aec87ca99711b0ef6038cce404b96c", func := "hypercube/hypercubelaw5.RunsOwn", spec := "runsOwn", inPlace := ["slices.overlaps[hypercube/api.Cell]"], unfollowed := true, recurses := true, apart := false, narrowed := true }
def RunsOwnUptoSaid : Prop := runsOwnUptoRow.holds Try.pinned (OpenSpec.upto runsOwnSpec)

/-- 'hypercubelaw5.RunsOnly', WHERE WHAT IT READS IS OF BULK AT MOST 1048576: true; the input reads as it did. -/
def runsOnlyUptoRow : OpenClaim := { program := "ytmnepkbmcnpjlaa", sum := "0f073399829505c2ea24eb0da41f505948aec87ca99711b0ef6038cce404b96c", func := "hypercube/hypercubelaw5.RunsOnly", spec := "runsOnly", inPlace := ["slices.overlaps[hypercube/api.Cell]"], unfollowed := true, recurses := true, apart := false, narrowed := true }
def RunsOnlyUptoSaid : Prop := runsOnlyUptoRow.holds Try.pinned (OpenSpec.upto runsOnlySpec)

/-- 'hypercubelaw5.RunsMore', WHERE WHAT IT READS IS OF BULK AT MOST 1048576: true; the input reads as it did. -/
def runsMoreUptoRow : OpenClaim := { program := "ytmnepkbmcnpjlaa", sum := "0f073399829505c2ea24eb0da41f505948aec87ca99711b0ef6038cce404b96c", func := "hypercube/hypercubelaw5.RunsMore", spec := "runsMore", inPlace := ["slices.overlaps[hypercube/api.Cell]"], unfollowed := true, recurses := true, apart := false, narrowed := true }
def RunsMoreUptoSaid : Prop := runsMoreUptoRow.holds Try.pinned (OpenSpec.upto runsMoreSpec)

/-- 'hypercubelaw5.RunsCounts', WHERE WHAT IT READS IS OF BULK AT MOST 1048576: true; the input reads as it did. -/
def runsCountsUptoRow : OpenClaim := { program := "ytmnepkbmcnpjlaa", sum := "0f073399829505c2ea24eb0da41f505948aec87ca99711b0ef6038cce404b96c", func := "hypercube/hypercubelaw5.RunsCounts", spec := "runsCounts", inPlace := ["slices.overlaps[hypercube/api.Cell]"], unfollowed := true, recurses := true, apart := false, narrowed := true }
def RunsCountsUptoSaid : Prop := runsCountsUptoRow.holds Try.pinned (OpenSpec.upto runsCountsSpec)

end Rows
end Go.Proofs.Ytmnepkbmcnpjlaa
