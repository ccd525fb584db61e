/-
  No cell of these rows narrows 'for every input' (looked for: loops, veiled, ifaces, maps, wideKeys, modest, calm, conditions, laid).
  DERIVED. THE GIVEN ROWS OF THIS SEAT. 11 by the template 'for every input the law returns true; each argument reads behind the call as it read before'; 0 by the template 'total and deterministic' (their statements: YtlacfpbfnedgdaaTotals.lean).
  GIVEN WITH THE SEED: the statements are not yours to turn. If you find one false, say at which input.
  Laid BY PROGRAM, IN A SANDBOX (cutbox-rows.mjs): the forced cells as the released guide's own fill.sh prints them over the translation 16fe13c2ff3b99cb… (all of the seat's roots in one cut). By AI agents, Wed Nov 11 2026. No macro, syntax, notation, axiom, sorry.
-/
import Derived.Test.YtlacfpbfnedgdaaChecked
import GoSem.Claim
import GoSem.ClaimJoined
import GoSem.ClaimMapViews
import Derived.JoinedTies
import Derived.KernelRfl
namespace Go.Proofs.Ytlacfpbfnedgdaa
/- THE CELL 'sum', in the pinned program and in every row, IS THE sha256 OF THE DUMP (.gsa) THAT YtlacfpbfnedgdaaProg.lean LOADS. Nothing in Lean hashes anything: it is a label: what it is worth is what the hold of that sum in a sandbox is worth. -/
noncomputable def Try.pinned : Pinned := { name := "ytlacfpbfnedgdaa", sum := "16fe13c2ff3b99cb7cc51bbe44aaeb21630bf323fdbe4c8702eb837b162835b9", checked := Try.checked }
namespace Rows
def none {H : Type} : Left H := { results := [], args := [] }

/-- 'hypercubelaw1.RecChecks': WHATEVER THE INPUT: true; the input reads as it did. -/
def recChecksSpec : ChangeSpec := { name := "recChecks", fn := fun _ => fun
  | [d1, d2, d3, d4, d5, d6, d7, d8] => { results := [.lit (.bool true)], args := [d1, d2, d3, d4, d5, d6, d7, d8] }
  | _ => none }
def recChecksRow : OpenClaim := { program := "ytlacfpbfnedgdaa", sum := "16fe13c2ff3b99cb7cc51bbe44aaeb21630bf323fdbe4c8702eb837b162835b9", func := "hypercube/hypercubelaw1.RecChecks", spec := "recChecks", unfollowed := true, recurses := true, apart := false }
def RecChecksSaid : Prop := recChecksRow.holds Try.pinned (OpenSpec.ofChange recChecksSpec)

/-- ITS FALSE NEIGHBOUR: 'it returns false'. Refute it at one input. -/
def recChecksWrong : ChangeSpec := { name := "recChecks", fn := fun _ => fun
  | [d1, d2, d3, d4, d5, d6, d7, d8] => { results := [.lit (.bool false)], args := [d1, d2, d3, d4, d5, d6, d7, d8] }
  | _ => none }
def RecChecksWrongFalsely : Prop := recChecksRow.holds Try.pinned (OpenSpec.ofChange recChecksWrong)

/-- 'hypercubelaw1.RecBack': WHATEVER THE INPUT: true; the input reads as it did. -/
def recBackSpec : ChangeSpec := { name := "recBack", fn := fun _ => fun
  | [d1, d2, d3, d4, d5] => { results := [.lit (.bool true)], args := [d1, d2, d3, d4, d5] }
  | _ => none }
def recBackRow : OpenClaim := { program := "ytlacfpbfnedgdaa", sum := "16fe13c2ff3b99cb7cc51bbe44aaeb21630bf323fdbe4c8702eb837b162835b9", func := "hypercube/hypercubelaw1.RecBack", spec := "recBack", unfollowed := true, recurses := true, apart := false }
def RecBackSaid : Prop := recBackRow.holds Try.pinned (OpenSpec.ofChange recBackSpec)

/-- ITS FALSE NEIGHBOUR: 'it returns false'. Refute it at one input. -/
def recBackWrong : ChangeSpec := { name := "recBack", fn := fun _ => fun
  | [d1, d2, d3, d4, d5] => { results := [.lit (.bool false)], args := [d1, d2, d3, d4, d5] }
  | _ => none }
def RecBackWrongFalsely : Prop := recBackRow.holds Try.pinned (OpenSpec.ofChange recBackWrong)

/-- 'hypercubelaw1.RecReads': WHATEVER THE INPUT: true; the input reads as it did. -/
def recReadsSpec : ChangeSpec := { name := "recReads", fn := fun _ => fun
  | [d1, d2, d3, d4, d5, d6, d7, d8, d9] => { results := [.lit (.bool true)], args := [d1, d2, d3, d4, d5, d6, d7, d8, d9] }
  | _ => none }
def recReadsRow : OpenClaim := { program := "ytlacfpbfnedgdaa", sum := "16fe13c2ff3b99cb7cc51bbe44aaeb21630bf323fdbe4c8702eb837b162835b9", func := "hypercube/hypercubelaw1.RecReads", spec := "recReads", unfollowed := true, recurses := true, apart := false }
def RecReadsSaid : Prop := recReadsRow.holds Try.pinned (OpenSpec.ofChange recReadsSpec)

/-- ITS FALSE NEIGHBOUR: 'it returns false'. Refute it at one input. -/
def recReadsWrong : ChangeSpec := { name := "recReads", fn := fun _ => fun
  | [d1, d2, d3, d4, d5, d6, d7, d8, d9] => { results := [.lit (.bool false)], args := [d1, d2, d3, d4, d5, d6, d7, d8, d9] }
  | _ => none }
def RecReadsWrongFalsely : Prop := recReadsRow.holds Try.pinned (OpenSpec.ofChange recReadsWrong)

/-- 'hypercubelaw1.RecSound': WHATEVER THE INPUT: true; the input reads as it did. -/
def recSoundSpec : ChangeSpec := { name := "recSound", fn := fun _ => fun
  | [d1, d2, d3] => { results := [.lit (.bool true)], args := [d1, d2, d3] }
  | _ => none }
def recSoundRow : OpenClaim := { program := "ytlacfpbfnedgdaa", sum := "16fe13c2ff3b99cb7cc51bbe44aaeb21630bf323fdbe4c8702eb837b162835b9", func := "hypercube/hypercubelaw1.RecSound", spec := "recSound", unfollowed := true, recurses := true, apart := false }
def RecSoundSaid : Prop := recSoundRow.holds Try.pinned (OpenSpec.ofChange recSoundSpec)

/-- ITS FALSE NEIGHBOUR: 'it returns false'. Refute it at one input. -/
def recSoundWrong : ChangeSpec := { name := "recSound", fn := fun _ => fun
  | [d1, d2, d3] => { results := [.lit (.bool false)], args := [d1, d2, d3] }
  | _ => none }
def RecSoundWrongFalsely : Prop := recSoundRow.holds Try.pinned (OpenSpec.ofChange recSoundWrong)

/-- 'hypercubelaw1.RecEnds': WHATEVER THE INPUT: true; the input reads as it did. -/
def recEndsSpec : ChangeSpec := { name := "recEnds", fn := fun _ => fun
  | [d1, d2, d3] => { results := [.lit (.bool true)], args := [d1, d2, d3] }
  | _ => none }
def recEndsRow : OpenClaim := { program := "ytlacfpbfnedgdaa", sum := "16fe13c2ff3b99cb7cc51bbe44aaeb21630bf323fdbe4c8702eb837b162835b9", func := "hypercube/hypercubelaw1.RecEnds", spec := "recEnds", unfollowed := true, recurses := true, apart := false }
def RecEndsSaid : Prop := recEndsRow.holds Try.pinned (OpenSpec.ofChange recEndsSpec)

/-- ITS FALSE NEIGHBOUR: 'it returns false'. Refute it at one input. -/
def recEndsWrong : ChangeSpec := { name := "recEnds", fn := fun _ => fun
  | [d1, d2, d3] => { results := [.lit (.bool false)], args := [d1, d2, d3] }
  | _ => none }
def RecEndsWrongFalsely : Prop := recEndsRow.holds Try.pinned (OpenSpec.ofChange recEndsWrong)

/-- 'hypercubelaw1.RecMany': WHATEVER THE INPUT: true; the input reads as it did. -/
def recManySpec : ChangeSpec := { name := "recMany", fn := fun _ => fun
  | [d] => { results := [.lit (.bool true)], args := [d] }
  | _ => none }
def recManyRow : OpenClaim := { program := "ytlacfpbfnedgdaa", sum := "16fe13c2ff3b99cb7cc51bbe44aaeb21630bf323fdbe4c8702eb837b162835b9", func := "hypercube/hypercubelaw1.RecMany", spec := "recMany", unfollowed := true, recurses := true, apart := false }
def RecManySaid : Prop := recManyRow.holds Try.pinned (OpenSpec.ofChange recManySpec)

/-- ITS FALSE NEIGHBOUR: 'it returns false'. Refute it at one input. -/
def recManyWrong : ChangeSpec := { name := "recMany", fn := fun _ => fun
  | [d] => { results := [.lit (.bool false)], args := [d] }
  | _ => none }
def RecManyWrongFalsely : Prop := recManyRow.holds Try.pinned (OpenSpec.ofChange recManyWrong)

/-- 'hypercubelaw1.RecOwn': WHATEVER THE INPUT: true; the input reads as it did. -/
def recOwnSpec : ChangeSpec := { name := "recOwn", fn := fun _ => fun
  | [d1, d2, d3, d4, d5] => { results := [.lit (.bool true)], args := [d1, d2, d3, d4, d5] }
  | _ => none }
def recOwnRow : OpenClaim := { program := "ytlacfpbfnedgdaa", sum := "16fe13c2ff3b99cb7cc51bbe44aaeb21630bf323fdbe4c8702eb837b162835b9", func := "hypercube/hypercubelaw1.RecOwn", spec := "recOwn", unfollowed := true, recurses := true, apart := false }
def RecOwnSaid : Prop := recOwnRow.holds Try.pinned (OpenSpec.ofChange recOwnSpec)

/-- ITS FALSE NEIGHBOUR: 'it returns false'. Refute it at one input. -/
def recOwnWrong : ChangeSpec := { name := "recOwn", fn := fun _ => fun
  | [d1, d2, d3, d4, d5] => { results := [.lit (.bool false)], args := [d1, d2, d3, d4, d5] }
  | _ => none }
def RecOwnWrongFalsely : Prop := recOwnRow.holds Try.pinned (OpenSpec.ofChange recOwnWrong)

/-- 'hypercubelaw1.RecApart': WHATEVER THE INPUT: true; the input reads as it did. -/
def recApartSpec : ChangeSpec := { name := "recApart", fn := fun _ => fun
  | [d1, d2, d3, d4, d5, d6, d7] => { results := [.lit (.bool true)], args := [d1, d2, d3, d4, d5, d6, d7] }
  | _ => none }
def recApartRow : OpenClaim := { program := "ytlacfpbfnedgdaa", sum := "16fe13c2ff3b99cb7cc51bbe44aaeb21630bf323fdbe4c8702eb837b162835b9", func := "hypercube/hypercubelaw1.RecApart", spec := "recApart", unfollowed := true, recurses := true, apart := false }
def RecApartSaid : Prop := recApartRow.holds Try.pinned (OpenSpec.ofChange recApartSpec)

/-- ITS FALSE NEIGHBOUR: 'it returns false'. Refute it at one input. -/
def recApartWrong : ChangeSpec := { name := "recApart", fn := fun _ => fun
  | [d1, d2, d3, d4, d5, d6, d7] => { results := [.lit (.bool false)], args := [d1, d2, d3, d4, d5, d6, d7] }
  | _ => none }
def RecApartWrongFalsely : Prop := recApartRow.holds Try.pinned (OpenSpec.ofChange recApartWrong)

/-- 'hypercubelaw1.RecSize': WHATEVER THE INPUT: true; the input reads as it did. -/
def recSizeSpec : ChangeSpec := { name := "recSize", fn := fun _ => fun
  | [d1, d2, d3, d4] => { results := [.lit (.bool true)], args := [d1, d2, d3, d4] }
  | _ => none }
def recSizeRow : OpenClaim := { program := "ytlacfpbfnedgdaa", sum := "16fe13c2ff3b99cb7cc51bbe44aaeb21630bf323fdbe4c8702eb837b162835b9", func := "hypercube/hypercubelaw1.RecSize", spec := "recSize", unfollowed := true, recurses := true, apart := false }
def RecSizeSaid : Prop := recSizeRow.holds Try.pinned (OpenSpec.ofChange recSizeSpec)

/-- ITS FALSE NEIGHBOUR: 'it returns false'. Refute it at one input. -/
def recSizeWrong : ChangeSpec := { name := "recSize", fn := fun _ => fun
  | [d1, d2, d3, d4] => { results := [.lit (.bool false)], args := [d1, d2, d3, d4] }
  | _ => none }
def RecSizeWrongFalsely : Prop := recSizeRow.holds Try.pinned (OpenSpec.ofChange recSizeWrong)

/-- 'hypercubelaw1.RecNumbers': WHATEVER THE INPUT: true; the input reads as it did. -/
def recNumbersSpec : ChangeSpec := { name := "recNumbers", fn := fun _ => fun
  | [d] => { results := [.lit (.bool true)], args := [d] }
  | _ => none }
def recNumbersRow : OpenClaim := { program := "ytlacfpbfnedgdaa", sum := "16fe13c2ff3b99cb7cc51bbe44aaeb21630bf323fdbe4c8702eb837b162835b9", func := "hypercube/hypercubelaw1.RecNumbers", spec := "recNumbers", unfollowed := true, recurses := true, apart := false }
def RecNumbersSaid : Prop := recNumbersRow.holds Try.pinned (OpenSpec.ofChange recNumbersSpec)

/-- ITS FALSE NEIGHBOUR: 'it returns false'. Refute it at one input. -/
def recNumbersWrong : ChangeSpec := { name := "recNumbers", fn := fun _ => fun
  | [d] => { results := [.lit (.bool false)], args := [d] }
  | _ => none }
def RecNumbersWrongFalsely : Prop := recNumbersRow.holds Try.pinned (OpenSpec.ofChange recNumbersWrong)

/-- 'hypercubelaw1.RecOrder': WHATEVER THE INPUT: true; the input reads as it did. -/
def recOrderSpec : ChangeSpec := { name := "recOrder", fn := fun _ => fun
  | [d1, d2] => { results := [.lit (.bool true)], args := [d1, d2] }
  | _ => none }
def recOrderRow : OpenClaim := { program := "ytlacfpbfnedgdaa", sum := "16fe13c2ff3b99cb7cc51bbe44aaeb21630bf323fdbe4c8702eb837b162835b9", func := "hypercube/hypercubelaw1.RecOrder", spec := "recOrder", unfollowed := true, recurses := true, apart := false }
def RecOrderSaid : Prop := recOrderRow.holds Try.pinned (OpenSpec.ofChange recOrderSpec)

/-- ITS FALSE NEIGHBOUR: 'it returns false'. Refute it at one input. -/
def recOrderWrong : ChangeSpec := { name := "recOrder", fn := fun _ => fun
  | [d1, d2] => { results := [.lit (.bool false)], args := [d1, d2] }
  | _ => none }
def RecOrderWrongFalsely : Prop := recOrderRow.holds Try.pinned (OpenSpec.ofChange recOrderWrong)

/- THE SECOND FORM. 'bulk': how many values and letters a reading holds, each counted each time it is reached (what is shared counts as often as it is met; a slice's spare places count too). A statement '..UptoSaid' is the law's where the arguments, and the package variables that the reading takes, are together of bulk at most 1048576: NARROWER than '..Said'. Prove '..Said' where nothing that the law and all that it calls make is longer than what came in: it says more and counts as full. Else prove '..UptoSaid'. A law counts once. -/
mutual
def uptoBulk {H : Type} : DataW H → Nat
  | .lit (.string bytes) => bytes.length + 1
  | .lit _ => 1
  | .nil => 1
  | .ptr d => uptoBulk d + 1
  | .slice elems spare => uptoBulkAll elems + uptoBulkAll spare + 1
  | .agg parts => uptoBulkAll parts + 1
  | .iface _ d => uptoBulk d + 1
  | .map entries => uptoBulkEntries entries + 1
  | .held _ => 1
def uptoBulkAll {H : Type} : List (DataW H) → Nat
  | [] => 0
  | d :: r => uptoBulk d + uptoBulkAll r
def uptoBulkEntries {H : Type} : List (Lit × DataW H) → Nat
  | [] => 0
  | x :: r => uptoBulkEntry x + uptoBulkEntries r
def uptoBulkEntry {H : Type} : Lit × DataW H → Nat
  | (.string bytes, d) => bytes.length + uptoBulk d + 1
  | (_, d) => uptoBulk d + 1
 end
def uptoSmall : (H : Type) → List (DataW H) → Bool := fun _ ds => decide (uptoBulkAll ds ≤ 1048576)
def OpenSpec.upto (s : _root_.Go.ChangeSpec) : _root_.Go.OpenSpec := { _root_.Go.OpenSpec.ofChange s with cond := some uptoSmall }

/-- 'hypercubelaw1.RecChecks', WHERE WHAT IT READS IS OF BULK AT MOST 1048576: true; the input reads as it did. -/
def recChecksUptoRow : OpenClaim := { program := "ytlacfpbfnedgdaa", sum := "16fe13c2ff3b99cb7cc51bbe44aaeb21630bf323fdbe4c8702eb837b162835b9", func := "hypercube/hypercubelaw1.RecChecks", spec := "recChecks", unfollowed := true, recurses := true, apart := false, narrowed := true }
def RecChecksUptoSaid : Prop := recChecksUptoRow.holds Try.pinned (OpenSpec.upto recChecksSpec)

/-- 'hypercubelaw1.RecBack', WHERE WHAT IT READS IS OF BULK AT MOST 1048576: true; the input reads as it did. -/
def recBackUptoRow : OpenClaim := { program := "ytlacfpbfnedgdaa", sum := "16fe13c2ff3b99cb7cc51bbe44aaeb21630bf323fdbe4c8702eb837b162835b9", func := "hypercube/hypercubelaw1.RecBack", spec := "recBack", unfollowed := true, recurses := true, apart := false, narrowed := true }
def RecBackUptoSaid : Prop := recBackUptoRow.holds Try.pinned (OpenSpec.upto recBackSpec)

/-- 'hypercubelaw1.RecReads', WHERE WHAT IT READS IS OF BULK AT MOST 1048576: true; the input reads as it did. -/
def recReadsUptoRow : OpenClaim := { program := "ytlacfpbfnedgdaa", sum := "16fe13c2ff3b99cb7cc51bbe44aaeb21630bf323fdbe4c8702eb837b162835b9", func := "hypercube/hypercubelaw1.RecReads", spec := "recReads", unfollowed := true, recurses := true, apart := false, narrowed := true }
def RecReadsUptoSaid : Prop := recReadsUptoRow.holds Try.pinned (OpenSpec.upto recReadsSpec)

/-- 'hypercubelaw1.RecSound', WHERE WHAT IT READS IS OF BULK AT MOST 1048576: true; the input reads as it did. -/
def recSoundUptoRow : OpenClaim := { program := "ytlacfpbfnedgdaa", sum := "16fe13c2ff3b99cb7cc51bbe44aaeb21630bf323fdbe4c8702eb837b162835b9", func := "hypercube/hypercubelaw1.RecSound", spec := "recSound", unfollowed := true, recurses := true, apart := false, narrowed := true }
def RecSoundUptoSaid : Prop := recSoundUptoRow.holds Try.pinned (OpenSpec.upto recSoundSpec)

/-- 'hypercubelaw1.RecEnds', WHERE WHAT IT READS IS OF BULK AT MOST 1048576: true; the input reads as it did. -/
def recEndsUptoRow : OpenClaim := { program := "ytlacfpbfnedgdaa", sum := "16fe13c2ff3b99cb7cc51bbe44aaeb21630bf323fdbe4c8702eb837b162835b9", func := "hypercube/hypercubelaw1.RecEnds", spec := "recEnds", unfollowed := true, recurses := true, apart := false, narrowed := true }
def RecEndsUptoSaid : Prop := recEndsUptoRow.holds Try.pinned (OpenSpec.upto recEndsSpec)

/-- 'hypercubelaw1.RecMany', WHERE WHAT IT READS IS OF BULK AT MOST 1048576: true; the input reads as it did. -/
def recManyUptoRow : OpenClaim := { program := "ytlacfpbfnedgdaa", sum := "16fe13c2ff3b99cb7cc51bbe44aaeb21630bf323fdbe4c8702eb837b162835b9", func := "hypercube/hypercubelaw1.RecMany", spec := "recMany", unfollowed := true, recurses := true, apart := false, narrowed := true }
def RecManyUptoSaid : Prop := recManyUptoRow.holds Try.pinned (OpenSpec.upto recManySpec)

/-- 'hypercubelaw1.RecOwn', WHERE WHAT IT READS IS OF BULK AT MOST 1048576: true; the input reads as it did. -/
def recOwnUptoRow : OpenClaim := { program := "ytlacfpbfnedgdaa", sum := "16fe13c2ff3b99cb7cc51bbe44aaeb21630bf323fdbe4c8702eb837b162835b9", func := "hypercube/hypercubelaw1.RecOwn", spec := "recOwn", unfollowed := true, recurses := true, apart := false, narrowed := true }
def RecOwnUptoSaid : Prop := recOwnUptoRow.holds Try.pinned (OpenSpec.upto recOwnSpec)

/-- 'hypercubelaw1.RecApart', WHERE WHAT IT READS IS OF BULK AT MOST 1048576: true; the input reads as it did. -/
def recApartUptoRow : OpenClaim := { program := "ytlacfpbfnedgdaa", sum := "16fe13c2ff3b99cb7cc51bbe44aaeb21630bf323fdbe4c8702eb837b162835b9", func := "hypercube/hypercubelaw1.RecApart", spec := "recApart", unfollowed := true, recurses := true, apart := false, narrowed := true }
def RecApartUptoSaid : Prop := recApartUptoRow.holds Try.pinned (OpenSpec.upto recApartSpec)

/-- 'hypercubelaw1.RecSize', WHERE WHAT IT READS IS OF BULK AT MOST 1048576: true; the input reads as it did. -/
def recSizeUptoRow : OpenClaim := { program := "ytlacfpbfnedgdaa", sum := "16fe13c2ff3b99cb7cc51bbe44aaeb21630bf323fdbe4c8702eb837b162835b9", func := "hypercube/hypercubelaw1.RecSize", spec := "recSize", unfollowed := true, recurses := true, apart := false, narrowed := true }
def RecSizeUptoSaid : Prop := recSizeUptoRow.holds Try.pinned (OpenSpec.upto recSizeSpec)

/-- 'hypercubelaw1.RecNumbers', WHERE WHAT IT READS IS OF BULK AT MOST 1048576: true; the input reads as it did. -/
def recNumbersUptoRow : OpenClaim := { program := "ytlacfpbfnedgdaa", sum := "16fe13c2ff3b99cb7cc51bbe44aaeb21630bf323fdbe4c8702eb837b162835b9", func := "hypercube/hypercubelaw1.RecNumbers", spec := "recNumbers", unfollowed := true, recurses := true, apart := false, narrowed := true }
def RecNumbersUptoSaid : Prop := recNumbersUptoRow.holds Try.pinned (OpenSpec.upto recNumbersSpec)

/-- 'hypercubelaw1.RecOrder', WHERE WHAT IT READS IS OF BULK AT MOST 1048576: true; the input reads as it did. -/
def recOrderUptoRow : OpenClaim := { program := "ytlacfpbfnedgdaa", sum := "16fe13c2ff3b99cb7cc51bbe44aaeb21630bf323fdbe4c8702eb837b162835b9", func := "hypercube/hypercubelaw1.RecOrder", spec := "recOrder", unfollowed := true, recurses := true, apart := false, narrowed := true }
def RecOrderUptoSaid : Prop := recOrderUptoRow.holds Try.pinned (OpenSpec.upto recOrderSpec)

end Rows
end Go.Proofs.Ytlacfpbfnedgdaa
