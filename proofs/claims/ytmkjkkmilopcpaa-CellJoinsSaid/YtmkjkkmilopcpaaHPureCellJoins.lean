/- CellJoins, in plain Lean: joined cells do not depend on order, nor on how they are taken together; for every input. -/
import Derived.ArgAppend
import Derived.Below
import Derived.BigQuiet
import Derived.Deep.AppendLies
import Derived.Deep.CutBlock
import Derived.Deep.DeepCutAuto
import Derived.Deep.Draws
import Derived.Deep.LoopGhost
import Derived.Deep.OwnRows
import Derived.Deep.QuietTactic
import Derived.Deep.RegionHeld3
import Derived.KernelRfl
import Derived.Laws.BitsLemmas
import Derived.Laws.BytesArg
import Derived.Laws.EntriesVeiled
import Derived.Laws.Externs
import Derived.Laws.IdiomCopy
import Derived.Laws.MakeOwn
import Derived.Laws.OwnMore
import Derived.Laws.Rows
import Derived.Laws.Slices
import Derived.Lib.AppendStr
import Derived.Lib.AppendZeros
import Derived.Lib.AppendZerosOnto
import Derived.Lib.ConvBytes
import Derived.Lib.JoinLaws
import Derived.Lib.Overlaps
import Derived.Lib.SliceRun
import Derived.Lib.Walk
import Derived.LoopIn
import Derived.LoopNIn
import Derived.Maps.AppendAt
import Derived.OrdersHeld
import Derived.OrdersIn
import Derived.OwnWalk
import Derived.OwnWalkIn
import Derived.RangeFuncBound
import Derived.RangeFuncBox
import Derived.RangeFuncCalls
import Derived.RangeFuncLeaves
import Derived.RangeFuncNested
import Derived.RangeFuncOwn
import Derived.RowKit
import Derived.RowKit3
import Derived.Shelf.Abstract
import Derived.Shelf.RegionOpen
import Derived.Shelf.RegionOpenPlain
import Derived.Tactics
import Derived.TacticsInMore
import Derived.Test.YtmkjkkmilopcpaaProg
import Derived.WalkKit
import Derived.WalkSpells
import Derived.WideLaws
import Derived.Test.YtmkjkkmilopcpaaPCellJoins1
import Derived.Test.YtmkjkkmilopcpaaPCellJoins3
import Derived.Test.YtmkjkkmilopcpaaPCellJoins4
import Derived.Test.YtmkjkkmilopcpaaPCellJoins5
import Derived.Test.YtmkjkkmilopcpaaPCellJoins6
import Derived.Test.YtmkjkkmilopcpaaPCellJoins7
import Derived.Test.YtmkjkkmilopcpaaPCellJoins8
import Derived.Test.YtmkjkkmilopcpaaPCellJoins9
import Derived.Test.YtmkjkkmilopcpaaPCellJoins10
import Derived.Test.YtmkjkkmilopcpaaPCellJoins11
import Derived.Test.YtmkjkkmilopcpaaPCellJoins12
import Derived.Test.YtmkjkkmilopcpaaPCellJoins13
import Derived.Test.YtmkjkkmilopcpaaPCellJoins14
namespace Go.Proofs.Ytmkjkkmilopcpaa.Pure
open Go.RowKit Go.Proofs.Ytmkjkkmilopcpaa.Q Go.Proofs.YtmkjkkmilopcpaaW.PrintWords Go.Proofs.YtmkjkkmilopcpaaW.PrintLast Go.Proofs.YtmkjkkmilopcpaaW.PrintMore
theorem jC_small (ms : List Int) {kk : Nat} (h : kk < 3) (i : Nat) : SmallC (jC ms kk i) := by
  have := jL_length ms i kk
  exact ⟨by show 1 ≤ 100000; omega, by show (jL ms i kk).length ≤ 100000; omega, by show (jL ms i kk).length ≤ 100000; omega, by show (jL ms i kk).length ≤ 100000; omega⟩
theorem CellJoins : hypercubelaw2_CellJoins.Pure := by
  intro l0 a1 _ _ _ _
  have hkk : (((a1 % 3).toNat : Nat) : Int) = a1 % 3 := by omega
  have hk3 : (a1 % 3).toNat < 3 := by omega
  generalize (a1 % 3).toNat = kk at *
  have s0 := jC_small l0 hk3 0
  have s1 := jC_small l0 hk3 1
  have s2 := jC_small l0 hk3 2
  have e1 : joinC (jC l0 kk 1) (jC l0 kk 0) = joinC (jC l0 kk 0) (jC l0 kk 1) := joinC_comm rfl
  have e2 : joinC (jC l0 kk 0) (joinC (jC l0 kk 1) (jC l0 kk 2)) = joinC (joinC (jC l0 kk 0) (jC l0 kk 1)) (jC l0 kk 2) := (joinC_assoc _ _ _).symm
  obtain ⟨K1, h1⟩ := join_ev (jC l0 kk 0) (jC l0 kk 1) s0
  obtain ⟨K2, h2⟩ := join_ev (jC l0 kk 1) (jC l0 kk 2) s1
  obtain ⟨K3, h3⟩ := join_ev (jC l0 kk 1) (jC l0 kk 0) s1
  obtain ⟨K4, h4⟩ := equal_true (joinC_small (b := jC l0 kk 1) s0)
  obtain ⟨K5, h5⟩ := join_ev (joinC (jC l0 kk 0) (jC l0 kk 1)) (jC l0 kk 2) (joinC_small s0)
  obtain ⟨K6, h6⟩ := join_ev (jC l0 kk 0) (joinC (jC l0 kk 1) (jC l0 kk 2)) s0
  obtain ⟨K7, h7⟩ := equal_true (joinC_small (b := jC l0 kk 2) (joinC_small (b := jC l0 kk 1) s0))
  rw [e1] at h3
  rw [e2] at h6
  refine ⟨K1 + K2 + K3 + K4 + K5 + K6 + K7, kk, joinC (jC l0 kk 0) (jC l0 kk 1), joinC (jC l0 kk 1) (jC l0 kk 2), joinC (jC l0 kk 0) (jC l0 kk 1), joinC (joinC (jC l0 kk 0) (jC l0 kk 1)) (jC l0 kk 2), joinC (joinC (jC l0 kk 0) (jC l0 kk 1)) (jC l0 kk 2), ⟨by rw [within2_eq a1 3 (by omega) (by omega), hkk], hk3⟩, h1 _ (by omega), h2 _ (by omega), h3 _ (by omega), h4 _ (by omega), h5 _ (by omega), h6 _ (by omega), h7 _ (by omega), (by show wrap64 ((1 + ((0 : Nat) : Int)) + (1 + ((1 : Nat) : Int))) = 3; unfold wrap64; omega)⟩
end Go.Proofs.Ytmkjkkmilopcpaa.Pure
