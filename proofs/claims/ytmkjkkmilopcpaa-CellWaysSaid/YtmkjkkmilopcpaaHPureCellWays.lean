/- CellWays, in plain Lean: narrowed in two steps a cell is as narrowed in one, to its own set it stays; for every input. -/
import Derived.ArgAppend
import Derived.Below
import Derived.BigQuiet
import Derived.Deep.AppendLies
import Derived.Deep.CutBlock
import Derived.Deep.DeepCutAuto
import Derived.Deep.Draws
import Derived.Deep.LoopGhost
import Derived.Deep.OwnRows
import Derived.Deep.QuietTactic
import Derived.Deep.RegionHeld3
import Derived.KernelRfl
import Derived.Laws.BitsLemmas
import Derived.Laws.BytesArg
import Derived.Laws.EntriesVeiled
import Derived.Laws.Externs
import Derived.Laws.IdiomCopy
import Derived.Laws.MakeOwn
import Derived.Laws.OwnMore
import Derived.Laws.Rows
import Derived.Laws.Slices
import Derived.Lib.AppendStr
import Derived.Lib.AppendZeros
import Derived.Lib.AppendZerosOnto
import Derived.Lib.ConvBytes
import Derived.Lib.JoinLaws
import Derived.Lib.Overlaps
import Derived.Lib.SliceRun
import Derived.Lib.Walk
import Derived.LoopIn
import Derived.LoopNIn
import Derived.Maps.AppendAt
import Derived.OrdersHeld
import Derived.OrdersIn
import Derived.OwnWalk
import Derived.OwnWalkIn
import Derived.RangeFuncBound
import Derived.RangeFuncBox
import Derived.RangeFuncCalls
import Derived.RangeFuncLeaves
import Derived.RangeFuncNested
import Derived.RangeFuncOwn
import Derived.RowKit
import Derived.RowKit3
import Derived.Shelf.Abstract
import Derived.Shelf.RegionOpen
import Derived.Shelf.RegionOpenPlain
import Derived.Tactics
import Derived.TacticsInMore
import Derived.Test.YtmkjkkmilopcpaaProg
import Derived.WalkKit
import Derived.WalkSpells
import Derived.WideLaws
import Derived.Test.YtmkjkkmilopcpaaPCellWays1
import Derived.Test.YtmkjkkmilopcpaaPCellWays3
import Derived.Test.YtmkjkkmilopcpaaPCellWays4
import Derived.Test.YtmkjkkmilopcpaaPCellWays5
import Derived.Test.YtmkjkkmilopcpaaPCellWays6
import Derived.Test.YtmkjkkmilopcpaaPCellWays7
import Derived.Test.YtmkjkkmilopcpaaPCellWays8
import Derived.Test.YtmkjkkmilopcpaaPCellWays9
import Derived.Test.YtmkjkkmilopcpaaPCellWays10
import Derived.Test.YtmkjkkmilopcpaaPCellWays11
import Derived.Test.YtmkjkkmilopcpaaPCellWays12
import Derived.Test.YtmkjkkmilopcpaaPCellWays13
import Derived.Test.YtmkjkkmilopcpaaPCellWays14
namespace Go.Proofs.Ytmkjkkmilopcpaa.Pure
open Go.RowKit Go.Proofs.Ytmkjkkmilopcpaa.Q Go.Proofs.YtmkjkkmilopcpaaW.PrintWords Go.Proofs.YtmkjkkmilopcpaaW.PrintLast Go.Proofs.YtmkjkkmilopcpaaW.PrintMore
theorem CellWays : hypercubelaw2_CellWays.Pure := by
  intro a0 l1 a2 l3 a4 a5 a6 _ _ _ _ _ _ _ _ _ _ _
  obtain ⟨cards, meas, rows, s, n, hf, hs, hc, hn, hl, hr, hs0, _⟩ := facts_set a0 l1 a2 l3 a4
  have hlen := makeL_length s rows
  have hq : 0 ≤ a5 % 16 ∧ a5 % 16 < 16 := ⟨by omega, by omega⟩
  have hu : 0 ≤ a6 % 16 ∧ a6 % 16 < 16 := ⟨by omega, by omega⟩
  have hb := bits_sub hs0 hq
  have hc2 := bits_sub (bits_bd hs0 hq) hu
  obtain ⟨K1, e1⟩ := hf
  obtain ⟨K2, e2⟩ := make_ev hn s rows (by omega) hr
  obtain ⟨K3, e3⟩ := ev_all (fun i k => WaysAt k (rd_T30 (makeL s rows) (i : Int)) (rd_T45 rows (i : Int)) s (Go.bits .and .i64 s (a5 % 16)) (Go.bits .and .i64 (Go.bits .and .i64 s (a5 % 16)) (a6 % 16))) (makeL s rows).length (fun i hi => by
    have hi2 : i < rows.length := by omega
    have hri := hr _ (List.getElem_mem hi2)
    have hx : rd_T30 (makeL s rows) (i : Int) = ofR s rows[i] := by
      rw [rdC_get hi]
      simp [makeL]
    rw [hx, rdR_get hi2]
    have hsm : ∀ t : Int, SmallC (ofR t rows[i]) := fun t => (ofR_reg hri t).small hn
    obtain ⟨K, hK⟩ := equal_true (hsm (Go.bits .and .i64 (Go.bits .and .i64 s (a5 % 16)) (a6 % 16)))
    obtain ⟨K', hK'⟩ := equal_true (hsm s)
    refine ⟨K + K', fun k hk => ⟨ofR (Go.bits .and .i64 s (a5 % 16)) rows[i], ofR (Go.bits .and .i64 (Go.bits .and .i64 s (a5 % 16)) (a6 % 16)) rows[i], ofR s rows[i], ofR (Go.bits .and .i64 (Go.bits .and .i64 s (a5 % 16)) (a6 % 16)) rows[i], ?_, ?_, ?_, hK k (by omega), ?_, hK' k (by omega), ?_, hK k (by omega)⟩⟩
    · rw [nar_eq (hsm s), nar_of hb hri.1]; rfl
    · rw [nar_eq (hsm _), nar_of hc2 hri.1]; rfl
    · rw [nar_eq (hsm s), nar_of (fun j hj h => hb j hj (hc2 j hj h)) hri.1]; rfl
    · rw [nar_eq (hsm s), nar_of (fun j hj h => h) hri.1]; rfl
    · exact of_eq hn hri _)
  exact ⟨K1 + K2 + K3, cards, meas, rows, s, makeL s rows, a5 % 16, a6 % 16, e1 _ (by omega), hs, within2_eq a5 16 (by omega) (by omega), within2_eq a6 16 (by omega) (by omega), e2 _ (by omega), by omega, e3 _ (by omega)⟩
end Go.Proofs.Ytmkjkkmilopcpaa.Pure
