/- CellBack, in plain Lean: any cuboid is written as the document says, and read as it was; for every input. -/
import Derived.ArgAppend
import Derived.Below
import Derived.BigQuiet
import Derived.Deep.AppendLies
import Derived.Deep.CutBlock
import Derived.Deep.DeepCutAuto
import Derived.Deep.Draws
import Derived.Deep.LoopGhost
import Derived.Deep.OwnRows
import Derived.Deep.QuietTactic
import Derived.Deep.RegionHeld3
import Derived.KernelRfl
import Derived.Laws.BitsLemmas
import Derived.Laws.BytesArg
import Derived.Laws.EntriesVeiled
import Derived.Laws.Externs
import Derived.Laws.IdiomCopy
import Derived.Laws.MakeOwn
import Derived.Laws.OwnMore
import Derived.Laws.Rows
import Derived.Laws.Slices
import Derived.Lib.AppendStr
import Derived.Lib.AppendZeros
import Derived.Lib.AppendZerosOnto
import Derived.Lib.ConvBytes
import Derived.Lib.JoinLaws
import Derived.Lib.Overlaps
import Derived.Lib.SliceRun
import Derived.Lib.Walk
import Derived.LoopIn
import Derived.LoopNIn
import Derived.Maps.AppendAt
import Derived.OrdersHeld
import Derived.OrdersIn
import Derived.OwnWalk
import Derived.OwnWalkIn
import Derived.RangeFuncBound
import Derived.RangeFuncBox
import Derived.RangeFuncCalls
import Derived.RangeFuncLeaves
import Derived.RangeFuncNested
import Derived.RangeFuncOwn
import Derived.RowKit
import Derived.RowKit3
import Derived.Shelf.Abstract
import Derived.Shelf.RegionOpen
import Derived.Shelf.RegionOpenPlain
import Derived.Tactics
import Derived.TacticsInMore
import Derived.Test.YtmkjkkmilopcpaaProg
import Derived.WalkKit
import Derived.WalkSpells
import Derived.WideLaws
import Derived.Test.YtmkjkkmilopcpaaPCellBack1
import Derived.Test.YtmkjkkmilopcpaaPCellBack3
import Derived.Test.YtmkjkkmilopcpaaPCellBack4
import Derived.Test.YtmkjkkmilopcpaaPCellBack5
import Derived.Test.YtmkjkkmilopcpaaPCellBack6
import Derived.Test.YtmkjkkmilopcpaaPCellBack7
import Derived.Test.YtmkjkkmilopcpaaPCellBack8
import Derived.Test.YtmkjkkmilopcpaaPCellBack9
import Derived.Test.YtmkjkkmilopcpaaPCellBack10
import Derived.Test.YtmkjkkmilopcpaaPCellBack11
import Derived.Test.YtmkjkkmilopcpaaPCellBack12
import Derived.Test.YtmkjkkmilopcpaaPCellBack13
import Derived.Test.YtmkjkkmilopcpaaPCellBack14
import Derived.Test.YtmkjkkmilopcpaaPCellBack15
import Derived.Test.YtmkjkkmilopcpaaPCellBack16
import Derived.Test.YtmkjkkmilopcpaaPCellBack17
import Derived.Test.YtmkjkkmilopcpaaPCellBack18
namespace Go.Proofs.Ytmkjkkmilopcpaa.Pure
open Go.RowKit Go.Proofs.Ytmkjkkmilopcpaa.Q Go.Proofs.YtmkjkkmilopcpaaW.PrintWords Go.Proofs.YtmkjkkmilopcpaaW.PrintLast Go.Proofs.YtmkjkkmilopcpaaW.PrintMore
theorem check_eq {cards : List Int} {meas : Int} (h : checkP cards meas = true) : rec_Check.f cards meas = some true := by
  obtain ⟨c1, c2, c3, c4, c5⟩ := check_open h
  unfold rec_Check.f rec_within_int.f
  rw [if_pos (by omega), if_pos (by omega), Option.bind_some]
  have : (cards.all fun x => decide (1 ≤ x) && decide (x ≤ 16)) = true := by
    rw [List.all_eq_true]
    intro x hx
    have := c3 x hx
    simp [this.1, this.2]
  rw [if_pos this, if_pos (by omega), decide_eq_true c5]
theorem CellBack : hypercubelaw2_CellBack.Pure := by
  intro a0 l1 a2 l3 a4 _ _ _ _ _ _ _ _ _
  obtain ⟨cards, meas, rows, s, n, ⟨K1, e1⟩, hs, hc, hn, hl, hr, hs0, hok⟩ := facts_set a0 l1 a2 l3 a4
  obtain ⟨s0, s1⟩ := set_lt hc hs
  obtain ⟨c1, c2, c3, c4, c5⟩ := check_open hc
  obtain ⟨k, hk⟩ : ∃ k : Nat, s = (k : Int) := ⟨s.toNat, by omega⟩
  have hk16 : k < 16 := by omega
  have hk2 : k < 2 ^ cards.length := by rw [hk] at s1; exact_mod_cast s1
  have hcells := cells_ok hc s0 s1 hl hok
  have hlen := makeL_length s rows
  have hgl := putAll_length (makeL s rows) []
  rw [← groupL_all, List.length_nil] at hgl
  have henc : EncOk (groupL (makeL s rows)) := ⟨by omega, fun c hcm => by
    have h := hcells c hcm
    have := dimsM_len s
    exact ⟨by rw [h.key]; omega, by rw [h.l2]; omega, by rw [h.l3, h.l2], by rw [h.l4, h.l2]⟩⟩
  obtain ⟨K2, e2⟩ := ref_facts_ev hn hr (by omega) s
  obtain ⟨K3, e3⟩ := cell_encode_ev s _ henc
  obtain ⟨K4, e4⟩ := ref_encode_ev s _ henc
  obtain ⟨K5, e5⟩ := same_true (l := groupL (makeL s rows)) rfl (by omega) ((regL_group (makeL_reg hr s)).small hn)
  have hd := decode_enc (check_eq hc) ⟨c4, by omega, by omega⟩ ⟨s0, by omega, by rw [hk]; exact shift_same k hk16 cards.length (by omega) hk2⟩ (by rw [hk]; exact ones_same k hk16) (dims_lt s0 s1 c2) (by omega) hcells (groupL_sorted _)
  exact ⟨K1 + K2 + K3 + K4 + K5, cards, meas, rows, s, groupL (makeL s rows), encP s (groupL (makeL s rows)), e1 _ (by omega), hs, e2 _ (by omega), e3 _ (by omega), hd, e4 _ (by omega), e5 _ (by omega)⟩
end Go.Proofs.Ytmkjkkmilopcpaa.Pure
