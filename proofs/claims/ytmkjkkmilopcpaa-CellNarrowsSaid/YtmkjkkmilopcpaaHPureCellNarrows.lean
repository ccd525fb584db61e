/- CellNarrows, in plain Lean: the group-by of a set, narrowed and grouped, is the group-by of the lesser set; for every input. -/
import Derived.ArgAppend
import Derived.Below
import Derived.BigQuiet
import Derived.Deep.AppendLies
import Derived.Deep.CutBlock
import Derived.Deep.DeepCutAuto
import Derived.Deep.Draws
import Derived.Deep.LoopGhost
import Derived.Deep.OwnRows
import Derived.Deep.QuietTactic
import Derived.Deep.RegionHeld3
import Derived.KernelRfl
import Derived.Laws.BitsLemmas
import Derived.Laws.BytesArg
import Derived.Laws.EntriesVeiled
import Derived.Laws.Externs
import Derived.Laws.IdiomCopy
import Derived.Laws.MakeOwn
import Derived.Laws.OwnMore
import Derived.Laws.Rows
import Derived.Laws.Slices
import Derived.Lib.AppendStr
import Derived.Lib.AppendZeros
import Derived.Lib.AppendZerosOnto
import Derived.Lib.ConvBytes
import Derived.Lib.JoinLaws
import Derived.Lib.Overlaps
import Derived.Lib.SliceRun
import Derived.Lib.Walk
import Derived.LoopIn
import Derived.LoopNIn
import Derived.Maps.AppendAt
import Derived.OrdersHeld
import Derived.OrdersIn
import Derived.OwnWalk
import Derived.OwnWalkIn
import Derived.RangeFuncBound
import Derived.RangeFuncBox
import Derived.RangeFuncCalls
import Derived.RangeFuncLeaves
import Derived.RangeFuncNested
import Derived.RangeFuncOwn
import Derived.RowKit
import Derived.RowKit3
import Derived.Shelf.Abstract
import Derived.Shelf.RegionOpen
import Derived.Shelf.RegionOpenPlain
import Derived.Tactics
import Derived.TacticsInMore
import Derived.Test.YtmkjkkmilopcpaaProg
import Derived.WalkKit
import Derived.WalkSpells
import Derived.WideLaws
import Derived.Test.YtmkjkkmilopcpaaPCellNarrows1
import Derived.Test.YtmkjkkmilopcpaaPCellNarrows3
import Derived.Test.YtmkjkkmilopcpaaPCellNarrows4
import Derived.Test.YtmkjkkmilopcpaaPCellNarrows5
import Derived.Test.YtmkjkkmilopcpaaPCellNarrows6
import Derived.Test.YtmkjkkmilopcpaaPCellNarrows7
import Derived.Test.YtmkjkkmilopcpaaPCellNarrows8
import Derived.Test.YtmkjkkmilopcpaaPCellNarrows9
import Derived.Test.YtmkjkkmilopcpaaPCellNarrows10
import Derived.Test.YtmkjkkmilopcpaaPCellNarrows11
import Derived.Test.YtmkjkkmilopcpaaPCellNarrows12
import Derived.Test.YtmkjkkmilopcpaaPCellNarrows13
import Derived.Test.YtmkjkkmilopcpaaPCellNarrows14
import Derived.Test.YtmkjkkmilopcpaaPCellNarrows15
namespace Go.Proofs.Ytmkjkkmilopcpaa.Pure
open Go.RowKit Go.Proofs.Ytmkjkkmilopcpaa.Q Go.Proofs.YtmkjkkmilopcpaaW.PrintWords Go.Proofs.YtmkjkkmilopcpaaW.PrintLast Go.Proofs.YtmkjkkmilopcpaaW.PrintMore
theorem narrows_l0 {n : Nat} (hn : n ≤ 100) (rows : List S45) (hrows : rows.length ≤ 1000) (hr : ∀ r ∈ rows, RegR n r) (a b : Int) (g : List S30) (hg : RegL n g) (hl : g.length ≤ 1000) (he : groupL (g.map fun c => narC c a b) = groupL (makeL b rows)) (d : Nat) : ∀ i : Nat, g.length - i = d → i ≤ g.length →
    Ev (fun k => hypercubelaw2_CellNarrows.l0 k rows a b g ((g.take i).map fun c => narC c a b) (i : Int)) true := by
  induction d with
  | zero =>
    intro i hi hle
    have e : i = g.length := by omega
    subst e
    have hreg : RegL n (g.map fun c => narC c a b) := fun c hc => by
      obtain ⟨x, hx, rfl⟩ := List.mem_map.1 hc
      exact narC_reg (hg x hx) a b
    refine Ev.step (fun k => by simp only [hypercubelaw2_CellNarrows.l0]; rw [if_neg (by omega), List.take_length]) ?_
    refine Ev.bind (group_ev _ (by rw [List.length_map]; omega) (hreg.small hn)) ?_
    refine Ev.bind (ref_facts_ev hn hr (by omega) b) ?_
    have hgl := putAll_length (g.map fun c => narC c a b) []
    rw [← groupL_all, List.length_nil, List.length_map] at hgl
    exact Ev.bind (same_true he (by omega) ((regL_group hreg).small hn)) (Ev.now _)
  | succ d ih =>
    intro i hi hle
    have hlt : i < g.length := by omega
    have h := ih (i + 1) (by omega) (by omega)
    rw [List.take_succ_eq_append_getElem hlt, List.map_append, List.map_cons, List.map_nil] at h
    refine Ev.step (fun k => by
      simp only [hypercubelaw2_CellNarrows.l0]
      rw [if_pos (by omega), if_pos (by omega), rdC_get hlt, nar_eq ((hg _ (List.getElem_mem hlt)).small hn), Option.bind_some, if_pos (by rw [List.length_map, List.length_take]; omega), w64s hlt (by omega)]
      rfl) h
theorem CellNarrows : hypercubelaw2_CellNarrows.Pure := by
  intro a0 l1 a2 l3 a4 a5 _ _ _ _ _ _ _ _ _ _
  obtain ⟨cards, meas, rows, s, n, hf, hs, hc, hn, hl, hr, hs0, _⟩ := facts_set a0 l1 a2 l3 a4
  have hreg := makeL_reg hr s
  have hlen := makeL_length s rows
  have hgl := putAll_length (makeL s rows) []
  rw [← groupL_all, List.length_nil] at hgl
  refine Ev.rounds ?_
  refine Ev.congr (fun k => by unfold hypercubelaw2_CellNarrows.f hypercubelaw2_known.f; rw [Option.bind_some, if_pos rfl]) ?_
  refine Ev.bind hf ?_
  refine Ev.congr (fun k => by rw [hs, Option.bind_some, within2_eq a5 16 (by omega) (by omega), Option.bind_some]) ?_
  refine Ev.bind (make_ev hn s rows (by omega) hr) ?_
  refine Ev.bind (group_ev _ (by omega) (hreg.small hn)) ?_
  refine narrows_l0 hn rows (by omega) hr s _ (groupL (makeL s rows)) (regL_group hreg) (by omega) ?_ (groupL (makeL s rows)).length 0 rfl (Nat.zero_le _)
  rw [group_nar, nar_make (bits_sub hs0 ⟨by omega, by omega⟩) (fun r h => (hr r h).1)]
end Go.Proofs.Ytmkjkkmilopcpaa.Pure
