/- MergeFans, in plain Lean: with any fan cells are the same; with a greater one there are no more passes; for every input. -/
import Derived.ArgAppend
import Derived.Below
import Derived.BigQuiet
import Derived.Deep.AppendLies
import Derived.Deep.CutBlock
import Derived.Deep.DeepCutAuto
import Derived.Deep.Draws
import Derived.Deep.LoopGhost
import Derived.Deep.OwnRows
import Derived.Deep.QuietTactic
import Derived.Deep.RegionHeld3
import Derived.KernelRfl
import Derived.Laws.BitsLemmas
import Derived.Laws.BytesArg
import Derived.Laws.EntriesVeiled
import Derived.Laws.Externs
import Derived.Laws.IdiomCopy
import Derived.Laws.MakeOwn
import Derived.Laws.OwnMore
import Derived.Laws.Rows
import Derived.Laws.Slices
import Derived.Lib.AppendStr
import Derived.Lib.AppendZeros
import Derived.Lib.AppendZerosOnto
import Derived.Lib.ConvBytes
import Derived.Lib.JoinLaws
import Derived.Lib.Overlaps
import Derived.Lib.SliceRun
import Derived.Lib.Walk
import Derived.LoopIn
import Derived.LoopNIn
import Derived.Maps.AppendAt
import Derived.OrdersHeld
import Derived.OrdersIn
import Derived.OwnWalk
import Derived.OwnWalkIn
import Derived.RangeFuncBound
import Derived.RangeFuncBox
import Derived.RangeFuncCalls
import Derived.RangeFuncLeaves
import Derived.RangeFuncNested
import Derived.RangeFuncOwn
import Derived.RowKit
import Derived.RowKit3
import Derived.Shelf.Abstract
import Derived.Shelf.RegionOpen
import Derived.Shelf.RegionOpenPlain
import Derived.Tactics
import Derived.TacticsInMore
import Derived.Test.YtndkimjmbpbcmaaProg
import Derived.WalkKit
import Derived.WalkSpells
import Derived.WideLaws
import Derived.Test.YtndkimjmbpbcmaaPMergeFans1
import Derived.Test.YtndkimjmbpbcmaaPMergeFans3
import Derived.Test.YtndkimjmbpbcmaaPMergeFans4
import Derived.Test.YtndkimjmbpbcmaaPMergeFans5
import Derived.Test.YtndkimjmbpbcmaaPMergeFans6
import Derived.Test.YtndkimjmbpbcmaaPMergeFans7
import Derived.Test.YtndkimjmbpbcmaaPMergeFans8
import Derived.Test.YtndkimjmbpbcmaaPMergeFans9
import Derived.Test.YtndkimjmbpbcmaaPMergeFans10
import Derived.Test.YtndkimjmbpbcmaaPMergeFans11
import Derived.Test.YtndkimjmbpbcmaaPMergeFans12
import Derived.Test.YtndkimjmbpbcmaaPMergeFans13
import Derived.Test.YtndkimjmbpbcmaaPMergeFans14
import Derived.Test.YtndkimjmbpbcmaaPMergeFans15
import Derived.Test.YtndkimjmbpbcmaaPMergeFans16
namespace Go.Proofs.Ytndkimjmbpbcmaa.Pure
open Go.RowKit Go.Proofs.Ytndkimjmbpbcmaa.Q Go.Proofs.YtndkimjmbpbcmaaW.PrintWords Go.Proofs.YtndkimjmbpbcmaaW.PrintLast Go.Proofs.YtndkimjmbpbcmaaW.PrintMore
theorem pieces_mono {n n' m m' : Nat} (hm : 1 ≤ m) (hmm : m ≤ m') (hn : n' ≤ n) : pieces n' m' ≤ pieces n m := by
  refine Decidable.byContradiction (fun h => ?_)
  have h1 : pieces n m < pieces n' m' := by omega
  have h2 := (pieces_lt (by omega)).1 h1
  have h3 := Nat.mul_le_mul_left (pieces n m) hmm
  have h4 := (pieces_lt (len := n) (m := m) (q := pieces n m) hm).2 (by omega)
  omega
theorem passN_mono {m m' : Nat} (hm : 1 ≤ m) (hmm : m ≤ m') : ∀ (f n n' : Nat), n' ≤ n → passN m' f n' ≤ passN m f n
  | 0, _, _, _ => Nat.le_refl _
  | f + 1, n, n', hn => by
    have h := passN_mono hm hmm f _ _ (pieces_mono hm hmm hn)
    show (if 1 < n' then _ else _) ≤ (if 1 < n then _ else _)
    by_cases c : 1 < n'
    · rw [if_pos c, if_pos (by omega)]
      omega
    · rw [if_neg c]
      exact Nat.zero_le _
theorem passN_pos (m : Nat) : ∀ n : Nat, (decide ((n : Int) > 1) == decide (((passN m n n : Nat) : Int) > 0)) = true
  | 0 => rfl
  | 1 => rfl
  | n + 2 => by
    have e : passN m (n + 2) (n + 2) = passN m (n + 1) (pieces (n + 2) m) + 1 := by show (if 1 < n + 2 then _ else _) = _; rw [if_pos (by omega)]
    rw [e, decide_eq_true (by omega), decide_eq_true (by omega)]
    rfl
theorem MergeFans : hypercubelaw6_MergeFans.Pure := by
  intro a0 l1 a2 l3 a4 a5 a6 _ _ _ _ _ _ _ _ _ _ _
  obtain ⟨cards, meas, rows, s, n, hf, hs, hc, hn, hl, hr, _⟩ := facts_set a0 l1 a2 l3 a4
  obtain ⟨q, hq1, hq2, hwq, hq⟩ := some_eq 2 a5 9 (by omega) (by omega) (by omega)
  obtain ⟨q2, hr1, hr2, hwr, hq22⟩ := some_eq q a6 9 (by omega) (by omega) (by omega)
  have hwq' : hypercubelaw6_within.f a5 9 = some (a5 % 9) := hwq
  have hq' : wrap64 (2 + a5 % 9) = (q : Int) := hq
  have hwr' : hypercubelaw6_within.f a6 9 = some (a6 % 9) := hwr
  have hq2' : wrap64 ((q : Int) + a6 % 9) = (q2 : Int) := hq22
  have hreg := makeL_reg hr s
  have hlen := makeL_length s rows
  have hrl := runsR_len 2 (by omega) (makeL s rows)
  have hgood := runs_good 2 (by omega) hreg
  have hfl := runs_flat_len 2 (makeL s rows)
  have hmul := Nat.mul_le_mul (show (runsR 2 [] (makeL s rows)).length ≤ 40 by omega) (show (makeL s rows).length ≤ 40 by omega)
  have hgl := putAll_length (runsR 2 [] (makeL s rows)).flatten []
  rw [← groupL_all, List.length_nil] at hgl
  have hpn := passN_mono (show 1 ≤ q by omega) hr1 (runsR 2 [] (makeL s rows)).length _ _ (Nat.le_refl (runsR 2 [] (makeL s rows)).length)
  have h2 : Ev (fun k => hypercuberef5_Runs.f k (makeL s rows) 2) (runsR 2 [] (makeL s rows)) := ref_runs_ev hn 2 (by omega) hreg (by omega)
  refine Ev.rounds ?_
  refine Ev.congr (fun k => by unfold hypercubelaw6_MergeFans.f hypercubelaw6_known.f; rw [Option.bind_some, if_pos rfl]) ?_
  refine Ev.bind hf ?_
  refine Ev.congr (fun k => by rw [hs, Option.bind_some]) ?_
  refine Ev.bind (make_ev hn s rows (by omega) hr) ?_
  refine Ev.bind h2 ?_
  refine Ev.congr (fun k => by rw [hwq', Option.bind_some, hq']) ?_
  refine Ev.bind (merge_ev hn hq1 (by omega) hgood hfl (by omega) (by omega)) ?_
  refine Ev.congr (fun k => by rw [hwr', Option.bind_some, hq2']) ?_
  refine Ev.bind (merge_ev hn (by omega) (by omega) hgood hfl (by omega) (by omega)) ?_
  refine Ev.bind (same_true rfl (by show (groupL _).length ≤ _; omega) ((regL_group (regL_flat hgood)).small hn)) ?_
  exact Ev.congr (f := fun _ => some true) (fun k => by rw [if_pos rfl, if_pos (Int.ofNat_le.2 hpn), passN_pos]) (Ev.now _)
end Go.Proofs.Ytndkimjmbpbcmaa.Pure
