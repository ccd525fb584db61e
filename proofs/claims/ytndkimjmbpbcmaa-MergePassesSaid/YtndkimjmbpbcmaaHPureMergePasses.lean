/- MergePasses, in plain Lean: passes are as many as it takes, each makes of fan runs one; for every input. -/
import Derived.ArgAppend
import Derived.Below
import Derived.BigQuiet
import Derived.Deep.AppendLies
import Derived.Deep.CutBlock
import Derived.Deep.DeepCutAuto
import Derived.Deep.Draws
import Derived.Deep.LoopGhost
import Derived.Deep.OwnRows
import Derived.Deep.QuietTactic
import Derived.Deep.RegionHeld3
import Derived.KernelRfl
import Derived.Laws.BitsLemmas
import Derived.Laws.BytesArg
import Derived.Laws.EntriesVeiled
import Derived.Laws.Externs
import Derived.Laws.IdiomCopy
import Derived.Laws.MakeOwn
import Derived.Laws.OwnMore
import Derived.Laws.Rows
import Derived.Laws.Slices
import Derived.Lib.AppendStr
import Derived.Lib.AppendZeros
import Derived.Lib.AppendZerosOnto
import Derived.Lib.ConvBytes
import Derived.Lib.JoinLaws
import Derived.Lib.Overlaps
import Derived.Lib.SliceRun
import Derived.Lib.Walk
import Derived.LoopIn
import Derived.LoopNIn
import Derived.Maps.AppendAt
import Derived.OrdersHeld
import Derived.OrdersIn
import Derived.OwnWalk
import Derived.OwnWalkIn
import Derived.RangeFuncBound
import Derived.RangeFuncBox
import Derived.RangeFuncCalls
import Derived.RangeFuncLeaves
import Derived.RangeFuncNested
import Derived.RangeFuncOwn
import Derived.RowKit
import Derived.RowKit3
import Derived.Shelf.Abstract
import Derived.Shelf.RegionOpen
import Derived.Shelf.RegionOpenPlain
import Derived.Tactics
import Derived.TacticsInMore
import Derived.Test.YtndkimjmbpbcmaaProg
import Derived.WalkKit
import Derived.WalkSpells
import Derived.WideLaws
import Derived.Test.YtndkimjmbpbcmaaPMergePasses1
import Derived.Test.YtndkimjmbpbcmaaPMergePasses2
import Derived.Test.YtndkimjmbpbcmaaPMergePasses3
import Derived.Test.YtndkimjmbpbcmaaPMergePasses4
import Derived.Test.YtndkimjmbpbcmaaPMergePasses5
import Derived.Test.YtndkimjmbpbcmaaPMergePasses6
import Derived.Test.YtndkimjmbpbcmaaPMergePasses7
import Derived.Test.YtndkimjmbpbcmaaPMergePasses8
import Derived.Test.YtndkimjmbpbcmaaPMergePasses9
import Derived.Test.YtndkimjmbpbcmaaPMergePasses10
import Derived.Test.YtndkimjmbpbcmaaPMergePasses11
import Derived.Test.YtndkimjmbpbcmaaPMergePasses12
import Derived.Test.YtndkimjmbpbcmaaPMergePasses13
namespace Go.Proofs.Ytndkimjmbpbcmaa.Pure
open Go.RowKit Go.Proofs.Ytndkimjmbpbcmaa.Q Go.Proofs.YtndkimjmbpbcmaaW.PrintWords Go.Proofs.YtndkimjmbpbcmaaW.PrintLast Go.Proofs.YtndkimjmbpbcmaaW.PrintMore
def keyC (i : Nat) : S44 := ⟨[(i : Int)], 1, [], [], []⟩
def singles (n : Nat) : List (List S44) := (List.range n).map fun i => [keyC i]
theorem singles_flat (n : Nat) : (singles n).flatten = (List.range n).map keyC := by
  unfold singles
  induction n with
  | zero => rfl
  | succ n ih => rw [List.range_succ, List.map_append, List.flatten_append, ih, List.map_append]; rfl
theorem keys_less {i j : Nat} (h : i < j) : lexC (keyC i).f0 (keyC j).f0 < 0 := by
  show lexC [(i : Int)] [(j : Int)] < 0
  simp only [lexC]
  rw [if_pos (by omega)]
  decide
theorem keys_sorted (n : Nat) : SortedC ((List.range n).map keyC) := List.Pairwise.map keyC (fun _ _ h => keys_less h) List.pairwise_lt_range
theorem key_reg (i : Nat) : RegC 0 (keyC i) := ⟨by show (1 : Nat) ≤ 4; decide, rfl, rfl, rfl⟩
theorem singles_good (n : Nat) : GoodL 0 60 (singles n) := fun x hx => by
  obtain ⟨i, _, rfl⟩ := List.mem_map.1 hx
  exact ⟨List.pairwise_singleton _ _, fun c hc => by rw [List.mem_singleton.1 hc]; exact key_reg i, by show (1 : Nat) ≤ 60; decide⟩
theorem div_eq {n m : Nat} (h : 1 ≤ m) (h0 : n ≤ 1000) (h1 : m ≤ 1000) (hp : pieces n m ≤ 1000) : wrap64 (Int.tdiv (wrap64 (wrap64 ((n : Int) + (m : Int)) - 1)) (m : Int)) = ((pieces n m : Nat) : Int) := by
  rw [w64 (x := (n : Int) + (m : Int)) (by omega) (by omega), w64 (x := (n : Int) + (m : Int) - 1) (by omega) (by omega), show (n : Int) + (m : Int) - 1 = ((n + m - 1 : Nat) : Int) by omega]
  have e : Int.tdiv ((n + m - 1 : Nat) : Int) (m : Int) = ((pieces n m : Nat) : Int) := rfl
  rw [e, w64 (by omega) (by omega)]
theorem passes_l1 (n : Nat) (hn : n ≤ 60) (m : Nat) (hm : 2 ≤ m) (hm2 : m ≤ 1000) : ∀ (f x w : Nat), x ≤ f → x ≤ 60 → w + passN m f x = passN m n n → w + f ≤ 1000 → Ev (fun k => hypercubelaw6_MergePasses.l1 k (n : Int) (m : Int) (singles n) (w : Int) (x : Int)) true := by
  have hlen : (singles n).length = n := by simp [singles]
  have hg : groupL (singles n).flatten = (List.range n).map keyC := by rw [singles_flat]; exact group_rising (keys_sorted n)
  have hml : ((List.range n).map keyC).length = n := by simp
  have hmul := Nat.mul_le_mul_right 60 (show (singles n).length ≤ 60 by omega)
  have hmg := merge_ev (n := 0) (by omega) hm (by omega) (singles_good n) (by rw [singles_flat, hml]; omega) (by omega) (by omega)
  rw [hg, hlen] at hmg
  have hend : ∀ (f x w : Nat), ¬ 1 < x → w + passN m f x = passN m n n → Ev (fun k => hypercubelaw6_MergePasses.l1 k (n : Int) (m : Int) (singles n) (w : Int) (x : Int)) true := fun f x w hx hw => by
    have e : passN m f x = 0 := by
      cases f with
      | zero => rfl
      | succ f => exact if_neg hx
    refine Ev.step (f := fun k => (merge_Merge.f k (singles n) (m : Int)).bind fun bt => if bt.2 = (w : Int) then (if (bt.1.length : Int) = (n : Int) then (hypercuberef5_Sorted.f k bt.1).bind fun t => some t else none) else none) (fun k => ?_) (Ev.bind hmg ?_)
    · simp only [hypercubelaw6_MergePasses.l1]
      rw [if_neg (by omega)]
    · refine Ev.congr (f := fun k => (hypercuberef5_Sorted.f k ((List.range n).map keyC)).bind fun t => some t) (fun k => by rw [if_pos (by omega), if_pos (by rw [hml])]) ?_
      have h := ref_sorted_ev (l := (List.range n).map keyC) (fun y hy => by
        obtain ⟨i, _, rfl⟩ := List.mem_map.1 hy
        exact (key_reg i).small (by omega)) (by omega)
      rw [srtB_sorted _ (keys_sorted n)] at h
      exact Ev.bind h (Ev.now _)
  intro f
  induction f with
  | zero => exact fun x w hx _ hw _ => hend 0 x w (by omega) hw
  | succ f ih =>
    intro x w hx hx2 hw hwf
    by_cases c : 1 < x
    · have e : passN m (f + 1) x = passN m f (pieces x m) + 1 := if_pos c
      have hlt := pieces_less hm c
      refine Ev.step (fun k => ?_) (ih (pieces x m) (w + 1) (by omega) (by omega) (by omega) (by omega))
      simp only [hypercubelaw6_MergePasses.l1]
      rw [if_pos (by omega), if_neg (by omega), div_eq (by omega) (by omega) (by omega) (by omega), w64s (Nat.lt_succ_self w) (by omega)]
    · exact hend (f + 1) x w c hw
theorem passes_l0 (n : Nat) (hn : n ≤ 60) (m : Nat) (hm : 2 ≤ m) (hm2 : m ≤ 1000) (d : Nat) : ∀ i : Nat, n - i = d → i ≤ n → Ev (fun k => hypercubelaw6_MergePasses.l0 k (n : Int) (m : Int) (singles i) (i : Int)) true := by
  induction d with
  | zero =>
    intro i hd hi
    have e : i = n := by omega
    subst e
    refine Ev.step (fun k => ?_) (passes_l1 i hn m hm hm2 i i 0 (Nat.le_refl _) hn (Nat.zero_add _) (by omega))
    simp only [hypercubelaw6_MergePasses.l0]
    rw [if_neg (by omega)]
    rfl
  | succ d ih =>
    intro i hd hi
    have hlen : (singles i).length = i := by simp [singles]
    have e : singles (i + 1) = singles i ++ [[⟨[(i : Int)], 1, [], [], []⟩]] := by unfold singles; rw [List.range_succ, List.map_append]; rfl
    have h := ih (i + 1) (by omega) (by omega)
    rw [e] at h
    refine Ev.step (fun k => ?_) h
    simp only [hypercubelaw6_MergePasses.l0]
    rw [if_pos (by omega), if_pos (by omega), w64s (show i < n by omega) (by omega)]
theorem MergePasses : hypercubelaw6_MergePasses.Pure := by
  intro a0 a1 _ _
  obtain ⟨m, hm1, hm2, hw, hm⟩ := some_eq 0 a0 60 (by omega) (by omega) (by omega)
  obtain ⟨q, hq1, hq2, hwq, hq⟩ := some_eq 2 a1 9 (by omega) (by omega) (by omega)
  have hw' : hypercubelaw6_within.f a0 60 = some (a0 % 60) := hw
  have hwq' : hypercubelaw6_within.f a1 9 = some (a1 % 9) := hwq
  have hq' : wrap64 (2 + a1 % 9) = (q : Int) := hq
  have hm' : a0 % 60 = (m : Int) := by
    have b0 := Int.emod_nonneg a0 (show (60 : Int) ≠ 0 by omega)
    have b1 := Int.emod_lt_of_pos a0 (show (0 : Int) < 60 by omega)
    have h : wrap64 (0 + a0 % 60) = (m : Int) := hm
    rw [w64 (by omega) (by omega)] at h
    omega
  refine Ev.rounds ?_
  refine Ev.congr (fun k => by unfold hypercubelaw6_MergePasses.f hypercubelaw6_known.f; rw [Option.bind_some, if_pos rfl, hw', Option.bind_some, hwq', Option.bind_some, hm', hq']) ?_
  exact passes_l0 m (by omega) q hq1 (by omega) m 0 rfl (Nat.zero_le _)
end Go.Proofs.Ytndkimjmbpbcmaa.Pure
