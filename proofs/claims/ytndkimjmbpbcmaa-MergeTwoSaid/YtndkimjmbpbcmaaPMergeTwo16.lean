-- packed by wip/tools/pack.py (a program of this session) out of its own texts
import Derived.Test.YtndkimjmbpbcmaaPMergeTwo0
import Derived.ArgAppend
import Derived.Below
import Derived.BigQuiet
import Derived.Deep.AppendLies
import Derived.Deep.CutBlock
import Derived.Deep.DeepCutAuto
import Derived.Deep.Draws
import Derived.Deep.LoopGhost
import Derived.Deep.OwnRows
import Derived.Deep.QuietTactic
import Derived.Deep.RegionHeld3
import Derived.KernelRfl
import Derived.Laws.BitsLemmas
import Derived.Laws.BytesArg
import Derived.Laws.EntriesVeiled
import Derived.Laws.Externs
import Derived.Laws.IdiomCopy
import Derived.Laws.MakeOwn
import Derived.Laws.OwnMore
import Derived.Laws.Rows
import Derived.Laws.Slices
import Derived.Lib.AppendStr
import Derived.Lib.AppendZeros
import Derived.Lib.AppendZerosOnto
import Derived.Lib.ConvBytes
import Derived.Lib.JoinLaws
import Derived.Lib.Overlaps
import Derived.Lib.SliceRun
import Derived.Lib.Walk
import Derived.LoopIn
import Derived.LoopNIn
import Derived.Maps.AppendAt
import Derived.OrdersHeld
import Derived.OrdersIn
import Derived.OwnWalk
import Derived.OwnWalkIn
import Derived.RangeFuncBound
import Derived.RangeFuncBox
import Derived.RangeFuncCalls
import Derived.RangeFuncLeaves
import Derived.RangeFuncNested
import Derived.RangeFuncOwn
import Derived.RowKit
import Derived.RowKit3
import Derived.Shelf.Abstract
import Derived.Shelf.RegionOpen
import Derived.Shelf.RegionOpenPlain
import Derived.Tactics
import Derived.TacticsInMore
import Derived.Test.YtndkimjmbpbcmaaProg
import Derived.WalkKit
import Derived.WalkSpells
import Derived.WideLaws
import Derived.Test.YtndkimjmbpbcmaaPMergeTwo1
import Derived.Test.YtndkimjmbpbcmaaPMergeTwo3
import Derived.Test.YtndkimjmbpbcmaaPMergeTwo4
import Derived.Test.YtndkimjmbpbcmaaPMergeTwo5
import Derived.Test.YtndkimjmbpbcmaaPMergeTwo6
import Derived.Test.YtndkimjmbpbcmaaPMergeTwo7
import Derived.Test.YtndkimjmbpbcmaaPMergeTwo8
import Derived.Test.YtndkimjmbpbcmaaPMergeTwo9
import Derived.Test.YtndkimjmbpbcmaaPMergeTwo10
import Derived.Test.YtndkimjmbpbcmaaPMergeTwo11
import Derived.Test.YtndkimjmbpbcmaaPMergeTwo12
import Derived.Test.YtndkimjmbpbcmaaPMergeTwo13
import Derived.Test.YtndkimjmbpbcmaaPMergeTwo14
import Derived.Test.YtndkimjmbpbcmaaPMergeTwo15
namespace Go.Proofs.Ytndkimjmbpbcmaa.Q
open Go.RowKit Go.Proofs.YtndkimjmbpbcmaaW.PrintWords Go.Proofs.YtndkimjmbpbcmaaW.PrintLast Go.Proofs.YtndkimjmbpbcmaaW.PrintMore
set_option linter.unusedVariables false
set_option linter.unusedSimpArgs false
theorem ref_join_l0 (n : Nat) (hn : n ≤ 100) (a b : S44) (ha : RegC n a) (hb : RegC n b) (f0 : List Int) (f1 : Int) (d : Nat) : ∀ (i : Nat) (s m x : List Int), n - i = d → i ≤ n → s.length = i → m.length = i → x.length = i →
  Ev (fun k => hypercuberef2_Join.l0 k (i : Int) a.f0 a.f1 a.f2 a.f3 a.f4 b.f0 b.f1 b.f2 b.f3 b.f4 f0 f1 s m x)
   (f0, f1, s ++ List.zipWith (fun x y => wrap64 (x + y)) (a.f2.drop i) (b.f2.drop i), m ++ List.zipWith mn (a.f3.drop i) (b.f3.drop i), x ++ List.zipWith mx (a.f4.drop i) (b.f4.drop i)) := by
 obtain ⟨a0, a2, a3, a4⟩ := ha
 obtain ⟨b0, b2, b3, b4⟩ := hb
 induction d with
 | zero =>
  intro i s m x hd hi hs hm hx
  have e2 : a.f2.drop i = [] := List.drop_eq_nil_of_le (by omega)
  have e3 : a.f3.drop i = [] := List.drop_eq_nil_of_le (by omega)
  have e4 : a.f4.drop i = [] := List.drop_eq_nil_of_le (by omega)
  rw [e2, e3, e4, List.zipWith_nil_left, List.zipWith_nil_left, List.zipWith_nil_left, List.append_nil, List.append_nil, List.append_nil]
  exact Ev.step (f := fun _ => some (f0, f1, s, m, x)) (fun k => by simp only [hypercuberef2_Join.l0]; rw [if_neg (by omega)]) (Ev.now _)
 | succ d ih =>
  intro i s m x hd hi hs hm hx
  have ia2 : i < a.f2.length := by omega
  have ia3 : i < a.f3.length := by omega
  have ia4 : i < a.f4.length := by omega
  have ib2 : i < b.f2.length := by omega
  have ib3 : i < b.f3.length := by omega
  have ib4 : i < b.f4.length := by omega
  have h := ih (i + 1) (s ++ [wrap64 (a.f2[i] + b.f2[i])]) (m ++ [mn a.f3[i] b.f3[i]]) (x ++ [mx a.f4[i] b.f4[i]]) (by omega) (by omega) (by simp; omega) (by simp; omega) (by simp; omega)
  rw [List.append_assoc, List.append_assoc, List.append_assoc, List.singleton_append, List.singleton_append, List.singleton_append] at h
  rw [drop_cons ia2, drop_cons ia3, drop_cons ia4, drop_cons ib2, drop_cons ib3, drop_cons ib4, List.zipWith_cons_cons, List.zipWith_cons_cons, List.zipWith_cons_cons]
  exact Ev.step (fun k => by
   simp only [hypercuberef2_Join.l0]
   rw [if_pos (by omega), if_pos (by omega), if_pos (by omega), if_pos (by omega), if_pos (by omega), if_pos (by omega), if_pos (by omega), if_pos (by omega), if_pos (by omega), if_pos (by omega), rd_get ia2, rd_get ia3, rd_get ia4, rd_get ib2, rd_get ib3, rd_get ib4, w64s ia2 (by omega)]) h
theorem ref_join_ev {n : Nat} (hn : n ≤ 100) {a b : S44} (ha : RegC n a) (hb : RegC n b) : Ev (fun k => hypercuberef2_Join.f k a.f0 a.f1 a.f2 a.f3 a.f4 b.f0 b.f1 b.f2 b.f3 b.f4) (tupC (joinC a b)) := by
 have h := ref_join_l0 n hn a b ha hb a.f0 (wrap64 (a.f1 + b.f1)) n 0 [] [] [] (by omega) (by omega) rfl rfl rfl
 simp only [List.drop_zero, List.nil_append] at h
 refine Ev.congr (fun k => ?_) h
 unfold hypercuberef2_Join.f
 rw [Option.bind_some, if_pos (by have := ha.1; simp only [List.length_nil]; omega), List.nil_append]
 rfl
theorem ref_copy_eq {c : S44} (h : SmallC c) : hypercuberef2_Copy.f c.f0 c.f1 c.f2 c.f3 c.f4 = some (tupC c) := by
 obtain ⟨h0, h2, h3, h4⟩ := h
 unfold hypercuberef2_Copy.f
 rw [if_pos ⟨by omega, by omega, by omega, by omega⟩]
 rfl
theorem ref_put_end {n : Nat} (hn : n ≤ 100) {xs : List S44} {x : S44} (hl : xs.length ≤ 1000000) (hr : RegL n xs) (hx : RegC n x) (i : Nat) (hi : i ≤ xs.length) (h1 : ∀ m (h : m < xs.length), m < i → lexC (xs[m]).f0 x.f0 < 0) (h2 : ∀ (h : i < xs.length), 0 ≤ lexC (xs[i]).f0 x.f0) :
  Ev (fun k => hypercuberef2_Put.j1 k xs (i : Int) x.f0 x.f1 x.f2 x.f3 x.f4) (putL x xs) := by
 have hput := putL_at x i xs hi h1 h2
 have hcat : xs.take i ++ [x] ++ xs.drop i = xs.take i ++ x :: xs.drop i := by simp
 have hins : Ev (fun k => hypercuberef2_Put.j2 k xs (i : Int) false x.f0 x.f1 x.f2 x.f3 x.f4) (xs.take i ++ x :: xs.drop i) := by
  refine Ev.step (f := fun _ => some (xs.take i ++ x :: xs.drop i)) (fun k => ?_) (Ev.now _)
  simp only [hypercuberef2_Put.j2]
  rw [if_neg (by simp), Option.bind_some, if_pos (by omega), if_pos (by omega), Option.bind_some, if_pos (by simp; omega), Option.bind_some, ref_copy_eq (hx.small hn), Option.bind_some, if_pos (by simp; omega), Option.bind_some, Option.bind_some, if_pos (by simp; omega)]
  simp only [List.nil_append, Int.toNat_natCast, tupC, ← hcat]
 by_cases hlt : i < xs.length
 ·have hc := ref_less_ev (xs[i]).f0 x.f0 (by have := (hr _ (List.getElem_mem hlt)).1; omega)
  refine Ev.step (f := fun k => (hypercuberef2_Less.f k (xs[i]).f0 x.f0).bind fun t => hypercuberef2_Put.j2 k xs (i : Int) (t == 0) x.f0 x.f1 x.f2 x.f3 x.f4) (fun k => ?_) (Ev.bind hc ?_)
  ·simp only [hypercuberef2_Put.j1]
   rw [if_pos (by omega), if_pos (by omega), rdC_get hlt]
  ·rw [hput, dif_pos hlt]
   by_cases c : lexC (xs[i]).f0 x.f0 = 0
   ·rw [if_pos c, show (lexC (xs[i]).f0 x.f0 == 0) = true by simp [c]]
    have hj := ref_join_ev hn (hr _ (List.getElem_mem hlt)) hx
    refine Ev.step (f := fun k => (hypercuberef2_Join.f k (xs[i]).f0 (xs[i]).f1 (xs[i]).f2 (xs[i]).f3 (xs[i]).f4 x.f0 x.f1 x.f2 x.f3 x.f4).bind fun bt => some (xs.set i (⟨bt.1, bt.2.1, bt.2.2.1, bt.2.2.2.1, bt.2.2.2.2⟩ : S44))) (fun k => ?_) (Ev.bind hj (Ev.now _))
    simp only [hypercuberef2_Put.j2]
    rw [if_pos trivial, Option.bind_some, if_pos (by simp; omega), Option.bind_some, if_pos (by omega), if_pos (by omega), rdC_get hlt, List.nil_append]
    congr 1
    funext bt
    rw [if_pos (by omega), Int.toNat_natCast]
   ·rw [if_neg c, show (lexC (xs[i]).f0 x.f0 == 0) = false by simp [c]]
    exact hins
 ·rw [hput, dif_neg hlt]
  refine Ev.step (fun k => ?_) hins
  simp only [hypercuberef2_Put.j1]
  rw [if_neg (by omega)]
theorem ref_put_l0 {n : Nat} (hn : n ≤ 100) {xs : List S44} {x : S44} (hl : xs.length ≤ 1000000) (hr : RegL n xs) (hx : RegC n x) (d : Nat) : ∀ i : Nat, xs.length - i = d → i ≤ xs.length → (∀ m (h : m < xs.length), m < i → lexC (xs[m]).f0 x.f0 < 0) →
  Ev (fun k => hypercuberef2_Put.l0 k xs (i : Int) x.f0 x.f1 x.f2 x.f3 x.f4) (putL x xs) := by
 induction d with
 | zero =>
  intro i hd hi h1
  refine Ev.step (fun k => ?_) (ref_put_end hn hl hr hx i hi h1 (fun h => by omega))
  simp only [hypercuberef2_Put.l0]
  rw [if_neg (by omega)]
 | succ d ih =>
  intro i hd hi h1
  have hlt : i < xs.length := by omega
  have hc := ref_less_ev (xs[i]).f0 x.f0 (by have := (hr _ (List.getElem_mem hlt)).1; omega)
  refine Ev.step (f := fun k => (hypercuberef2_Less.f k (xs[i]).f0 x.f0).bind fun t => if t < 0 then hypercuberef2_Put.l0 k xs ((i + 1 : Nat) : Int) x.f0 x.f1 x.f2 x.f3 x.f4 else hypercuberef2_Put.j1 k xs (i : Int) x.f0 x.f1 x.f2 x.f3 x.f4) (fun k => ?_) (Ev.bind hc ?_)
  ·simp only [hypercuberef2_Put.l0]
   rw [if_pos (by omega), if_pos (by omega), rdC_get hlt, w64s hlt (by omega)]
  ·by_cases c : lexC (xs[i]).f0 x.f0 < 0
   ·refine Ev.congr (fun k => by rw [if_pos c]) (ih (i + 1) (by omega) (by omega) (fun m h hm => ?_))
    by_cases e : m = i
    ·subst e; exact c
    ·exact h1 m h (by omega)
   ·exact Ev.congr (fun k => by rw [if_neg c]) (ref_put_end hn hl hr hx i hi h1 (fun _ => by omega))
theorem ref_put_ev {n : Nat} (hn : n ≤ 100) {xs : List S44} {x : S44} (hl : xs.length ≤ 1000000) (hr : RegL n xs) (hx : RegC n x) : Ev (fun k => hypercuberef2_Put.f k xs x.f0 x.f1 x.f2 x.f3 x.f4) (putL x xs) :=
 Ev.congr (fun k => by unfold hypercuberef2_Put.f; rfl) (ref_put_l0 hn hl hr hx xs.length 0 (by omega) (by omega) (fun m h hm => by omega))
theorem equal_true {c : S44} (ha : SmallC c) : Ev (fun k => hypercuberef2_Equal.f k c.f0 c.f1 c.f2 c.f3 c.f4 c.f0 c.f1 c.f2 c.f3 c.f4) true := by
 obtain ⟨h0, h2, h3, h4⟩ := ha
 have e : ∀ l : List Int, l.length ≤ 100000 → Ev (fun k => hypercuberef1_Ints.f k l l) true := fun l hl => by
  have := ints_ev l l (by omega)
  rw [decide_eq_true rfl] at this
  exact this
 refine Ev.congr (fun k => by unfold hypercuberef2_Equal.f; rw [if_pos rfl]) ?_
 refine Ev.bind (e _ h0) (Ev.congr (fun k => by rw [if_pos rfl]) ?_)
 refine Ev.bind (e _ h2) (Ev.congr (fun k => by rw [if_pos rfl]) ?_)
 refine Ev.bind (e _ h3) (Ev.congr (fun k => by rw [if_pos rfl]) ?_)
 exact Ev.bind (e _ h4) (Ev.now _)
theorem same_l0 (l : List S44) (hl : l.length ≤ 1000000) (hs : ∀ c ∈ l, SmallC c) (d : Nat) : ∀ i : Nat, l.length - i = d → i ≤ l.length → Ev (fun k => hypercuberef2_Same.l0 k l l (i : Int)) true := by
 induction d with
 | zero =>
  intro i hd hi
  exact Ev.step (f := fun _ => some true) (fun k => by simp only [hypercuberef2_Same.l0]; rw [if_neg (by omega)]) (Ev.now _)
 | succ d ih =>
  intro i hd hi
  have hlt : i < l.length := by omega
  refine Ev.step (f := fun k => (hypercuberef2_Equal.f k (l[i]).f0 (l[i]).f1 (l[i]).f2 (l[i]).f3 (l[i]).f4 (l[i]).f0 (l[i]).f1 (l[i]).f2 (l[i]).f3 (l[i]).f4).bind fun t => if t = true then hypercuberef2_Same.l0 k l l ((i + 1 : Nat) : Int) else some false) (fun k => ?_) (Ev.bind (equal_true (hs _ (List.getElem_mem hlt))) ?_)
  ·simp only [hypercuberef2_Same.l0]
   rw [if_pos (by omega), if_pos (by omega), if_pos (by omega), rdC_get hlt, w64s hlt (by omega)]
  ·exact Ev.congr (fun k => by rw [if_pos rfl]) (ih (i + 1) (by omega) (by omega))
theorem same_true {l l' : List S44} (h : l = l') (hl : l.length ≤ 1000000) (hs : ∀ c ∈ l, SmallC c) : Ev (fun k => hypercuberef2_Same.f k l l') true := by
 subst h
 exact Ev.congr (fun k => by unfold hypercuberef2_Same.f; rw [if_pos rfl]; rfl) (same_l0 l hl hs l.length 0 (by omega) (by omega))
theorem within_eq (a n : Int) (h0 : 0 < n) (h1 : n ≤ 4611686018427387904) : hypercubelaw1_within.f a n = some (a % n) := by
 unfold hypercubelaw1_within.f
 rw [if_neg (by omega)]
 have hb := Int.emod_nonneg a (show n ≠ 0 by omega)
 have hl := Int.emod_lt_of_pos a h0
 by_cases ha : 0 ≤ a
 ·rw [Int.tmod_eq_emod_of_nonneg ha, if_neg (by omega)]
 ·have ht : Int.tmod a n = if a % n = 0 then 0 else a % n - n := by
   rw [Int.tmod_eq_emod]
   split
   ·rename_i h
    rcases h with h | h
    ·omega
    ·rw [Int.emod_eq_zero_of_dvd h]; simp
   ·rename_i h
    have : a % n ≠ 0 := fun e => h (.inr (Int.dvd_of_emod_eq_zero e))
    rw [if_neg this, Int.natAbs_of_nonneg (by omega)]
  by_cases hz : a % n = 0
  ·rw [ht, if_pos hz, if_neg (by omega), hz]
  ·rw [ht, if_neg hz, if_pos (by omega)]
   congr 1
   rw [w64 (by omega) (by omega)]
   omega
def checkP (cards : List Int) (meas : Int) : Bool := decide (1 ≤ cards.length) && decide (cards.length ≤ 4) && (cards.all fun x => decide (1 ≤ x) && decide (x ≤ 16)) && decide (0 ≤ meas) && decide (meas ≤ 2)
def rightP (cards : List Int) (meas : Int) (x : S51) : Bool := decide (x.f0.length = cards.length) && decide ((x.f1.length : Int) = meas) && (List.range x.f0.length).all fun i => decide (0 ≤ rd x.f0 i) && decide (rd x.f0 i < rd cards i)
theorem check_open {cards : List Int} {meas : Int} (h : checkP cards meas = true) : 1 ≤ cards.length ∧ cards.length ≤ 4 ∧ (∀ x ∈ cards, 1 ≤ x ∧ x ≤ 16) ∧ 0 ≤ meas ∧ meas ≤ 2 := by
 unfold checkP at h
 simp only [Bool.and_eq_true, decide_eq_true_eq, List.all_eq_true] at h
 exact ⟨h.1.1.1.1, h.1.1.1.2, fun x hx => h.1.1.2 x hx, h.1.2, h.2⟩
theorem check_mk {cards : List Int} {meas : Int} (h1 : 1 ≤ cards.length) (h2 : cards.length ≤ 4) (h3 : ∀ x ∈ cards, 1 ≤ x ∧ x ≤ 16) (h4 : 0 ≤ meas) (h5 : meas ≤ 2) : checkP cards meas = true := by
 unfold checkP
 simp only [Bool.and_eq_true, decide_eq_true_eq, List.all_eq_true]
 exact ⟨⟨⟨⟨h1, h2⟩, h3⟩, h4⟩, h5⟩
theorem right_open {cards : List Int} {meas : Int} {x : S51} (h : rightP cards meas x = true) : x.f0.length = cards.length ∧ (x.f1.length : Int) = meas ∧ ∀ i : Nat, i < x.f0.length → 0 ≤ rd x.f0 i ∧ rd x.f0 i < rd cards i := by
 unfold rightP at h
 simp only [Bool.and_eq_true, decide_eq_true_eq, List.all_eq_true, List.mem_range] at h
 exact ⟨h.1.1, h.1.2, fun i hi => h.2 i hi⟩
theorem right_mk {cards : List Int} {meas : Int} {x : S51} (h1 : x.f0.length = cards.length) (h2 : (x.f1.length : Int) = meas) (h3 : ∀ i : Nat, i < x.f0.length → 0 ≤ rd x.f0 i ∧ rd x.f0 i < rd cards i) : rightP cards meas x = true := by
 unfold rightP
 simp only [Bool.and_eq_true, decide_eq_true_eq, List.all_eq_true, List.mem_range]
 exact ⟨⟨h1, h2⟩, fun i hi => h3 i hi⟩
abbrev FR := List Int × Int × List S51
def RowOk (cards : List Int) (meas : Int) (x : S51) : Prop := rightP cards meas x = true ∧ ∀ y ∈ x.f1, -100 ≤ y ∧ y ≤ 100
theorem facts_l3 (x3 : List Int) (rows : List S51) (i : Nat) (hi : i < 1000) (kk : Int) (cards : List Int) (meas : Int) (hm0 : 0 ≤ meas) (hm : meas ≤ 2) (hrl : rows.length ≤ 1000) (key : List Int) {Q : FR → Prop}
  (H : ∀ ms : List Int, (ms.length : Int) = meas → (∀ y ∈ ms, -100 ≤ y ∧ y ≤ 100) → ∃ p, Ev (fun k => hypercubelaw1_Facts.l1 k x3 (rows ++ [⟨key, ms⟩]) ((i + 1 : Nat) : Int) cards meas) p ∧ Q p) (d : Nat) :
  ∀ (j : Nat) (ms : List Int), (meas.toNat - j) = d → (j : Int) ≤ meas → ms.length = j → (∀ y ∈ ms, -100 ≤ y ∧ y ≤ 100) → ∃ p, Ev (fun k => hypercubelaw1_Facts.l3 k x3 rows (i : Int) kk (j : Int) cards meas key ms) p ∧ Q p := by
 induction d with
 | zero =>
  intro j ms hd hj hl hb
  obtain ⟨p, h1, h2⟩ := H ms (by omega) hb
  exact ⟨p, Ev.step (fun k => by simp only [hypercubelaw1_Facts.l3]; rw [if_neg (by omega), if_pos (by omega), w64s hi (by omega)]) h1, h2⟩
 | succ d ih =>
  intro j ms hd hj hl hb
  have hw := within_eq (wrap64 (kk + (wrap64 (7 * (j : Int))))) 201 (by omega) (by omega)
  have b0 := Int.emod_nonneg (wrap64 (kk + (wrap64 (7 * (j : Int))))) (show (201 : Int) ≠ 0 by omega)
  have b1 := Int.emod_lt_of_pos (wrap64 (kk + (wrap64 (7 * (j : Int))))) (show (0 : Int) < 201 by omega)
  generalize (wrap64 (kk + (wrap64 (7 * (j : Int))))) % 201 = q at hw b0 b1
  obtain ⟨p, h1, h2⟩ := ih (j + 1) (ms ++ [wrap64 (q - 100)]) (by omega) (by omega) (by simp; omega) (fun y hy => by
   rcases List.mem_append.1 hy with hy | hy
   ·exact hb y hy
   ·rw [List.mem_singleton.1 hy, w64 (by omega) (by omega)]; omega)
  refine ⟨p, Ev.step (fun k => by simp only [hypercubelaw1_Facts.l3]; rw [if_pos (by omega), hw]; simp only [Option.bind_some]; rw [if_pos (by omega), w64s (show j < 1000 by omega) (by omega)]) h1, h2⟩
theorem facts_l2 (x3 : List Int) (rows : List S51) (i : Nat) (hi : i < 1000) (cards : List Int) (meas : Int) (hc : checkP cards meas = true) (hrl : rows.length ≤ 1000) {Q : FR → Prop}
  (H : ∀ x, RowOk cards meas x → ∃ p, Ev (fun k => hypercubelaw1_Facts.l1 k x3 (rows ++ [x]) ((i + 1 : Nat) : Int) cards meas) p ∧ Q p) (d : Nat) :
  ∀ (j : Nat) (kk : Int) (key : List Int), cards.length - j = d → j ≤ cards.length → key.length = j → (∀ a : Nat, a < key.length → 0 ≤ rd key a ∧ rd key a < rd cards a) →
   ∃ p, Ev (fun k => hypercubelaw1_Facts.l2 k x3 rows (i : Int) kk (j : Int) cards meas key) p ∧ Q p := by
 obtain ⟨h1, h2, h3, h4, h5⟩ := check_open hc
 induction d with
 | zero =>
  intro j kk key hd hj hl hb
  have := facts_l3 x3 rows i hi kk cards meas h4 h5 hrl key (fun ms hml hmb => H ⟨key, ms⟩ ⟨right_mk (by show key.length = _; omega) hml hb, hmb⟩) meas.toNat 0 [] (by omega) (by omega) rfl (by simp)
  obtain ⟨p, e1, e2⟩ := this
  exact ⟨p, Ev.step (fun k => by simp only [hypercubelaw1_Facts.l2]; rw [if_neg (by omega)]; rfl) e1, e2⟩
 | succ d ih =>
  intro j kk key hd hj hl hb
  have hja : j < cards.length := by omega
  have hcd := h3 cards[j] (List.getElem_mem hja)
  have hw := within_eq kk cards[j] (by omega) (by omega)
  have b0 := Int.emod_nonneg kk (show cards[j] ≠ 0 by omega)
  have b1 := Int.emod_lt_of_pos kk (show (0 : Int) < cards[j] by omega)
  generalize kk % cards[j] = q at hw b0 b1
  obtain ⟨p, e1, e2⟩ := ih (j + 1) (wrap64 (Int.tdiv kk 5)) (key ++ [q]) (by omega) (by omega) (by simp; omega) (fun a ha => by
   by_cases hak : a < key.length
   ·have hb1 := hb a hak
    have : rd (key ++ [q]) (a : Int) = rd key (a : Int) := by rw [rd_get ha, rd_get hak, List.getElem_append_left hak]
    rw [this]; exact hb1
   ·have hae : a = key.length := by simp at ha; omega
    subst hae
    have : rd (key ++ [q]) (key.length : Int) = q := by rw [rd_get ha]; simp
    rw [this, hl, rd_get hja]; exact ⟨b0, b1⟩)
  refine ⟨p, Ev.step (fun k => by simp only [hypercubelaw1_Facts.l2]; rw [if_pos (by omega), if_pos (by omega), rd_get hja, hw]; simp only [Option.bind_some]; rw [if_pos (by omega), w64s hja (by omega)]) e1, e2⟩
theorem facts_l1 (x3 : List Int) (cards : List Int) (meas : Int) (hc : checkP cards meas = true) (d : Nat) : ∀ (i : Nat) (rows : List S51), (min x3.length 40) - i = d → i ≤ min x3.length 40 → rows.length = i → (∀ x ∈ rows, RowOk cards meas x) →
  ∃ p, Ev (fun k => hypercubelaw1_Facts.l1 k x3 rows (i : Int) cards meas) p ∧ (p.1 = cards ∧ p.2.1 = meas ∧ p.2.2.length = min x3.length 40 ∧ ∀ x ∈ p.2.2, RowOk cards meas x) := by
 induction d with
 | zero =>
  intro i rows hd hi hl hr
  have fin : Ev (fun k => hypercubelaw1_Facts.j3 k x3 rows (i : Int) false cards meas) (cards, meas, rows) := Ev.step (fun k => by simp only [hypercubelaw1_Facts.j3]; rw [if_neg (by simp)]) (Ev.now _)
  refine ⟨(cards, meas, rows), ?_, rfl, rfl, by show rows.length = _; omega, hr⟩
  by_cases h : (i : Int) < x3.length
  ·have : decide ((i : Int) < 40) = false := decide_eq_false (by omega)
   exact Ev.step (fun k => by simp only [hypercubelaw1_Facts.l1]; rw [if_pos h, this]) fin
  ·exact Ev.step (fun k => by simp only [hypercubelaw1_Facts.l1]; rw [if_neg h]) fin
 | succ d ih =>
  intro i rows hd hi hl hr
  have hia : i < x3.length := by omega
  have hdec : decide ((i : Int) < 40) = true := decide_eq_true (by omega)
  obtain ⟨p, e1, e2⟩ := facts_l2 x3 rows i (by omega) cards meas hc (by omega) (fun x hx => ih (i + 1) (rows ++ [x]) (by omega) (by omega) (by simp; omega) (fun y hy => by
   rcases List.mem_append.1 hy with hy | hy
   ·exact hr y hy
   ·rw [List.mem_singleton.1 hy]; exact hx)) cards.length 0 (rd x3 i) [] (by omega) (by omega) rfl (fun a ha => by simp at ha)
  refine ⟨p, ?_, e2⟩
  refine Ev.step (fun k => by simp only [hypercubelaw1_Facts.l1]; rw [if_pos (by omega), hdec]) ?_
  exact Ev.step (fun k => by simp only [hypercubelaw1_Facts.j3]; rw [if_pos trivial, if_pos (by omega), if_pos (by omega)]; rfl) e1
theorem facts_l0 (x0 : Int) (x1 x3 : List Int) (meas : Int) (hm0 : 0 ≤ meas) (hm : meas ≤ 2) (d : Nat) : ∀ (i : Nat) (cards : List Int), (x0 % 4 + 1).toNat - i = d → (i : Int) ≤ x0 % 4 + 1 → cards.length = i → (∀ x ∈ cards, 1 ≤ x ∧ x ≤ 5) →
  ∃ p, Ev (fun k => hypercubelaw1_Facts.l0 k x0 x1 x3 (i : Int) cards meas) p ∧ (checkP p.1 p.2.1 = true ∧ p.2.1 = meas ∧ (p.1.length : Int) = x0 % 4 + 1 ∧ p.2.2.length = min x3.length 40 ∧ ∀ x ∈ p.2.2, RowOk p.1 p.2.1 x) := by
 have b0 := Int.emod_nonneg x0 (show (4 : Int) ≠ 0 by omega)
 have b1 := Int.emod_lt_of_pos x0 (show (0 : Int) < 4 by omega)
 have hw4 := within_eq x0 4 (by omega) (by omega)
 have hw7 := within_eq x0 7 (by omega) (by omega)
 induction d with
 | zero =>
  intro i cards hd hi hl hc
  have go : ∀ cs : List Int, cs.length = cards.length → (∀ x ∈ cs, 1 ≤ x ∧ x ≤ 16) → ∃ p, Ev (fun k => hypercubelaw1_Facts.j1 k x3 cs meas) p ∧ (checkP p.1 p.2.1 = true ∧ p.2.1 = meas ∧ (p.1.length : Int) = x0 % 4 + 1 ∧ p.2.2.length = min x3.length 40 ∧ ∀ x ∈ p.2.2, RowOk p.1 p.2.1 x) := by
   intro cs h1 h2
   have hck : checkP cs meas = true := check_mk (by omega) (by omega) h2 hm0 hm
   obtain ⟨p, e1, e2, e3, e4, e5⟩ := facts_l1 x3 cs meas hck (min x3.length 40) 0 [] (by omega) (by omega) rfl (by simp)
   refine ⟨p, Ev.step (fun k => by simp only [hypercubelaw1_Facts.j1]; rfl) e1, ?_, e3, ?_, e4, ?_⟩
   ·rw [e2, e3]; exact hck
   ·rw [e2]; omega
   ·rw [e2, e3]; exact e5
  by_cases h7 : x0 % 7 = 0
  ·obtain ⟨p, e1, e2⟩ := go (cards.set (0 : Int).toNat 16) (by simp) (fun x hx => by
    rcases List.mem_or_eq_of_mem_set hx with hx | rfl
    ·have := hc x hx; omega
    ·omega)
   refine ⟨p, ?_, e2⟩
   exact Ev.step (fun k => by simp only [hypercubelaw1_Facts.l0]; rw [hw4]; simp only [Option.bind_some]; rw [if_neg (by omega), hw7]; simp only [Option.bind_some]; rw [if_pos h7, if_pos (by omega)]) e1
  ·obtain ⟨p, e1, e2⟩ := go cards rfl (fun x hx => by have := hc x hx; omega)
   refine ⟨p, ?_, e2⟩
   exact Ev.step (fun k => by simp only [hypercubelaw1_Facts.l0]; rw [hw4]; simp only [Option.bind_some]; rw [if_neg (by omega), hw7]; simp only [Option.bind_some]; rw [if_neg h7]) e1
 | succ d ih =>
  intro i cards hd hi hl hc
  have next : ∀ q : Int, 0 ≤ q → q < 5 → ∃ p, Ev (fun k => hypercubelaw1_Facts.l0 k x0 x1 x3 ((i + 1 : Nat) : Int) (cards ++ [wrap64 (1 + q)]) meas) p ∧ (checkP p.1 p.2.1 = true ∧ p.2.1 = meas ∧ (p.1.length : Int) = x0 % 4 + 1 ∧ p.2.2.length = min x3.length 40 ∧ ∀ x ∈ p.2.2, RowOk p.1 p.2.1 x) := by
   intro q q0 q1
   refine ih (i + 1) (cards ++ [wrap64 (1 + q)]) (by omega) (by omega) (by simp; omega) (fun x hx => ?_)
   rcases List.mem_append.1 hx with hx | hx
   ·exact hc x hx
   ·rw [List.mem_singleton.1 hx, w64 (by omega) (by omega)]; omega
  by_cases h1 : (i : Int) < x1.length
  ·have hw := within_eq (rd x1 (i : Int)) 5 (by omega) (by omega)
   obtain ⟨p, e1, e2⟩ := next (rd x1 (i : Int) % 5) (by omega) (by omega)
   refine ⟨p, ?_, e2⟩
   exact Ev.step (fun k => by simp only [hypercubelaw1_Facts.l0]; rw [hw4]; simp only [Option.bind_some]; rw [if_pos (by omega), if_pos h1, if_pos (by omega), hw]; simp only [Option.bind_some]; rw [if_pos (by omega), w64s (show i < 1000 by omega) (by omega)]) e1
  ·have hw := within_eq (wrap64 ((i : Int) + 2)) 5 (by omega) (by omega)
   obtain ⟨p, e1, e2⟩ := next (wrap64 ((i : Int) + 2) % 5) (by omega) (by omega)
   refine ⟨p, ?_, e2⟩
   exact Ev.step (fun k => by simp only [hypercubelaw1_Facts.l0]; rw [hw4]; simp only [Option.bind_some]; rw [if_pos (by omega), if_neg h1, hw]; simp only [Option.bind_some]; rw [if_pos (by omega), w64s (show i < 1000 by omega) (by omega)]) e1
theorem facts_ev (a0 : Int) (l1 : List Int) (a2 : Int) (l3 : List Int) : ∃ cards meas rows, Ev (fun k => hypercubelaw1_Facts.f k a0 l1 a2 l3) (cards, meas, rows) ∧ checkP cards meas = true ∧ meas = a2 % 3 ∧ (cards.length : Int) = a0 % 4 + 1 ∧ rows.length = min l3.length 40 ∧ ∀ x ∈ rows, RowOk cards meas x := by
 have hw := within_eq a2 3 (by omega) (by omega)
 obtain ⟨⟨cards, meas, rows⟩, e1, e2, e3, e4, e5, e6⟩ := facts_l0 a0 l1 l3 (a2 % 3) (by omega) (by omega) (a0 % 4 + 1).toNat 0 [] (by omega) (by omega) rfl (by simp)
 refine ⟨cards, meas, rows, ?_, e2, e3, e4, e5, e6⟩
 exact Ev.congr (fun k => by unfold hypercubelaw1_Facts.f; rw [hw]; rfl) e1
theorem set_eq {cards : List Int} {meas : Int} (hc : checkP cards meas = true) (a : Int) : ∃ s, hypercubelaw2_Set.f cards meas a = some s ∧ 0 ≤ s ∧ s < 16 := by
 obtain ⟨h1, h2, _⟩ := check_open hc
 have go : ∀ n : Int, 0 < n → n ≤ 16 → ∃ s, ((hypercubelaw2_within.f a n).bind fun t => some t) = some s ∧ 0 ≤ s ∧ s < 16 := fun n h0 h16 => by
  rw [within2_eq a n h0 (by omega)]
  have := Int.emod_nonneg a (show n ≠ 0 by omega)
  have := Int.emod_lt_of_pos a h0
  exact ⟨a % n, rfl, by omega, by omega⟩
 unfold hypercubelaw2_Set.f
 have hl : cards.length = 1 ∨ cards.length = 2 ∨ cards.length = 3 ∨ cards.length = 4 := by omega
 rcases hl with h | h | h | h
 ·rw [h, if_pos (by decide), show shl .i64 1 (IntKind.u64.wrap ((1 : Nat) : Int)) = 2 by decide]; exact go 2 (by omega) (by omega)
 ·rw [h, if_pos (by decide), show shl .i64 1 (IntKind.u64.wrap ((2 : Nat) : Int)) = 4 by decide]; exact go 4 (by omega) (by omega)
 ·rw [h, if_pos (by decide), show shl .i64 1 (IntKind.u64.wrap ((3 : Nat) : Int)) = 8 by decide]; exact go 8 (by omega) (by omega)
 ·rw [h, if_pos (by decide), show shl .i64 1 (IntKind.u64.wrap ((4 : Nat) : Int)) = 16 by decide]; exact go 16 (by omega) (by omega)
def bitR (s : Int) (i : Nat) : Bool := decide (Go.bits .and .i64 (shr .i64 s (IntKind.u64.wrap (i : Int))) 1 = 1)
def keysR (s : Int) : Nat → List Int → List Int
 | _, [] => []
 | i, x :: xs => if bitR s i = true then x :: keysR s (i + 1) xs else keysR s (i + 1) xs
theorem keysR_length (s : Int) : ∀ (i : Nat) (l : List Int), (keysR s i l).length ≤ l.length
 | _, [] => by simp [keysR]
 | i, x :: xs => by
  have := keysR_length s (i + 1) xs
  unfold keysR
  split <;> simp <;> omega
def ofR (s : Int) (r : S51) : S44 := ⟨keysR s 0 r.f0, 1, r.f1, r.f1, r.f1⟩
def RegR (n : Nat) (r : S51) : Prop := r.f0.length ≤ 4 ∧ r.f1.length = n
theorem u64_nat (i : Nat) (h : i ≤ 1000) : 0 ≤ IntKind.u64.wrap (i : Int) := by
 have e : IntKind.u64.wrap (i : Int) = (i : Int) % 18446744073709551616 := rfl
 rw [e]; omega
theorem of_l0 (s : Int) (f0 f1 : List Int) (h0 : f0.length ≤ 4) (h1 : f1.length ≤ 100) (d : Nat) : ∀ (i : Nat) (acc : List Int), f0.length - i = d → i ≤ f0.length → acc.length ≤ i →
  Ev (fun k => hypercuberef2_Of.l0 k s (i : Int) f0 f1 acc 1) (acc ++ keysR s i (f0.drop i), 1, f1, f1, f1) := by
 induction d with
 | zero =>
  intro i acc hd hi ha
  have e : f0.drop i = [] := List.drop_eq_nil_of_le (by omega)
  rw [e]
  refine Ev.step (f := fun _ => some (acc, 1, f1, f1, f1)) (fun k => ?_) (by simp only [keysR, List.append_nil]; exact Ev.now _)
  simp only [hypercuberef2_Of.l0]
  rw [if_neg (by omega), Option.bind_some, if_pos (by simp; omega), Option.bind_some, if_pos (by simp; omega), Option.bind_some, if_pos (by simp; omega)]
  rfl
 | succ d ih =>
  intro i acc hd hi ha
  have hlt : i < f0.length := by omega
  rw [drop_cons hlt]
  unfold keysR
  by_cases hb : bitR s i = true
  ·have hb' : Go.bits .and .i64 (shr .i64 s (IntKind.u64.wrap (i : Int))) 1 = 1 := by unfold bitR at hb; simpa using hb
   have h := ih (i + 1) (acc ++ [f0[i]]) (by omega) (by omega) (by simp; omega)
   rw [List.append_assoc, List.singleton_append] at h
   rw [if_pos hb]
   exact Ev.step (fun k => by simp only [hypercuberef2_Of.l0]; rw [if_pos (by omega), if_pos (u64_nat i (by omega)), if_pos hb', if_pos (by omega), if_pos (by omega), rd_get hlt, w64s hlt (by omega)]) h
  ·have hb' : ¬ Go.bits .and .i64 (shr .i64 s (IntKind.u64.wrap (i : Int))) 1 = 1 := by unfold bitR at hb; simpa using hb
   have h := ih (i + 1) acc (by omega) (by omega) (by omega)
   rw [if_neg hb]
   exact Ev.step (fun k => by simp only [hypercuberef2_Of.l0]; rw [if_pos (by omega), if_pos (u64_nat i (by omega)), if_neg hb', w64s hlt (by omega)]) h
theorem of_ev {n : Nat} (hn : n ≤ 100) {r : S51} (hr : RegR n r) (s : Int) : Ev (fun k => hypercuberef2_Of.f k r.f0 r.f1 s) (tupC (ofR s r)) := by
 have h := of_l0 s r.f0 r.f1 hr.1 (by rw [hr.2]; exact hn) r.f0.length 0 [] (by omega) (by omega) (by simp)
 simp only [List.drop_zero, List.nil_append] at h
 exact Ev.congr (fun k => by unfold hypercuberef2_Of.f; rfl) h
theorem ofR_reg {n : Nat} {r : S51} (hr : RegR n r) (s : Int) : RegC n (ofR s r) := ⟨Nat.le_trans (keysR_length _ _ _) hr.1, hr.2, hr.2, hr.2⟩
def makeL (s : Int) (rows : List S51) : List S44 := rows.map (ofR s)
theorem makeL_reg {n : Nat} {rows : List S51} (hr : ∀ r ∈ rows, RegR n r) (s : Int) : RegL n (makeL s rows) := fun c hc => by
 obtain ⟨r, h, rfl⟩ := List.mem_map.1 hc
 exact ofR_reg (hr r h) s
theorem makeL_length (s : Int) (rows : List S51) : (makeL s rows).length = rows.length := by simp [makeL]
theorem rdR_get {l : List S51} {i : Nat} (h : i < l.length) : rd_T51 l (i : Int) = l[i] := by simp [rd_T51, List.getD_eq_getElem?_getD, h]
theorem ref_group_l0 {n : Nat} (hn : n ≤ 100) (l : List S44) (hr : RegL n l) (d : Nat) : ∀ (i : Nat) (acc : List S44), l.length - i = d → i ≤ l.length → RegL n acc → acc.length + (l.length - i) ≤ 1000000 → l.length ≤ 1000000 →
  Ev (fun k => hypercuberef2_Group.l0 k l acc (i : Int)) (putAll acc (l.drop i)) := by
 induction d with
 | zero =>
  intro i acc hd hi ha hb hl
  have e : l.drop i = [] := List.drop_eq_nil_of_le (by omega)
  rw [e]
  exact Ev.step (f := fun _ => some acc) (fun k => by simp only [hypercuberef2_Group.l0]; rw [if_neg (by omega)]) (Ev.now _)
 | succ d ih =>
  intro i acc hd hi ha hb hl
  have hlt : i < l.length := by omega
  have hx := hr _ (List.getElem_mem hlt)
  have := putL_length l[i] acc
  rw [drop_cons hlt, putAll_cons]
  refine Ev.step (f := fun k => (hypercuberef2_Put.f k acc (l[i]).f0 (l[i]).f1 (l[i]).f2 (l[i]).f3 (l[i]).f4).bind fun t => hypercuberef2_Group.l0 k l t ((i + 1 : Nat) : Int)) (fun k => ?_) (Ev.bind (ref_put_ev hn (by omega) ha hx) (ih (i + 1) _ (by omega) (by omega) (regL_put hx ha) (by omega) hl))
  simp only [hypercuberef2_Group.l0]
  rw [if_pos (by omega), if_pos (by omega), rdC_get hlt, w64s hlt (by omega)]
theorem ref_group_ev {n : Nat} (hn : n ≤ 100) {l : List S44} (hr : RegL n l) (hl : l.length ≤ 1000000) : Ev (fun k => hypercuberef2_Group.f k l) (groupL l) := by
 have h := ref_group_l0 hn l hr l.length 0 [] (by omega) (by omega) (regL_nil n) (by simpa using hl) hl
 simp only [List.drop_zero] at h
 exact Ev.congr (fun k => by unfold hypercuberef2_Group.f; rfl) h
theorem ref_facts_l0 {n : Nat} (hn : n ≤ 100) (s : Int) (rows : List S51) (hr : ∀ r ∈ rows, RegR n r) (d : Nat) : ∀ (i : Nat) (acc : List S44), rows.length - i = d → i ≤ rows.length → RegL n acc → acc.length + (rows.length - i) ≤ 1000000 → rows.length ≤ 1000000 →
  Ev (fun k => hypercuberef2_Facts.l0 k rows s acc (i : Int)) (putAll acc (makeL s (rows.drop i))) := by
 induction d with
 | zero =>
  intro i acc hd hi ha hb hl
  have e : rows.drop i = [] := List.drop_eq_nil_of_le (by omega)
  rw [e]
  exact Ev.step (f := fun _ => some acc) (fun k => by simp only [hypercuberef2_Facts.l0]; rw [if_neg (by omega)]) (Ev.now _)
 | succ d ih =>
  intro i acc hd hi ha hb hl
  have hlt : i < rows.length := by omega
  have hx := hr _ (List.getElem_mem hlt)
  have hc := ofR_reg hx s
  have := putL_length (ofR s rows[i]) acc
  rw [drop_cons hlt]
  show Ev _ (putAll acc (ofR s rows[i] :: makeL s (rows.drop (i + 1))))
  rw [putAll_cons]
  have hp : Ev (fun k => hypercuberef2_Put.f k acc (tupC (ofR s rows[i])).1 (tupC (ofR s rows[i])).2.1 (tupC (ofR s rows[i])).2.2.1 (tupC (ofR s rows[i])).2.2.2.1 (tupC (ofR s rows[i])).2.2.2.2) (putL (ofR s rows[i]) acc) := ref_put_ev hn (by omega) ha hc
  refine Ev.step (f := fun k => (hypercuberef2_Of.f k (rows[i]).f0 (rows[i]).f1 s).bind fun bt => (hypercuberef2_Put.f k acc bt.1 bt.2.1 bt.2.2.1 bt.2.2.2.1 bt.2.2.2.2).bind fun t => hypercuberef2_Facts.l0 k rows s t ((i + 1 : Nat) : Int)) (fun k => ?_) (Ev.bind (of_ev hn hx s) (Ev.bind hp (ih (i + 1) _ (by omega) (by omega) (regL_put hc ha) (by omega) hl)))
  simp only [hypercuberef2_Facts.l0]
  rw [if_pos (by omega), if_pos (by omega), rdR_get hlt, w64s hlt (by omega)]
theorem ref_facts_ev {n : Nat} (hn : n ≤ 100) {rows : List S51} (hr : ∀ r ∈ rows, RegR n r) (hl : rows.length ≤ 1000000) (s : Int) : Ev (fun k => hypercuberef2_Facts.f k rows s) (groupL (makeL s rows)) := by
 have h := ref_facts_l0 hn s rows hr rows.length 0 [] (by omega) (by omega) (regL_nil n) (by simpa using hl) hl
 simp only [List.drop_zero] at h
 exact Ev.congr (fun k => by unfold hypercuberef2_Facts.f; rfl) h
def srtB : List S44 → Bool
 | a :: b :: t => decide (lexC a.f0 b.f0 < 0) && srtB (b :: t)
 | _ => true
theorem srtB_sorted : ∀ l : List S44, SortedC l → srtB l = true
 | [], _ => rfl
 | [_], _ => rfl
 | a :: b :: t, h => by
  obtain ⟨h1, h2⟩ := List.pairwise_cons.1 h
  unfold srtB
  rw [decide_eq_true (h1 b (by simp)), srtB_sorted (b :: t) h2]
  rfl
theorem srtB_drop {l : List S44} {i : Nat} (h1 : 1 ≤ i) (h : i < l.length) : srtB (l.drop (i - 1)) = (decide (lexC (l[i - 1]).f0 (l[i]).f0 < 0) && srtB (l.drop i)) := by
 rw [drop_cons (i := i - 1) (by omega), show i - 1 + 1 = i by omega, drop_cons h]
 rfl
theorem ref_sorted_l0 (l : List S44) (hs : ∀ y ∈ l, SmallC y) (hl : l.length ≤ 1000000) (d : Nat) : ∀ i : Nat, l.length - i = d → 1 ≤ i → Ev (fun k => hypercuberef5_Sorted.l0 k l (i : Int)) (srtB (l.drop (i - 1))) := by
 have hend : ∀ i : Nat, l.length ≤ i → 1 ≤ i → Ev (fun k => hypercuberef5_Sorted.l0 k l (i : Int)) (srtB (l.drop (i - 1))) := fun i hi h1 => by
  have e : srtB (l.drop (i - 1)) = true := by
   by_cases c : i - 1 < l.length
   ·rw [drop_cons c, List.drop_eq_nil_of_le (by omega)]; rfl
   ·rw [List.drop_eq_nil_of_le (by omega)]; rfl
  rw [e]
  exact Ev.step (f := fun _ => some true) (fun k => by simp only [hypercuberef5_Sorted.l0]; rw [if_neg (by omega)]) (Ev.now _)
 induction d with
 | zero => exact fun i hd h1 => hend i (by omega) h1
 | succ d ih =>
  intro i hd h1
  have hlt : i < l.length := by omega
  have hlt' : i - 1 < l.length := by omega
  have hw : wrap64 ((i : Int) - 1) = ((i - 1 : Nat) : Int) := by rw [w64 (by omega) (by omega)]; omega
  rw [srtB_drop h1 hlt]
  refine Ev.step (f := fun k => (hypercuberef2_Less.f k (l[i - 1]).f0 (l[i]).f0).bind fun t => if t ≥ 0 then some false else hypercuberef5_Sorted.l0 k l ((i + 1 : Nat) : Int)) (fun k => ?_) (Ev.bind (ref_less_ev (l[i - 1]).f0 (l[i]).f0 (by have := (hs _ (List.getElem_mem hlt')).1; omega)) ?_)
  ·simp only [hypercuberef5_Sorted.l0]
   rw [if_pos (by omega), hw, if_pos (by omega), if_pos (by omega), if_pos (by omega), rdC_get hlt, rdC_get hlt', w64s hlt (by omega)]
  ·by_cases c : lexC (l[i - 1]).f0 (l[i]).f0 ≥ 0
   ·rw [decide_eq_false (by omega), Bool.false_and]
    exact Ev.congr (fun k => by rw [if_pos c]) (Ev.now _)
   ·rw [decide_eq_true (by omega), Bool.true_and]
    have := ih (i + 1) (by omega) (by omega)
    rw [Nat.add_sub_cancel] at this
    exact Ev.congr (fun k => by rw [if_neg c]) this
theorem ref_sorted_ev {l : List S44} (hs : ∀ y ∈ l, SmallC y) (hl : l.length ≤ 1000000) : Ev (fun k => hypercuberef5_Sorted.f k l) (srtB l) := by
 have h : Ev (fun k => hypercuberef5_Sorted.l0 k l 1) (srtB l) := ref_sorted_l0 l hs hl (l.length - 1) 1 rfl (Nat.le_refl 1)
 exact Ev.congr (fun k => by unfold hypercuberef5_Sorted.f; rfl) h
def EvB (f : Nat → Bool) : Prop := ∃ K, ∀ k, K ≤ k → f k = true
theorem EvB.all {α : Type} (l : List α) (f : Nat → α → Bool) (h : ∀ x ∈ l, EvB (fun k => f k x)) : EvB (fun k => l.all (f k)) := by
 induction l with
 | nil => exact ⟨0, fun _ _ => rfl⟩
 | cons x t ih =>
  obtain ⟨K1, h1⟩ := h x (List.mem_cons_self ..)
  obtain ⟨K2, h2⟩ := ih (fun y hy => h y (List.mem_cons_of_mem _ hy))
  exact ⟨max K1 K2, fun k hk => by
   have a1 : f k x = true := h1 k (by omega)
   have a2 : t.all (f k) = true := h2 k (by omega)
   show (f k x && t.all (f k)) = true
   rw [a1, a2]; rfl⟩
theorem EvB.and {f g : Nat → Bool} (h1 : EvB f) (h2 : EvB g) : EvB (fun k => f k && g k) := by
 obtain ⟨K1, h1⟩ := h1
 obtain ⟨K2, h2⟩ := h2
 exact ⟨max K1 K2, fun k hk => by
  have a1 : f k = true := h1 k (by omega)
  have a2 : g k = true := h2 k (by omega)
  show (f k && g k) = true
  rw [a1, a2]; rfl⟩
theorem EvB.some_ {α : Type} {g : Nat → Option α} {r : α} (h : Ev g r) : EvB (fun k => (g k).isSome) := by
 obtain ⟨K, h⟩ := h
 exact ⟨K, fun k hk => by
  show (g k).isSome = true
  rw [h k hk]; rfl⟩
theorem EvB.if_ {α : Type} {c : Nat → Bool} {g f : Nat → Option α} {r : α} (h : EvB c) (hg : Ev g r) : Ev (fun k => if c k = true then g k else f k) r := by
 obtain ⟨K1, h1⟩ := h
 obtain ⟨K2, h2⟩ := hg
 exact ⟨max K1 K2, fun k hk => by
  show (if c k = true then g k else f k) = some r
  rw [if_pos (h1 k (by omega)), h2 k (by omega)]⟩
theorem ownM_ev {x : S44} (h : SmallC x) : Ev (fun k => ownM.f k x) x :=
 Ev.congr (fun k => by unfold ownM.f; rfl) (Ev.bind (f := fun _ g => match g with
  | [y] => some y
  | _ => none) (group_ev [x] (by simp) (fun y hy => by rw [List.mem_singleton.1 hy]; exact h)) (Ev.now x))
theorem less_small {e x : S44} (he : SmallC e) : Ev (fun k => cell_Less.f k e.f0 x.f0) (lexC e.f0 x.f0) := cell_less_ev e.f0 x.f0 (by have := he.1; omega)
theorem twoSkip_ev {x : S44} : ∀ (l out : List S44), (∀ e ∈ l, SmallC e) → out.length + l.length ≤ 1000000000 → ∃ s r, l = s ++ r ∧ (∀ e ∈ s, lexC e.f0 x.f0 < 0) ∧ (∀ e t, r = e :: t → 0 ≤ lexC e.f0 x.f0) ∧ Ev (fun k => twoSkip k x l out) (out ++ s, r)
 | [], out, _, _ => ⟨[], [], rfl, by simp, by simp, Ev.congr (f := fun _ => some (out ++ [], [])) (fun k => by simp [twoSkip]) (Ev.now _)⟩
 | e :: t, out, h, hl => by
  have he := h e (List.mem_cons_self ..)
  have h1 := less_small (x := x) he
  simp only [List.length_cons] at hl
  by_cases c : lexC e.f0 x.f0 < 0
  ·obtain ⟨s, r, h2, h3, h4, h5⟩ := twoSkip_ev (x := x) t (out ++ [e]) (fun y hy => h y (List.mem_cons_of_mem _ hy)) (by rw [List.length_append, List.length_singleton]; omega)
   refine ⟨e :: s, r, by rw [h2]; rfl, ?_, h4, ?_⟩
   ·intro y hy
    rcases List.mem_cons.1 hy with rfl | hy
    ·exact c
    ·exact h3 y hy
   ·rw [List.append_assoc] at h5
    refine Ev.congr (fun k => by simp only [twoSkip]) (Ev.bind (f := fun k r => if r < 0 then (ownM.f k e).bind fun y => (addC out y).bind fun o => twoSkip k x t o else some (out, e :: t)) h1 ?_)
    refine Ev.congr (f := fun k => (ownM.f k e).bind fun y => (addC out y).bind fun o => twoSkip k x t o) (fun k => if_pos c) (Ev.bind (ownM_ev he) ?_)
    exact Ev.congr (f := fun k => twoSkip k x t (out ++ [e])) (fun k => by rw [addC_ok (by omega)]; try rfl) h5
  ·refine ⟨[], e :: t, rfl, by simp, fun a b hab => by injection hab with h _; rw [← h]; omega, ?_⟩
   rw [List.append_nil]
   refine Ev.congr (fun k => by simp only [twoSkip]) (Ev.bind (f := fun k r => if r < 0 then (ownM.f k e).bind fun y => (addC out y).bind fun o => twoSkip k x t o else some (out, e :: t)) h1 ?_)
   exact Ev.congr (f := fun _ => some (out, e :: t)) (fun k => if_neg c) (Ev.now _)
theorem putL_app (x : S44) : ∀ (p a : List S44), (∀ y ∈ p, lexC y.f0 x.f0 < 0) → putL x (p ++ a) = p ++ putL x a
 | [], _, _ => rfl
 | y :: p, a, h => by
  rw [List.cons_append, putL_lt _ (h y (by simp)), putL_app x p a (fun z hz => h z (List.mem_cons_of_mem _ hz))]
  rfl
theorem putAll_app (p : List S44) : ∀ (b a : List S44), (∀ y ∈ p, ∀ x ∈ b, lexC y.f0 x.f0 < 0) → putAll (p ++ a) b = p ++ putAll a b
 | [], _, _ => rfl
 | x :: b, a, h => by
  rw [putAll_cons, putAll_cons, putL_app x p a (fun y hy => h y hy x (by simp)), putAll_app p b _ (fun y hy z hz => h y hy z (List.mem_cons_of_mem _ hz))]
theorem lexC_trans_lt {a b c : List Int} (h1 : lexC a b < 0) (h2 : lexC b c < 0) : lexC a c < 0 := lexC_lt_trans (b := b) h1 h2
theorem front {x : S44} {t s : List S44} (ha : SortedC (x :: t)) (hs : SortedC s) (h : ∀ e ∈ s, lexC e.f0 x.f0 < 0) : putAll (x :: t) s = s ++ x :: t := by
 have hx := (List.pairwise_cons.1 ha).1
 have hsort : SortedC (s ++ x :: t) := List.pairwise_append.2 ⟨hs, ha, fun e he y hy => by
  rcases List.mem_cons.1 hy with rfl | hy
  ·exact h e he
  ·exact lexC_trans_lt (h e he) (hx y hy)⟩
 have h1 : putAll (x :: t) s = groupL (x :: t ++ s) := by rw [group_append, group_rising ha]
 rw [h1, group_perm (List.perm_append_comm : (x :: t ++ s).Perm (s ++ x :: t)), group_rising hsort]
theorem two_gt {x : S44} {t s r : List S44} (ha : SortedC (x :: t)) (hb : SortedC (s ++ r)) (h : ∀ e ∈ s, lexC e.f0 x.f0 < 0) (hr : ∀ e u, r = e :: u → 0 < lexC e.f0 x.f0) : putAll (x :: t) (s ++ r) = (s ++ [x]) ++ putAll t r := by
 obtain ⟨hs, hr2, hsr⟩ := List.pairwise_append.1 hb
 rw [putAll_append, front ha hs h, show s ++ x :: t = (s ++ [x]) ++ t by simp]
 refine putAll_app _ _ _ (fun y hy z hz => ?_)
 rcases List.mem_append.1 hy with hy | hy
 ·exact hsr y hy z hz
 ·rw [List.mem_singleton.1 hy]
  cases r with
  | nil => cases hz
  | cons e u =>
   have h1 := hr e u rfl
   have h2 := lexC_swap e.f0 x.f0
   have h3 : lexC x.f0 e.f0 < 0 := by omega
   rcases List.mem_cons.1 hz with rfl | hz
   ·exact h3
   ·exact lexC_trans_lt h3 ((List.pairwise_cons.1 hr2).1 z hz)
theorem two_eq {x e : S44} {t s r : List S44} (ha : SortedC (x :: t)) (hb : SortedC (s ++ e :: r)) (h : ∀ e ∈ s, lexC e.f0 x.f0 < 0) (he : lexC e.f0 x.f0 = 0) : putAll (x :: t) (s ++ e :: r) = (s ++ [joinC x e]) ++ putAll t r := by
 obtain ⟨hs, hr2, hsr⟩ := List.pairwise_append.1 hb
 have e1 := (lexC_zero _ _).1 he
 have h0 : lexC x.f0 e.f0 = 0 := by rw [e1]; exact lexC_self _
 rw [putAll_append, front ha hs h, putAll_cons, putL_app e s _ (fun y hy => by rw [e1]; exact h y hy), putL_eq _ h0, show s ++ joinC x e :: t = (s ++ [joinC x e]) ++ t by simp]
 refine putAll_app _ _ _ (fun y hy z hz => ?_)
 rcases List.mem_append.1 hy with hy | hy
 ·exact hsr y hy z (List.mem_cons_of_mem _ hz)
 ·rw [List.mem_singleton.1 hy]
  show lexC x.f0 z.f0 < 0
  rw [← e1]
  exact (List.pairwise_cons.1 hr2).1 z hz
theorem twoGo_ev : ∀ (a b out : List S44), SortedC a → SortedC b → (∀ e ∈ a, SmallC e) → (∀ e ∈ b, SmallC e) → out.length + a.length + b.length ≤ 1000000000 →
  ∃ o t, Ev (fun k => twoGo k a (out, b)) (o, t) ∧ o ++ t = out ++ putAll a b ∧ (∀ e ∈ t, e ∈ b)
 | [], b, out, _, hb, _, _, _ => ⟨out, b, Ev.now _, by rw [← groupL_all, group_rising hb], fun _ h => h⟩
 | x :: a, b, out, ha, hb, sa, sb, hl => by
  have hx := sa x (List.mem_cons_self ..)
  have ha' := (List.pairwise_cons.1 ha).2
  have sa' : ∀ e ∈ a, SmallC e := fun e he => sa e (List.mem_cons_of_mem _ he)
  simp only [List.length_cons] at hl
  obtain ⟨s, r, h1, h2, h3, h4⟩ := twoSkip_ev (x := x) b out sb (by omega)
  subst h1
  rw [List.length_append] at hl
  have hr := (List.pairwise_append.1 hb).2.1
  have hmem : ∀ e ∈ r, e ∈ s ++ r := fun e he => List.mem_append_right _ he
  have hlo : (out ++ s).length = out.length + s.length := List.length_append
  have own_case : (∀ e u, r = e :: u → 0 < lexC e.f0 x.f0) → ∃ o t, Ev (fun k => twoGo k (x :: a) (out, s ++ r)) (o, t) ∧ o ++ t = out ++ putAll (x :: a) (s ++ r) ∧ (∀ e ∈ t, e ∈ s ++ r) := fun hgt => by
   obtain ⟨o, t, h5, h6, h7⟩ := twoGo_ev a r (out ++ s ++ [x]) ha' hr sa' (fun e he => sb e (hmem e he)) (by rw [List.length_append, List.length_singleton]; omega)
   refine ⟨o, t, ?_, by rw [h6, two_gt ha hb h2 hgt]; simp, fun e he => hmem e (h7 e he)⟩
   refine Ev.bind (f := fun k s => twoGo k a s) (Ev.congr (fun k => by unfold twoStep; rfl) (Ev.bind (f := fun k s => twoPut k x s.2 s.1) h4 ?_)) h5
   cases r with
   | nil =>
    refine Ev.congr (fun k => by simp only [twoPut]) (Ev.bind (f := fun _ y => (addC (out ++ s) y).bind fun o => some (o, [])) (ownM_ev hx) ?_)
    exact Ev.congr (f := fun _ => some (out ++ s ++ [x], [])) (fun k => by rw [addC_ok (by omega)]; try rfl) (Ev.now _)
   | cons e u =>
    have hg := hgt e u rfl
    have he := sb e (hmem e (by simp))
    refine Ev.congr (fun k => by simp only [twoPut]) (Ev.bind (f := fun k r => if r = 0 then (cell_Join.f k x.f0 x.f1 x.f2 x.f3 x.f4 e.f0 e.f1 e.f2 e.f3 e.f4).bind fun j => (addC (out ++ s) ⟨j.1, j.2.1, j.2.2.1, j.2.2.2.1, j.2.2.2.2⟩).bind fun o => some (o, u) else (ownM.f k x).bind fun y => (addC (out ++ s) y).bind fun o => some (o, e :: u)) (less_small (x := x) he) ?_)
    refine Ev.congr (f := fun k => (ownM.f k x).bind fun y => (addC (out ++ s) y).bind fun o => some (o, e :: u)) (fun k => if_neg (by omega)) (Ev.bind (ownM_ev hx) ?_)
    exact Ev.congr (f := fun _ => some (out ++ s ++ [x], e :: u)) (fun k => by rw [addC_ok (by omega)]; try rfl) (Ev.now _)
  cases hrr : r with
  | nil => exact hrr ▸ own_case (fun e u h => by rw [hrr] at h; cases h)
  | cons e u =>
   subst hrr
   have h0 := h3 e u rfl
   by_cases c : lexC e.f0 x.f0 = 0
   ·have he := sb e (hmem e (by simp))
    simp only [List.length_cons] at hl
    obtain ⟨o, t, h5, h6, h7⟩ := twoGo_ev a u (out ++ s ++ [joinC x e]) ha' (List.pairwise_cons.1 hr).2 sa' (fun y hy => sb y (hmem y (List.mem_cons_of_mem _ hy))) (by rw [List.length_append, List.length_singleton]; omega)
    refine ⟨o, t, ?_, by rw [h6, two_eq ha hb h2 c]; simp, fun y hy => hmem y (List.mem_cons_of_mem _ (h7 y hy))⟩
    refine Ev.bind (f := fun k s => twoGo k a s) (Ev.congr (fun k => by unfold twoStep; rfl) (Ev.bind (f := fun k s => twoPut k x s.2 s.1) h4 ?_)) h5
    refine Ev.congr (fun k => by simp only [twoPut]) (Ev.bind (f := fun k r => if r = 0 then (cell_Join.f k x.f0 x.f1 x.f2 x.f3 x.f4 e.f0 e.f1 e.f2 e.f3 e.f4).bind fun j => (addC (out ++ s) ⟨j.1, j.2.1, j.2.2.1, j.2.2.2.1, j.2.2.2.2⟩).bind fun o => some (o, u) else (ownM.f k x).bind fun y => (addC (out ++ s) y).bind fun o => some (o, e :: u)) (less_small (x := x) he) ?_)
    refine Ev.congr (f := fun k => (cell_Join.f k x.f0 x.f1 x.f2 x.f3 x.f4 e.f0 e.f1 e.f2 e.f3 e.f4).bind fun j => (addC (out ++ s) ⟨j.1, j.2.1, j.2.2.1, j.2.2.2.1, j.2.2.2.2⟩).bind fun o => some (o, u)) (fun k => if_pos c) (Ev.bind (join_ev x e hx) ?_)
    exact Ev.congr (f := fun _ => some (out ++ s ++ [joinC x e], u)) (fun k => by rw [addC_ok (by omega)]; try rfl) (Ev.now _)
   ·exact own_case (fun e' u' h => by injection h with h _; rw [← h]; omega)
theorem twoRest_ev : ∀ (l out : List S44), (∀ e ∈ l, SmallC e) → out.length + l.length ≤ 1000000000 → Ev (fun k => twoRest k l out) (out ++ l)
 | [], out, _, _ => by rw [List.append_nil]; exact Ev.now _
 | x :: t, out, h, hl => by
  simp only [List.length_cons] at hl
  have h1 := twoRest_ev t (out ++ [x]) (fun e he => h e (List.mem_cons_of_mem _ he)) (by rw [List.length_append, List.length_singleton]; omega)
  rw [List.append_assoc] at h1
  refine Ev.congr (fun k => by simp only [twoRest]) (Ev.bind (f := fun k y => (addC out y).bind fun o => twoRest k t o) (ownM_ev (h x (List.mem_cons_self ..))) ?_)
  exact Ev.congr (f := fun k => twoRest k t (out ++ [x])) (fun k => by rw [addC_ok (by omega)]; try rfl) h1
theorem two_small {a b : List S44} (sa : ∀ e ∈ a, SmallC e) (sb : ∀ e ∈ b, SmallC e) (ha : SortedC a) (hb : SortedC b) (hl : a.length + b.length ≤ 1000000000) : Ev (fun k => Two.f k a b) (putAll a b) := by
 have hok : EvB (fun k => twoOk k a b) := by
  refine EvB.and (EvB.and ⟨0, fun _ _ => decide_eq_true (by omega)⟩ (EvB.all b _ (fun e he => EvB.some_ (ownM_ev (sb e he))))) (EvB.all a _ (fun x hx => EvB.and (EvB.some_ (ownM_ev (sa x hx))) (EvB.all b _ (fun e he => EvB.and (EvB.some_ (less_small (sb e he))) (EvB.some_ (join_ev x e (sa x hx)))))))
 obtain ⟨o, t, h1, h2, h3⟩ := twoGo_ev a b [] ha hb sa sb (by simpa using hl)
 rw [List.nil_append] at h2
 have hlen := putAll_length b a
 have hlot : o.length + t.length = (putAll a b).length := by rw [← h2, List.length_append]
 refine EvB.if_ (g := fun k => (twoGo k a ([], b)).bind fun s => (twoRest k s.2 s.1).bind fun o => if o.length * 104 ≤ 140737488355328 then some o else none) hok ?_
 refine Ev.bind (f := fun k s => (twoRest k s.2 s.1).bind fun o => if o.length * 104 ≤ 140737488355328 then some o else none) h1 ?_
 refine Ev.bind (f := fun _ o => if o.length * 104 ≤ 140737488355328 then some o else none) (twoRest_ev t o (fun e he => sb e (h3 e he)) (by omega)) ?_
 rw [h2]
 exact Ev.congr (f := fun _ => some (putAll a b)) (fun _ => if_pos (by omega)) (Ev.now _)
theorem two_ev {n : Nat} (hn : n ≤ 100) {a b : List S44} (ra : RegL n a) (rb : RegL n b) (ha : SortedC a) (hb : SortedC b) (hl : a.length + b.length ≤ 1000000000) : Ev (fun k => Two.f k a b) (putAll a b) := two_small (ra.small hn) (rb.small hn) ha hb hl
theorem two_lt1 {x y : S44} {a b : List S44} (ha : SortedC (x :: a)) (hb : SortedC (y :: b)) (h : lexC x.f0 y.f0 < 0) : putAll (x :: a) (y :: b) = x :: putAll a (y :: b) := by
 have := lexC_swap x.f0 y.f0
 exact two_gt (s := []) ha hb (fun e he => by cases he) (fun e u hh => by injection hh with hh _; rw [← hh]; omega)
theorem two_gt1 {x y : S44} {a b : List S44} (ha : SortedC (x :: a)) (hb : SortedC (y :: b)) (h : 0 < lexC x.f0 y.f0) : putAll (x :: a) (y :: b) = y :: putAll (x :: a) b := by
 rw [putAll_cons, putL_gt _ h, show y :: x :: a = [y] ++ x :: a from rfl, putAll_app]
 ·rfl
 ·intro z hz w hw
  rw [List.mem_singleton.1 hz]
  exact (List.pairwise_cons.1 hb).1 w hw
theorem two_eq1 {x y : S44} {a b : List S44} (ha : SortedC (x :: a)) (hb : SortedC (y :: b)) (h : lexC x.f0 y.f0 = 0) : putAll (x :: a) (y :: b) = joinC x y :: putAll a b := by
 have := lexC_swap x.f0 y.f0
 exact two_eq (s := []) ha hb (fun e he => by cases he) (by omega)
theorem drop_sorted {l : List S44} (h : SortedC l) (i : Nat) : SortedC (l.drop i) := List.Pairwise.sublist (List.drop_sublist i l) h
theorem ref_two_j2 {n : Nat} (hn : n ≤ 100) {a b : List S44} (ra : RegL n a) (rb : RegL n b) (hla : a.length ≤ 1000000000) (hlb : b.length ≤ 1000000000) (out : List S44) (i j : Nat) (hi : i ≤ a.length) (hj : j ≤ b.length) (ho : out.length ≤ 1000000000000) (c : Int) {r : List S44}
  (h1 : c < 0 → ∃ h : i < a.length, Ev (fun k => hypercuberef6_Two.l0 k a b (out ++ [a[i]]) ((i + 1 : Nat) : Int) (j : Int)) r)
  (h2 : 0 < c → ∃ h : j < b.length, Ev (fun k => hypercuberef6_Two.l0 k a b (out ++ [b[j]]) (i : Int) ((j + 1 : Nat) : Int)) r)
  (h3 : c = 0 → ∃ (h : i < a.length) (h' : j < b.length), Ev (fun k => hypercuberef6_Two.l0 k a b (out ++ [joinC a[i] b[j]]) ((i + 1 : Nat) : Int) ((j + 1 : Nat) : Int)) r) :
  Ev (fun k => hypercuberef6_Two.j2 k a b out (i : Int) (j : Int) c) r := by
 rcases three c with hc | hc | hc
 ·obtain ⟨hlt, h⟩ := h1 hc
  refine Ev.step (fun k => ?_) h
  simp only [hypercuberef6_Two.j2]
  rw [if_pos hc, if_pos (by omega), if_pos (by omega), rdC_get hlt, ref_copy_eq ((ra _ (List.getElem_mem hlt)).small hn), Option.bind_some, if_pos (by omega), w64s hlt (by omega)]
  rfl
 ·obtain ⟨hlt, hlt2, h⟩ := h3 hc
  refine Ev.step (f := fun k => (hypercuberef2_Join.f k (a[i]).f0 (a[i]).f1 (a[i]).f2 (a[i]).f3 (a[i]).f4 (b[j]).f0 (b[j]).f1 (b[j]).f2 (b[j]).f3 (b[j]).f4).bind fun bt => (if out.length < 1353245080339 then (hypercuberef6_Two.l0 k a b (out ++ [(⟨bt.1, bt.2.1, bt.2.2.1, bt.2.2.2.1, bt.2.2.2.2⟩ : S44)]) ((i + 1 : Nat) : Int) ((j + 1 : Nat) : Int)) else none)) (fun k => ?_) (Ev.bind (ref_join_ev hn (ra _ (List.getElem_mem hlt)) (rb _ (List.getElem_mem hlt2))) (Ev.congr (fun k => if_pos (by omega)) h))
  simp only [hypercuberef6_Two.j2]
  rw [if_neg (by omega), if_neg (by omega), if_pos (by omega), if_pos (by omega), if_pos (by omega), if_pos (by omega), rdC_get hlt, rdC_get hlt2, w64s hlt (by omega), w64s hlt2 (by omega)]
 ·obtain ⟨hlt, h⟩ := h2 hc
  refine Ev.step (fun k => ?_) h
  simp only [hypercuberef6_Two.j2]
  rw [if_neg (by omega), if_pos (by omega), if_pos (by omega), if_pos (by omega), rdC_get hlt, ref_copy_eq ((rb _ (List.getElem_mem hlt)).small hn), Option.bind_some, if_pos (by omega), w64s hlt (by omega)]
  rfl
theorem ref_two_l0 {n : Nat} (hn : n ≤ 100) {a b : List S44} (ra : RegL n a) (rb : RegL n b) (ha : SortedC a) (hb : SortedC b) (hla : a.length ≤ 1000000000) (hlb : b.length ≤ 1000000000) (d : Nat) : ∀ (out : List S44) (i j : Nat), (a.length - i) + (b.length - j) ≤ d → i ≤ a.length → j ≤ b.length → out.length ≤ i + j →
  Ev (fun k => hypercuberef6_Two.l0 k a b out (i : Int) (j : Int)) (out ++ putAll (a.drop i) (b.drop j)) := by
 induction d with
 | zero =>
  intro out i j hd hi hj ho
  rw [List.drop_eq_nil_of_le (show a.length ≤ i by omega), List.drop_eq_nil_of_le (show b.length ≤ j by omega), putAll_nil, List.append_nil]
  refine Ev.step (f := fun k => hypercuberef6_Two.j1 k a b out (i : Int) (j : Int) false) (fun k => by simp only [hypercuberef6_Two.l0]; rw [if_neg (by omega), decide_eq_false (by omega)]) ?_
  exact Ev.step (f := fun _ => some out) (fun k => by simp only [hypercuberef6_Two.j1]; rw [if_neg (by decide)]) (Ev.now _)
 | succ d ih =>
  intro out i j hd hi hj ho
  by_cases ca : i < a.length
  ·have sa := drop_sorted ha i
   have sb := drop_sorted hb j
   by_cases cb : j < b.length
   ·rw [drop_cons ca, drop_cons cb] at *
    have hless := ref_less_ev (a[i]).f0 (b[j]).f0 (by have := (ra _ (List.getElem_mem ca)).1; omega)
    refine Ev.step (f := fun k => hypercuberef6_Two.j1 k a b out (i : Int) (j : Int) true) (fun k => by simp only [hypercuberef6_Two.l0]; rw [if_pos (by omega)]) ?_
    refine Ev.step (f := fun k => (hypercuberef2_Less.f k (a[i]).f0 (b[j]).f0).bind fun t => hypercuberef6_Two.j2 k a b out (i : Int) (j : Int) t) (fun k => by simp only [hypercuberef6_Two.j1]; rw [if_pos trivial, if_neg (by omega), if_neg (by omega), if_pos (by omega), if_pos (by omega), if_pos (by omega), if_pos (by omega), rdC_get ca, rdC_get cb]) (Ev.bind hless ?_)
    refine ref_two_j2 hn ra rb hla hlb out i j hi hj (by omega) _ (fun hc => ⟨ca, ?_⟩) (fun hc => ⟨cb, ?_⟩) (fun hc => ⟨ca, cb, ?_⟩)
    ·have := ih (out ++ [a[i]]) (i + 1) j (by omega) (by omega) hj (by rw [List.length_append, List.length_singleton]; omega)
     rw [List.append_assoc, List.singleton_append, drop_cons cb] at this
     rw [two_lt1 sa sb hc]
     exact this
    ·have := ih (out ++ [b[j]]) i (j + 1) (by omega) hi (by omega) (by rw [List.length_append, List.length_singleton]; omega)
     rw [List.append_assoc, List.singleton_append, drop_cons ca] at this
     rw [two_gt1 sa sb hc]
     exact this
    ·have := ih (out ++ [joinC a[i] b[j]]) (i + 1) (j + 1) (by omega) (by omega) (by omega) (by rw [List.length_append, List.length_singleton]; omega)
     rw [List.append_assoc, List.singleton_append] at this
     rw [two_eq1 sa sb hc]
     exact this
   ·have e : b.drop j = [] := List.drop_eq_nil_of_le (by omega)
    have hji : j = b.length := by omega
    have := ih (out ++ [a[i]]) (i + 1) j (by omega) (by omega) hj (by rw [List.length_append, List.length_singleton]; omega)
    rw [e, putAll_nil, List.append_assoc, List.singleton_append, ← drop_cons ca] at this
    rw [e, putAll_nil]
    refine Ev.step (f := fun k => hypercuberef6_Two.j1 k a b out (i : Int) (j : Int) true) (fun k => by simp only [hypercuberef6_Two.l0]; rw [if_pos (by omega)]) ?_
    refine Ev.step (f := fun k => hypercuberef6_Two.j2 k a b out (i : Int) (j : Int) (-1)) (fun k => by simp only [hypercuberef6_Two.j1]; rw [if_pos trivial, if_neg (by omega), if_pos (by omega)]) ?_
    exact ref_two_j2 hn ra rb hla hlb out i j hi hj (by omega) _ (fun hc => ⟨ca, this⟩) (fun hc => absurd hc (by decide)) (fun hc => absurd hc (by decide))
  ·have e : a.drop i = [] := List.drop_eq_nil_of_le (by omega)
   have sb := drop_sorted hb j
   have hg : putAll [] (b.drop j) = b.drop j := by rw [← groupL_all, group_rising sb]
   rw [e, hg]
   by_cases cb : j < b.length
   ·have := ih (out ++ [b[j]]) i (j + 1) (by omega) hi (by omega) (by rw [List.length_append, List.length_singleton]; omega)
    rw [e, ← groupL_all, group_rising (drop_sorted hb (j + 1)), List.append_assoc, List.singleton_append, ← drop_cons cb] at this
    refine Ev.step (f := fun k => hypercuberef6_Two.j1 k a b out (i : Int) (j : Int) true) (fun k => by simp only [hypercuberef6_Two.l0]; rw [if_neg (by omega), decide_eq_true (by omega)]) ?_
    refine Ev.step (f := fun k => hypercuberef6_Two.j2 k a b out (i : Int) (j : Int) 1) (fun k => by simp only [hypercuberef6_Two.j1]; rw [if_pos trivial, if_pos (by omega)]) ?_
    exact ref_two_j2 hn ra rb hla hlb out i j hi hj (by omega) _ (fun hc => absurd hc (by decide)) (fun hc => ⟨cb, this⟩) (fun hc => absurd hc (by decide))
   ·rw [List.drop_eq_nil_of_le (show b.length ≤ j by omega), List.append_nil]
    refine Ev.step (f := fun k => hypercuberef6_Two.j1 k a b out (i : Int) (j : Int) false) (fun k => by simp only [hypercuberef6_Two.l0]; rw [if_neg (by omega), decide_eq_false (by omega)]) ?_
    exact Ev.step (f := fun _ => some out) (fun k => by simp only [hypercuberef6_Two.j1]; rw [if_neg (by decide)]) (Ev.now _)
theorem ref_two_ev {n : Nat} (hn : n ≤ 100) {a b : List S44} (ra : RegL n a) (rb : RegL n b) (ha : SortedC a) (hb : SortedC b) (hla : a.length ≤ 1000000000) (hlb : b.length ≤ 1000000000) : Ev (fun k => hypercuberef6_Two.f k a b) (putAll a b) := by
 have h := ref_two_l0 hn ra rb ha hb hla hlb (a.length + b.length) [] 0 0 (by omega) (by omega) (by omega) (by simp)
 simp only [List.drop_zero, List.nil_append] at h
 exact Ev.congr (fun k => by unfold hypercuberef6_Two.f; rfl) h
end Go.Proofs.Ytndkimjmbpbcmaa.Q
