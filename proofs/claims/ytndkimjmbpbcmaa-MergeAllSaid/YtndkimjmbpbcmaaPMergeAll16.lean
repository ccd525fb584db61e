-- packed by wip/tools/pack.py (a program of this session) out of its own texts
import Derived.Test.YtndkimjmbpbcmaaPMergeAll0
import Derived.ArgAppend
import Derived.Below
import Derived.BigQuiet
import Derived.Deep.AppendLies
import Derived.Deep.CutBlock
import Derived.Deep.DeepCutAuto
import Derived.Deep.Draws
import Derived.Deep.LoopGhost
import Derived.Deep.OwnRows
import Derived.Deep.QuietTactic
import Derived.Deep.RegionHeld3
import Derived.KernelRfl
import Derived.Laws.BitsLemmas
import Derived.Laws.BytesArg
import Derived.Laws.EntriesVeiled
import Derived.Laws.Externs
import Derived.Laws.IdiomCopy
import Derived.Laws.MakeOwn
import Derived.Laws.OwnMore
import Derived.Laws.Rows
import Derived.Laws.Slices
import Derived.Lib.AppendStr
import Derived.Lib.AppendZeros
import Derived.Lib.AppendZerosOnto
import Derived.Lib.ConvBytes
import Derived.Lib.JoinLaws
import Derived.Lib.Overlaps
import Derived.Lib.SliceRun
import Derived.Lib.Walk
import Derived.LoopIn
import Derived.LoopNIn
import Derived.Maps.AppendAt
import Derived.OrdersHeld
import Derived.OrdersIn
import Derived.OwnWalk
import Derived.OwnWalkIn
import Derived.RangeFuncBound
import Derived.RangeFuncBox
import Derived.RangeFuncCalls
import Derived.RangeFuncLeaves
import Derived.RangeFuncNested
import Derived.RangeFuncOwn
import Derived.RowKit
import Derived.RowKit3
import Derived.Shelf.Abstract
import Derived.Shelf.RegionOpen
import Derived.Shelf.RegionOpenPlain
import Derived.Tactics
import Derived.TacticsInMore
import Derived.Test.YtndkimjmbpbcmaaProg
import Derived.WalkKit
import Derived.WalkSpells
import Derived.WideLaws
import Derived.Test.YtndkimjmbpbcmaaPMergeAll1
import Derived.Test.YtndkimjmbpbcmaaPMergeAll3
import Derived.Test.YtndkimjmbpbcmaaPMergeAll4
import Derived.Test.YtndkimjmbpbcmaaPMergeAll5
import Derived.Test.YtndkimjmbpbcmaaPMergeAll6
import Derived.Test.YtndkimjmbpbcmaaPMergeAll7
import Derived.Test.YtndkimjmbpbcmaaPMergeAll8
import Derived.Test.YtndkimjmbpbcmaaPMergeAll9
import Derived.Test.YtndkimjmbpbcmaaPMergeAll10
import Derived.Test.YtndkimjmbpbcmaaPMergeAll11
import Derived.Test.YtndkimjmbpbcmaaPMergeAll12
import Derived.Test.YtndkimjmbpbcmaaPMergeAll13
import Derived.Test.YtndkimjmbpbcmaaPMergeAll14
import Derived.Test.YtndkimjmbpbcmaaPMergeAll15
namespace Go.Proofs.Ytndkimjmbpbcmaa.Q
open Go.RowKit Go.Proofs.YtndkimjmbpbcmaaW.PrintWords Go.Proofs.YtndkimjmbpbcmaaW.PrintLast Go.Proofs.YtndkimjmbpbcmaaW.PrintMore
set_option linter.unusedVariables false
set_option linter.unusedSimpArgs false
theorem within_eq (a n : Int) (h0 : 0 < n) (h1 : n ≤ 4611686018427387904) : hypercubelaw1_within.f a n = some (a % n) := by
 unfold hypercubelaw1_within.f
 rw [if_neg (by omega)]
 have hb := Int.emod_nonneg a (show n ≠ 0 by omega)
 have hl := Int.emod_lt_of_pos a h0
 by_cases ha : 0 ≤ a
 ·rw [Int.tmod_eq_emod_of_nonneg ha, if_neg (by omega)]
 ·have ht : Int.tmod a n = if a % n = 0 then 0 else a % n - n := by
   rw [Int.tmod_eq_emod]
   split
   ·rename_i h
    rcases h with h | h
    ·omega
    ·rw [Int.emod_eq_zero_of_dvd h]; simp
   ·rename_i h
    have : a % n ≠ 0 := fun e => h (.inr (Int.dvd_of_emod_eq_zero e))
    rw [if_neg this, Int.natAbs_of_nonneg (by omega)]
  by_cases hz : a % n = 0
  ·rw [ht, if_pos hz, if_neg (by omega), hz]
  ·rw [ht, if_neg hz, if_pos (by omega)]
   congr 1
   rw [w64 (by omega) (by omega)]
   omega
def checkP (cards : List Int) (meas : Int) : Bool := decide (1 ≤ cards.length) && decide (cards.length ≤ 4) && (cards.all fun x => decide (1 ≤ x) && decide (x ≤ 16)) && decide (0 ≤ meas) && decide (meas ≤ 2)
def rightP (cards : List Int) (meas : Int) (x : S51) : Bool := decide (x.f0.length = cards.length) && decide ((x.f1.length : Int) = meas) && (List.range x.f0.length).all fun i => decide (0 ≤ rd x.f0 i) && decide (rd x.f0 i < rd cards i)
theorem check_open {cards : List Int} {meas : Int} (h : checkP cards meas = true) : 1 ≤ cards.length ∧ cards.length ≤ 4 ∧ (∀ x ∈ cards, 1 ≤ x ∧ x ≤ 16) ∧ 0 ≤ meas ∧ meas ≤ 2 := by
 unfold checkP at h
 simp only [Bool.and_eq_true, decide_eq_true_eq, List.all_eq_true] at h
 exact ⟨h.1.1.1.1, h.1.1.1.2, fun x hx => h.1.1.2 x hx, h.1.2, h.2⟩
theorem check_mk {cards : List Int} {meas : Int} (h1 : 1 ≤ cards.length) (h2 : cards.length ≤ 4) (h3 : ∀ x ∈ cards, 1 ≤ x ∧ x ≤ 16) (h4 : 0 ≤ meas) (h5 : meas ≤ 2) : checkP cards meas = true := by
 unfold checkP
 simp only [Bool.and_eq_true, decide_eq_true_eq, List.all_eq_true]
 exact ⟨⟨⟨⟨h1, h2⟩, h3⟩, h4⟩, h5⟩
theorem right_open {cards : List Int} {meas : Int} {x : S51} (h : rightP cards meas x = true) : x.f0.length = cards.length ∧ (x.f1.length : Int) = meas ∧ ∀ i : Nat, i < x.f0.length → 0 ≤ rd x.f0 i ∧ rd x.f0 i < rd cards i := by
 unfold rightP at h
 simp only [Bool.and_eq_true, decide_eq_true_eq, List.all_eq_true, List.mem_range] at h
 exact ⟨h.1.1, h.1.2, fun i hi => h.2 i hi⟩
theorem right_mk {cards : List Int} {meas : Int} {x : S51} (h1 : x.f0.length = cards.length) (h2 : (x.f1.length : Int) = meas) (h3 : ∀ i : Nat, i < x.f0.length → 0 ≤ rd x.f0 i ∧ rd x.f0 i < rd cards i) : rightP cards meas x = true := by
 unfold rightP
 simp only [Bool.and_eq_true, decide_eq_true_eq, List.all_eq_true, List.mem_range]
 exact ⟨⟨h1, h2⟩, fun i hi => h3 i hi⟩
abbrev FR := List Int × Int × List S51
def RowOk (cards : List Int) (meas : Int) (x : S51) : Prop := rightP cards meas x = true ∧ ∀ y ∈ x.f1, -100 ≤ y ∧ y ≤ 100
theorem facts_l3 (x3 : List Int) (rows : List S51) (i : Nat) (hi : i < 1000) (kk : Int) (cards : List Int) (meas : Int) (hm0 : 0 ≤ meas) (hm : meas ≤ 2) (hrl : rows.length ≤ 1000) (key : List Int) {Q : FR → Prop}
  (H : ∀ ms : List Int, (ms.length : Int) = meas → (∀ y ∈ ms, -100 ≤ y ∧ y ≤ 100) → ∃ p, Ev (fun k => hypercubelaw1_Facts.l1 k x3 (rows ++ [⟨key, ms⟩]) ((i + 1 : Nat) : Int) cards meas) p ∧ Q p) (d : Nat) :
  ∀ (j : Nat) (ms : List Int), (meas.toNat - j) = d → (j : Int) ≤ meas → ms.length = j → (∀ y ∈ ms, -100 ≤ y ∧ y ≤ 100) → ∃ p, Ev (fun k => hypercubelaw1_Facts.l3 k x3 rows (i : Int) kk (j : Int) cards meas key ms) p ∧ Q p := by
 induction d with
 | zero =>
  intro j ms hd hj hl hb
  obtain ⟨p, h1, h2⟩ := H ms (by omega) hb
  exact ⟨p, Ev.step (fun k => by simp only [hypercubelaw1_Facts.l3]; rw [if_neg (by omega), if_pos (by omega), w64s hi (by omega)]) h1, h2⟩
 | succ d ih =>
  intro j ms hd hj hl hb
  have hw := within_eq (wrap64 (kk + (wrap64 (7 * (j : Int))))) 201 (by omega) (by omega)
  have b0 := Int.emod_nonneg (wrap64 (kk + (wrap64 (7 * (j : Int))))) (show (201 : Int) ≠ 0 by omega)
  have b1 := Int.emod_lt_of_pos (wrap64 (kk + (wrap64 (7 * (j : Int))))) (show (0 : Int) < 201 by omega)
  generalize (wrap64 (kk + (wrap64 (7 * (j : Int))))) % 201 = q at hw b0 b1
  obtain ⟨p, h1, h2⟩ := ih (j + 1) (ms ++ [wrap64 (q - 100)]) (by omega) (by omega) (by simp; omega) (fun y hy => by
   rcases List.mem_append.1 hy with hy | hy
   ·exact hb y hy
   ·rw [List.mem_singleton.1 hy, w64 (by omega) (by omega)]; omega)
  refine ⟨p, Ev.step (fun k => by simp only [hypercubelaw1_Facts.l3]; rw [if_pos (by omega), hw]; simp only [Option.bind_some]; rw [if_pos (by omega), w64s (show j < 1000 by omega) (by omega)]) h1, h2⟩
theorem facts_l2 (x3 : List Int) (rows : List S51) (i : Nat) (hi : i < 1000) (cards : List Int) (meas : Int) (hc : checkP cards meas = true) (hrl : rows.length ≤ 1000) {Q : FR → Prop}
  (H : ∀ x, RowOk cards meas x → ∃ p, Ev (fun k => hypercubelaw1_Facts.l1 k x3 (rows ++ [x]) ((i + 1 : Nat) : Int) cards meas) p ∧ Q p) (d : Nat) :
  ∀ (j : Nat) (kk : Int) (key : List Int), cards.length - j = d → j ≤ cards.length → key.length = j → (∀ a : Nat, a < key.length → 0 ≤ rd key a ∧ rd key a < rd cards a) →
   ∃ p, Ev (fun k => hypercubelaw1_Facts.l2 k x3 rows (i : Int) kk (j : Int) cards meas key) p ∧ Q p := by
 obtain ⟨h1, h2, h3, h4, h5⟩ := check_open hc
 induction d with
 | zero =>
  intro j kk key hd hj hl hb
  have := facts_l3 x3 rows i hi kk cards meas h4 h5 hrl key (fun ms hml hmb => H ⟨key, ms⟩ ⟨right_mk (by show key.length = _; omega) hml hb, hmb⟩) meas.toNat 0 [] (by omega) (by omega) rfl (by simp)
  obtain ⟨p, e1, e2⟩ := this
  exact ⟨p, Ev.step (fun k => by simp only [hypercubelaw1_Facts.l2]; rw [if_neg (by omega)]; rfl) e1, e2⟩
 | succ d ih =>
  intro j kk key hd hj hl hb
  have hja : j < cards.length := by omega
  have hcd := h3 cards[j] (List.getElem_mem hja)
  have hw := within_eq kk cards[j] (by omega) (by omega)
  have b0 := Int.emod_nonneg kk (show cards[j] ≠ 0 by omega)
  have b1 := Int.emod_lt_of_pos kk (show (0 : Int) < cards[j] by omega)
  generalize kk % cards[j] = q at hw b0 b1
  obtain ⟨p, e1, e2⟩ := ih (j + 1) (wrap64 (Int.tdiv kk 5)) (key ++ [q]) (by omega) (by omega) (by simp; omega) (fun a ha => by
   by_cases hak : a < key.length
   ·have hb1 := hb a hak
    have : rd (key ++ [q]) (a : Int) = rd key (a : Int) := by rw [rd_get ha, rd_get hak, List.getElem_append_left hak]
    rw [this]; exact hb1
   ·have hae : a = key.length := by simp at ha; omega
    subst hae
    have : rd (key ++ [q]) (key.length : Int) = q := by rw [rd_get ha]; simp
    rw [this, hl, rd_get hja]; exact ⟨b0, b1⟩)
  refine ⟨p, Ev.step (fun k => by simp only [hypercubelaw1_Facts.l2]; rw [if_pos (by omega), if_pos (by omega), rd_get hja, hw]; simp only [Option.bind_some]; rw [if_pos (by omega), w64s hja (by omega)]) e1, e2⟩
theorem facts_l1 (x3 : List Int) (cards : List Int) (meas : Int) (hc : checkP cards meas = true) (d : Nat) : ∀ (i : Nat) (rows : List S51), (min x3.length 40) - i = d → i ≤ min x3.length 40 → rows.length = i → (∀ x ∈ rows, RowOk cards meas x) →
  ∃ p, Ev (fun k => hypercubelaw1_Facts.l1 k x3 rows (i : Int) cards meas) p ∧ (p.1 = cards ∧ p.2.1 = meas ∧ p.2.2.length = min x3.length 40 ∧ ∀ x ∈ p.2.2, RowOk cards meas x) := by
 induction d with
 | zero =>
  intro i rows hd hi hl hr
  have fin : Ev (fun k => hypercubelaw1_Facts.j3 k x3 rows (i : Int) false cards meas) (cards, meas, rows) := Ev.step (fun k => by simp only [hypercubelaw1_Facts.j3]; rw [if_neg (by simp)]) (Ev.now _)
  refine ⟨(cards, meas, rows), ?_, rfl, rfl, by show rows.length = _; omega, hr⟩
  by_cases h : (i : Int) < x3.length
  ·have : decide ((i : Int) < 40) = false := decide_eq_false (by omega)
   exact Ev.step (fun k => by simp only [hypercubelaw1_Facts.l1]; rw [if_pos h, this]) fin
  ·exact Ev.step (fun k => by simp only [hypercubelaw1_Facts.l1]; rw [if_neg h]) fin
 | succ d ih =>
  intro i rows hd hi hl hr
  have hia : i < x3.length := by omega
  have hdec : decide ((i : Int) < 40) = true := decide_eq_true (by omega)
  obtain ⟨p, e1, e2⟩ := facts_l2 x3 rows i (by omega) cards meas hc (by omega) (fun x hx => ih (i + 1) (rows ++ [x]) (by omega) (by omega) (by simp; omega) (fun y hy => by
   rcases List.mem_append.1 hy with hy | hy
   ·exact hr y hy
   ·rw [List.mem_singleton.1 hy]; exact hx)) cards.length 0 (rd x3 i) [] (by omega) (by omega) rfl (fun a ha => by simp at ha)
  refine ⟨p, ?_, e2⟩
  refine Ev.step (fun k => by simp only [hypercubelaw1_Facts.l1]; rw [if_pos (by omega), hdec]) ?_
  exact Ev.step (fun k => by simp only [hypercubelaw1_Facts.j3]; rw [if_pos trivial, if_pos (by omega), if_pos (by omega)]; rfl) e1
theorem facts_l0 (x0 : Int) (x1 x3 : List Int) (meas : Int) (hm0 : 0 ≤ meas) (hm : meas ≤ 2) (d : Nat) : ∀ (i : Nat) (cards : List Int), (x0 % 4 + 1).toNat - i = d → (i : Int) ≤ x0 % 4 + 1 → cards.length = i → (∀ x ∈ cards, 1 ≤ x ∧ x ≤ 5) →
  ∃ p, Ev (fun k => hypercubelaw1_Facts.l0 k x0 x1 x3 (i : Int) cards meas) p ∧ (checkP p.1 p.2.1 = true ∧ p.2.1 = meas ∧ (p.1.length : Int) = x0 % 4 + 1 ∧ p.2.2.length = min x3.length 40 ∧ ∀ x ∈ p.2.2, RowOk p.1 p.2.1 x) := by
 have b0 := Int.emod_nonneg x0 (show (4 : Int) ≠ 0 by omega)
 have b1 := Int.emod_lt_of_pos x0 (show (0 : Int) < 4 by omega)
 have hw4 := within_eq x0 4 (by omega) (by omega)
 have hw7 := within_eq x0 7 (by omega) (by omega)
 induction d with
 | zero =>
  intro i cards hd hi hl hc
  have go : ∀ cs : List Int, cs.length = cards.length → (∀ x ∈ cs, 1 ≤ x ∧ x ≤ 16) → ∃ p, Ev (fun k => hypercubelaw1_Facts.j1 k x3 cs meas) p ∧ (checkP p.1 p.2.1 = true ∧ p.2.1 = meas ∧ (p.1.length : Int) = x0 % 4 + 1 ∧ p.2.2.length = min x3.length 40 ∧ ∀ x ∈ p.2.2, RowOk p.1 p.2.1 x) := by
   intro cs h1 h2
   have hck : checkP cs meas = true := check_mk (by omega) (by omega) h2 hm0 hm
   obtain ⟨p, e1, e2, e3, e4, e5⟩ := facts_l1 x3 cs meas hck (min x3.length 40) 0 [] (by omega) (by omega) rfl (by simp)
   refine ⟨p, Ev.step (fun k => by simp only [hypercubelaw1_Facts.j1]; rfl) e1, ?_, e3, ?_, e4, ?_⟩
   ·rw [e2, e3]; exact hck
   ·rw [e2]; omega
   ·rw [e2, e3]; exact e5
  by_cases h7 : x0 % 7 = 0
  ·obtain ⟨p, e1, e2⟩ := go (cards.set (0 : Int).toNat 16) (by simp) (fun x hx => by
    rcases List.mem_or_eq_of_mem_set hx with hx | rfl
    ·have := hc x hx; omega
    ·omega)
   refine ⟨p, ?_, e2⟩
   exact Ev.step (fun k => by simp only [hypercubelaw1_Facts.l0]; rw [hw4]; simp only [Option.bind_some]; rw [if_neg (by omega), hw7]; simp only [Option.bind_some]; rw [if_pos h7, if_pos (by omega)]) e1
  ·obtain ⟨p, e1, e2⟩ := go cards rfl (fun x hx => by have := hc x hx; omega)
   refine ⟨p, ?_, e2⟩
   exact Ev.step (fun k => by simp only [hypercubelaw1_Facts.l0]; rw [hw4]; simp only [Option.bind_some]; rw [if_neg (by omega), hw7]; simp only [Option.bind_some]; rw [if_neg h7]) e1
 | succ d ih =>
  intro i cards hd hi hl hc
  have next : ∀ q : Int, 0 ≤ q → q < 5 → ∃ p, Ev (fun k => hypercubelaw1_Facts.l0 k x0 x1 x3 ((i + 1 : Nat) : Int) (cards ++ [wrap64 (1 + q)]) meas) p ∧ (checkP p.1 p.2.1 = true ∧ p.2.1 = meas ∧ (p.1.length : Int) = x0 % 4 + 1 ∧ p.2.2.length = min x3.length 40 ∧ ∀ x ∈ p.2.2, RowOk p.1 p.2.1 x) := by
   intro q q0 q1
   refine ih (i + 1) (cards ++ [wrap64 (1 + q)]) (by omega) (by omega) (by simp; omega) (fun x hx => ?_)
   rcases List.mem_append.1 hx with hx | hx
   ·exact hc x hx
   ·rw [List.mem_singleton.1 hx, w64 (by omega) (by omega)]; omega
  by_cases h1 : (i : Int) < x1.length
  ·have hw := within_eq (rd x1 (i : Int)) 5 (by omega) (by omega)
   obtain ⟨p, e1, e2⟩ := next (rd x1 (i : Int) % 5) (by omega) (by omega)
   refine ⟨p, ?_, e2⟩
   exact Ev.step (fun k => by simp only [hypercubelaw1_Facts.l0]; rw [hw4]; simp only [Option.bind_some]; rw [if_pos (by omega), if_pos h1, if_pos (by omega), hw]; simp only [Option.bind_some]; rw [if_pos (by omega), w64s (show i < 1000 by omega) (by omega)]) e1
  ·have hw := within_eq (wrap64 ((i : Int) + 2)) 5 (by omega) (by omega)
   obtain ⟨p, e1, e2⟩ := next (wrap64 ((i : Int) + 2) % 5) (by omega) (by omega)
   refine ⟨p, ?_, e2⟩
   exact Ev.step (fun k => by simp only [hypercubelaw1_Facts.l0]; rw [hw4]; simp only [Option.bind_some]; rw [if_pos (by omega), if_neg h1, hw]; simp only [Option.bind_some]; rw [if_pos (by omega), w64s (show i < 1000 by omega) (by omega)]) e1
theorem facts_ev (a0 : Int) (l1 : List Int) (a2 : Int) (l3 : List Int) : ∃ cards meas rows, Ev (fun k => hypercubelaw1_Facts.f k a0 l1 a2 l3) (cards, meas, rows) ∧ checkP cards meas = true ∧ meas = a2 % 3 ∧ (cards.length : Int) = a0 % 4 + 1 ∧ rows.length = min l3.length 40 ∧ ∀ x ∈ rows, RowOk cards meas x := by
 have hw := within_eq a2 3 (by omega) (by omega)
 obtain ⟨⟨cards, meas, rows⟩, e1, e2, e3, e4, e5, e6⟩ := facts_l0 a0 l1 l3 (a2 % 3) (by omega) (by omega) (a0 % 4 + 1).toNat 0 [] (by omega) (by omega) rfl (by simp)
 refine ⟨cards, meas, rows, ?_, e2, e3, e4, e5, e6⟩
 exact Ev.congr (fun k => by unfold hypercubelaw1_Facts.f; rw [hw]; rfl) e1
theorem set_eq {cards : List Int} {meas : Int} (hc : checkP cards meas = true) (a : Int) : ∃ s, hypercubelaw2_Set.f cards meas a = some s ∧ 0 ≤ s ∧ s < 16 := by
 obtain ⟨h1, h2, _⟩ := check_open hc
 have go : ∀ n : Int, 0 < n → n ≤ 16 → ∃ s, ((hypercubelaw2_within.f a n).bind fun t => some t) = some s ∧ 0 ≤ s ∧ s < 16 := fun n h0 h16 => by
  rw [within2_eq a n h0 (by omega)]
  have := Int.emod_nonneg a (show n ≠ 0 by omega)
  have := Int.emod_lt_of_pos a h0
  exact ⟨a % n, rfl, by omega, by omega⟩
 unfold hypercubelaw2_Set.f
 have hl : cards.length = 1 ∨ cards.length = 2 ∨ cards.length = 3 ∨ cards.length = 4 := by omega
 rcases hl with h | h | h | h
 ·rw [h, if_pos (by decide), show shl .i64 1 (IntKind.u64.wrap ((1 : Nat) : Int)) = 2 by decide]; exact go 2 (by omega) (by omega)
 ·rw [h, if_pos (by decide), show shl .i64 1 (IntKind.u64.wrap ((2 : Nat) : Int)) = 4 by decide]; exact go 4 (by omega) (by omega)
 ·rw [h, if_pos (by decide), show shl .i64 1 (IntKind.u64.wrap ((3 : Nat) : Int)) = 8 by decide]; exact go 8 (by omega) (by omega)
 ·rw [h, if_pos (by decide), show shl .i64 1 (IntKind.u64.wrap ((4 : Nat) : Int)) = 16 by decide]; exact go 16 (by omega) (by omega)
def bitR (s : Int) (i : Nat) : Bool := decide (Go.bits .and .i64 (shr .i64 s (IntKind.u64.wrap (i : Int))) 1 = 1)
def keysR (s : Int) : Nat → List Int → List Int
 | _, [] => []
 | i, x :: xs => if bitR s i = true then x :: keysR s (i + 1) xs else keysR s (i + 1) xs
theorem keysR_length (s : Int) : ∀ (i : Nat) (l : List Int), (keysR s i l).length ≤ l.length
 | _, [] => by simp [keysR]
 | i, x :: xs => by
  have := keysR_length s (i + 1) xs
  unfold keysR
  split <;> simp <;> omega
def ofR (s : Int) (r : S51) : S44 := ⟨keysR s 0 r.f0, 1, r.f1, r.f1, r.f1⟩
def RegR (n : Nat) (r : S51) : Prop := r.f0.length ≤ 4 ∧ r.f1.length = n
theorem u64_nat (i : Nat) (h : i ≤ 1000) : 0 ≤ IntKind.u64.wrap (i : Int) := by
 have e : IntKind.u64.wrap (i : Int) = (i : Int) % 18446744073709551616 := rfl
 rw [e]; omega
theorem of_l0 (s : Int) (f0 f1 : List Int) (h0 : f0.length ≤ 4) (h1 : f1.length ≤ 100) (d : Nat) : ∀ (i : Nat) (acc : List Int), f0.length - i = d → i ≤ f0.length → acc.length ≤ i →
  Ev (fun k => hypercuberef2_Of.l0 k s (i : Int) f0 f1 acc 1) (acc ++ keysR s i (f0.drop i), 1, f1, f1, f1) := by
 induction d with
 | zero =>
  intro i acc hd hi ha
  have e : f0.drop i = [] := List.drop_eq_nil_of_le (by omega)
  rw [e]
  refine Ev.step (f := fun _ => some (acc, 1, f1, f1, f1)) (fun k => ?_) (by simp only [keysR, List.append_nil]; exact Ev.now _)
  simp only [hypercuberef2_Of.l0]
  rw [if_neg (by omega), Option.bind_some, if_pos (by simp; omega), Option.bind_some, if_pos (by simp; omega), Option.bind_some, if_pos (by simp; omega)]
  rfl
 | succ d ih =>
  intro i acc hd hi ha
  have hlt : i < f0.length := by omega
  rw [drop_cons hlt]
  unfold keysR
  by_cases hb : bitR s i = true
  ·have hb' : Go.bits .and .i64 (shr .i64 s (IntKind.u64.wrap (i : Int))) 1 = 1 := by unfold bitR at hb; simpa using hb
   have h := ih (i + 1) (acc ++ [f0[i]]) (by omega) (by omega) (by simp; omega)
   rw [List.append_assoc, List.singleton_append] at h
   rw [if_pos hb]
   exact Ev.step (fun k => by simp only [hypercuberef2_Of.l0]; rw [if_pos (by omega), if_pos (u64_nat i (by omega)), if_pos hb', if_pos (by omega), if_pos (by omega), rd_get hlt, w64s hlt (by omega)]) h
  ·have hb' : ¬ Go.bits .and .i64 (shr .i64 s (IntKind.u64.wrap (i : Int))) 1 = 1 := by unfold bitR at hb; simpa using hb
   have h := ih (i + 1) acc (by omega) (by omega) (by omega)
   rw [if_neg hb]
   exact Ev.step (fun k => by simp only [hypercuberef2_Of.l0]; rw [if_pos (by omega), if_pos (u64_nat i (by omega)), if_neg hb', w64s hlt (by omega)]) h
theorem of_ev {n : Nat} (hn : n ≤ 100) {r : S51} (hr : RegR n r) (s : Int) : Ev (fun k => hypercuberef2_Of.f k r.f0 r.f1 s) (tupC (ofR s r)) := by
 have h := of_l0 s r.f0 r.f1 hr.1 (by rw [hr.2]; exact hn) r.f0.length 0 [] (by omega) (by omega) (by simp)
 simp only [List.drop_zero, List.nil_append] at h
 exact Ev.congr (fun k => by unfold hypercuberef2_Of.f; rfl) h
theorem ofR_reg {n : Nat} {r : S51} (hr : RegR n r) (s : Int) : RegC n (ofR s r) := ⟨Nat.le_trans (keysR_length _ _ _) hr.1, hr.2, hr.2, hr.2⟩
def makeL (s : Int) (rows : List S51) : List S44 := rows.map (ofR s)
theorem makeL_reg {n : Nat} {rows : List S51} (hr : ∀ r ∈ rows, RegR n r) (s : Int) : RegL n (makeL s rows) := fun c hc => by
 obtain ⟨r, h, rfl⟩ := List.mem_map.1 hc
 exact ofR_reg (hr r h) s
theorem makeL_length (s : Int) (rows : List S51) : (makeL s rows).length = rows.length := by simp [makeL]
theorem rdR_get {l : List S51} {i : Nat} (h : i < l.length) : rd_T51 l (i : Int) = l[i] := by simp [rd_T51, List.getD_eq_getElem?_getD, h]
theorem make_l0 {n : Nat} (hn : n ≤ 100) (s : Int) (rows : List S51) (hl : rows.length ≤ 1000000) (hr : ∀ r ∈ rows, RegR n r) (d : Nat) : ∀ (i : Nat) (acc : List S44), rows.length - i = d → i ≤ rows.length → acc.length ≤ i →
  Ev (fun k => hypercubelaw2_Make.l0 k rows s acc (i : Int)) (acc ++ makeL s (rows.drop i)) := by
 induction d with
 | zero =>
  intro i acc hd hi ha
  have e : rows.drop i = [] := List.drop_eq_nil_of_le (by omega)
  rw [e]
  refine Ev.step (f := fun _ => some acc) (fun k => ?_) (by simp only [makeL, List.map_nil, List.append_nil]; exact Ev.now _)
  simp only [hypercubelaw2_Make.l0]
  rw [if_neg (by omega)]
 | succ d ih =>
  intro i acc hd hi ha
  have hlt : i < rows.length := by omega
  have h := ih (i + 1) (acc ++ [ofR s rows[i]]) (by omega) (by omega) (by simp; omega)
  rw [List.append_assoc, List.singleton_append] at h
  rw [drop_cons hlt]
  refine Ev.step (f := fun k => (hypercuberef2_Of.f k (rows[i]).f0 (rows[i]).f1 s).bind fun bt => hypercubelaw2_Make.l0 k rows s (acc ++ [(⟨bt.1, bt.2.1, bt.2.2.1, bt.2.2.2.1, bt.2.2.2.2⟩ : S44)]) ((i + 1 : Nat) : Int)) (fun k => ?_) (Ev.bind (of_ev hn (hr _ (List.getElem_mem hlt)) s) h)
  simp only [hypercubelaw2_Make.l0]
  rw [if_pos (by omega), if_pos (by omega), rdR_get hlt, w64s hlt (by omega)]
  congr 1
  funext bt
  rw [if_pos (by omega)]
theorem make_ev {n : Nat} (hn : n ≤ 100) (s : Int) (rows : List S51) (hl : rows.length ≤ 1000000) (hr : ∀ r ∈ rows, RegR n r) : Ev (fun k => hypercubelaw2_Make.f k rows s) (makeL s rows) := by
 have h := make_l0 hn s rows hl hr rows.length 0 [] (by omega) (by omega) (by simp)
 simp only [List.drop_zero, List.nil_append] at h
 exact Ev.congr (fun k => by unfold hypercubelaw2_Make.f; rfl) h
theorem facts_set (a0 : Int) (l1 : List Int) (a2 : Int) (l3 : List Int) (a4 : Int) : ∃ cards meas rows s n, Ev (fun k => hypercubelaw1_Facts.f k a0 l1 a2 l3) (cards, meas, rows) ∧ hypercubelaw2_Set.f cards meas a4 = some s ∧ checkP cards meas = true ∧ n ≤ 100 ∧ rows.length ≤ 40 ∧ (∀ r ∈ rows, RegR n r) ∧ (0 ≤ s ∧ s < 16) ∧ (∀ r ∈ rows, RowOk cards meas r) := by
 obtain ⟨cards, meas, rows, h1, h2, h3, h4, h5, h6⟩ := facts_ev a0 l1 a2 l3
 obtain ⟨s, hs, hs0⟩ := set_eq h2 a4
 obtain ⟨c1, c2, c3, c4, c5⟩ := check_open h2
 refine ⟨cards, meas, rows, s, meas.toNat, h1, hs, h2, by omega, by omega, fun r hr => ?_, hs0, h6⟩
 obtain ⟨r1, r2, _⟩ := right_open (h6 r hr).1
 exact ⟨by omega, by omega⟩
def runsR (most : Nat) : List S44 → List S44 → List (List S44)
 | held, [] => if 0 < held.length then [held] else []
 | held, c :: cs => if hasK held c = true ∨ held.length < most then runsR most (putL c held) cs else held :: runsR most [c] cs
theorem putL_le {most : Nat} {held : List S44} {c : S44} (ho : SortedC held) (hm : held.length ≤ most) (h : hasK held c = true ∨ held.length < most) : (putL c held).length ≤ most := by
 by_cases hh : hasK held c = true
 ·rw [putL_old c held ho hh]; exact hm
 ·have := putL_length c held
  have := h.resolve_left hh
  omega
theorem sorted_one (c : S44) : SortedC [c] := List.pairwise_singleton _ _
theorem has_l0 (l : List S44) (c : S44) (hs : ∀ y ∈ l, SmallC y) (hl : l.length ≤ 1000000) (d : Nat) : ∀ i : Nat, l.length - i = d → i ≤ l.length → Ev (fun k => hypercuberef5_has.l0 k l c.f0 (i : Int)) (hasK (l.drop i) c) := by
 induction d with
 | zero =>
  intro i hd hi
  have e : l.drop i = [] := List.drop_eq_nil_of_le (by omega)
  rw [e]
  exact Ev.step (f := fun _ => some false) (fun k => by simp only [hypercuberef5_has.l0]; rw [if_neg (by omega)]) (Ev.now _)
 | succ d ih =>
  intro i hd hi
  have hlt : i < l.length := by omega
  rw [drop_cons hlt, hasK_cons]
  refine Ev.step (f := fun k => (hypercuberef2_Less.f k (l[i]).f0 c.f0).bind fun t => if t = 0 then some true else hypercuberef5_has.l0 k l c.f0 ((i + 1 : Nat) : Int)) (fun k => ?_) (Ev.bind (ref_less_ev (l[i]).f0 c.f0 (by have := (hs _ (List.getElem_mem hlt)).1; omega)) ?_)
  ·simp only [hypercuberef5_has.l0]
   rw [if_pos (by omega), if_pos (by omega), rdC_get hlt, w64s hlt (by omega)]
  ·by_cases e : lexC (l[i]).f0 c.f0 = 0
   ·rw [show (lexC (l[i]).f0 c.f0 == 0) = true by simp [e], Bool.true_or]
    exact Ev.congr (fun k => by rw [if_pos e]) (Ev.now _)
   ·rw [show (lexC (l[i]).f0 c.f0 == 0) = false by simp [e], Bool.false_or]
    exact Ev.congr (fun k => by rw [if_neg e]) (ih (i + 1) (by omega) (by omega))
theorem has_ev (l : List S44) (c : S44) (hs : ∀ y ∈ l, SmallC y) (hl : l.length ≤ 1000000) : Ev (fun k => hypercuberef5_has.f k l c.f0) (hasK l c) := by
 have h := has_l0 l c hs hl l.length 0 (by omega) (by omega)
 simp only [List.drop_zero] at h
 exact Ev.congr (fun k => by unfold hypercuberef5_has.f; rfl) h
theorem ref_runs_l0 {n : Nat} (hn : n ≤ 100) (most : Nat) (h1 : 1 ≤ most) (l : List S44) (hr : RegL n l) (hl : l.length ≤ 100000) (d : Nat) : ∀ (i : Nat) (out : List (List S44)) (held : List S44), l.length - i = d → i ≤ l.length → RegL n held → SortedC held → held.length ≤ most → held.length ≤ i → out.length ≤ i →
  Ev (fun k => hypercuberef5_Runs.l0 k l (most : Int) out held (i : Int)) (out ++ runsR most held (l.drop i)) := by
 induction d with
 | zero =>
  intro i out held hd hi hh ho hm hb hb2
  have e : l.drop i = [] := List.drop_eq_nil_of_le (by omega)
  rw [e]
  refine Ev.step (f := fun _ => some (out ++ runsR most held [])) (fun k => ?_) (Ev.now _)
  simp only [hypercuberef5_Runs.l0, runsR]
  rw [if_neg (by omega)]
  by_cases c : 0 < held.length
  ·rw [if_pos (by omega), if_pos (by omega), if_pos c]
  ·rw [if_neg (by omega), if_neg c, List.append_nil]
 | succ d ih =>
  intro i out held hd hi hh ho hm hb hb2
  have hlt : i < l.length := by omega
  have hx := hr _ (List.getElem_mem hlt)
  rw [drop_cons hlt]
  have hput : ∀ held', RegL n held' → held'.length ≤ 100000 → Ev (fun k => hypercuberef2_Put.f k held' (l[i]).f0 (l[i]).f1 (l[i]).f2 (l[i]).f3 (l[i]).f4) (putL l[i] held') := fun held' hh' hb' => ref_put_ev hn (by omega) hh' hx
  refine Ev.step (f := fun k => (hypercuberef5_has.f k held (l[i]).f0).bind fun t389 => (if t389 = true then ((hypercuberef2_Put.f k held (l[i]).f0 (l[i]).f1 (l[i]).f2 (l[i]).f3 (l[i]).f4).bind fun t391 => (hypercuberef5_Runs.l0 k l (most : Int) out t391 ((i + 1 : Nat) : Int))) else (if (held.length : Int) = (most : Int) then (if out.length < 5864062014805 then ((hypercuberef2_Put.f k ([] : List S44) (l[i]).f0 (l[i]).f1 (l[i]).f2 (l[i]).f3 (l[i]).f4).bind fun t398 => (hypercuberef5_Runs.l0 k l (most : Int) (out ++ [held]) t398 ((i + 1 : Nat) : Int))) else (none)) else ((hypercuberef2_Put.f k held (l[i]).f0 (l[i]).f1 (l[i]).f2 (l[i]).f3 (l[i]).f4).bind fun t402 => (hypercuberef5_Runs.l0 k l (most : Int) out t402 ((i + 1 : Nat) : Int)))))) (fun k => ?_) (Ev.bind (has_ev held l[i] (hh.small hn) (by omega)) ?_)
  ·simp only [hypercuberef5_Runs.l0]
   rw [if_pos (by omega), if_pos (by omega), rdC_get hlt, w64s hlt (by omega)]
  ·have hgo := ih (i + 1) out (putL l[i] held) (by omega) (by omega) (regL_put hx hh) (putL_sorted _ _ ho)
   have := putL_length l[i] held
   by_cases e : hasK held l[i] = true
   ·simp only [runsR]
    rw [if_pos (Or.inl e)]
    exact Ev.congr (fun k => by rw [if_pos e]) (Ev.bind (hput held hh (by omega)) (hgo (putL_le ho hm (.inl e)) (by omega) (by omega)))
   ·by_cases hf : held.length < most
    ·simp only [runsR]
     rw [if_pos (Or.inr hf)]
     exact Ev.congr (fun k => by rw [if_neg e, if_neg (by omega)]) (Ev.bind (hput held hh (by omega)) (hgo (putL_le ho hm (.inr hf)) (by omega) (by omega)))
    ·simp only [runsR]
     rw [if_neg (by simp [e]; omega)]
     have hgo2 := ih (i + 1) (out ++ [held]) [l[i]] (by omega) (by omega) (fun c hc => by rw [List.mem_singleton.1 hc]; exact hx) (sorted_one _) (by simpa using h1) (by simp) (by simp; omega)
     rw [List.append_assoc, List.singleton_append] at hgo2
     refine Ev.congr (fun k => by rw [if_neg e, if_pos (by omega), if_pos (by omega)]) (Ev.bind (hput [] (regL_nil n) (by simp)) ?_)
     exact hgo2
theorem ref_runs_ev {n : Nat} (hn : n ≤ 100) (most : Nat) (h1 : 1 ≤ most) {l : List S44} (hr : RegL n l) (hl : l.length ≤ 100000) : Ev (fun k => hypercuberef5_Runs.f k l (most : Int)) (runsR most [] l) := by
 have h := ref_runs_l0 hn most h1 l hr hl l.length 0 [] [] (by omega) (by omega) (regL_nil n) List.Pairwise.nil (by simp) (by simp) (by simp)
 simp only [List.drop_zero, List.nil_append] at h
 exact Ev.congr (fun k => by unfold hypercuberef5_Runs.f; rfl) h
theorem rdL_get {l : List (List S44)} {i : Nat} (h : i < l.length) : rd_L3 l (i : Int) = l[i] := by simp [rd_L3, List.getD_eq_getElem?_getD, h]
theorem runsR_bounds (most : Nat) (h1 : 1 ≤ most) : ∀ (cs held : List S44), SortedC held → held.length ≤ most → (held = [] ∨ 0 < held.length) →
  ∀ (i : Nat) (h : i < (runsR most held cs).length), 1 ≤ ((runsR most held cs)[i]).length ∧ ((runsR most held cs)[i]).length ≤ most ∧ (i + 1 < (runsR most held cs).length → ((runsR most held cs)[i]).length = most) ∧ SortedC ((runsR most held cs)[i])
 | [], held, ho, hm, _, i, h => by
  unfold runsR at h ⊢
  by_cases c : 0 < held.length
  ·simp only [if_pos c] at h ⊢
   have : i = 0 := by simpa using h
   subst this
   exact ⟨c, hm, fun h => by simp at h, ho⟩
  ·simp only [if_neg c] at h; simp at h
 | c :: cs, held, ho, hm, hne, i, h => by
  by_cases hc : hasK held c = true ∨ held.length < most
  ·have e : runsR most held (c :: cs) = runsR most (putL c held) cs := by simp only [runsR]; rw [if_pos hc]
   have ih := runsR_bounds most h1 cs (putL c held) (putL_sorted c held ho) (putL_le ho hm hc) (by cases h : putL c held <;> simp)
   simp only [e] at h ⊢
   exact ih i h
  ·have e : runsR most held (c :: cs) = held :: runsR most [c] cs := by simp only [runsR]; rw [if_neg hc]
   have ih := runsR_bounds most h1 cs [c] (sorted_one c) (by simpa using h1) (.inr (by simp))
   have hfull : held.length = most := by
    have : ¬ held.length < most := fun h => hc (.inr h)
    omega
   simp only [e] at h ⊢
   cases i with
   | zero => simp only [List.getElem_cons_zero]; exact ⟨by omega, hm, fun _ => hfull, ho⟩
   | succ i =>
    simp only [List.getElem_cons_succ, List.length_cons] at h ⊢
    have := ih i (by omega)
    exact ⟨this.1, this.2.1, fun h => this.2.2.1 (by omega), this.2.2.2⟩
theorem runsR_total (most : Nat) : ∀ (cs held : List S44), (runsR most held cs).flatten.length ≤ held.length + cs.length
 | [], held => by unfold runsR; split <;> simp
 | c :: cs, held => by
  simp only [runsR]
  split
  ·have := runsR_total most cs (putL c held)
   have := putL_length c held
   simp only [List.length_cons]; omega
  ·have := runsR_total most cs [c]
   have e1 : ([c] : List S44).length = 1 := rfl
   rw [List.flatten_cons, List.length_append, List.length_cons]
   omega
theorem runsR_reg {n : Nat} (most : Nat) : ∀ (cs held : List S44), RegL n cs → RegL n held → ∀ r ∈ runsR most held cs, RegL n r
 | [], held, _, hh, r, hr => by
  unfold runsR at hr
  split at hr
  ·rw [List.mem_singleton.1 hr]; exact hh
  ·simp at hr
 | c :: cs, held, hc, hh, r, hr => by
  have hcs : RegL n cs := fun x hx => hc x (List.mem_cons_of_mem _ hx)
  simp only [runsR] at hr
  split at hr
  ·exact runsR_reg most cs (putL c held) hcs (regL_put (hc c (by simp)) hh) r hr
  ·rcases List.mem_cons.1 hr with e | e
   ·rw [e]; exact hh
   ·exact runsR_reg most cs [c] hcs (fun x hx => by rw [List.mem_singleton.1 hx]; exact hc c (by simp)) r e
theorem runsR_len (most : Nat) (h1 : 1 ≤ most) (cs : List S44) : (runsR most [] cs).length ≤ cs.length ∧ ∀ r ∈ runsR most [] cs, r.length ≤ cs.length := by
 have ht := runsR_total most cs []
 simp only [List.length_nil, Nat.zero_add] at ht
 have hb := runsR_bounds most h1 cs [] List.Pairwise.nil (by simp) (.inl rfl)
 generalize runsR most [] cs = rs at ht hb
 have hsum : ∀ l : List (List S44), (∀ r ∈ l, 1 ≤ r.length) → l.length ≤ l.flatten.length ∧ ∀ r ∈ l, r.length ≤ l.flatten.length := by
  intro l
  induction l with
  | nil => intro _; exact ⟨by simp, fun r h => by simp at h⟩
  | cons x l ih =>
   intro h
   obtain ⟨i1, i2⟩ := ih (fun r hr => h r (List.mem_cons_of_mem _ hr))
   have := h x (by simp)
   refine ⟨by simp only [List.length_cons, List.flatten_cons, List.length_append]; omega, fun r hr => ?_⟩
   rcases List.mem_cons.1 hr with e | e
   ·rw [e]; simp
   ·have := i2 r e; simp only [List.flatten_cons, List.length_append]; omega
 obtain ⟨s1, s2⟩ := hsum rs (fun r hr => by
  obtain ⟨i, hi, rfl⟩ := List.getElem_of_mem hr
  exact (hb i hi).1)
 exact ⟨by omega, fun r hr => by have := s2 r hr; omega⟩
def EvB (f : Nat → Bool) : Prop := ∃ K, ∀ k, K ≤ k → f k = true
theorem EvB.all {α : Type} (l : List α) (f : Nat → α → Bool) (h : ∀ x ∈ l, EvB (fun k => f k x)) : EvB (fun k => l.all (f k)) := by
 induction l with
 | nil => exact ⟨0, fun _ _ => rfl⟩
 | cons x t ih =>
  obtain ⟨K1, h1⟩ := h x (List.mem_cons_self ..)
  obtain ⟨K2, h2⟩ := ih (fun y hy => h y (List.mem_cons_of_mem _ hy))
  exact ⟨max K1 K2, fun k hk => by
   have a1 : f k x = true := h1 k (by omega)
   have a2 : t.all (f k) = true := h2 k (by omega)
   show (f k x && t.all (f k)) = true
   rw [a1, a2]; rfl⟩
theorem EvB.and {f g : Nat → Bool} (h1 : EvB f) (h2 : EvB g) : EvB (fun k => f k && g k) := by
 obtain ⟨K1, h1⟩ := h1
 obtain ⟨K2, h2⟩ := h2
 exact ⟨max K1 K2, fun k hk => by
  have a1 : f k = true := h1 k (by omega)
  have a2 : g k = true := h2 k (by omega)
  show (f k && g k) = true
  rw [a1, a2]; rfl⟩
theorem EvB.some_ {α : Type} {g : Nat → Option α} {r : α} (h : Ev g r) : EvB (fun k => (g k).isSome) := by
 obtain ⟨K, h⟩ := h
 exact ⟨K, fun k hk => by
  show (g k).isSome = true
  rw [h k hk]; rfl⟩
theorem EvB.if_ {α : Type} {c : Nat → Bool} {g f : Nat → Option α} {r : α} (h : EvB c) (hg : Ev g r) : Ev (fun k => if c k = true then g k else f k) r := by
 obtain ⟨K1, h1⟩ := h
 obtain ⟨K2, h2⟩ := hg
 exact ⟨max K1 K2, fun k hk => by
  show (if c k = true then g k else f k) = some r
  rw [if_pos (h1 k (by omega)), h2 k (by omega)]⟩
theorem ownM_ev {x : S44} (h : SmallC x) : Ev (fun k => ownM.f k x) x :=
 Ev.congr (fun k => by unfold ownM.f; rfl) (Ev.bind (f := fun _ g => match g with
  | [y] => some y
  | _ => none) (group_ev [x] (by simp) (fun y hy => by rw [List.mem_singleton.1 hy]; exact h)) (Ev.now x))
theorem less_small {e x : S44} (he : SmallC e) : Ev (fun k => cell_Less.f k e.f0 x.f0) (lexC e.f0 x.f0) := cell_less_ev e.f0 x.f0 (by have := he.1; omega)
theorem twoSkip_ev {x : S44} : ∀ (l out : List S44), (∀ e ∈ l, SmallC e) → out.length + l.length ≤ 1000000000 → ∃ s r, l = s ++ r ∧ (∀ e ∈ s, lexC e.f0 x.f0 < 0) ∧ (∀ e t, r = e :: t → 0 ≤ lexC e.f0 x.f0) ∧ Ev (fun k => twoSkip k x l out) (out ++ s, r)
 | [], out, _, _ => ⟨[], [], rfl, by simp, by simp, Ev.congr (f := fun _ => some (out ++ [], [])) (fun k => by simp [twoSkip]) (Ev.now _)⟩
 | e :: t, out, h, hl => by
  have he := h e (List.mem_cons_self ..)
  have h1 := less_small (x := x) he
  simp only [List.length_cons] at hl
  by_cases c : lexC e.f0 x.f0 < 0
  ·obtain ⟨s, r, h2, h3, h4, h5⟩ := twoSkip_ev (x := x) t (out ++ [e]) (fun y hy => h y (List.mem_cons_of_mem _ hy)) (by rw [List.length_append, List.length_singleton]; omega)
   refine ⟨e :: s, r, by rw [h2]; rfl, ?_, h4, ?_⟩
   ·intro y hy
    rcases List.mem_cons.1 hy with rfl | hy
    ·exact c
    ·exact h3 y hy
   ·rw [List.append_assoc] at h5
    refine Ev.congr (fun k => by simp only [twoSkip]) (Ev.bind (f := fun k r => if r < 0 then (ownM.f k e).bind fun y => (addC out y).bind fun o => twoSkip k x t o else some (out, e :: t)) h1 ?_)
    refine Ev.congr (f := fun k => (ownM.f k e).bind fun y => (addC out y).bind fun o => twoSkip k x t o) (fun k => if_pos c) (Ev.bind (ownM_ev he) ?_)
    exact Ev.congr (f := fun k => twoSkip k x t (out ++ [e])) (fun k => by rw [addC_ok (by omega)]; try rfl) h5
  ·refine ⟨[], e :: t, rfl, by simp, fun a b hab => by injection hab with h _; rw [← h]; omega, ?_⟩
   rw [List.append_nil]
   refine Ev.congr (fun k => by simp only [twoSkip]) (Ev.bind (f := fun k r => if r < 0 then (ownM.f k e).bind fun y => (addC out y).bind fun o => twoSkip k x t o else some (out, e :: t)) h1 ?_)
   exact Ev.congr (f := fun _ => some (out, e :: t)) (fun k => if_neg c) (Ev.now _)
theorem putL_app (x : S44) : ∀ (p a : List S44), (∀ y ∈ p, lexC y.f0 x.f0 < 0) → putL x (p ++ a) = p ++ putL x a
 | [], _, _ => rfl
 | y :: p, a, h => by
  rw [List.cons_append, putL_lt _ (h y (by simp)), putL_app x p a (fun z hz => h z (List.mem_cons_of_mem _ hz))]
  rfl
theorem putAll_app (p : List S44) : ∀ (b a : List S44), (∀ y ∈ p, ∀ x ∈ b, lexC y.f0 x.f0 < 0) → putAll (p ++ a) b = p ++ putAll a b
 | [], _, _ => rfl
 | x :: b, a, h => by
  rw [putAll_cons, putAll_cons, putL_app x p a (fun y hy => h y hy x (by simp)), putAll_app p b _ (fun y hy z hz => h y hy z (List.mem_cons_of_mem _ hz))]
theorem lexC_trans_lt {a b c : List Int} (h1 : lexC a b < 0) (h2 : lexC b c < 0) : lexC a c < 0 := lexC_lt_trans (b := b) h1 h2
theorem front {x : S44} {t s : List S44} (ha : SortedC (x :: t)) (hs : SortedC s) (h : ∀ e ∈ s, lexC e.f0 x.f0 < 0) : putAll (x :: t) s = s ++ x :: t := by
 have hx := (List.pairwise_cons.1 ha).1
 have hsort : SortedC (s ++ x :: t) := List.pairwise_append.2 ⟨hs, ha, fun e he y hy => by
  rcases List.mem_cons.1 hy with rfl | hy
  ·exact h e he
  ·exact lexC_trans_lt (h e he) (hx y hy)⟩
 have h1 : putAll (x :: t) s = groupL (x :: t ++ s) := by rw [group_append, group_rising ha]
 rw [h1, group_perm (List.perm_append_comm : (x :: t ++ s).Perm (s ++ x :: t)), group_rising hsort]
theorem two_gt {x : S44} {t s r : List S44} (ha : SortedC (x :: t)) (hb : SortedC (s ++ r)) (h : ∀ e ∈ s, lexC e.f0 x.f0 < 0) (hr : ∀ e u, r = e :: u → 0 < lexC e.f0 x.f0) : putAll (x :: t) (s ++ r) = (s ++ [x]) ++ putAll t r := by
 obtain ⟨hs, hr2, hsr⟩ := List.pairwise_append.1 hb
 rw [putAll_append, front ha hs h, show s ++ x :: t = (s ++ [x]) ++ t by simp]
 refine putAll_app _ _ _ (fun y hy z hz => ?_)
 rcases List.mem_append.1 hy with hy | hy
 ·exact hsr y hy z hz
 ·rw [List.mem_singleton.1 hy]
  cases r with
  | nil => cases hz
  | cons e u =>
   have h1 := hr e u rfl
   have h2 := lexC_swap e.f0 x.f0
   have h3 : lexC x.f0 e.f0 < 0 := by omega
   rcases List.mem_cons.1 hz with rfl | hz
   ·exact h3
   ·exact lexC_trans_lt h3 ((List.pairwise_cons.1 hr2).1 z hz)
theorem two_eq {x e : S44} {t s r : List S44} (ha : SortedC (x :: t)) (hb : SortedC (s ++ e :: r)) (h : ∀ e ∈ s, lexC e.f0 x.f0 < 0) (he : lexC e.f0 x.f0 = 0) : putAll (x :: t) (s ++ e :: r) = (s ++ [joinC x e]) ++ putAll t r := by
 obtain ⟨hs, hr2, hsr⟩ := List.pairwise_append.1 hb
 have e1 := (lexC_zero _ _).1 he
 have h0 : lexC x.f0 e.f0 = 0 := by rw [e1]; exact lexC_self _
 rw [putAll_append, front ha hs h, putAll_cons, putL_app e s _ (fun y hy => by rw [e1]; exact h y hy), putL_eq _ h0, show s ++ joinC x e :: t = (s ++ [joinC x e]) ++ t by simp]
 refine putAll_app _ _ _ (fun y hy z hz => ?_)
 rcases List.mem_append.1 hy with hy | hy
 ·exact hsr y hy z (List.mem_cons_of_mem _ hz)
 ·rw [List.mem_singleton.1 hy]
  show lexC x.f0 z.f0 < 0
  rw [← e1]
  exact (List.pairwise_cons.1 hr2).1 z hz
theorem twoGo_ev : ∀ (a b out : List S44), SortedC a → SortedC b → (∀ e ∈ a, SmallC e) → (∀ e ∈ b, SmallC e) → out.length + a.length + b.length ≤ 1000000000 →
  ∃ o t, Ev (fun k => twoGo k a (out, b)) (o, t) ∧ o ++ t = out ++ putAll a b ∧ (∀ e ∈ t, e ∈ b)
 | [], b, out, _, hb, _, _, _ => ⟨out, b, Ev.now _, by rw [← groupL_all, group_rising hb], fun _ h => h⟩
 | x :: a, b, out, ha, hb, sa, sb, hl => by
  have hx := sa x (List.mem_cons_self ..)
  have ha' := (List.pairwise_cons.1 ha).2
  have sa' : ∀ e ∈ a, SmallC e := fun e he => sa e (List.mem_cons_of_mem _ he)
  simp only [List.length_cons] at hl
  obtain ⟨s, r, h1, h2, h3, h4⟩ := twoSkip_ev (x := x) b out sb (by omega)
  subst h1
  rw [List.length_append] at hl
  have hr := (List.pairwise_append.1 hb).2.1
  have hmem : ∀ e ∈ r, e ∈ s ++ r := fun e he => List.mem_append_right _ he
  have hlo : (out ++ s).length = out.length + s.length := List.length_append
  have own_case : (∀ e u, r = e :: u → 0 < lexC e.f0 x.f0) → ∃ o t, Ev (fun k => twoGo k (x :: a) (out, s ++ r)) (o, t) ∧ o ++ t = out ++ putAll (x :: a) (s ++ r) ∧ (∀ e ∈ t, e ∈ s ++ r) := fun hgt => by
   obtain ⟨o, t, h5, h6, h7⟩ := twoGo_ev a r (out ++ s ++ [x]) ha' hr sa' (fun e he => sb e (hmem e he)) (by rw [List.length_append, List.length_singleton]; omega)
   refine ⟨o, t, ?_, by rw [h6, two_gt ha hb h2 hgt]; simp, fun e he => hmem e (h7 e he)⟩
   refine Ev.bind (f := fun k s => twoGo k a s) (Ev.congr (fun k => by unfold twoStep; rfl) (Ev.bind (f := fun k s => twoPut k x s.2 s.1) h4 ?_)) h5
   cases r with
   | nil =>
    refine Ev.congr (fun k => by simp only [twoPut]) (Ev.bind (f := fun _ y => (addC (out ++ s) y).bind fun o => some (o, [])) (ownM_ev hx) ?_)
    exact Ev.congr (f := fun _ => some (out ++ s ++ [x], [])) (fun k => by rw [addC_ok (by omega)]; try rfl) (Ev.now _)
   | cons e u =>
    have hg := hgt e u rfl
    have he := sb e (hmem e (by simp))
    refine Ev.congr (fun k => by simp only [twoPut]) (Ev.bind (f := fun k r => if r = 0 then (cell_Join.f k x.f0 x.f1 x.f2 x.f3 x.f4 e.f0 e.f1 e.f2 e.f3 e.f4).bind fun j => (addC (out ++ s) ⟨j.1, j.2.1, j.2.2.1, j.2.2.2.1, j.2.2.2.2⟩).bind fun o => some (o, u) else (ownM.f k x).bind fun y => (addC (out ++ s) y).bind fun o => some (o, e :: u)) (less_small (x := x) he) ?_)
    refine Ev.congr (f := fun k => (ownM.f k x).bind fun y => (addC (out ++ s) y).bind fun o => some (o, e :: u)) (fun k => if_neg (by omega)) (Ev.bind (ownM_ev hx) ?_)
    exact Ev.congr (f := fun _ => some (out ++ s ++ [x], e :: u)) (fun k => by rw [addC_ok (by omega)]; try rfl) (Ev.now _)
  cases hrr : r with
  | nil => exact hrr ▸ own_case (fun e u h => by rw [hrr] at h; cases h)
  | cons e u =>
   subst hrr
   have h0 := h3 e u rfl
   by_cases c : lexC e.f0 x.f0 = 0
   ·have he := sb e (hmem e (by simp))
    simp only [List.length_cons] at hl
    obtain ⟨o, t, h5, h6, h7⟩ := twoGo_ev a u (out ++ s ++ [joinC x e]) ha' (List.pairwise_cons.1 hr).2 sa' (fun y hy => sb y (hmem y (List.mem_cons_of_mem _ hy))) (by rw [List.length_append, List.length_singleton]; omega)
    refine ⟨o, t, ?_, by rw [h6, two_eq ha hb h2 c]; simp, fun y hy => hmem y (List.mem_cons_of_mem _ (h7 y hy))⟩
    refine Ev.bind (f := fun k s => twoGo k a s) (Ev.congr (fun k => by unfold twoStep; rfl) (Ev.bind (f := fun k s => twoPut k x s.2 s.1) h4 ?_)) h5
    refine Ev.congr (fun k => by simp only [twoPut]) (Ev.bind (f := fun k r => if r = 0 then (cell_Join.f k x.f0 x.f1 x.f2 x.f3 x.f4 e.f0 e.f1 e.f2 e.f3 e.f4).bind fun j => (addC (out ++ s) ⟨j.1, j.2.1, j.2.2.1, j.2.2.2.1, j.2.2.2.2⟩).bind fun o => some (o, u) else (ownM.f k x).bind fun y => (addC (out ++ s) y).bind fun o => some (o, e :: u)) (less_small (x := x) he) ?_)
    refine Ev.congr (f := fun k => (cell_Join.f k x.f0 x.f1 x.f2 x.f3 x.f4 e.f0 e.f1 e.f2 e.f3 e.f4).bind fun j => (addC (out ++ s) ⟨j.1, j.2.1, j.2.2.1, j.2.2.2.1, j.2.2.2.2⟩).bind fun o => some (o, u)) (fun k => if_pos c) (Ev.bind (join_ev x e hx) ?_)
    exact Ev.congr (f := fun _ => some (out ++ s ++ [joinC x e], u)) (fun k => by rw [addC_ok (by omega)]; try rfl) (Ev.now _)
   ·exact own_case (fun e' u' h => by injection h with h _; rw [← h]; omega)
theorem twoRest_ev : ∀ (l out : List S44), (∀ e ∈ l, SmallC e) → out.length + l.length ≤ 1000000000 → Ev (fun k => twoRest k l out) (out ++ l)
 | [], out, _, _ => by rw [List.append_nil]; exact Ev.now _
 | x :: t, out, h, hl => by
  simp only [List.length_cons] at hl
  have h1 := twoRest_ev t (out ++ [x]) (fun e he => h e (List.mem_cons_of_mem _ he)) (by rw [List.length_append, List.length_singleton]; omega)
  rw [List.append_assoc] at h1
  refine Ev.congr (fun k => by simp only [twoRest]) (Ev.bind (f := fun k y => (addC out y).bind fun o => twoRest k t o) (ownM_ev (h x (List.mem_cons_self ..))) ?_)
  exact Ev.congr (f := fun k => twoRest k t (out ++ [x])) (fun k => by rw [addC_ok (by omega)]; try rfl) h1
theorem two_small {a b : List S44} (sa : ∀ e ∈ a, SmallC e) (sb : ∀ e ∈ b, SmallC e) (ha : SortedC a) (hb : SortedC b) (hl : a.length + b.length ≤ 1000000000) : Ev (fun k => Two.f k a b) (putAll a b) := by
 have hok : EvB (fun k => twoOk k a b) := by
  refine EvB.and (EvB.and ⟨0, fun _ _ => decide_eq_true (by omega)⟩ (EvB.all b _ (fun e he => EvB.some_ (ownM_ev (sb e he))))) (EvB.all a _ (fun x hx => EvB.and (EvB.some_ (ownM_ev (sa x hx))) (EvB.all b _ (fun e he => EvB.and (EvB.some_ (less_small (sb e he))) (EvB.some_ (join_ev x e (sa x hx)))))))
 obtain ⟨o, t, h1, h2, h3⟩ := twoGo_ev a b [] ha hb sa sb (by simpa using hl)
 rw [List.nil_append] at h2
 have hlen := putAll_length b a
 have hlot : o.length + t.length = (putAll a b).length := by rw [← h2, List.length_append]
 refine EvB.if_ (g := fun k => (twoGo k a ([], b)).bind fun s => (twoRest k s.2 s.1).bind fun o => if o.length * 104 ≤ 140737488355328 then some o else none) hok ?_
 refine Ev.bind (f := fun k s => (twoRest k s.2 s.1).bind fun o => if o.length * 104 ≤ 140737488355328 then some o else none) h1 ?_
 refine Ev.bind (f := fun _ o => if o.length * 104 ≤ 140737488355328 then some o else none) (twoRest_ev t o (fun e he => sb e (h3 e he)) (by omega)) ?_
 rw [h2]
 exact Ev.congr (f := fun _ => some (putAll a b)) (fun _ => if_pos (by omega)) (Ev.now _)
def GoodL (n B : Nat) (l : List (List S44)) : Prop := ∀ x ∈ l, SortedC x ∧ RegL n x ∧ x.length ≤ B
theorem two_ev {n : Nat} (hn : n ≤ 100) {a b : List S44} (ra : RegL n a) (rb : RegL n b) (ha : SortedC a) (hb : SortedC b) (hl : a.length + b.length ≤ 1000000000) : Ev (fun k => Two.f k a b) (putAll a b) := two_small (ra.small hn) (rb.small hn) ha hb hl
theorem EvB.match_ {g : Nat → Option (List S44)} {f : Nat → List S44 → Bool} {r : List S44} (h : Ev g r) (hf : EvB (fun k => f k r)) : EvB (fun k => match g k with
  | some o2 => f k o2
  | none => false) := by
 obtain ⟨K1, h1⟩ := h
 obtain ⟨K2, h2⟩ := hf
 exact ⟨max K1 K2, fun k hk => by
  show (match g k with
   | some o2 => f k o2
   | none => false) = true
  rw [h1 k (by omega)]
  exact h2 k (by omega)⟩
theorem oneOk_ev {n B : Nat} (hn : n ≤ 100) {l : List (List S44)} (hl : GoodL n B l) : ∀ (m : Nat) (o : List S44), SortedC o → RegL n o → o.length + m * B ≤ 1000000000 → EvB (fun k => oneOk k l m o)
 | 0, o, _, _, _ => ⟨0, fun _ _ => rfl⟩
 | m + 1, o, ho, ro, hb => by
  have e : (m + 1) * B = m * B + B := Nat.succ_mul m B
  rw [e] at hb
  refine EvB.all l (fun k x => match Two.f k o x with
   | some o2 => oneOk k l m o2
   | none => false) (fun x hx => ?_)
  obtain ⟨h1, h2, h3⟩ := hl x hx
  have hp := putAll_length x o
  exact EvB.match_ (f := fun k o2 => oneOk k l m o2) (two_ev hn ro h2 ho h1 (by omega)) (oneOk_ev hn hl m (putAll o x) (putAll_sorted x o ho) (regL_all h2 ro) (by omega))
theorem oneGo_ev {n B : Nat} (hn : n ≤ 100) : ∀ (l : List (List S44)) (o : List S44), GoodL n B l → SortedC o → RegL n o → o.length + l.length * B ≤ 1000000000 → Ev (fun k => oneGo k l o) (putAll o l.flatten)
 | [], o, _, _, _, _ => Ev.now _
 | x :: t, o, hl, ho, ro, hb => by
  have e : (t.length + 1) * B = t.length * B + B := Nat.succ_mul _ B
  rw [List.length_cons, e] at hb
  obtain ⟨h1, h2, h3⟩ := hl x (List.mem_cons_self ..)
  have hp := putAll_length x o
  rw [List.flatten_cons, putAll_append]
  exact Ev.bind (f := fun k o => oneGo k t o) (two_ev hn ro h2 ho h1 (by omega)) (oneGo_ev hn t (putAll o x) (fun y hy => hl y (List.mem_cons_of_mem _ hy)) (putAll_sorted x o ho) (regL_all h2 ro) (by omega))
theorem one_ev {n B : Nat} (hn : n ≤ 100) {l : List (List S44)} (h0 : l ≠ []) (hl : GoodL n B l) (hb : l.length * B ≤ 1000000000) : Ev (fun k => one.f k l) (groupL l.flatten) := by
 cases l with
 | nil => exact absurd rfl h0
 | cons r t =>
  have e : (t.length + 1) * B = t.length * B + B := Nat.succ_mul _ B
  rw [List.length_cons, e] at hb
  obtain ⟨h1, h2, h3⟩ := hl r (List.mem_cons_self ..)
  have ht : GoodL n B t := fun y hy => hl y (List.mem_cons_of_mem _ hy)
  have hr := two_ev hn h2 (regL_nil n) h1 List.Pairwise.nil (by simp; omega)
  rw [putAll_nil] at hr
  have hg : groupL (r :: t).flatten = putAll r t.flatten := by rw [List.flatten_cons, group_append, group_rising h1]
  rw [hg]
  refine Ev.bind (f := fun k o => if oneOk k t t.length o = true then oneGo k t o else none) hr ?_
  exact EvB.if_ (oneOk_ev hn ht t.length r h1 h2 (by omega)) (oneGo_ev hn t r ht h1 h2 (by omega))
def pieceG (l : List (List S44)) (m q : Nat) : List S44 := groupL (pieceL l m q).flatten
def passR (m : Nat) (l : List (List S44)) : List (List S44) := (List.range (pieces l.length m)).map (pieceG l m)
def passN (m : Nat) : Nat → Nat → Nat
 | 0, _ => 0
 | f + 1, n => if 1 < n then passN m f (pieces n m) + 1 else 0
theorem pieces_flat (l : List (List S44)) (m : Nat) : ∀ c, ((List.range c).map (pieceL l m)).flatten = l.take (c * m)
 | 0 => by simp
 | c + 1 => by
  rw [List.range_succ, List.map_append, List.flatten_append, pieces_flat l m c, Nat.succ_mul, List.take_add]
  simp [pieceL]
theorem parts_flat : ∀ ps : List (List (List S44)), groupL ((ps.map fun p => groupL p.flatten).flatten) = groupL ps.flatten.flatten ∧ ((ps.map fun p => groupL p.flatten).flatten).length ≤ ps.flatten.flatten.length
 | [] => ⟨rfl, Nat.le_refl _⟩
 | p :: ps => by
  obtain ⟨h1, h2⟩ := parts_flat ps
  refine ⟨?_, ?_⟩
  ·rw [List.map_cons, List.flatten_cons, List.flatten_cons, List.flatten_append, group_append, group_group, ← group_parts, group_append, group_group, ← putAll_group, h1, ← putAll_group (groupL p.flatten) (groupL _), group_group]
  ·have := putAll_length p.flatten []
   rw [← groupL_all] at this
   simp only [List.map_cons, List.flatten_cons, List.flatten_append, List.length_append, List.length_nil] at this ⊢
   omega
theorem passR_parts (m : Nat) (hm : 1 ≤ m) (l : List (List S44)) : groupL (passR m l).flatten = groupL l.flatten ∧ (passR m l).flatten.length ≤ l.flatten.length := by
 have h := parts_flat ((List.range (pieces l.length m)).map (pieceL l m))
 have hc : ¬ pieces l.length m * m < l.length := fun h => absurd ((pieces_lt hm).2 h) (Nat.lt_irrefl _)
 rw [pieces_flat, List.take_of_length_le (by omega), List.map_map] at h
 exact h
theorem mem_flat_len {l : List (List S44)} {x : List S44} (h : x ∈ l) : x.length ≤ l.flatten.length := by
 induction l with
 | nil => cases h
 | cons y t ih =>
  rw [List.flatten_cons, List.length_append]
  rcases List.mem_cons.1 h with rfl | h
  ·omega
  ·have := ih h; omega
theorem regL_flat {n B : Nat} {l : List (List S44)} (h : GoodL n B l) : RegL n l.flatten := fun c hc => by
 obtain ⟨x, hx, hcx⟩ := List.mem_flatten.1 hc
 exact (h x hx).2.1 c hcx
theorem piece_mem {l : List (List S44)} {m q : Nat} {x : List S44} (h : x ∈ pieceL l m q) : x ∈ l := List.mem_of_mem_drop (List.mem_of_mem_take h)
theorem piece_good {n B : Nat} {l : List (List S44)} (h : GoodL n B l) (m q : Nat) : GoodL n B (pieceL l m q) := fun x hx => h x (piece_mem hx)
theorem passR_good {n T : Nat} {m : Nat} (hm : 1 ≤ m) {l : List (List S44)} (h : GoodL n T l) (hT : l.flatten.length ≤ T) : GoodL n T (passR m l) := fun x hx => by
 have h2 := mem_flat_len hx
 have h3 := (passR_parts m hm l).2
 obtain ⟨q, hq, rfl⟩ := List.mem_map.1 hx
 exact ⟨groupL_sorted _, regL_group (regL_flat (piece_good h m q)), by omega⟩
theorem passR_length (m : Nat) (l : List (List S44)) : (passR m l).length = pieces l.length m := by simp [passR]
theorem piece_ne {l : List (List S44)} {m q : Nat} (hm : 1 ≤ m) (hq : q < pieces l.length m) : pieceL l m q ≠ [] := by
 have h := (pieces_lt hm).1 hq
 intro e
 have := congrArg List.length e
 simp only [pieceL, List.length_take, List.length_drop, List.length_nil] at this
 omega
theorem mapQ_ev {n T : Nat} (hn : n ≤ 100) {l : List (List S44)} (h : GoodL n T l) {m : Nat} (hm : 1 ≤ m) (hb : l.length * T ≤ 1000000000) : ∀ t : List Nat, (∀ q ∈ t, q < pieces l.length m) → Ev (fun k => mapQ k l m t) (t.map (pieceG l m))
 | [], _ => Ev.now _
 | q :: t, ht => by
  have hlen : (pieceL l m q).length ≤ l.length := by simp only [pieceL, List.length_take, List.length_drop]; omega
  have hmul := Nat.mul_le_mul_right T hlen
  have h1 := one_ev hn (piece_ne hm (ht q (List.mem_cons_self ..))) (piece_good h m q) (by omega)
  have h2 := mapQ_ev hn h hm hb t (fun x hx => ht x (List.mem_cons_of_mem _ hx))
  refine Ev.congr (fun k => by simp only [mapQ]) (Ev.bind (f := fun k y => (mapQ k l m t).bind fun r => some (y :: r)) h1 (Ev.bind (f := fun _ r => some (groupL (pieceL l m q).flatten :: r)) h2 (Ev.now _)))
theorem mg_ev {n T L m : Nat} (hn : n ≤ 100) (hm : 2 ≤ m) (hLT : L * T ≤ 1000000000) (hL : L ≤ 1000000) : ∀ (f : Nat) (l : List (List S44)) (p : Nat), GoodL n T l → l.flatten.length ≤ T → l.length ≤ f → l.length ≤ L → p + f ≤ 1000000000 →
  Ev (fun k => mgGo m k l (p : Int)) (groupL l.flatten, ((p + passN m f l.length : Nat) : Int))
 | f, [], p, _, _, _, _, _ => by
  have e : passN m f ([] : List (List S44)).length = 0 := by cases f <;> rfl
  rw [e]
  exact Ev.step (f := fun _ => some ([], (p : Int))) (fun k => rfl) (Ev.now _)
 | 0, _ :: _, _, _, _, h, _, _ => absurd h (by simp)
 | f + 1, [r], p, hg, hT, _, hl, _ => by
  have e : passN m (f + 1) [r].length = 0 := rfl
  have hmul := Nat.mul_le_mul_right T hl
  rw [e]
  exact Ev.step (f := fun k => (one.f k [r]).bind fun r => some (r, (p : Int))) (fun k => rfl) (Ev.bind (one_ev hn (by simp) hg (by omega)) (Ev.now _))
 | f + 1, a :: b :: t, p, hg, hT, hf, hl, hp => by
  have hlt : 1 < (a :: b :: t).length := by simp
  generalize hll : a :: b :: t = l at *
  have hmul := Nat.mul_le_mul_right T hl
  have e : passN m (f + 1) l.length = passN m f (pieces l.length m) + 1 := by show (if 1 < l.length then _ else _) = _; rw [if_pos hlt]
  have hple := pieces_less hm hlt
  have hpa := passR_parts m (by omega) l
  have ih := mg_ev hn hm hLT hL f (passR m l) (p + 1) (passR_good (by omega) hg hT) (by omega) (by rw [passR_length]; omega) (by rw [passR_length]; omega) (by omega)
  rw [hpa.1, passR_length, show p + 1 + passN m f (pieces l.length m) = p + passN m (f + 1) l.length by rw [e]; omega] at ih
  refine Ev.step (f := fun k => (mgPass k l m).bind fun l2 => mgGo m k l2 (wrap64 ((p : Int) + 1))) (fun k => ?_) (Ev.bind (mapQ_ev hn hg (by omega) (by omega) _ (fun q hq => List.mem_range.1 hq)) ?_)
  ·show (if 1 < l.length then _ else _) = _
   rw [if_pos hlt, if_pos (by omega)]
  ·rw [w64s (Nat.lt_succ_self p) (by omega)]
   exact ih
theorem merge_ev {n T : Nat} (hn : n ≤ 100) {m : Nat} (hm : 2 ≤ m) (hm2 : m ≤ 1000000) {l : List (List S44)} (hg : GoodL n T l) (hT : l.flatten.length ≤ T) (hb : l.length * T ≤ 1000000000) (hl : l.length ≤ 1000000) : Ev (fun k => merge_Merge.f k l (m : Int)) (groupL l.flatten, ((passN m l.length l.length : Nat) : Int)) := by
 have h := mg_ev hn hm hb hl l.length l 0 hg hT (Nat.le_refl _) (Nat.le_refl _) (by omega)
 rw [Nat.zero_add] at h
 have e : max (m : Int) 2 = (m : Int) := by omega
 refine Ev.congr (fun k => ?_) h
 unfold merge_Merge.f
 rw [e, if_pos (by omega), Int.toNat_natCast]
 rfl
theorem two_lt1 {x y : S44} {a b : List S44} (ha : SortedC (x :: a)) (hb : SortedC (y :: b)) (h : lexC x.f0 y.f0 < 0) : putAll (x :: a) (y :: b) = x :: putAll a (y :: b) := by
 have := lexC_swap x.f0 y.f0
 exact two_gt (s := []) ha hb (fun e he => by cases he) (fun e u hh => by injection hh with hh _; rw [← hh]; omega)
theorem two_gt1 {x y : S44} {a b : List S44} (ha : SortedC (x :: a)) (hb : SortedC (y :: b)) (h : 0 < lexC x.f0 y.f0) : putAll (x :: a) (y :: b) = y :: putAll (x :: a) b := by
 rw [putAll_cons, putL_gt _ h, show y :: x :: a = [y] ++ x :: a from rfl, putAll_app]
 ·rfl
 ·intro z hz w hw
  rw [List.mem_singleton.1 hz]
  exact (List.pairwise_cons.1 hb).1 w hw
theorem two_eq1 {x y : S44} {a b : List S44} (ha : SortedC (x :: a)) (hb : SortedC (y :: b)) (h : lexC x.f0 y.f0 = 0) : putAll (x :: a) (y :: b) = joinC x y :: putAll a b := by
 have := lexC_swap x.f0 y.f0
 exact two_eq (s := []) ha hb (fun e he => by cases he) (by omega)
theorem drop_sorted {l : List S44} (h : SortedC l) (i : Nat) : SortedC (l.drop i) := List.Pairwise.sublist (List.drop_sublist i l) h
theorem ref_two_j2 {n : Nat} (hn : n ≤ 100) {a b : List S44} (ra : RegL n a) (rb : RegL n b) (hla : a.length ≤ 1000000000) (hlb : b.length ≤ 1000000000) (out : List S44) (i j : Nat) (hi : i ≤ a.length) (hj : j ≤ b.length) (ho : out.length ≤ 1000000000000) (c : Int) {r : List S44}
  (h1 : c < 0 → ∃ h : i < a.length, Ev (fun k => hypercuberef6_Two.l0 k a b (out ++ [a[i]]) ((i + 1 : Nat) : Int) (j : Int)) r)
  (h2 : 0 < c → ∃ h : j < b.length, Ev (fun k => hypercuberef6_Two.l0 k a b (out ++ [b[j]]) (i : Int) ((j + 1 : Nat) : Int)) r)
  (h3 : c = 0 → ∃ (h : i < a.length) (h' : j < b.length), Ev (fun k => hypercuberef6_Two.l0 k a b (out ++ [joinC a[i] b[j]]) ((i + 1 : Nat) : Int) ((j + 1 : Nat) : Int)) r) :
  Ev (fun k => hypercuberef6_Two.j2 k a b out (i : Int) (j : Int) c) r := by
 rcases three c with hc | hc | hc
 ·obtain ⟨hlt, h⟩ := h1 hc
  refine Ev.step (fun k => ?_) h
  simp only [hypercuberef6_Two.j2]
  rw [if_pos hc, if_pos (by omega), if_pos (by omega), rdC_get hlt, ref_copy_eq ((ra _ (List.getElem_mem hlt)).small hn), Option.bind_some, if_pos (by omega), w64s hlt (by omega)]
  rfl
 ·obtain ⟨hlt, hlt2, h⟩ := h3 hc
  refine Ev.step (f := fun k => (hypercuberef2_Join.f k (a[i]).f0 (a[i]).f1 (a[i]).f2 (a[i]).f3 (a[i]).f4 (b[j]).f0 (b[j]).f1 (b[j]).f2 (b[j]).f3 (b[j]).f4).bind fun bt => (if out.length < 1353245080339 then (hypercuberef6_Two.l0 k a b (out ++ [(⟨bt.1, bt.2.1, bt.2.2.1, bt.2.2.2.1, bt.2.2.2.2⟩ : S44)]) ((i + 1 : Nat) : Int) ((j + 1 : Nat) : Int)) else none)) (fun k => ?_) (Ev.bind (ref_join_ev hn (ra _ (List.getElem_mem hlt)) (rb _ (List.getElem_mem hlt2))) (Ev.congr (fun k => if_pos (by omega)) h))
  simp only [hypercuberef6_Two.j2]
  rw [if_neg (by omega), if_neg (by omega), if_pos (by omega), if_pos (by omega), if_pos (by omega), if_pos (by omega), rdC_get hlt, rdC_get hlt2, w64s hlt (by omega), w64s hlt2 (by omega)]
 ·obtain ⟨hlt, h⟩ := h2 hc
  refine Ev.step (fun k => ?_) h
  simp only [hypercuberef6_Two.j2]
  rw [if_neg (by omega), if_pos (by omega), if_pos (by omega), if_pos (by omega), rdC_get hlt, ref_copy_eq ((rb _ (List.getElem_mem hlt)).small hn), Option.bind_some, if_pos (by omega), w64s hlt (by omega)]
  rfl
theorem ref_two_l0 {n : Nat} (hn : n ≤ 100) {a b : List S44} (ra : RegL n a) (rb : RegL n b) (ha : SortedC a) (hb : SortedC b) (hla : a.length ≤ 1000000000) (hlb : b.length ≤ 1000000000) (d : Nat) : ∀ (out : List S44) (i j : Nat), (a.length - i) + (b.length - j) ≤ d → i ≤ a.length → j ≤ b.length → out.length ≤ i + j →
  Ev (fun k => hypercuberef6_Two.l0 k a b out (i : Int) (j : Int)) (out ++ putAll (a.drop i) (b.drop j)) := by
 induction d with
 | zero =>
  intro out i j hd hi hj ho
  rw [List.drop_eq_nil_of_le (show a.length ≤ i by omega), List.drop_eq_nil_of_le (show b.length ≤ j by omega), putAll_nil, List.append_nil]
  refine Ev.step (f := fun k => hypercuberef6_Two.j1 k a b out (i : Int) (j : Int) false) (fun k => by simp only [hypercuberef6_Two.l0]; rw [if_neg (by omega), decide_eq_false (by omega)]) ?_
  exact Ev.step (f := fun _ => some out) (fun k => by simp only [hypercuberef6_Two.j1]; rw [if_neg (by decide)]) (Ev.now _)
 | succ d ih =>
  intro out i j hd hi hj ho
  by_cases ca : i < a.length
  ·have sa := drop_sorted ha i
   have sb := drop_sorted hb j
   by_cases cb : j < b.length
   ·rw [drop_cons ca, drop_cons cb] at *
    have hless := ref_less_ev (a[i]).f0 (b[j]).f0 (by have := (ra _ (List.getElem_mem ca)).1; omega)
    refine Ev.step (f := fun k => hypercuberef6_Two.j1 k a b out (i : Int) (j : Int) true) (fun k => by simp only [hypercuberef6_Two.l0]; rw [if_pos (by omega)]) ?_
    refine Ev.step (f := fun k => (hypercuberef2_Less.f k (a[i]).f0 (b[j]).f0).bind fun t => hypercuberef6_Two.j2 k a b out (i : Int) (j : Int) t) (fun k => by simp only [hypercuberef6_Two.j1]; rw [if_pos trivial, if_neg (by omega), if_neg (by omega), if_pos (by omega), if_pos (by omega), if_pos (by omega), if_pos (by omega), rdC_get ca, rdC_get cb]) (Ev.bind hless ?_)
    refine ref_two_j2 hn ra rb hla hlb out i j hi hj (by omega) _ (fun hc => ⟨ca, ?_⟩) (fun hc => ⟨cb, ?_⟩) (fun hc => ⟨ca, cb, ?_⟩)
    ·have := ih (out ++ [a[i]]) (i + 1) j (by omega) (by omega) hj (by rw [List.length_append, List.length_singleton]; omega)
     rw [List.append_assoc, List.singleton_append, drop_cons cb] at this
     rw [two_lt1 sa sb hc]
     exact this
    ·have := ih (out ++ [b[j]]) i (j + 1) (by omega) hi (by omega) (by rw [List.length_append, List.length_singleton]; omega)
     rw [List.append_assoc, List.singleton_append, drop_cons ca] at this
     rw [two_gt1 sa sb hc]
     exact this
    ·have := ih (out ++ [joinC a[i] b[j]]) (i + 1) (j + 1) (by omega) (by omega) (by omega) (by rw [List.length_append, List.length_singleton]; omega)
     rw [List.append_assoc, List.singleton_append] at this
     rw [two_eq1 sa sb hc]
     exact this
   ·have e : b.drop j = [] := List.drop_eq_nil_of_le (by omega)
    have hji : j = b.length := by omega
    have := ih (out ++ [a[i]]) (i + 1) j (by omega) (by omega) hj (by rw [List.length_append, List.length_singleton]; omega)
    rw [e, putAll_nil, List.append_assoc, List.singleton_append, ← drop_cons ca] at this
    rw [e, putAll_nil]
    refine Ev.step (f := fun k => hypercuberef6_Two.j1 k a b out (i : Int) (j : Int) true) (fun k => by simp only [hypercuberef6_Two.l0]; rw [if_pos (by omega)]) ?_
    refine Ev.step (f := fun k => hypercuberef6_Two.j2 k a b out (i : Int) (j : Int) (-1)) (fun k => by simp only [hypercuberef6_Two.j1]; rw [if_pos trivial, if_neg (by omega), if_pos (by omega)]) ?_
    exact ref_two_j2 hn ra rb hla hlb out i j hi hj (by omega) _ (fun hc => ⟨ca, this⟩) (fun hc => absurd hc (by decide)) (fun hc => absurd hc (by decide))
  ·have e : a.drop i = [] := List.drop_eq_nil_of_le (by omega)
   have sb := drop_sorted hb j
   have hg : putAll [] (b.drop j) = b.drop j := by rw [← groupL_all, group_rising sb]
   rw [e, hg]
   by_cases cb : j < b.length
   ·have := ih (out ++ [b[j]]) i (j + 1) (by omega) hi (by omega) (by rw [List.length_append, List.length_singleton]; omega)
    rw [e, ← groupL_all, group_rising (drop_sorted hb (j + 1)), List.append_assoc, List.singleton_append, ← drop_cons cb] at this
    refine Ev.step (f := fun k => hypercuberef6_Two.j1 k a b out (i : Int) (j : Int) true) (fun k => by simp only [hypercuberef6_Two.l0]; rw [if_neg (by omega), decide_eq_true (by omega)]) ?_
    refine Ev.step (f := fun k => hypercuberef6_Two.j2 k a b out (i : Int) (j : Int) 1) (fun k => by simp only [hypercuberef6_Two.j1]; rw [if_pos trivial, if_pos (by omega)]) ?_
    exact ref_two_j2 hn ra rb hla hlb out i j hi hj (by omega) _ (fun hc => absurd hc (by decide)) (fun hc => ⟨cb, this⟩) (fun hc => absurd hc (by decide))
   ·rw [List.drop_eq_nil_of_le (show b.length ≤ j by omega), List.append_nil]
    refine Ev.step (f := fun k => hypercuberef6_Two.j1 k a b out (i : Int) (j : Int) false) (fun k => by simp only [hypercuberef6_Two.l0]; rw [if_neg (by omega), decide_eq_false (by omega)]) ?_
    exact Ev.step (f := fun _ => some out) (fun k => by simp only [hypercuberef6_Two.j1]; rw [if_neg (by decide)]) (Ev.now _)
theorem ref_two_ev {n : Nat} (hn : n ≤ 100) {a b : List S44} (ra : RegL n a) (rb : RegL n b) (ha : SortedC a) (hb : SortedC b) (hla : a.length ≤ 1000000000) (hlb : b.length ≤ 1000000000) : Ev (fun k => hypercuberef6_Two.f k a b) (putAll a b) := by
 have h := ref_two_l0 hn ra rb ha hb hla hlb (a.length + b.length) [] 0 0 (by omega) (by omega) (by omega) (by simp)
 simp only [List.drop_zero, List.nil_append] at h
 exact Ev.congr (fun k => by unfold hypercuberef6_Two.f; rfl) h
def someG (l : List (List S44)) (i j : Nat) : List S44 := groupL ((l.drop i).take j).flatten
theorem someG_one {l : List (List S44)} {i : Nat} (h : i < l.length) (hs : SortedC l[i]) : someG l i 1 = l[i] := by
 unfold someG
 rw [drop_cons h]
 show groupL ([l[i]]).flatten = l[i]
 rw [List.flatten_singleton, group_rising hs]
theorem someG_succ {l : List (List S44)} {i j : Nat} (h : i + j < l.length) : someG l i (j + 1) = putAll (someG l i j) l[i + j] := by
 have hj : j < (l.drop i).length := by rw [List.length_drop]; omega
 unfold someG
 rw [List.take_succ_eq_append_getElem hj, List.flatten_append, group_append, List.flatten_singleton, List.getElem_drop]
theorem someG_good {n T : Nat} {l : List (List S44)} (hg : GoodL n T l) (i j : Nat) : SortedC (someG l i j) ∧ RegL n (someG l i j) :=
 ⟨groupL_sorted _, regL_group (regL_flat (fun x hx => hg x (List.mem_of_mem_drop (List.mem_of_mem_take hx))))⟩
theorem flat_take_le (l : List (List S44)) : ∀ (i j : Nat), ((l.drop i).take j).flatten.length ≤ l.flatten.length := fun i j => by
 have h1 : ((l.drop i).take j).flatten.length ≤ (l.drop i).flatten.length := by
  have := congrArg (fun x => (List.flatten x).length) (List.take_append_drop j (l.drop i))
  simp only [List.flatten_append, List.length_append] at this
  omega
 have h2 : (l.drop i).flatten.length ≤ l.flatten.length := by
  have := congrArg (fun x => (List.flatten x).length) (List.take_append_drop i l)
  simp only [List.flatten_append, List.length_append] at this
  omega
 omega
theorem someG_len {l : List (List S44)} {T : Nat} (hT : l.flatten.length ≤ T) (i j : Nat) : (someG l i j).length ≤ T := by
 have h := putAll_length ((l.drop i).take j).flatten []
 have h2 := flat_take_le l i j
 rw [← groupL_all] at h
 simp only [List.length_nil] at h
 unfold someG
 omega
theorem ref_merge_l2 {n T m : Nat} (hn : n ≤ 100) (hm : 2 ≤ m) (hm2 : m ≤ 1000000) {l : List (List S44)} (hg : GoodL n T l) (hT : l.flatten.length ≤ T) (hT2 : T ≤ 100000000) (hl : l.length ≤ 1000000) (p : Int) (nx : List (List S44)) (hnx : nx.length ≤ 1000000) (i : Nat) (hi : i < l.length) {r : List S44 × Int}
  (H : Ev (fun k => hypercuberef6_Merge.l1 k l (m : Int) p (nx ++ [someG l i m]) ((i + m : Nat) : Int)) r) (d : Nat) : ∀ j, 1 ≤ j → j ≤ m → i + j ≤ l.length → m - j ≤ d →
  Ev (fun k => hypercuberef6_Merge.l2 k l (m : Int) p nx (i : Int) (someG l i j) ((i + j : Nat) : Int)) r := by
 have hend : ∀ j, j ≤ m → i + j ≤ l.length → (j = m ∨ i + j = l.length) → Ev (fun k => hypercuberef6_Merge.l2 k l (m : Int) p nx (i : Int) (someG l i j) ((i + j : Nat) : Int)) r := fun j hj hjl hc => by
  have e : someG l i j = someG l i m := by
   rcases hc with rfl | hc
   ·rfl
   ·unfold someG
    rw [List.take_of_length_le (by rw [List.length_drop]; omega), List.take_of_length_le (by rw [List.length_drop]; omega)]
  rw [e]
  refine Ev.step (fun k => ?_) H
  simp only [hypercuberef6_Merge.l2]
  rw [wr2 hi hl hm2]
  by_cases c : ((i + j : Nat) : Int) < ((i + m : Nat) : Int)
  ·rw [if_pos c, if_neg (by omega), if_pos (by omega)]
  ·rw [if_neg c, if_pos (by omega)]
 induction d with
 | zero => exact fun j h1 hj hjl hd => hend j hj hjl (.inl (by omega))
 | succ d ih =>
  intro j h1 hj hjl hd
  by_cases c : j = m ∨ i + j = l.length
  ·exact hend j hj hjl c
  ·have hlt : i + j < l.length := by omega
   obtain ⟨g1, g2⟩ := someG_good hg i j
   obtain ⟨g3, g4, g5⟩ := hg _ (List.getElem_mem hlt)
   have h := ih (j + 1) (by omega) (by omega) (by omega) (by omega)
   rw [someG_succ hlt] at h
   have hlen := someG_len hT i j
   refine Ev.step (f := fun k => (hypercuberef6_Two.f k (someG l i j) (l[i + j])).bind fun t => hypercuberef6_Merge.l2 k l (m : Int) p nx (i : Int) t ((i + (j + 1) : Nat) : Int)) (fun k => ?_) (Ev.bind (ref_two_ev hn g2 g4 g1 g3 (by omega) (by omega)) h)
   simp only [hypercuberef6_Merge.l2]
   rw [wr2 hi hl hm2, if_pos (by omega), if_pos (by omega), if_pos (by omega), rdL_get hlt, w64s hlt (by omega)]
   rfl
theorem ref_merge_l1 {n T m : Nat} (hn : n ≤ 100) (hm : 2 ≤ m) (hm2 : m ≤ 1000000) {l : List (List S44)} (hg : GoodL n T l) (hT : l.flatten.length ≤ T) (hT2 : T ≤ 100000000) (hl : l.length ≤ 1000000) (p : Nat) (hp : p ≤ 1000000000) {r : List S44 × Int}
  (H : Ev (fun k => hypercuberef6_Merge.l0 k (passR m l) (m : Int) ((p + 1 : Nat) : Int)) r) (d : Nat) : ∀ q, q ≤ pieces l.length m → pieces l.length m - q = d →
  Ev (fun k => hypercuberef6_Merge.l1 k l (m : Int) (p : Int) ((List.range q).map (pieceG l m)) ((q * m : Nat) : Int)) r := by
 induction d with
 | zero =>
  intro q hq hd
  have e : q = pieces l.length m := by omega
  have hc : ¬ q * m < l.length := fun h => by have := (pieces_lt (len := l.length) (m := m) (q := q) (by omega)).2 h; omega
  refine Ev.step (fun k => ?_) H
  simp only [hypercuberef6_Merge.l1]
  rw [if_neg (by omega), w64s (Nat.lt_succ_self p) (by omega), e]
  rfl
 | succ d ih =>
  intro q hq hd
  have hlt : q * m < l.length := (pieces_lt (len := l.length) (m := m) (q := q) (by omega)).1 (by omega)
  have hqm : q ≤ q * m := Nat.le_mul_of_pos_right q (by omega)
  have h := ih (q + 1) (by omega) (by omega)
  rw [List.range_succ, List.map_append, List.map_cons, List.map_nil, Nat.succ_mul] at h
  have h2 := ref_merge_l2 hn hm hm2 hg hT hT2 hl (p : Int) ((List.range q).map (pieceG l m)) (by simp; omega) (q * m) hlt h m 1 (Nat.le_refl _) (by omega) (by omega) (by omega)
  rw [someG_one hlt (hg _ (List.getElem_mem hlt)).1] at h2
  refine Ev.step (fun k => ?_) h2
  simp only [hypercuberef6_Merge.l1]
  rw [if_pos (by omega), if_pos (by omega), rdL_get hlt, w64s hlt (by omega)]
theorem ref_merge_l0 {n T m : Nat} (hn : n ≤ 100) (hm : 2 ≤ m) (hm2 : m ≤ 1000000) (hT2 : T ≤ 100000000) : ∀ (f : Nat) (l : List (List S44)) (p : Nat), GoodL n T l → l.flatten.length ≤ T → l.length ≤ f → l.length ≤ 1000000 → p + f ≤ 1000000000 → (l = [] → p = 0) →
  Ev (fun k => hypercuberef6_Merge.l0 k l (m : Int) (p : Int)) (groupL l.flatten, ((p + passN m f l.length : Nat) : Int))
 | f, [], p, _, _, _, _, _, hp0 => by
  have e : passN m f ([] : List (List S44)).length = 0 := by cases f <;> rfl
  rw [e, hp0 rfl]
  exact Ev.step (f := fun _ => some ([], 0)) (fun k => rfl) (Ev.now _)
 | 0, _ :: _, _, _, _, h, _, _, _ => absurd h (by simp)
 | f + 1, [r], p, hg, hT, _, hl, _, _ => by
  have e : passN m (f + 1) [r].length = 0 := rfl
  obtain ⟨g1, g2, g3⟩ := hg r (List.mem_cons_self ..)
  have h := ref_two_ev hn g2 (regL_nil n) g1 List.Pairwise.nil (by omega) (by simp)
  rw [putAll_nil] at h
  rw [e, List.flatten_singleton, group_rising g1]
  exact Ev.step (f := fun k => (hypercuberef6_Two.f k r []).bind fun t => some (t, (p : Int))) (fun k => rfl) (Ev.bind h (Ev.now _))
 | f + 1, a :: b :: t, p, hg, hT, hf, hl, hp, _ => by
  have hlt : 1 < (a :: b :: t).length := by simp
  generalize hll : a :: b :: t = l at *
  have e : passN m (f + 1) l.length = passN m f (pieces l.length m) + 1 := by show (if 1 < l.length then _ else _) = _; rw [if_pos hlt]
  have hple := pieces_less hm hlt
  have hpa := passR_parts m (by omega) l
  have hne : passR m l ≠ [] := fun h0 => by
   have h1 := congrArg List.length h0
   rw [passR_length, List.length_nil] at h1
   have := (pieces_lt (len := l.length) (m := m) (q := 0) (by omega)).2 (by omega)
   omega
  have ih := ref_merge_l0 hn hm hm2 hT2 f (passR m l) (p + 1) (passR_good (by omega) hg hT) (by omega) (by rw [passR_length]; omega) (by rw [passR_length]; omega) (by omega) (fun h0 => absurd h0 hne)
  rw [hpa.1, passR_length, show p + 1 + passN m f (pieces l.length m) = p + passN m (f + 1) l.length by rw [e]; omega] at ih
  have h := ref_merge_l1 hn hm hm2 hg hT hT2 hl p (by omega) ih (pieces l.length m) 0 (Nat.zero_le _) rfl
  rw [Nat.zero_mul] at h
  refine Ev.step (fun k => ?_) h
  simp only [hypercuberef6_Merge.l0]
  rw [if_pos (by omega)]
  rfl
theorem ref_merge_ev {n T : Nat} (hn : n ≤ 100) {m : Nat} (hm : 2 ≤ m) (hm2 : m ≤ 1000000) {l : List (List S44)} (hg : GoodL n T l) (hT : l.flatten.length ≤ T) (hT2 : T ≤ 100000000) (hl : l.length ≤ 1000000) : Ev (fun k => hypercuberef6_Merge.f k l (m : Int)) (groupL l.flatten, ((passN m l.length l.length : Nat) : Int)) := by
 have h := ref_merge_l0 hn hm hm2 hT2 l.length l 0 hg hT (Nat.le_refl _) hl (by omega) (fun _ => rfl)
 rw [Nat.zero_add] at h
 exact Ev.congr (fun k => by unfold hypercuberef6_Merge.f; rfl) h
theorem within6_eq (a n : Int) (h0 : 0 < n) (h1 : n ≤ 4611686018427387904) : hypercubelaw6_within.f a n = some (a % n) := by
 have := within2_eq a n h0 h1
 unfold hypercubelaw2_within.f at this
 unfold hypercubelaw6_within.f
 exact this
theorem some_eq (c : Nat) (a : Int) (m : Nat) (h0 : 0 < m) (h1 : m ≤ 1000) (hc : c ≤ 1000) : ∃ k : Nat, c ≤ k ∧ k < c + m ∧ hypercubelaw6_within.f a (m : Int) = some (a % m) ∧ wrap64 ((c : Int) + a % (m : Int)) = (k : Int) := by
 have b0 := Int.emod_nonneg a (show (m : Int) ≠ 0 by omega)
 have b1 := Int.emod_lt_of_pos a (show (0 : Int) < m by omega)
 refine ⟨(c + a % (m : Int)).toNat, by omega, by omega, within6_eq _ _ (by omega) (by omega), ?_⟩
 rw [w64 (by omega) (by omega)]
 omega
theorem runs_good {n : Nat} (most : Nat) (h1 : 1 ≤ most) {cs : List S44} (hr : RegL n cs) : GoodL n cs.length (runsR most [] cs) := fun x hx => by
 have h2 := runsR_bounds most h1 cs [] List.Pairwise.nil (by simp) (.inl rfl)
 obtain ⟨i, hi, rfl⟩ := List.getElem_of_mem hx
 exact ⟨(h2 i hi).2.2.2, runsR_reg most cs [] hr (regL_nil n) _ hx, (runsR_len most h1 cs).2 _ hx⟩
theorem runs_flat_len (most : Nat) (cs : List S44) : (runsR most [] cs).flatten.length ≤ cs.length := by
 have := runsR_total most cs []
 simpa using this
end Go.Proofs.Ytndkimjmbpbcmaa.Q
