-- packed by wip/tools/pack.py (a program of this session) out of its own texts
import Derived.Test.YtmkjkkmilopcpaaPCellAll0
import Derived.ArgAppend
import Derived.Below
import Derived.BigQuiet
import Derived.Deep.AppendLies
import Derived.Deep.CutBlock
import Derived.Deep.DeepCutAuto
import Derived.Deep.Draws
import Derived.Deep.LoopGhost
import Derived.Deep.OwnRows
import Derived.Deep.QuietTactic
import Derived.Deep.RegionHeld3
import Derived.KernelRfl
import Derived.Laws.BitsLemmas
import Derived.Laws.BytesArg
import Derived.Laws.EntriesVeiled
import Derived.Laws.Externs
import Derived.Laws.IdiomCopy
import Derived.Laws.MakeOwn
import Derived.Laws.OwnMore
import Derived.Laws.Rows
import Derived.Laws.Slices
import Derived.Lib.AppendStr
import Derived.Lib.AppendZeros
import Derived.Lib.AppendZerosOnto
import Derived.Lib.ConvBytes
import Derived.Lib.JoinLaws
import Derived.Lib.Overlaps
import Derived.Lib.SliceRun
import Derived.Lib.Walk
import Derived.LoopIn
import Derived.LoopNIn
import Derived.Maps.AppendAt
import Derived.OrdersHeld
import Derived.OrdersIn
import Derived.OwnWalk
import Derived.OwnWalkIn
import Derived.RangeFuncBound
import Derived.RangeFuncBox
import Derived.RangeFuncCalls
import Derived.RangeFuncLeaves
import Derived.RangeFuncNested
import Derived.RangeFuncOwn
import Derived.RowKit
import Derived.RowKit3
import Derived.Shelf.Abstract
import Derived.Shelf.RegionOpen
import Derived.Shelf.RegionOpenPlain
import Derived.Tactics
import Derived.TacticsInMore
import Derived.Test.YtmkjkkmilopcpaaProg
import Derived.WalkKit
import Derived.WalkSpells
import Derived.WideLaws
import Derived.Test.YtmkjkkmilopcpaaPCellAll1
import Derived.Test.YtmkjkkmilopcpaaPCellAll3
import Derived.Test.YtmkjkkmilopcpaaPCellAll4
import Derived.Test.YtmkjkkmilopcpaaPCellAll5
import Derived.Test.YtmkjkkmilopcpaaPCellAll6
import Derived.Test.YtmkjkkmilopcpaaPCellAll7
import Derived.Test.YtmkjkkmilopcpaaPCellAll8
import Derived.Test.YtmkjkkmilopcpaaPCellAll9
import Derived.Test.YtmkjkkmilopcpaaPCellAll10
import Derived.Test.YtmkjkkmilopcpaaPCellAll11
import Derived.Test.YtmkjkkmilopcpaaPCellAll12
import Derived.Test.YtmkjkkmilopcpaaPCellAll13
import Derived.Test.YtmkjkkmilopcpaaPCellAll14
namespace Go.Proofs.Ytmkjkkmilopcpaa.Q
open Go.RowKit Go.Proofs.YtmkjkkmilopcpaaW.PrintWords Go.Proofs.YtmkjkkmilopcpaaW.PrintLast Go.Proofs.YtmkjkkmilopcpaaW.PrintMore
set_option linter.unusedVariables false
set_option linter.unusedSimpArgs false
theorem within_eq (a n : Int) (h0 : 0 < n) (h1 : n ≤ 4611686018427387904) : hypercubelaw1_within.f a n = some (a % n) := by
 unfold hypercubelaw1_within.f
 rw [if_neg (by omega)]
 have hb := Int.emod_nonneg a (show n ≠ 0 by omega)
 have hl := Int.emod_lt_of_pos a h0
 by_cases ha : 0 ≤ a
 ·rw [Int.tmod_eq_emod_of_nonneg ha, if_neg (by omega)]
 ·have ht : Int.tmod a n = if a % n = 0 then 0 else a % n - n := by
   rw [Int.tmod_eq_emod]
   split
   ·rename_i h
    rcases h with h | h
    ·omega
    ·rw [Int.emod_eq_zero_of_dvd h]; simp
   ·rename_i h
    have : a % n ≠ 0 := fun e => h (.inr (Int.dvd_of_emod_eq_zero e))
    rw [if_neg this, Int.natAbs_of_nonneg (by omega)]
  by_cases hz : a % n = 0
  ·rw [ht, if_pos hz, if_neg (by omega), hz]
  ·rw [ht, if_neg hz, if_pos (by omega)]
   congr 1
   rw [w64 (by omega) (by omega)]
   omega
def checkP (cards : List Int) (meas : Int) : Bool := decide (1 ≤ cards.length) && decide (cards.length ≤ 4) && (cards.all fun x => decide (1 ≤ x) && decide (x ≤ 16)) && decide (0 ≤ meas) && decide (meas ≤ 2)
def rightP (cards : List Int) (meas : Int) (x : S45) : Bool := decide (x.f0.length = cards.length) && decide ((x.f1.length : Int) = meas) && (List.range x.f0.length).all fun i => decide (0 ≤ rd x.f0 i) && decide (rd x.f0 i < rd cards i)
theorem check_open {cards : List Int} {meas : Int} (h : checkP cards meas = true) : 1 ≤ cards.length ∧ cards.length ≤ 4 ∧ (∀ x ∈ cards, 1 ≤ x ∧ x ≤ 16) ∧ 0 ≤ meas ∧ meas ≤ 2 := by
 unfold checkP at h
 simp only [Bool.and_eq_true, decide_eq_true_eq, List.all_eq_true] at h
 exact ⟨h.1.1.1.1, h.1.1.1.2, fun x hx => h.1.1.2 x hx, h.1.2, h.2⟩
theorem check_mk {cards : List Int} {meas : Int} (h1 : 1 ≤ cards.length) (h2 : cards.length ≤ 4) (h3 : ∀ x ∈ cards, 1 ≤ x ∧ x ≤ 16) (h4 : 0 ≤ meas) (h5 : meas ≤ 2) : checkP cards meas = true := by
 unfold checkP
 simp only [Bool.and_eq_true, decide_eq_true_eq, List.all_eq_true]
 exact ⟨⟨⟨⟨h1, h2⟩, h3⟩, h4⟩, h5⟩
theorem right_open {cards : List Int} {meas : Int} {x : S45} (h : rightP cards meas x = true) : x.f0.length = cards.length ∧ (x.f1.length : Int) = meas ∧ ∀ i : Nat, i < x.f0.length → 0 ≤ rd x.f0 i ∧ rd x.f0 i < rd cards i := by
 unfold rightP at h
 simp only [Bool.and_eq_true, decide_eq_true_eq, List.all_eq_true, List.mem_range] at h
 exact ⟨h.1.1, h.1.2, fun i hi => h.2 i hi⟩
theorem right_mk {cards : List Int} {meas : Int} {x : S45} (h1 : x.f0.length = cards.length) (h2 : (x.f1.length : Int) = meas) (h3 : ∀ i : Nat, i < x.f0.length → 0 ≤ rd x.f0 i ∧ rd x.f0 i < rd cards i) : rightP cards meas x = true := by
 unfold rightP
 simp only [Bool.and_eq_true, decide_eq_true_eq, List.all_eq_true, List.mem_range]
 exact ⟨⟨h1, h2⟩, fun i hi => h3 i hi⟩
abbrev FR := List Int × Int × List S45
def RowOk (cards : List Int) (meas : Int) (x : S45) : Prop := rightP cards meas x = true ∧ ∀ y ∈ x.f1, -100 ≤ y ∧ y ≤ 100
theorem facts_l3 (x3 : List Int) (rows : List S45) (i : Nat) (hi : i < 1000) (kk : Int) (cards : List Int) (meas : Int) (hm0 : 0 ≤ meas) (hm : meas ≤ 2) (hrl : rows.length ≤ 1000) (key : List Int) {Q : FR → Prop}
  (H : ∀ ms : List Int, (ms.length : Int) = meas → (∀ y ∈ ms, -100 ≤ y ∧ y ≤ 100) → ∃ p, Ev (fun k => hypercubelaw1_Facts.l1 k x3 (rows ++ [⟨key, ms⟩]) ((i + 1 : Nat) : Int) cards meas) p ∧ Q p) (d : Nat) :
  ∀ (j : Nat) (ms : List Int), (meas.toNat - j) = d → (j : Int) ≤ meas → ms.length = j → (∀ y ∈ ms, -100 ≤ y ∧ y ≤ 100) → ∃ p, Ev (fun k => hypercubelaw1_Facts.l3 k x3 rows (i : Int) kk (j : Int) cards meas key ms) p ∧ Q p := by
 induction d with
 | zero =>
  intro j ms hd hj hl hb
  obtain ⟨p, h1, h2⟩ := H ms (by omega) hb
  exact ⟨p, Ev.step (fun k => by simp only [hypercubelaw1_Facts.l3]; rw [if_neg (by omega), if_pos (by omega), w64s hi (by omega)]) h1, h2⟩
 | succ d ih =>
  intro j ms hd hj hl hb
  have hw := within_eq (wrap64 (kk + (wrap64 (7 * (j : Int))))) 201 (by omega) (by omega)
  have b0 := Int.emod_nonneg (wrap64 (kk + (wrap64 (7 * (j : Int))))) (show (201 : Int) ≠ 0 by omega)
  have b1 := Int.emod_lt_of_pos (wrap64 (kk + (wrap64 (7 * (j : Int))))) (show (0 : Int) < 201 by omega)
  generalize (wrap64 (kk + (wrap64 (7 * (j : Int))))) % 201 = q at hw b0 b1
  obtain ⟨p, h1, h2⟩ := ih (j + 1) (ms ++ [wrap64 (q - 100)]) (by omega) (by omega) (by simp; omega) (fun y hy => by
   rcases List.mem_append.1 hy with hy | hy
   ·exact hb y hy
   ·rw [List.mem_singleton.1 hy, w64 (by omega) (by omega)]; omega)
  refine ⟨p, Ev.step (fun k => by simp only [hypercubelaw1_Facts.l3]; rw [if_pos (by omega), hw]; simp only [Option.bind_some]; rw [if_pos (by omega), w64s (show j < 1000 by omega) (by omega)]) h1, h2⟩
theorem facts_l2 (x3 : List Int) (rows : List S45) (i : Nat) (hi : i < 1000) (cards : List Int) (meas : Int) (hc : checkP cards meas = true) (hrl : rows.length ≤ 1000) {Q : FR → Prop}
  (H : ∀ x, RowOk cards meas x → ∃ p, Ev (fun k => hypercubelaw1_Facts.l1 k x3 (rows ++ [x]) ((i + 1 : Nat) : Int) cards meas) p ∧ Q p) (d : Nat) :
  ∀ (j : Nat) (kk : Int) (key : List Int), cards.length - j = d → j ≤ cards.length → key.length = j → (∀ a : Nat, a < key.length → 0 ≤ rd key a ∧ rd key a < rd cards a) →
   ∃ p, Ev (fun k => hypercubelaw1_Facts.l2 k x3 rows (i : Int) kk (j : Int) cards meas key) p ∧ Q p := by
 obtain ⟨h1, h2, h3, h4, h5⟩ := check_open hc
 induction d with
 | zero =>
  intro j kk key hd hj hl hb
  have := facts_l3 x3 rows i hi kk cards meas h4 h5 hrl key (fun ms hml hmb => H ⟨key, ms⟩ ⟨right_mk (by show key.length = _; omega) hml hb, hmb⟩) meas.toNat 0 [] (by omega) (by omega) rfl (by simp)
  obtain ⟨p, e1, e2⟩ := this
  exact ⟨p, Ev.step (fun k => by simp only [hypercubelaw1_Facts.l2]; rw [if_neg (by omega)]; rfl) e1, e2⟩
 | succ d ih =>
  intro j kk key hd hj hl hb
  have hja : j < cards.length := by omega
  have hcd := h3 cards[j] (List.getElem_mem hja)
  have hw := within_eq kk cards[j] (by omega) (by omega)
  have b0 := Int.emod_nonneg kk (show cards[j] ≠ 0 by omega)
  have b1 := Int.emod_lt_of_pos kk (show (0 : Int) < cards[j] by omega)
  generalize kk % cards[j] = q at hw b0 b1
  obtain ⟨p, e1, e2⟩ := ih (j + 1) (wrap64 (Int.tdiv kk 5)) (key ++ [q]) (by omega) (by omega) (by simp; omega) (fun a ha => by
   by_cases hak : a < key.length
   ·have hb1 := hb a hak
    have : rd (key ++ [q]) (a : Int) = rd key (a : Int) := by rw [rd_get ha, rd_get hak, List.getElem_append_left hak]
    rw [this]; exact hb1
   ·have hae : a = key.length := by simp at ha; omega
    subst hae
    have : rd (key ++ [q]) (key.length : Int) = q := by rw [rd_get ha]; simp
    rw [this, hl, rd_get hja]; exact ⟨b0, b1⟩)
  refine ⟨p, Ev.step (fun k => by simp only [hypercubelaw1_Facts.l2]; rw [if_pos (by omega), if_pos (by omega), rd_get hja, hw]; simp only [Option.bind_some]; rw [if_pos (by omega), w64s hja (by omega)]) e1, e2⟩
theorem facts_l1 (x3 : List Int) (cards : List Int) (meas : Int) (hc : checkP cards meas = true) (d : Nat) : ∀ (i : Nat) (rows : List S45), (min x3.length 40) - i = d → i ≤ min x3.length 40 → rows.length = i → (∀ x ∈ rows, RowOk cards meas x) →
  ∃ p, Ev (fun k => hypercubelaw1_Facts.l1 k x3 rows (i : Int) cards meas) p ∧ (p.1 = cards ∧ p.2.1 = meas ∧ p.2.2.length = min x3.length 40 ∧ ∀ x ∈ p.2.2, RowOk cards meas x) := by
 induction d with
 | zero =>
  intro i rows hd hi hl hr
  have fin : Ev (fun k => hypercubelaw1_Facts.j3 k x3 rows (i : Int) false cards meas) (cards, meas, rows) := Ev.step (fun k => by simp only [hypercubelaw1_Facts.j3]; rw [if_neg (by simp)]) (Ev.now _)
  refine ⟨(cards, meas, rows), ?_, rfl, rfl, by show rows.length = _; omega, hr⟩
  by_cases h : (i : Int) < x3.length
  ·have : decide ((i : Int) < 40) = false := decide_eq_false (by omega)
   exact Ev.step (fun k => by simp only [hypercubelaw1_Facts.l1]; rw [if_pos h, this]) fin
  ·exact Ev.step (fun k => by simp only [hypercubelaw1_Facts.l1]; rw [if_neg h]) fin
 | succ d ih =>
  intro i rows hd hi hl hr
  have hia : i < x3.length := by omega
  have hdec : decide ((i : Int) < 40) = true := decide_eq_true (by omega)
  obtain ⟨p, e1, e2⟩ := facts_l2 x3 rows i (by omega) cards meas hc (by omega) (fun x hx => ih (i + 1) (rows ++ [x]) (by omega) (by omega) (by simp; omega) (fun y hy => by
   rcases List.mem_append.1 hy with hy | hy
   ·exact hr y hy
   ·rw [List.mem_singleton.1 hy]; exact hx)) cards.length 0 (rd x3 i) [] (by omega) (by omega) rfl (fun a ha => by simp at ha)
  refine ⟨p, ?_, e2⟩
  refine Ev.step (fun k => by simp only [hypercubelaw1_Facts.l1]; rw [if_pos (by omega), hdec]) ?_
  exact Ev.step (fun k => by simp only [hypercubelaw1_Facts.j3]; rw [if_pos trivial, if_pos (by omega), if_pos (by omega)]; rfl) e1
theorem facts_l0 (x0 : Int) (x1 x3 : List Int) (meas : Int) (hm0 : 0 ≤ meas) (hm : meas ≤ 2) (d : Nat) : ∀ (i : Nat) (cards : List Int), (x0 % 4 + 1).toNat - i = d → (i : Int) ≤ x0 % 4 + 1 → cards.length = i → (∀ x ∈ cards, 1 ≤ x ∧ x ≤ 5) →
  ∃ p, Ev (fun k => hypercubelaw1_Facts.l0 k x0 x1 x3 (i : Int) cards meas) p ∧ (checkP p.1 p.2.1 = true ∧ p.2.1 = meas ∧ (p.1.length : Int) = x0 % 4 + 1 ∧ p.2.2.length = min x3.length 40 ∧ ∀ x ∈ p.2.2, RowOk p.1 p.2.1 x) := by
 have b0 := Int.emod_nonneg x0 (show (4 : Int) ≠ 0 by omega)
 have b1 := Int.emod_lt_of_pos x0 (show (0 : Int) < 4 by omega)
 have hw4 := within_eq x0 4 (by omega) (by omega)
 have hw7 := within_eq x0 7 (by omega) (by omega)
 induction d with
 | zero =>
  intro i cards hd hi hl hc
  have go : ∀ cs : List Int, cs.length = cards.length → (∀ x ∈ cs, 1 ≤ x ∧ x ≤ 16) → ∃ p, Ev (fun k => hypercubelaw1_Facts.j1 k x3 cs meas) p ∧ (checkP p.1 p.2.1 = true ∧ p.2.1 = meas ∧ (p.1.length : Int) = x0 % 4 + 1 ∧ p.2.2.length = min x3.length 40 ∧ ∀ x ∈ p.2.2, RowOk p.1 p.2.1 x) := by
   intro cs h1 h2
   have hck : checkP cs meas = true := check_mk (by omega) (by omega) h2 hm0 hm
   obtain ⟨p, e1, e2, e3, e4, e5⟩ := facts_l1 x3 cs meas hck (min x3.length 40) 0 [] (by omega) (by omega) rfl (by simp)
   refine ⟨p, Ev.step (fun k => by simp only [hypercubelaw1_Facts.j1]; rfl) e1, ?_, e3, ?_, e4, ?_⟩
   ·rw [e2, e3]; exact hck
   ·rw [e2]; omega
   ·rw [e2, e3]; exact e5
  by_cases h7 : x0 % 7 = 0
  ·obtain ⟨p, e1, e2⟩ := go (cards.set (0 : Int).toNat 16) (by simp) (fun x hx => by
    rcases List.mem_or_eq_of_mem_set hx with hx | rfl
    ·have := hc x hx; omega
    ·omega)
   refine ⟨p, ?_, e2⟩
   exact Ev.step (fun k => by simp only [hypercubelaw1_Facts.l0]; rw [hw4]; simp only [Option.bind_some]; rw [if_neg (by omega), hw7]; simp only [Option.bind_some]; rw [if_pos h7, if_pos (by omega)]) e1
  ·obtain ⟨p, e1, e2⟩ := go cards rfl (fun x hx => by have := hc x hx; omega)
   refine ⟨p, ?_, e2⟩
   exact Ev.step (fun k => by simp only [hypercubelaw1_Facts.l0]; rw [hw4]; simp only [Option.bind_some]; rw [if_neg (by omega), hw7]; simp only [Option.bind_some]; rw [if_neg h7]) e1
 | succ d ih =>
  intro i cards hd hi hl hc
  have next : ∀ q : Int, 0 ≤ q → q < 5 → ∃ p, Ev (fun k => hypercubelaw1_Facts.l0 k x0 x1 x3 ((i + 1 : Nat) : Int) (cards ++ [wrap64 (1 + q)]) meas) p ∧ (checkP p.1 p.2.1 = true ∧ p.2.1 = meas ∧ (p.1.length : Int) = x0 % 4 + 1 ∧ p.2.2.length = min x3.length 40 ∧ ∀ x ∈ p.2.2, RowOk p.1 p.2.1 x) := by
   intro q q0 q1
   refine ih (i + 1) (cards ++ [wrap64 (1 + q)]) (by omega) (by omega) (by simp; omega) (fun x hx => ?_)
   rcases List.mem_append.1 hx with hx | hx
   ·exact hc x hx
   ·rw [List.mem_singleton.1 hx, w64 (by omega) (by omega)]; omega
  by_cases h1 : (i : Int) < x1.length
  ·have hw := within_eq (rd x1 (i : Int)) 5 (by omega) (by omega)
   obtain ⟨p, e1, e2⟩ := next (rd x1 (i : Int) % 5) (by omega) (by omega)
   refine ⟨p, ?_, e2⟩
   exact Ev.step (fun k => by simp only [hypercubelaw1_Facts.l0]; rw [hw4]; simp only [Option.bind_some]; rw [if_pos (by omega), if_pos h1, if_pos (by omega), hw]; simp only [Option.bind_some]; rw [if_pos (by omega), w64s (show i < 1000 by omega) (by omega)]) e1
  ·have hw := within_eq (wrap64 ((i : Int) + 2)) 5 (by omega) (by omega)
   obtain ⟨p, e1, e2⟩ := next (wrap64 ((i : Int) + 2) % 5) (by omega) (by omega)
   refine ⟨p, ?_, e2⟩
   exact Ev.step (fun k => by simp only [hypercubelaw1_Facts.l0]; rw [hw4]; simp only [Option.bind_some]; rw [if_pos (by omega), if_neg h1, hw]; simp only [Option.bind_some]; rw [if_pos (by omega), w64s (show i < 1000 by omega) (by omega)]) e1
theorem facts_ev (a0 : Int) (l1 : List Int) (a2 : Int) (l3 : List Int) : ∃ cards meas rows, Ev (fun k => hypercubelaw1_Facts.f k a0 l1 a2 l3) (cards, meas, rows) ∧ checkP cards meas = true ∧ meas = a2 % 3 ∧ (cards.length : Int) = a0 % 4 + 1 ∧ rows.length = min l3.length 40 ∧ ∀ x ∈ rows, RowOk cards meas x := by
 have hw := within_eq a2 3 (by omega) (by omega)
 obtain ⟨⟨cards, meas, rows⟩, e1, e2, e3, e4, e5, e6⟩ := facts_l0 a0 l1 l3 (a2 % 3) (by omega) (by omega) (a0 % 4 + 1).toNat 0 [] (by omega) (by omega) rfl (by simp)
 refine ⟨cards, meas, rows, ?_, e2, e3, e4, e5, e6⟩
 exact Ev.congr (fun k => by unfold hypercubelaw1_Facts.f; rw [hw]; rfl) e1
theorem set_eq {cards : List Int} {meas : Int} (hc : checkP cards meas = true) (a : Int) : ∃ s, hypercubelaw2_Set.f cards meas a = some s ∧ 0 ≤ s ∧ s < 16 := by
 obtain ⟨h1, h2, _⟩ := check_open hc
 have go : ∀ n : Int, 0 < n → n ≤ 16 → ∃ s, ((hypercubelaw2_within.f a n).bind fun t => some t) = some s ∧ 0 ≤ s ∧ s < 16 := fun n h0 h16 => by
  rw [within2_eq a n h0 (by omega)]
  have := Int.emod_nonneg a (show n ≠ 0 by omega)
  have := Int.emod_lt_of_pos a h0
  exact ⟨a % n, rfl, by omega, by omega⟩
 unfold hypercubelaw2_Set.f
 have hl : cards.length = 1 ∨ cards.length = 2 ∨ cards.length = 3 ∨ cards.length = 4 := by omega
 rcases hl with h | h | h | h
 ·rw [h, if_pos (by decide), show shl .i64 1 (IntKind.u64.wrap ((1 : Nat) : Int)) = 2 by decide]; exact go 2 (by omega) (by omega)
 ·rw [h, if_pos (by decide), show shl .i64 1 (IntKind.u64.wrap ((2 : Nat) : Int)) = 4 by decide]; exact go 4 (by omega) (by omega)
 ·rw [h, if_pos (by decide), show shl .i64 1 (IntKind.u64.wrap ((3 : Nat) : Int)) = 8 by decide]; exact go 8 (by omega) (by omega)
 ·rw [h, if_pos (by decide), show shl .i64 1 (IntKind.u64.wrap ((4 : Nat) : Int)) = 16 by decide]; exact go 16 (by omega) (by omega)
def bitR (s : Int) (i : Nat) : Bool := decide (Go.bits .and .i64 (shr .i64 s (IntKind.u64.wrap (i : Int))) 1 = 1)
def keysR (s : Int) : Nat → List Int → List Int
 | _, [] => []
 | i, x :: xs => if bitR s i = true then x :: keysR s (i + 1) xs else keysR s (i + 1) xs
theorem keysR_length (s : Int) : ∀ (i : Nat) (l : List Int), (keysR s i l).length ≤ l.length
 | _, [] => by simp [keysR]
 | i, x :: xs => by
  have := keysR_length s (i + 1) xs
  unfold keysR
  split <;> simp <;> omega
def ofR (s : Int) (r : S45) : S30 := ⟨keysR s 0 r.f0, 1, r.f1, r.f1, r.f1⟩
def RegR (n : Nat) (r : S45) : Prop := r.f0.length ≤ 4 ∧ r.f1.length = n
theorem u64_nat (i : Nat) (h : i ≤ 1000) : 0 ≤ IntKind.u64.wrap (i : Int) := by
 have e : IntKind.u64.wrap (i : Int) = (i : Int) % 18446744073709551616 := rfl
 rw [e]; omega
theorem of_l0 (s : Int) (f0 f1 : List Int) (h0 : f0.length ≤ 4) (h1 : f1.length ≤ 100) (d : Nat) : ∀ (i : Nat) (acc : List Int), f0.length - i = d → i ≤ f0.length → acc.length ≤ i →
  Ev (fun k => hypercuberef2_Of.l0 k s (i : Int) f0 f1 acc 1) (acc ++ keysR s i (f0.drop i), 1, f1, f1, f1) := by
 induction d with
 | zero =>
  intro i acc hd hi ha
  have e : f0.drop i = [] := List.drop_eq_nil_of_le (by omega)
  rw [e]
  refine Ev.step (f := fun _ => some (acc, 1, f1, f1, f1)) (fun k => ?_) (by simp only [keysR, List.append_nil]; exact Ev.now _)
  simp only [hypercuberef2_Of.l0]
  rw [if_neg (by omega), Option.bind_some, if_pos (by simp; omega), Option.bind_some, if_pos (by simp; omega), Option.bind_some, if_pos (by simp; omega)]
  rfl
 | succ d ih =>
  intro i acc hd hi ha
  have hlt : i < f0.length := by omega
  rw [drop_cons hlt]
  unfold keysR
  by_cases hb : bitR s i = true
  ·have hb' : Go.bits .and .i64 (shr .i64 s (IntKind.u64.wrap (i : Int))) 1 = 1 := by unfold bitR at hb; simpa using hb
   have h := ih (i + 1) (acc ++ [f0[i]]) (by omega) (by omega) (by simp; omega)
   rw [List.append_assoc, List.singleton_append] at h
   rw [if_pos hb]
   exact Ev.step (fun k => by simp only [hypercuberef2_Of.l0]; rw [if_pos (by omega), if_pos (u64_nat i (by omega)), if_pos hb', if_pos (by omega), if_pos (by omega), rd_get hlt, w64s hlt (by omega)]) h
  ·have hb' : ¬ Go.bits .and .i64 (shr .i64 s (IntKind.u64.wrap (i : Int))) 1 = 1 := by unfold bitR at hb; simpa using hb
   have h := ih (i + 1) acc (by omega) (by omega) (by omega)
   rw [if_neg hb]
   exact Ev.step (fun k => by simp only [hypercuberef2_Of.l0]; rw [if_pos (by omega), if_pos (u64_nat i (by omega)), if_neg hb', w64s hlt (by omega)]) h
theorem of_ev {n : Nat} (hn : n ≤ 100) {r : S45} (hr : RegR n r) (s : Int) : Ev (fun k => hypercuberef2_Of.f k r.f0 r.f1 s) (tupC (ofR s r)) := by
 have h := of_l0 s r.f0 r.f1 hr.1 (by rw [hr.2]; exact hn) r.f0.length 0 [] (by omega) (by omega) (by simp)
 simp only [List.drop_zero, List.nil_append] at h
 exact Ev.congr (fun k => by unfold hypercuberef2_Of.f; rfl) h
theorem ofR_reg {n : Nat} {r : S45} (hr : RegR n r) (s : Int) : RegC n (ofR s r) := ⟨Nat.le_trans (keysR_length _ _ _) hr.1, hr.2, hr.2, hr.2⟩
def makeL (s : Int) (rows : List S45) : List S30 := rows.map (ofR s)
theorem makeL_reg {n : Nat} {rows : List S45} (hr : ∀ r ∈ rows, RegR n r) (s : Int) : RegL n (makeL s rows) := fun c hc => by
 obtain ⟨r, h, rfl⟩ := List.mem_map.1 hc
 exact ofR_reg (hr r h) s
theorem makeL_length (s : Int) (rows : List S45) : (makeL s rows).length = rows.length := by simp [makeL]
theorem rdR_get {l : List S45} {i : Nat} (h : i < l.length) : rd_T45 l (i : Int) = l[i] := by simp [rd_T45, List.getD_eq_getElem?_getD, h]
theorem facts_set (a0 : Int) (l1 : List Int) (a2 : Int) (l3 : List Int) (a4 : Int) : ∃ cards meas rows s n, Ev (fun k => hypercubelaw1_Facts.f k a0 l1 a2 l3) (cards, meas, rows) ∧ hypercubelaw2_Set.f cards meas a4 = some s ∧ checkP cards meas = true ∧ n ≤ 100 ∧ rows.length ≤ 40 ∧ (∀ r ∈ rows, RegR n r) ∧ (0 ≤ s ∧ s < 16) ∧ (∀ r ∈ rows, RowOk cards meas r) := by
 obtain ⟨cards, meas, rows, h1, h2, h3, h4, h5, h6⟩ := facts_ev a0 l1 a2 l3
 obtain ⟨s, hs, hs0⟩ := set_eq h2 a4
 obtain ⟨c1, c2, c3, c4, c5⟩ := check_open h2
 refine ⟨cards, meas, rows, s, meas.toNat, h1, hs, h2, by omega, by omega, fun r hr => ?_, hs0, h6⟩
 obtain ⟨r1, r2, _⟩ := right_open (h6 r hr).1
 exact ⟨by omega, by omega⟩
theorem ref_group_l0 {n : Nat} (hn : n ≤ 100) (l : List S30) (hr : RegL n l) (d : Nat) : ∀ (i : Nat) (acc : List S30), l.length - i = d → i ≤ l.length → RegL n acc → acc.length + (l.length - i) ≤ 1000000 → l.length ≤ 1000000 →
  Ev (fun k => hypercuberef2_Group.l0 k l acc (i : Int)) (putAll acc (l.drop i)) := by
 induction d with
 | zero =>
  intro i acc hd hi ha hb hl
  have e : l.drop i = [] := List.drop_eq_nil_of_le (by omega)
  rw [e]
  exact Ev.step (f := fun _ => some acc) (fun k => by simp only [hypercuberef2_Group.l0]; rw [if_neg (by omega)]) (Ev.now _)
 | succ d ih =>
  intro i acc hd hi ha hb hl
  have hlt : i < l.length := by omega
  have hx := hr _ (List.getElem_mem hlt)
  have := putL_length l[i] acc
  rw [drop_cons hlt, putAll_cons]
  refine Ev.step (f := fun k => (hypercuberef2_Put.f k acc (l[i]).f0 (l[i]).f1 (l[i]).f2 (l[i]).f3 (l[i]).f4).bind fun t => hypercuberef2_Group.l0 k l t ((i + 1 : Nat) : Int)) (fun k => ?_) (Ev.bind (ref_put_ev hn (by omega) ha hx) (ih (i + 1) _ (by omega) (by omega) (regL_put hx ha) (by omega) hl))
  simp only [hypercuberef2_Group.l0]
  rw [if_pos (by omega), if_pos (by omega), rdC_get hlt, w64s hlt (by omega)]
theorem ref_group_ev {n : Nat} (hn : n ≤ 100) {l : List S30} (hr : RegL n l) (hl : l.length ≤ 1000000) : Ev (fun k => hypercuberef2_Group.f k l) (groupL l) := by
 have h := ref_group_l0 hn l hr l.length 0 [] (by omega) (by omega) (regL_nil n) (by simpa using hl) hl
 simp only [List.drop_zero] at h
 exact Ev.congr (fun k => by unfold hypercuberef2_Group.f; rfl) h
theorem ref_facts_l0 {n : Nat} (hn : n ≤ 100) (s : Int) (rows : List S45) (hr : ∀ r ∈ rows, RegR n r) (d : Nat) : ∀ (i : Nat) (acc : List S30), rows.length - i = d → i ≤ rows.length → RegL n acc → acc.length + (rows.length - i) ≤ 1000000 → rows.length ≤ 1000000 →
  Ev (fun k => hypercuberef2_Facts.l0 k rows s acc (i : Int)) (putAll acc (makeL s (rows.drop i))) := by
 induction d with
 | zero =>
  intro i acc hd hi ha hb hl
  have e : rows.drop i = [] := List.drop_eq_nil_of_le (by omega)
  rw [e]
  exact Ev.step (f := fun _ => some acc) (fun k => by simp only [hypercuberef2_Facts.l0]; rw [if_neg (by omega)]) (Ev.now _)
 | succ d ih =>
  intro i acc hd hi ha hb hl
  have hlt : i < rows.length := by omega
  have hx := hr _ (List.getElem_mem hlt)
  have hc := ofR_reg hx s
  have := putL_length (ofR s rows[i]) acc
  rw [drop_cons hlt]
  show Ev _ (putAll acc (ofR s rows[i] :: makeL s (rows.drop (i + 1))))
  rw [putAll_cons]
  have hp : Ev (fun k => hypercuberef2_Put.f k acc (tupC (ofR s rows[i])).1 (tupC (ofR s rows[i])).2.1 (tupC (ofR s rows[i])).2.2.1 (tupC (ofR s rows[i])).2.2.2.1 (tupC (ofR s rows[i])).2.2.2.2) (putL (ofR s rows[i]) acc) := ref_put_ev hn (by omega) ha hc
  refine Ev.step (f := fun k => (hypercuberef2_Of.f k (rows[i]).f0 (rows[i]).f1 s).bind fun bt => (hypercuberef2_Put.f k acc bt.1 bt.2.1 bt.2.2.1 bt.2.2.2.1 bt.2.2.2.2).bind fun t => hypercuberef2_Facts.l0 k rows s t ((i + 1 : Nat) : Int)) (fun k => ?_) (Ev.bind (of_ev hn hx s) (Ev.bind hp (ih (i + 1) _ (by omega) (by omega) (regL_put hc ha) (by omega) hl)))
  simp only [hypercuberef2_Facts.l0]
  rw [if_pos (by omega), if_pos (by omega), rdR_get hlt, w64s hlt (by omega)]
theorem ref_facts_ev {n : Nat} (hn : n ≤ 100) {rows : List S45} (hr : ∀ r ∈ rows, RegR n r) (hl : rows.length ≤ 1000000) (s : Int) : Ev (fun k => hypercuberef2_Facts.f k rows s) (groupL (makeL s rows)) := by
 have h := ref_facts_l0 hn s rows hr rows.length 0 [] (by omega) (by omega) (regL_nil n) (by simpa using hl) hl
 simp only [List.drop_zero] at h
 exact Ev.congr (fun k => by unfold hypercuberef2_Facts.f; rfl) h
end Go.Proofs.Ytmkjkkmilopcpaa.Q
namespace Go.Proofs.Ytmkjkkmilopcpaa.Q
open Go.RowKit Go.Proofs.YtmkjkkmilopcpaaW.PrintWords Go.Proofs.YtmkjkkmilopcpaaW.PrintLast Go.Proofs.YtmkjkkmilopcpaaW.PrintMore
set_option linter.unusedVariables false
def narC (c : S30) (a b : Int) : S30 := ⟨narK c.f0 b 0 (dimsL a), c.f1, c.f2, c.f3, c.f4⟩
theorem dimsL_length (a : Int) : (dimsL a).length ≤ 4 := by
 have h := List.length_filter_le (bitOn a) (List.range 4)
 simpa [dimsL, dimsTo] using h
theorem narC_key (c : S30) (a b : Int) : (narC c a b).f0.length ≤ 4 := Nat.le_trans (narK_length c.f0 b (dimsL a) 0) (dimsL_length a)
theorem nar_eq {c : S30} (h : SmallC c) (a b : Int) : cell_Narrow.f c.f0 c.f1 c.f2 c.f3 c.f4 a b = some (tupC (narC c a b)) := by
 unfold cell_Narrow.f
 rw [own_eq c h, Option.bind_some, clone_eq _ (by have := narC_key c a b; unfold narC at this; dsimp only at this; omega), Option.bind_some]
 rfl
theorem bit_nat (i : Nat) (h : i ≤ 63) : (IntKind.u64.wrap (i : Int)).toNat = i ∧ min i 64 = i := by
 have : IntKind.u64.wrap (i : Int) = (i : Int) := by
  have e : IntKind.u64.wrap (i : Int) = (i : Int) % 18446744073709551616 := rfl
  rw [e]; omega
 rw [this]
 exact ⟨by omega, by omega⟩
theorem bitR_on (s : Int) (i : Nat) (h : i ≤ 63) : bitR s i = bitOn s i := by
 unfold bitR bitOn shr
 rw [(bit_nat i h).1, show min i (IntKind.i64).bits = i from (bit_nat i h).2]
theorem bitN_on (s : Int) (i : Nat) (h : i ≤ 63) : bitN s i = bitOn s i := by
 unfold bitN bitOn
 rw [(bit_nat i h).2]
theorem narK_end (key : List Int) (t : Int) : ∀ (is : List Nat) (a : Nat), key.length ≤ a → narK key t a is = []
 | [], _, _ => rfl
 | i :: is, a, h => by
  simp only [narK]
  rw [if_neg (fun hh => by omega), narK_end key t is (a + 1) (by omega)]
theorem nar_keys (a b : Int) (hb : ∀ i, i < 4 → bitOn b i = true → bitOn a i = true) : ∀ (l : List Int) (i : Nat) (pre : List Int), i + l.length ≤ 4 → ∀ m, l.length ≤ m → i + m ≤ 4 → narK (pre ++ keysR a i l) b pre.length ((List.range' i m).filter (bitOn a)) = keysR b i l
 | [], i, pre, _, m, _, _ => by
  rw [narK_end _ _ _ _ (by simp [keysR])]
  rfl
 | x :: xs, i, pre, hi, 0, hm, _ => by simp at hm
 | x :: xs, i, pre, hi, m + 1, hm, hm4 => by
  have hi' : i + (xs.length + 1) ≤ 4 := by simpa using hi
  have hR := bitR_on a i (by omega)
  have hRb := bitR_on b i (by omega)
  have hN := bitN_on b i (by omega)
  rw [List.range'_succ]
  simp only [keysR, hR, hRb]
  by_cases ha : bitOn a i = true
  ·rw [if_pos ha, List.filter_cons_of_pos ha]
   have ih := nar_keys a b hb xs (i + 1) (pre ++ [x]) (by omega) m (by simp at hm; omega) (by omega)
   rw [List.append_assoc, List.singleton_append, List.length_append, List.length_singleton] at ih
   simp only [narK, hN]
   by_cases hbb : bitOn b i = true
   ·rw [if_pos ⟨hbb, by simp⟩, if_pos hbb, ih]
    congr 1
    rw [rd_get (by simp)]
    simp
   ·rw [if_neg (fun h => hbb h.1), if_neg hbb, ih]
  ·have hbb : ¬ bitOn b i = true := fun h => ha (hb i (by omega) h)
   rw [if_neg ha, if_neg hbb, List.filter_cons_of_neg ha]
   exact nar_keys a b hb xs (i + 1) pre (by omega) m (by simp at hm; omega) (by omega)
theorem nar_of {a b : Int} (hb : ∀ i, i < 4 → bitOn b i = true → bitOn a i = true) {r : S45} (h : r.f0.length ≤ 4) : narC (ofR a r) a b = ofR b r := by
 have := nar_keys a b hb r.f0 0 [] (by omega) 4 h (by omega)
 rw [List.nil_append, List.length_nil, ← List.range_eq_range'] at this
 unfold narC ofR
 dsimp only
 rw [show dimsL a = (List.range 4).filter (bitOn a) from rfl, this]
theorem bits_sub_fin : ∀ a t : Fin 16, ∀ i : Fin 4, bitOn (Go.bits .and .i64 (a.1 : Int) (t.1 : Int)) i.1 = true → bitOn (a.1 : Int) i.1 = true := by decide +kernel
theorem bits_sub {a t : Int} (ha : 0 ≤ a ∧ a < 16) (ht : 0 ≤ t ∧ t < 16) : ∀ i, i < 4 → bitOn (Go.bits .and .i64 a t) i = true → bitOn a i = true := fun i hi => by
 have h := bits_sub_fin ⟨a.toNat, by omega⟩ ⟨t.toNat, by omega⟩ ⟨i, hi⟩
 dsimp only at h
 rw [show ((a.toNat : Nat) : Int) = a by omega, show ((t.toNat : Nat) : Int) = t by omega] at h
 exact h
theorem dims_keys (s : Int) : ∀ (l pre : List Int) (i : Nat), pre.length = i → i + l.length ≤ 4 → ∀ m, l.length ≤ m → i + m ≤ 4 → (((List.range' i m).filter (bitOn s)).filter (fun j => decide (j < (pre ++ l).length))).map (fun j : Nat => rd (pre ++ l) (j : Int)) = keysR s i l
 | [], pre, i, hp, _, m, _, _ => by
  have h : ((List.range' i m).filter (bitOn s)).filter (fun j => decide (j < (pre ++ ([] : List Int)).length)) = [] := by
   rw [List.filter_eq_nil_iff]
   intro j hj
   have hj' := (List.mem_filter.1 hj).1
   have := List.mem_range'_1.1 hj'
   simp [hp]; omega
  rw [h]; rfl
 | x :: xs, pre, i, hp, hi, 0, hm, _ => by simp at hm
 | x :: xs, pre, i, hp, hi, m + 1, hm, hm4 => by
  have hi' : i + (xs.length + 1) ≤ 4 := by simpa using hi
  have ih := dims_keys s xs (pre ++ [x]) (i + 1) (by simp [hp]) (by omega) m (by simp at hm; omega) (by omega)
  rw [List.append_assoc, List.singleton_append] at ih
  have hR := bitR_on s i (by omega)
  rw [List.range'_succ]
  simp only [keysR, hR]
  by_cases ha : bitOn s i = true
  ·rw [if_pos ha, List.filter_cons_of_pos ha, List.filter_cons_of_pos (by simp; omega), List.map_cons, ih]
   congr 1
   rw [rd_get (by simp; omega)]
   simp [← hp]
  ·rw [if_neg ha, List.filter_cons_of_neg ha, ih]
theorem of_eq {n : Nat} (hn : n ≤ 100) {y : S45} (h : RegR n y) (s : Int) : cell_Of.f y.f0 y.f1 s = some (tupC (ofR s y)) := by
 have h1 : y.f1.length ≤ 100 := by rw [h.2]; exact hn
 have hk := dims_keys s y.f0 [] 0 rfl (by have := h.1; omega) 4 h.1 (by omega)
 rw [List.nil_append, ← List.range_eq_range'] at hk
 have hd : cell_dims.f y.f0 s = some (keysR s 0 y.f0) := by rw [← hk]; rfl
 have hkl := keysR_length s 0 y.f0
 unfold cell_Of.f
 rw [clone_eq y.f1 (by omega), Option.bind_some, Option.bind_some, Option.bind_some, hd, Option.bind_some, clone_eq _ (by have := h.1; omega), Option.bind_some]
 rfl
theorem ev_all (P : Nat → Nat → Prop) : ∀ n : Nat, (∀ i, i < n → ∃ K, ∀ k, K ≤ k → P i k) → ∃ K, ∀ k, K ≤ k → ∀ i, i < n → P i k
 | 0, _ => ⟨0, fun _ _ i hi => absurd hi (by omega)⟩
 | n + 1, h => by
  obtain ⟨K1, h1⟩ := ev_all P n (fun i hi => h i (by omega))
  obtain ⟨K2, h2⟩ := h n (by omega)
  refine ⟨K1 + K2, fun k hk i hi => ?_⟩
  by_cases e : i = n
  ·subst e; exact h2 k (by omega)
  ·exact h1 k (by omega) i (by omega)
end Go.Proofs.Ytmkjkkmilopcpaa.Q
