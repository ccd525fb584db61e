-- packed by wip/tools/pack.py (a program of this session) out of its own texts
import Derived.Test.YtndkimjmbpbcmaaPMergeAll0
import Derived.ArgAppend
import Derived.Below
import Derived.BigQuiet
import Derived.Deep.AppendLies
import Derived.Deep.CutBlock
import Derived.Deep.DeepCutAuto
import Derived.Deep.Draws
import Derived.Deep.LoopGhost
import Derived.Deep.OwnRows
import Derived.Deep.QuietTactic
import Derived.Deep.RegionHeld3
import Derived.KernelRfl
import Derived.Laws.BitsLemmas
import Derived.Laws.BytesArg
import Derived.Laws.EntriesVeiled
import Derived.Laws.Externs
import Derived.Laws.IdiomCopy
import Derived.Laws.MakeOwn
import Derived.Laws.OwnMore
import Derived.Laws.Rows
import Derived.Laws.Slices
import Derived.Lib.AppendStr
import Derived.Lib.AppendZeros
import Derived.Lib.AppendZerosOnto
import Derived.Lib.ConvBytes
import Derived.Lib.JoinLaws
import Derived.Lib.Overlaps
import Derived.Lib.SliceRun
import Derived.Lib.Walk
import Derived.LoopIn
import Derived.LoopNIn
import Derived.Maps.AppendAt
import Derived.OrdersHeld
import Derived.OrdersIn
import Derived.OwnWalk
import Derived.OwnWalkIn
import Derived.RangeFuncBound
import Derived.RangeFuncBox
import Derived.RangeFuncCalls
import Derived.RangeFuncLeaves
import Derived.RangeFuncNested
import Derived.RangeFuncOwn
import Derived.RowKit
import Derived.RowKit3
import Derived.Shelf.Abstract
import Derived.Shelf.RegionOpen
import Derived.Shelf.RegionOpenPlain
import Derived.Tactics
import Derived.TacticsInMore
import Derived.Test.YtndkimjmbpbcmaaProg
import Derived.WalkKit
import Derived.WalkSpells
import Derived.WideLaws
import Derived.Test.YtndkimjmbpbcmaaPMergeAll1
import Derived.Test.YtndkimjmbpbcmaaPMergeAll3
import Derived.Test.YtndkimjmbpbcmaaPMergeAll4
import Derived.Test.YtndkimjmbpbcmaaPMergeAll5
import Derived.Test.YtndkimjmbpbcmaaPMergeAll6
import Derived.Test.YtndkimjmbpbcmaaPMergeAll7
import Derived.Test.YtndkimjmbpbcmaaPMergeAll8
import Derived.Test.YtndkimjmbpbcmaaPMergeAll9
import Derived.Test.YtndkimjmbpbcmaaPMergeAll10
import Derived.Test.YtndkimjmbpbcmaaPMergeAll11
import Derived.Test.YtndkimjmbpbcmaaPMergeAll12
import Derived.Test.YtndkimjmbpbcmaaPMergeAll13
import Derived.Test.YtndkimjmbpbcmaaPMergeAll14
namespace Go.Proofs.Ytndkimjmbpbcmaa.Q
open Go.RowKit Go.Shelf Go.Proofs.YtndkimjmbpbcmaaW.PrintWords Go.Proofs.YtndkimjmbpbcmaaW.PrintLast Go.Proofs.YtndkimjmbpbcmaaW.PrintMore
set_option linter.unusedVariables false
set_option linter.unusedSimpArgs false
theorem S_one {w : World} {base : Nat} {v : Value} {y : S44} (h : Kd.S k44 44 w base (fun _ => True) v [y]) : ∃ g9 c9 cur cs, v = .slice (some ⟨g9, 0, none⟩) 1 c9 ∧ base ≤ g9 ∧ 1 ≤ c9 ∧ w.heap[g9]? = some (.cells cur 44 (0, 0)) ∧ cur.toList.take 5 = cs ∧ k44.M w base (fun _ => True) y cs := by
 obtain ⟨f, h0, inner, hown, hr⟩ := h
 have hz : [y].zipIdx = [(y, 0)] := rfl
 rw [hz] at hown hr
 obtain ⟨hil, hown⟩ := hown
 rcases hown with ⟨_, h1⟩ | ⟨g, cap, cur, hv, hb, hh, hnc, hcm, hcs, ht⟩
 ·simp at h1
 ·refine ⟨g, cap, cur, inner, hv, hb, hnc, hh, ?_, ?_⟩
  ·exact ht
  ·have h2 := hr.2 0 (y, 0) rfl
   have hl : inner.length = 5 := hil
   have e : (inner.drop (0 * 5)).take 5 = inner := by rw [Nat.zero_mul, List.drop_zero]; exact List.take_of_length_le (by omega)
   exact e ▸ k44.M_mono (fun _ _ => trivial) h2
theorem C_one {w : World} {g : Nat} {x : S44} {cs : List Value} {t : Nat} (hh : w.heap[g]? = some (.cells cs.toArray t (0, 0))) (hK : k44.K w x cs) (hl : cs.length = 5) : Kd.C k44 w (some ⟨g, 0, none⟩) 1 [x] := by
 refine ⟨rfl, by show (1 : Nat) ≤ _; decide, fun _ => ⟨_, rfl, fun j p hj => ⟨cs, hl, ?_, fun q u hq => ?_⟩⟩⟩
 ·have : j = 0 := by have := (List.getElem?_eq_some_iff.1 hj).1; simp at this; exact this
  subst this
  have e : x = p := by simpa using hj
  exact e ▸ hK
 ·have : j = 0 := by have := (List.getElem?_eq_some_iff.1 hj).1; simp at this; exact this
  subst this
  rw [Addr.add_lit, cell_of_row w g _ _ _ _ hh, List.getElem?_toArray]
  simpa using hq
def ownM.f (k : Nat) (x : S44) : Option S44 := (cell_Group.f k [x]).bind fun g => match g with
 | [y] => some y
 | _ => none
theorem ownM.group {k : Nat} {x y : S44} (h : ownM.f k x = some y) : cell_Group.f k [x] = some [y] := by
 unfold ownM.f at h
 obtain ⟨g, hg, h⟩ := Option.bind_eq_some_iff.1 h
 split at h
 ·cases h
  exact hg
 ·cases h
set_option maxRecDepth 100000 in
set_option maxHeartbeats 4000000 in
theorem ownM_calls (k : Nat) (A0 : Option Addr) (c0 : Nat) (A2 : Option Addr) (c2 : Nat) (A3 : Option Addr) (c3 : Nat) (A4 : Option Addr) (c4 : Nat) (x y : S44) (w : World) (hr0 : Kd.C (Kd.int .i64) w A0 x.f0.length x.f0) (hc0 : x.f0.length ≤ c0) (hr2 : Kd.C (Kd.int .i64) w A2 x.f2.length x.f2) (hc2 : x.f2.length ≤ c2)
  (hr3 : Kd.C (Kd.int .i64) w A3 x.f3.length x.f3) (hc3 : x.f3.length ≤ c3) (hr4 : Kd.C (Kd.int .i64) w A4 x.f4.length x.f4) (hc4 : x.f4.length ≤ c4) (h : ownM.f k x = some y) :
  Calls Try.prog 38 #[.agg #[.slice A0 x.f0.length c0, .int .i64 x.f1, .slice A2 x.f2.length c2, .slice A3 x.f3.length c3, .slice A4 x.f4.length c4]] w fun e w' => ∃ E0 d0 E2 d2 E3 d3 E4 d4, e = .returned (.agg #[.slice E0 y.f0.length d0, .int .i64 y.f1, .slice E2 y.f2.length d2, .slice E3 y.f3.length d3, .slice E4 y.f4.length d4]) ∧ k44.M w' w.heap.size (fun k => w.heap.size ≤ k) y [.slice E0 y.f0.length d0, .int .i64 y.f1, .slice E2 y.f2.length d2, .slice E3 y.f3.length d3, .slice E4 y.f4.length d4] ∧ Below w.heap.size w w' := by
 have hu44 := Try.underlying44
 have HG := am (ownM.group h)
 have HC0 := am (And.intro hr0 hc0)
 have HC2 := am (And.intro hr2 hc2)
 have HC3 := am (And.intro hr3 hc3)
 have HC4 := am (And.intro hr4 hc4)
 clear h hr0 hc0 hr2 hc2 hr3 hc3 hr4 hc4
 go_enter Try.func38, Try.ntmps38
 go_wp2_with (fail)
 obtain ⟨w2, hw2⟩ : ∃ w2, w2 = (w.alloc (.cells #[.slice A0 x.f0.length c0, .int .i64 x.f1, .slice A2 x.f2.length c2, .slice A3 x.f3.length c3, .slice A4 x.f4.length c4] 44)).alloc (.cells #[.slice none 0 0, .int .i64 0, .slice none 0 0, .slice none 0 0, .slice none 0 0] 44) := ⟨_, rfl⟩
 have hs2 : w2.heap.size = w.heap.size + 1 + 1 := by rw [hw2]; simp
 have hb2 : Below w.heap.size w w2 := by rw [hw2]; exact below_alloc (below_alloc (Below.refl _ _) _) _
 have hz2 : w2.heap[w.heap.size + 1]? = some (.cells #[.slice none 0 0, .int .i64 0, .slice none 0 0, .slice none 0 0, .slice none 0 0] 44 (0, 0)) := by
  rw [hw2, ← World.size_alloc w (.cells #[.slice A0 x.f0.length c0, .int .i64 x.f1, .slice A2 x.f2.length c2, .slice A3 x.f3.length c3, .slice A4 x.f4.length c4] 44)]
  exact heap_alloc_new _ _
 rw [← hw2, ← hs2]
 clear hw2
 have hnew := blk_new w2 (.cells #[.slice A0 x.f0.length c0, .int .i64 x.f1, .slice A2 x.f2.length c2, .slice A3 x.f3.length c3, .slice A4 x.f4.length c4] 44)
 have hb3 := below_alloc (Below.refl w2.heap.size w2) (.cells #[.slice A0 x.f0.length c0, .int .i64 x.f1, .slice A2 x.f2.length c2, .slice A3 x.f3.length c3, .slice A4 x.f4.length c4] 44)
 generalize w2.alloc (.cells #[.slice A0 x.f0.length c0, .int .i64 x.f1, .slice A2 x.f2.length c2, .slice A3 x.f3.length c3, .slice A4 x.f4.length c4] 44) = w3 at hnew hb3 ⊢
 have hB3 : Below w.heap.size w w3 := hb2.trans (hb3.mono hb2.size)
 have hz3 := blk_below hz2 hb3
 refine (cell_Group.calls k (some ⟨w2.heap.size, 0, none⟩) 1 [x] [y] w3 (C_one hnew (k44_mk w3 x HC0.out.2 (Kd.C_below HC0.out.1 hB3) HC2.out.2 (Kd.C_below HC2.out.1 hB3) HC3.out.2 (Kd.C_below HC3.out.1 hB3) HC4.out.2 (Kd.C_below HC4.out.1 hB3)) rfl) (Nat.le_refl _) HG.out).mono ?_
 rintro e W ⟨vg, rfl, hvg, hb⟩
 obtain ⟨g9, c9, cur, cs9, rfl, hg9, hc9, hh9, ht9, hM9⟩ := S_one hvg
 have hBW : Below w.heap.size w W := hB3.trans (hb.mono hB3.size)
 have hzW := blk_below hz3 hb
 obtain ⟨v0, v2, v3, v4, ecs, g0, g2, g3, g4⟩ := k44_openM hM9
 obtain ⟨E0, d0, rfl⟩ := Kd.R_slice g0
 obtain ⟨E2, d2, rfl⟩ := Kd.R_slice g2
 obtain ⟨E3, d3, rfl⟩ := Kd.R_slice g3
 obtain ⟨E4, d4, rfl⟩ := Kd.R_slice g4
 subst ecs
 clear g0 g2 g3 g4
 have HM := am (k44.M_lower hB3.size (k44.M_mono (ok' := fun k => w3.heap.size ≤ k) (fun k hk => hk.2.1) (k44.M_bound hM9)))
 have HL := am (show w.heap.size + 1 < w3.heap.size by have := hb3.size; have := blk_lt hnew; omega)
 have hq : ∀ j u, [Value.slice E0 y.f0.length d0, .int .i64 y.f1, .slice E2 y.f2.length d2, .slice E3 y.f3.length d3, .slice E4 y.f4.length d4][j]? = some u → W.cell? ⟨g9, j, none⟩ = some u := fun j u hj => by
  rw [cell_of_row W g9 _ _ _ _ hh9]
  rw [← ht9] at hj
  have hl := (List.getElem?_eq_some_iff.1 hj).1
  rw [List.getElem?_take] at hj
  split at hj
  ·simpa using hj
  ·cases hj
 have q0 := hq 0 _ rfl
 have q1 := hq 1 _ rfl
 have q2 := hq 2 _ rfl
 have q3 := hq 3 _ rfl
 have q4 := hq 4 _ rfl
 have z0 := (blk_cell hzW 0).trans rfl
 have z1 := (blk_cell hzW 1).trans rfl
 have z2 := (blk_cell hzW 2).trans rfl
 have z3 := (blk_cell hzW 3).trans rfl
 have z4 := (blk_cell hzW 4).trans rfl
 have zf0 := blk_frozen hzW 0
 have zf1 := blk_frozen hzW 1
 have zf2 := blk_frozen hzW 2
 have zf3 := blk_frozen hzW 3
 have zf4 := blk_frozen hzW 4
 have HBW := am hBW
 have HZ := am hzW
 clear hq hM9 hvg hb hb2 hb3 hB3 hz2 hz3 hnew hBW hzW hh9 ht9 hg9 HG HC0 HC2 HC3 HC4
 go_wp2_with (fail)
 refine bodyPost_ret (results_cell_row rfl _ _ (w.heap.size + 1) 44 #[.slice E0 y.f0.length d0, .int .i64 y.f1, .slice E2 y.f2.length d2, .slice E3 y.f3.length d3, .slice E4 y.f4.length d4] (0, 0) _ rfl (by refine blk_put (cs := #[.slice E0 y.f0.length d0, .int .i64 y.f1, .slice E2 y.f2.length d2, .slice E3 y.f3.length d3, .slice none 0 0]) ?_ 4 _ rfl; refine blk_put (cs := #[.slice E0 y.f0.length d0, .int .i64 y.f1, .slice E2 y.f2.length d2, .slice none 0 0, .slice none 0 0]) ?_ 3 _ rfl; refine blk_put (cs := #[.slice E0 y.f0.length d0, .int .i64 y.f1, .slice none 0 0, .slice none 0 0, .slice none 0 0]) ?_ 2 _ rfl; refine blk_put (cs := #[.slice E0 y.f0.length d0, .int .i64 0, .slice none 0 0, .slice none 0 0, .slice none 0 0]) ?_ 1 _ rfl; refine blk_put (cs := #[.slice none 0 0, .int .i64 0, .slice none 0 0, .slice none 0 0, .slice none 0 0]) ?_ 0 _ rfl; exact HZ.out) Try.underlying44 rfl (by kernel_rfl)) rfl ?_
 exact ⟨_, _, _, _, _, _, _, _, rfl, k44.M_mono (fun k hk => by have := HL.out; omega) (k44.M_move (fun k hk => Below.heap_setCell _ _ _ k (by have := HL.out; show k ≠ w.heap.size + 1; omega)) (k44.M_move (fun k hk => Below.heap_setCell _ _ _ k (by have := HL.out; show k ≠ w.heap.size + 1; omega)) (k44.M_move (fun k hk => Below.heap_setCell _ _ _ k (by have := HL.out; show k ≠ w.heap.size + 1; omega)) (k44.M_move (fun k hk => Below.heap_setCell _ _ _ k (by have := HL.out; show k ≠ w.heap.size + 1; omega)) (k44.M_move (fun k hk => Below.heap_setCell _ _ _ k (by have := HL.out; show k ≠ w.heap.size + 1; omega)) HM.out))))), (below_set (below_set (below_set (below_set (below_set HBW.out (by show w.heap.size ≤ w.heap.size + 1; omega)) (by show w.heap.size ≤ w.heap.size + 1; omega)) (by show w.heap.size ≤ w.heap.size + 1; omega)) (by show w.heap.size ≤ w.heap.size + 1; omega)) (by show w.heap.size ≤ w.heap.size + 1; omega))⟩
end Go.Proofs.Ytndkimjmbpbcmaa.Q
namespace Go.Proofs.Ytndkimjmbpbcmaa.Q
open Go.RowKit Go.Shelf Go.Proofs.YtndkimjmbpbcmaaW.PrintWords Go.Proofs.YtndkimjmbpbcmaaW.PrintLast Go.Proofs.YtndkimjmbpbcmaaW.PrintMore
set_option linter.unusedVariables false
set_option linter.unusedSimpArgs false
attribute [local go_sem] Oper.semAt_some
def Ch (L : Nat) (bad : Nat → Prop) (w W : World) : Prop := Below 0 w W ∧ ∀ k, k < w.heap.size → ¬ bad k → (k < L ∨ ∃ o, w.heap[k]? = some o ∧ o.isCells = false) → W.heap[k]? = w.heap[k]?
theorem Ch.refl (L : Nat) (bad : Nat → Prop) (w : World) : Ch L bad w w := ⟨Below.refl _ _, fun _ _ _ _ => rfl⟩
theorem Ch.trans {L : Nat} {bad : Nat → Prop} {w W W2 : World} (h : Ch L bad w W) (h2 : Ch L bad W W2) : Ch L bad w W2 :=
 ⟨h.1.trans (h2.1.mono (Nat.zero_le _)), fun k hk hb hc => by
  have e := h.2 k hk hb hc
  refine (h2.2 k (Nat.lt_of_lt_of_le hk h.1.size) hb (hc.imp id fun ⟨o, ho, hn⟩ => ⟨o, e.trans ho, hn⟩)).trans e⟩
theorem Ch.below {L : Nat} {bad : Nat → Prop} {w W : World} (h : Below w.heap.size w W) : Ch L bad w W := ⟨h.mono (Nat.zero_le _), fun k hk _ _ => h.block k hk⟩
theorem Ch.grown {L : Nat} {bad : Nat → Prop} {w W : World} {row : Option Nat} (h : w.grownBy W row) (hr : ∀ k, row = some k → L ≤ k ∧ ∃ cs t f, w.heap[k]? = some (.cells cs t f)) : Ch L bad w W :=
 ⟨(Below.refl 0 w).grown h (Nat.zero_le _) (fun _ _ => Nat.zero_le _), fun k hk _ hc => h.block k hk (fun e => by
  obtain ⟨h1, cs, t, f, h2⟩ := hr k e.symm
  rcases hc with hc | ⟨o, ho, hn⟩
  ·omega
  ·rw [ho] at h2
   cases h2
   cases hn)⟩
theorem Ch.set {L : Nat} {bad : Nat → Prop} {w : World} {g j : Nat} {u : Value} (h : bad g) : Ch L bad w (w.setCell ⟨g, j, none⟩ u) :=
 ⟨(Below.refl 0 w).setCell (Nat.zero_le _) _, fun k hk hb _ => Below.heap_setCell _ _ _ _ (fun e => hb (e ▸ h))⟩
def two.T11 : Bool × List (List Nat × List Nat) := (true, [([], []), ([], []), ([1], [1]), ([2], [2]), ([0, 3, 2], [0, 3]), ([4, 4, 0, 1, 2, 3, 4], [4])])
def two.B11 : List Nat := [0, 0, 2, 6, 15, 31]
theorem two.tab11 : rtab .any (opsOf Try.f23 11) = two.T11 := by kernel_rfl
theorem two.bits11 : waitsOk two.T11.2 two.B11 = true := by kernel_rfl
set_option maxHeartbeats 4000000 in
set_option maxRecDepth 100000 in
theorem two_r11 {m l k L go gx : Nat} {w : World} {A A0 A2 A3 A4 : Option Addr} {c c0 c2 c3 c4 : Nat} {out : List S44} {x y : S44} {Q : Exit → Act → World → Prop} (hQ : ¬ LetsOut Q) (hQp : ∀ c a a' w, Q (.panic c) a w → Q (.panic c) a' w) {u0 u1 u2 u3 u4 u6 u8 u9 u10 u11 u12 u13 u14 u15 u16 u17 u18 u19 u20 u21 u22 u23 u24 u25 u26 u27 u28 u29 u30 u31 u32 u33 u34 u35 u36 u37 u38 u39 u40 u41 u42 u43 u44 u45 u46 u47 u48 u49 u50 u51 u52 u53 u54 u55 u56 u57 u58 u59 u60 u61 u62 u63 u64 u65 u66 u67 u68 u69 u70 u71 u72 u73 u74 u75 u76 u77 u78 u79 : Value}
    (hko : w.heap[go]? = some (.cells #[.slice A out.length c] 31 (0, 0))) (hkx : w.heap[gx]? = some (.cells #[.slice A0 x.f0.length c0, .int .i64 x.f1, .slice A2 x.f2.length c2, .slice A3 x.f3.length c3, .slice A4 x.f4.length c4] 44 (0, 0))) (hne : go ≠ gx) (hS : Kd.S k44 44 w L (fun k => k ≠ go ∧ k ≠ gx) (.slice A out.length c) out) (hL : L ≤ w.heap.size)
    (hr0 : Kd.C (Kd.int .i64) w A0 x.f0.length x.f0) (hc0 : x.f0.length ≤ c0) (hr2 : Kd.C (Kd.int .i64) w A2 x.f2.length x.f2) (hc2 : x.f2.length ≤ c2) (hr3 : Kd.C (Kd.int .i64) w A3 x.f3.length x.f3) (hc3 : x.f3.length ≤ c3) (hr4 : Kd.C (Kd.int .i64) w A4 x.f4.length x.f4) (hc4 : x.f4.length ≤ c4) (h : ownM.f k x = some y) (hl : out.length < 1353245080339)
    (hK : ∀ v W z0 z1 z2 z3 z4, W.heap[go]? = some (.cells #[v] 31 (0, 0)) → W.heap[gx]? = some (.cells #[.slice A0 x.f0.length c0, .int .i64 x.f1, .slice A2 x.f2.length c2, .slice A3 x.f3.length c3, .slice A4 x.f4.length c4] 44 (0, 0)) → Kd.S k44 44 W L (fun k => k ≠ go ∧ k ≠ gx) v (out ++ [y]) → Ch L (· = go) w W → Q .normal { tmps := (List.toArray (u0 :: u1 :: u2 :: u3 :: u4 :: .pointer (some ⟨go, 0, none⟩) :: u6 :: .pointer (some ⟨gx, 0, none⟩) :: u8 :: u9 :: u10 :: u11 :: u12 :: u13 :: u14 :: u15 :: u16 :: u17 :: u18 :: u19 :: u20 :: u21 :: u22 :: u23 :: u24 :: u25 :: u26 :: u27 :: u28 :: u29 :: u30 :: u31 :: u32 :: u33 :: u34 :: u35 :: u36 :: u37 :: u38 :: u39 :: u40 :: u41 :: u42 :: u43 :: u44 :: u45 :: u46 :: u47 :: u48 :: u49 :: u50 :: u51 :: u52 :: u53 :: u54 :: u55 :: u56 :: u57 :: u58 :: u59 :: u60 :: u61 :: u62 :: z0 :: z1 :: z2 :: z3 :: z4 :: u68 :: u69 :: u70 :: u71 :: u72 :: u73 :: u74 :: u75 :: u76 :: u77 :: u78 :: u79 :: [])), defers := [] } W) :
    (Code.region 11 #[{ dst := some 63, op := Op.load 31 (Operand.tmp 5), type := 31, pos := "merge.go:43", after := #[], guard := none }, { dst := some 64, op := Op.load 44 (Operand.tmp 7), type := 44, pos := "merge.go:43", after := #[], guard := none }, { dst := some 65, op := Op.call { callee := Callee.value (Operand.func 38), args := #[Operand.tmp 64], argTypes := #[44] }, type := 44, pos := "merge.go:43", after := #[{ on := 1, ground := Ground.data }], guard := none }, { dst := some 66, op := Op.buildSlice 31 1 #[(0, Operand.tmp 65)], type := 31, pos := "merge.go:43", after := #[{ on := 2, ground := Ground.data }], guard := none }, { dst := some 67, op := Op.call { callee := Callee.builtin Builtin.append, args := #[Operand.tmp 63, Operand.tmp 66], argTypes := #[31, 31] }, type := 31, pos := "merge.go:43", after := #[{ on := 0, ground := Ground.data }, { on := 3, ground := Ground.data }, { on := 2, ground := Ground.chain }], guard := none }, { dst := none, op := Op.store 31 (Operand.tmp 5) (Operand.tmp 67), type := 0, pos := "merge.go:43", after := #[{ on := 4, ground := Ground.data }, { on := 4, ground := Ground.chain }, { on := 0, ground := Ground.phase }, { on := 1, ground := Ground.phase }, { on := 2, ground := Ground.phase }, { on := 3, ground := Ground.phase }, { on := 4, ground := Ground.phase }], guard := none }] true).wpIn (Fence.wide.inRound l) m Try.prog Q { tmps := (List.toArray (u0 :: u1 :: u2 :: u3 :: u4 :: .pointer (some ⟨go, 0, none⟩) :: u6 :: .pointer (some ⟨gx, 0, none⟩) :: u8 :: u9 :: u10 :: u11 :: u12 :: u13 :: u14 :: u15 :: u16 :: u17 :: u18 :: u19 :: u20 :: u21 :: u22 :: u23 :: u24 :: u25 :: u26 :: u27 :: u28 :: u29 :: u30 :: u31 :: u32 :: u33 :: u34 :: u35 :: u36 :: u37 :: u38 :: u39 :: u40 :: u41 :: u42 :: u43 :: u44 :: u45 :: u46 :: u47 :: u48 :: u49 :: u50 :: u51 :: u52 :: u53 :: u54 :: u55 :: u56 :: u57 :: u58 :: u59 :: u60 :: u61 :: u62 :: u63 :: u64 :: u65 :: u66 :: u67 :: u68 :: u69 :: u70 :: u71 :: u72 :: u73 :: u74 :: u75 :: u76 :: u77 :: u78 :: u79 :: [])), defers := [] } w := by
  have hu44 := Try.underlying44
  have BKo := am hko
  have BKx := am hkx
  have HS := am hS
  have HL := am hL
  have HN := am hne
  have HA := am h
  have HM := am hl
  have HK := am hK
  have HC := am (Ch.refl L (· = go) w)
  have G0 := am (And.intro hr0 hc0)
  have G2 := am (And.intro hr2 hc2)
  have G3 := am (And.intro hr3 hc3)
  have G4 := am (And.intro hr4 hc4)
  clear hko hkx hS hL hne h hl hK hr0 hc0 hr2 hc2 hr3 hc3 hr4 hc4
  refine start_round (n := 6) (S := fun w' => w'.cell? ⟨go, 0, none⟩ = some (.slice A out.length c) ∧ w'.cell? ⟨gx, 0, none⟩ = some (.slice A0 x.f0.length c0) ∧ w'.cell? ⟨gx, 1, none⟩ = some (.int .i64 x.f1) ∧ w'.cell? ⟨gx, 2, none⟩ = some (.slice A2 x.f2.length c2) ∧ w'.cell? ⟨gx, 3, none⟩ = some (.slice A3 x.f3.length c3) ∧ w'.cell? ⟨gx, 4, none⟩ = some (.slice A4 x.f4.length c4)) (ds := [5]) (bb 6 0) (by kernel_rfl) (by kernel_rfl) hQ rfl rfl ⟨bc BKo 0, bc BKx 0, bc BKx 1, bc BKx 2, bc BKx 3, bc BKx 4⟩ (fun hHeld => ?_); refine with_tabW two.tab11 two.bits11 (fun HT_ HW_ => ?_)
  have n0_ := am (blk_drew BKx.out)
  have n1_ := am (blk_drew BKo.out)
  have n2_ := am (Kd.S_drew HS.out)
  have n3_ := am (HC.out.trans (Ch.below (below_drew (Below.refl _ w))))
  have n4_ := am (And.intro (Kd.C_drew G0.out.1) G0.out.2)
  have n5_ := am (And.intro (Kd.C_drew G2.out.1) G2.out.2)
  have n6_ := am (And.intro (Kd.C_drew G3.out.1) G3.out.2)
  have n7_ := am (And.intro (Kd.C_drew G4.out.1) G4.out.2)
  clear BKx BKo HS HC G0 G2 G3 G4
  have BKx := n0_
  have BKo := n1_
  have HS := n2_
  have HC := n3_
  have G0 := n4_
  have G2 := n5_
  have G3 := n6_
  have G4 := n7_
  clear n0_ n1_ n2_ n3_ n4_ n5_ n6_ n7_
  generalize hw1 : w.drew = w1 at BKx BKo HS HC G0 G2 G3 G4 hHeld ⊢
  have hs1 : w.heap.size ≤ w1.heap.size := HC.out.1.size
  have HL1 := am (Nat.le_trans HL.out hs1)
  clear hw1 hs1 HL
  refine tk (i := 0) (N := some 63) (bb 6 1) HT_ HW_ hHeld ?_ (hQ := fun _ _ _ h => hQp _ _ _ _ h)
  refine tk (i := 1) (N := some 64) (bb 6 3) HT_ HW_ hHeld ?_ (hQ := fun _ _ _ h => hQp _ _ _ _ h)
  refine one_ (i := 2) (N := some 65) (bb 6 7) rfl rfl (one_of HT_.out (by kernel_rfl)) (by decide) (fun K hK => ?_)
  refine goes_ Try.func38 (by kernel_rfl) rfl #[.agg #[.slice A0 x.f0.length c0, .int .i64 x.f1, .slice A2 x.f2.length c2, .slice A3 x.f3.length c3, .slice A4 x.f4.length c4]] (by rfl) rfl rfl (by (try simp only [List.map_toArray, List.map_cons, List.map_nil]); first | done | rfl) ?_
  refine (ownM_calls k A0 c0 A2 c2 A3 c3 A4 c4 x y _ G0.out.1 G0.out.2 G2.out.1 G2.out.2 G3.out.1 G3.out.2 G4.out.1 G4.out.2 HA.out).mono ?_
  rintro e w2 ⟨E0, d0, E2, d2, E3, d3, E4, d4, rfl, hM, hb⟩
  refine ⟨_, rfl, ?_⟩
  have nM_ := am hM
  have nl_ : Aside0 (go < w1.heap.size ∧ gx < w1.heap.size ∧ w1.heap.size ≤ w2.heap.size) := ⟨blk_lt BKo.out, blk_lt BKx.out, hb.size⟩
  have nb_ := am (Kd.S_mono (Kd.S_bound HS.out) (ok' := fun k => (k ≠ go ∧ k ≠ gx) ∧ ¬ w1.heap.size ≤ k) (fun k hk => ⟨hk.1, by have := hk.2.2.1; omega⟩))
  clear HS
  have HS := nb_
  clear nb_ hM
  have n0_ := am (blk_below BKx.out hb)
  have n1_ := am (blk_below BKo.out hb)
  have n2_ := am (Kd.S_below HS.out hb)
  have n3_ := am (HC.out.trans (Ch.below hb))
  clear BKx BKo HS HC
  have BKx := n0_
  have BKo := n1_
  have HS := n2_
  have HC := n3_
  clear n0_ n1_ n2_ n3_
  clear hb G0 G2 G3 G4 HA
  refine hK.out _ _ ⟨bc BKo 0, bc BKx 0, bc BKx 1, bc BKx 2, bc BKx 3, bc BKx 4⟩ (fun hHeld => ?_)
  clear hK K
  refine nm ?_
  refine one_ (i := 3) (N := some 66) (bb 6 15) rfl rfl (one_of HT_.out (by kernel_rfl)) (by decide) (fun K hK => ?_)
  refine value_ (w1 := ?_) (v := ?_) (by rfl) rfl ?_ ?_
  rotate_left 2
  ·go_simp
   constructor
   ·rfl
   ·rfl
  refine hK.out _ _ ⟨(World.cell?_alloc_lt _ _ _ (World.block_lt_of_cell? _ _ ((blk_cell BKo.out 0).trans rfl))).trans ((blk_cell BKo.out 0).trans rfl), (World.cell?_alloc_lt _ _ _ (World.block_lt_of_cell? _ _ ((blk_cell BKx.out 0).trans rfl))).trans ((blk_cell BKx.out 0).trans rfl), (World.cell?_alloc_lt _ _ _ (World.block_lt_of_cell? _ _ ((blk_cell BKx.out 1).trans rfl))).trans ((blk_cell BKx.out 1).trans rfl), (World.cell?_alloc_lt _ _ _ (World.block_lt_of_cell? _ _ ((blk_cell BKx.out 2).trans rfl))).trans ((blk_cell BKx.out 2).trans rfl), (World.cell?_alloc_lt _ _ _ (World.block_lt_of_cell? _ _ ((blk_cell BKx.out 3).trans rfl))).trans ((blk_cell BKx.out 3).trans rfl), (World.cell?_alloc_lt _ _ _ (World.block_lt_of_cell? _ _ ((blk_cell BKx.out 4).trans rfl))).trans ((blk_cell BKx.out 4).trans rfl)⟩ (fun hHeld => ?_)
  clear hK K
  refine nm ?_
  refine one_ (i := 4) (N := some 67) (bb 6 31) rfl rfl (one_of HT_.out (by kernel_rfl)) (by decide) (fun K hK => ?_)
  refine Kd.S_append_step k44 (w0 := w2) L (by rfl) (.tmp 63) (.tmp 66) 31 44 (.agg #[.slice none 0 0, .int .i64 0, .slice none 0 0, .slice none 0 0, .slice none 0 0]) 104 rfl Try.underlying31 info44 rfl (by decide) (by omega) (.slice A out.length c) out y [.slice E0 y.f0.length d0, .int .i64 y.f1, .slice E2 y.f2.length d2, .slice E3 y.f3.length d3, .slice E4 y.f4.length d4] (fun k => k ≠ go ∧ k ≠ gx) (fun k => w1.heap.size ≤ k) rfl rfl ?aP ?aK ?aF ?aO ?aB ?aS ?aL ?_
  case aP => exact k44.M_lower HL1.out nM_.out
  case aK => exact fun k hk => ⟨by have := nl_.out; omega, Kd.S_away HS.out (fun j hj e => hj.2 (e ▸ hk))⟩
  case aF => exact fun k hk => by have := nl_.out; omega
  case aO => exact HS.out
  case aB => exact Below.refl _ _
  case aS => have := nl_.out; have := HL1.out; omega
  case aL => have := HM.out; omega
  intro v1 w3 ho hb hg hat
  obtain ⟨A9, c9, rfl⟩ := Kd.S_slice ho
  have nq_ := Kd.S_typed HS.out
  have nr_ := Kd.S_base HS.out
  have n0_ := am (blk_grown BKo.out hg (Kd.S_away HS.out (fun j hj e => hj.1.1 e)))
  have n1_ := am (blk_grown BKx.out hg (Kd.S_away HS.out (fun j hj e => hj.1.2 e)))
  have n2_ := am ho
  have n3_ := am (HC.out.trans (Ch.grown hg (fun k e => ⟨nr_ k e, by obtain ⟨cs, h⟩ := nq_ k e; exact ⟨cs, _, _, h⟩⟩)))
  clear BKo BKx HS HC ho hb hg hat nM_ nq_ nr_
  have BKo := n0_
  have BKx := n1_
  have HS := n2_
  have HC := n3_
  clear n0_ n1_ n2_ n3_
  rw [show (out ++ [y]).length = out.length + 1 by simp] at HS
  refine hK.out _ _ ⟨bc BKo 0, bc BKx 0, bc BKx 1, bc BKx 2, bc BKx 3, bc BKx 4⟩ (fun hHeld => ?_)
  clear hK K
  refine nm ?_
  refine last_ (i := 5) (N := none) (bb 6 63) rfl rfl (one_of HT_.out (by kernel_rfl)) (by decide) (fun K hK => ?_)
  have hs22 := (blk_cell BKo.out 0).trans rfl
  have hfs22 := blk_frozen BKo.out 0
  refine skip_ (w1 := ?_) (by rfl) rfl ?_ ?_
  rotate_left
  ·go_simp
   rfl
  refine hK.out _ _ ?_
  clear hK K hs22 hfs22
  refine done_ (done_of HT_.out (by kernel_rfl)) ?_
  exact HK.out _ _ _ _ _ _ _ (blk_put BKo.out 0 _ rfl) ((Below.heap_setCell _ _ _ _ (fun e => HN.out e.symm)).trans BKx.out) (Kd.S_far HS.out (fun k hk => hk.1) _) (HC.out.trans (Ch.set rfl))
def two.T14 : Bool × List (List Nat × List Nat) := (true, [([], []), ([], []), ([1], [1]), ([2], [2]), ([0, 3, 2], [0, 3]), ([4, 4, 0, 1, 2, 3, 4], [4])])
def two.B14 : List Nat := [0, 0, 2, 6, 15, 31]
theorem two.tab14 : rtab .any (opsOf Try.f23 14) = two.T14 := by kernel_rfl
theorem two.bits14 : waitsOk two.T14.2 two.B14 = true := by kernel_rfl
set_option maxHeartbeats 4000000 in
set_option maxRecDepth 100000 in
theorem two_r14 {m l k L go gx : Nat} {w : World} {A A0 A2 A3 A4 : Option Addr} {c c0 c2 c3 c4 : Nat} {out : List S44} {x y : S44} {Q : Exit → Act → World → Prop} (hQ : ¬ LetsOut Q) (hQp : ∀ c a a' w, Q (.panic c) a w → Q (.panic c) a' w) {u0 u1 u2 u3 u4 u6 u7 u9 u10 u11 u12 u13 u14 u15 u16 u17 u18 u19 u20 u21 u22 u23 u24 u25 u26 u27 u28 u29 u30 u31 u32 u33 u34 u35 u36 u37 u38 u39 u40 u41 u42 u43 u44 u45 u46 u47 u48 u49 u50 u51 u52 u53 u54 u55 u56 u57 u58 u59 u60 u61 u62 u63 u64 u65 u66 u67 u68 u69 u70 u71 u72 u73 u74 u75 u76 u77 u78 u79 : Value}
    (hko : w.heap[go]? = some (.cells #[.slice A out.length c] 31 (0, 0))) (hkx : w.heap[gx]? = some (.cells #[.slice A0 x.f0.length c0, .int .i64 x.f1, .slice A2 x.f2.length c2, .slice A3 x.f3.length c3, .slice A4 x.f4.length c4] 44 (0, 0))) (hne : go ≠ gx) (hS : Kd.S k44 44 w L (fun k => k ≠ go ∧ k ≠ gx) (.slice A out.length c) out) (hL : L ≤ w.heap.size)
    (hr0 : Kd.C (Kd.int .i64) w A0 x.f0.length x.f0) (hc0 : x.f0.length ≤ c0) (hr2 : Kd.C (Kd.int .i64) w A2 x.f2.length x.f2) (hc2 : x.f2.length ≤ c2) (hr3 : Kd.C (Kd.int .i64) w A3 x.f3.length x.f3) (hc3 : x.f3.length ≤ c3) (hr4 : Kd.C (Kd.int .i64) w A4 x.f4.length x.f4) (hc4 : x.f4.length ≤ c4) (h : ownM.f k x = some y) (hl : out.length < 1353245080339)
    (hK : ∀ v W z0 z1 z2 z3 z4, W.heap[go]? = some (.cells #[v] 31 (0, 0)) → W.heap[gx]? = some (.cells #[.slice A0 x.f0.length c0, .int .i64 x.f1, .slice A2 x.f2.length c2, .slice A3 x.f3.length c3, .slice A4 x.f4.length c4] 44 (0, 0)) → Kd.S k44 44 W L (fun k => k ≠ go ∧ k ≠ gx) v (out ++ [y]) → Ch L (· = go) w W → Q .normal { tmps := (List.toArray (u0 :: u1 :: u2 :: u3 :: u4 :: .pointer (some ⟨go, 0, none⟩) :: u6 :: u7 :: .pointer (some ⟨gx, 0, none⟩) :: u9 :: u10 :: u11 :: u12 :: u13 :: u14 :: u15 :: u16 :: u17 :: u18 :: u19 :: u20 :: u21 :: u22 :: u23 :: u24 :: u25 :: u26 :: u27 :: u28 :: u29 :: u30 :: u31 :: u32 :: u33 :: u34 :: u35 :: u36 :: u37 :: u38 :: u39 :: u40 :: u41 :: u42 :: u43 :: u44 :: u45 :: u46 :: u47 :: u48 :: u49 :: u50 :: u51 :: u52 :: u53 :: u54 :: u55 :: u56 :: u57 :: u58 :: u59 :: u60 :: u61 :: u62 :: u63 :: u64 :: u65 :: u66 :: u67 :: u68 :: u69 :: u70 :: u71 :: u72 :: z0 :: z1 :: z2 :: z3 :: z4 :: u78 :: u79 :: [])), defers := [] } W) :
    (Code.region 14 #[{ dst := some 73, op := Op.load 31 (Operand.tmp 5), type := 31, pos := "merge.go:47", after := #[], guard := none }, { dst := some 74, op := Op.load 44 (Operand.tmp 8), type := 44, pos := "merge.go:47", after := #[], guard := none }, { dst := some 75, op := Op.call { callee := Callee.value (Operand.func 38), args := #[Operand.tmp 74], argTypes := #[44] }, type := 44, pos := "merge.go:47", after := #[{ on := 1, ground := Ground.data }], guard := none }, { dst := some 76, op := Op.buildSlice 31 1 #[(0, Operand.tmp 75)], type := 31, pos := "merge.go:47", after := #[{ on := 2, ground := Ground.data }], guard := none }, { dst := some 77, op := Op.call { callee := Callee.builtin Builtin.append, args := #[Operand.tmp 73, Operand.tmp 76], argTypes := #[31, 31] }, type := 31, pos := "merge.go:47", after := #[{ on := 0, ground := Ground.data }, { on := 3, ground := Ground.data }, { on := 2, ground := Ground.chain }], guard := none }, { dst := none, op := Op.store 31 (Operand.tmp 5) (Operand.tmp 77), type := 0, pos := "merge.go:47", after := #[{ on := 4, ground := Ground.data }, { on := 4, ground := Ground.chain }, { on := 0, ground := Ground.phase }, { on := 1, ground := Ground.phase }, { on := 2, ground := Ground.phase }, { on := 3, ground := Ground.phase }, { on := 4, ground := Ground.phase }], guard := none }] true).wpIn (Fence.wide.inRound l) m Try.prog Q { tmps := (List.toArray (u0 :: u1 :: u2 :: u3 :: u4 :: .pointer (some ⟨go, 0, none⟩) :: u6 :: u7 :: .pointer (some ⟨gx, 0, none⟩) :: u9 :: u10 :: u11 :: u12 :: u13 :: u14 :: u15 :: u16 :: u17 :: u18 :: u19 :: u20 :: u21 :: u22 :: u23 :: u24 :: u25 :: u26 :: u27 :: u28 :: u29 :: u30 :: u31 :: u32 :: u33 :: u34 :: u35 :: u36 :: u37 :: u38 :: u39 :: u40 :: u41 :: u42 :: u43 :: u44 :: u45 :: u46 :: u47 :: u48 :: u49 :: u50 :: u51 :: u52 :: u53 :: u54 :: u55 :: u56 :: u57 :: u58 :: u59 :: u60 :: u61 :: u62 :: u63 :: u64 :: u65 :: u66 :: u67 :: u68 :: u69 :: u70 :: u71 :: u72 :: u73 :: u74 :: u75 :: u76 :: u77 :: u78 :: u79 :: [])), defers := [] } w := by
  have hu44 := Try.underlying44
  have BKo := am hko
  have BKx := am hkx
  have HS := am hS
  have HL := am hL
  have HN := am hne
  have HA := am h
  have HM := am hl
  have HK := am hK
  have HC := am (Ch.refl L (· = go) w)
  have G0 := am (And.intro hr0 hc0)
  have G2 := am (And.intro hr2 hc2)
  have G3 := am (And.intro hr3 hc3)
  have G4 := am (And.intro hr4 hc4)
  clear hko hkx hS hL hne h hl hK hr0 hc0 hr2 hc2 hr3 hc3 hr4 hc4
  refine start_round (n := 6) (S := fun w' => w'.cell? ⟨go, 0, none⟩ = some (.slice A out.length c) ∧ w'.cell? ⟨gx, 0, none⟩ = some (.slice A0 x.f0.length c0) ∧ w'.cell? ⟨gx, 1, none⟩ = some (.int .i64 x.f1) ∧ w'.cell? ⟨gx, 2, none⟩ = some (.slice A2 x.f2.length c2) ∧ w'.cell? ⟨gx, 3, none⟩ = some (.slice A3 x.f3.length c3) ∧ w'.cell? ⟨gx, 4, none⟩ = some (.slice A4 x.f4.length c4)) (ds := [5]) (bb 6 0) (by kernel_rfl) (by kernel_rfl) hQ rfl rfl ⟨bc BKo 0, bc BKx 0, bc BKx 1, bc BKx 2, bc BKx 3, bc BKx 4⟩ (fun hHeld => ?_); refine with_tabW two.tab14 two.bits14 (fun HT_ HW_ => ?_)
  have n0_ := am (blk_drew BKx.out)
  have n1_ := am (blk_drew BKo.out)
  have n2_ := am (Kd.S_drew HS.out)
  have n3_ := am (HC.out.trans (Ch.below (below_drew (Below.refl _ w))))
  have n4_ := am (And.intro (Kd.C_drew G0.out.1) G0.out.2)
  have n5_ := am (And.intro (Kd.C_drew G2.out.1) G2.out.2)
  have n6_ := am (And.intro (Kd.C_drew G3.out.1) G3.out.2)
  have n7_ := am (And.intro (Kd.C_drew G4.out.1) G4.out.2)
  clear BKx BKo HS HC G0 G2 G3 G4
  have BKx := n0_
  have BKo := n1_
  have HS := n2_
  have HC := n3_
  have G0 := n4_
  have G2 := n5_
  have G3 := n6_
  have G4 := n7_
  clear n0_ n1_ n2_ n3_ n4_ n5_ n6_ n7_
  generalize hw1 : w.drew = w1 at BKx BKo HS HC G0 G2 G3 G4 hHeld ⊢
  have hs1 : w.heap.size ≤ w1.heap.size := HC.out.1.size
  have HL1 := am (Nat.le_trans HL.out hs1)
  clear hw1 hs1 HL
  refine tk (i := 0) (N := some 73) (bb 6 1) HT_ HW_ hHeld ?_ (hQ := fun _ _ _ h => hQp _ _ _ _ h)
  refine tk (i := 1) (N := some 74) (bb 6 3) HT_ HW_ hHeld ?_ (hQ := fun _ _ _ h => hQp _ _ _ _ h)
  refine one_ (i := 2) (N := some 75) (bb 6 7) rfl rfl (one_of HT_.out (by kernel_rfl)) (by decide) (fun K hK => ?_)
  refine goes_ Try.func38 (by kernel_rfl) rfl #[.agg #[.slice A0 x.f0.length c0, .int .i64 x.f1, .slice A2 x.f2.length c2, .slice A3 x.f3.length c3, .slice A4 x.f4.length c4]] (by rfl) rfl rfl (by (try simp only [List.map_toArray, List.map_cons, List.map_nil]); first | done | rfl) ?_
  refine (ownM_calls k A0 c0 A2 c2 A3 c3 A4 c4 x y _ G0.out.1 G0.out.2 G2.out.1 G2.out.2 G3.out.1 G3.out.2 G4.out.1 G4.out.2 HA.out).mono ?_
  rintro e w2 ⟨E0, d0, E2, d2, E3, d3, E4, d4, rfl, hM, hb⟩
  refine ⟨_, rfl, ?_⟩
  have nM_ := am hM
  have nl_ : Aside0 (go < w1.heap.size ∧ gx < w1.heap.size ∧ w1.heap.size ≤ w2.heap.size) := ⟨blk_lt BKo.out, blk_lt BKx.out, hb.size⟩
  have nb_ := am (Kd.S_mono (Kd.S_bound HS.out) (ok' := fun k => (k ≠ go ∧ k ≠ gx) ∧ ¬ w1.heap.size ≤ k) (fun k hk => ⟨hk.1, by have := hk.2.2.1; omega⟩))
  clear HS
  have HS := nb_
  clear nb_ hM
  have n0_ := am (blk_below BKx.out hb)
  have n1_ := am (blk_below BKo.out hb)
  have n2_ := am (Kd.S_below HS.out hb)
  have n3_ := am (HC.out.trans (Ch.below hb))
  clear BKx BKo HS HC
  have BKx := n0_
  have BKo := n1_
  have HS := n2_
  have HC := n3_
  clear n0_ n1_ n2_ n3_
  clear hb G0 G2 G3 G4 HA
  refine hK.out _ _ ⟨bc BKo 0, bc BKx 0, bc BKx 1, bc BKx 2, bc BKx 3, bc BKx 4⟩ (fun hHeld => ?_)
  clear hK K
  refine nm ?_
  refine one_ (i := 3) (N := some 76) (bb 6 15) rfl rfl (one_of HT_.out (by kernel_rfl)) (by decide) (fun K hK => ?_)
  refine value_ (w1 := ?_) (v := ?_) (by rfl) rfl ?_ ?_
  rotate_left 2
  ·go_simp
   constructor
   ·rfl
   ·rfl
  refine hK.out _ _ ⟨(World.cell?_alloc_lt _ _ _ (World.block_lt_of_cell? _ _ ((blk_cell BKo.out 0).trans rfl))).trans ((blk_cell BKo.out 0).trans rfl), (World.cell?_alloc_lt _ _ _ (World.block_lt_of_cell? _ _ ((blk_cell BKx.out 0).trans rfl))).trans ((blk_cell BKx.out 0).trans rfl), (World.cell?_alloc_lt _ _ _ (World.block_lt_of_cell? _ _ ((blk_cell BKx.out 1).trans rfl))).trans ((blk_cell BKx.out 1).trans rfl), (World.cell?_alloc_lt _ _ _ (World.block_lt_of_cell? _ _ ((blk_cell BKx.out 2).trans rfl))).trans ((blk_cell BKx.out 2).trans rfl), (World.cell?_alloc_lt _ _ _ (World.block_lt_of_cell? _ _ ((blk_cell BKx.out 3).trans rfl))).trans ((blk_cell BKx.out 3).trans rfl), (World.cell?_alloc_lt _ _ _ (World.block_lt_of_cell? _ _ ((blk_cell BKx.out 4).trans rfl))).trans ((blk_cell BKx.out 4).trans rfl)⟩ (fun hHeld => ?_)
  clear hK K
  refine nm ?_
  refine one_ (i := 4) (N := some 77) (bb 6 31) rfl rfl (one_of HT_.out (by kernel_rfl)) (by decide) (fun K hK => ?_)
  refine Kd.S_append_step k44 (w0 := w2) L (by rfl) (.tmp 73) (.tmp 76) 31 44 (.agg #[.slice none 0 0, .int .i64 0, .slice none 0 0, .slice none 0 0, .slice none 0 0]) 104 rfl Try.underlying31 info44 rfl (by decide) (by omega) (.slice A out.length c) out y [.slice E0 y.f0.length d0, .int .i64 y.f1, .slice E2 y.f2.length d2, .slice E3 y.f3.length d3, .slice E4 y.f4.length d4] (fun k => k ≠ go ∧ k ≠ gx) (fun k => w1.heap.size ≤ k) rfl rfl ?aP ?aK ?aF ?aO ?aB ?aS ?aL ?_
  case aP => exact k44.M_lower HL1.out nM_.out
  case aK => exact fun k hk => ⟨by have := nl_.out; omega, Kd.S_away HS.out (fun j hj e => hj.2 (e ▸ hk))⟩
  case aF => exact fun k hk => by have := nl_.out; omega
  case aO => exact HS.out
  case aB => exact Below.refl _ _
  case aS => have := nl_.out; have := HL1.out; omega
  case aL => have := HM.out; omega
  intro v1 w3 ho hb hg hat
  obtain ⟨A9, c9, rfl⟩ := Kd.S_slice ho
  have nq_ := Kd.S_typed HS.out
  have nr_ := Kd.S_base HS.out
  have n0_ := am (blk_grown BKo.out hg (Kd.S_away HS.out (fun j hj e => hj.1.1 e)))
  have n1_ := am (blk_grown BKx.out hg (Kd.S_away HS.out (fun j hj e => hj.1.2 e)))
  have n2_ := am ho
  have n3_ := am (HC.out.trans (Ch.grown hg (fun k e => ⟨nr_ k e, by obtain ⟨cs, h⟩ := nq_ k e; exact ⟨cs, _, _, h⟩⟩)))
  clear BKo BKx HS HC ho hb hg hat nM_ nq_ nr_
  have BKo := n0_
  have BKx := n1_
  have HS := n2_
  have HC := n3_
  clear n0_ n1_ n2_ n3_
  rw [show (out ++ [y]).length = out.length + 1 by simp] at HS
  refine hK.out _ _ ⟨bc BKo 0, bc BKx 0, bc BKx 1, bc BKx 2, bc BKx 3, bc BKx 4⟩ (fun hHeld => ?_)
  clear hK K
  refine nm ?_
  refine last_ (i := 5) (N := none) (bb 6 63) rfl rfl (one_of HT_.out (by kernel_rfl)) (by decide) (fun K hK => ?_)
  have hs22 := (blk_cell BKo.out 0).trans rfl
  have hfs22 := blk_frozen BKo.out 0
  refine skip_ (w1 := ?_) (by rfl) rfl ?_ ?_
  rotate_left
  ·go_simp
   rfl
  refine hK.out _ _ ?_
  clear hK K hs22 hfs22
  refine done_ (done_of HT_.out (by kernel_rfl)) ?_
  exact HK.out _ _ _ _ _ _ _ (blk_put BKo.out 0 _ rfl) ((Below.heap_setCell _ _ _ _ (fun e => HN.out e.symm)).trans BKx.out) (Kd.S_far HS.out (fun k hk => hk.1) _) (HC.out.trans (Ch.set rfl))
def two.T6 : Bool × List (List Nat × List Nat) := (true, [([], []), ([], []), ([], []), ([1, 2], [1, 2]), ([3], [3]), ([4], [4]), ([5], [5]), ([0, 6, 5], [0, 6]), ([7, 7, 0, 1, 2, 3, 4, 5, 6, 7], [7])])
def two.B6 : List Nat := [0, 0, 0, 6, 14, 30, 62, 127, 255]
theorem two.tab6 : rtab .any (opsOf Try.f23 6) = two.T6 := by kernel_rfl
theorem two.bits6 : waitsOk two.T6.2 two.B6 = true := by kernel_rfl
set_option maxHeartbeats 4000000 in
set_option maxRecDepth 100000 in
theorem two_r6 {m l k L go gx gb gt i n cb : Nat} {ad : Addr} {w : World} {A A0 A2 A3 A4 B0 B2 B3 B4 : Option Addr} {c c0 c2 c3 c4 b0 b2 b3 b4 : Nat} {out : List S44} {x e y : S44} {Q : Exit → Act → World → Prop} (hQ : ¬ LetsOut Q) (hQp : ∀ c a a' w, Q (.panic c) a w → Q (.panic c) a' w) {u0 u1 u2 u4 u7 u8 u9 u10 u11 u12 u13 u14 u15 u16 u17 u18 u19 u20 u21 u22 u23 u24 u25 u26 u27 u28 u29 u30 u31 u32 u33 u34 u35 u36 u37 u38 u39 u40 u41 u42 u43 u44 u45 u46 u47 u48 u49 u50 u51 u52 u53 u54 u55 u56 u57 u58 u59 u60 u61 u62 u63 u64 u65 u66 u67 u68 u69 u70 u71 u72 u73 u74 u75 u76 u77 u78 u79 : Value}
    (hko : w.heap[go]? = some (.cells #[.slice A out.length c] 31 (0, 0))) (hkx : w.heap[gx]? = some (.cells #[.slice A0 x.f0.length c0, .int .i64 x.f1, .slice A2 x.f2.length c2, .slice A3 x.f3.length c3, .slice A4 x.f4.length c4] 44 (0, 0))) (hkb : w.heap[gb]? = some (.cells #[.slice (some ad) n cb] 31 (0, 0))) (hkt : w.heap[gt]? = some (.cells #[.int .i64 (i : Int)] 3 (0, 0)))
    (hne : go ≠ gx ∧ gb ≠ go ∧ gt ≠ go ∧ gb < L ∧ gt < L) (hS : Kd.S k44 44 w L (fun k => k ≠ go ∧ k ≠ gx) (.slice A out.length c) out) (hL : L ≤ w.heap.size) (hin : i < n) (hbl : (ad.add (i * 5)).block < L ∧ (ad.add (i * 5)).block ≠ go) (he0 : w.cell? (ad.add (i * 5)) = some (.slice B0 e.f0.length b0)) (he1 : w.cell? (⟨(ad.add (i * 5)).block, (ad.add (i * 5)).off + 1, none⟩) = some (.int .i64 e.f1)) (he2 : w.cell? (⟨(ad.add (i * 5)).block, (ad.add (i * 5)).off + 2, none⟩) = some (.slice B2 e.f2.length b2)) (he3 : w.cell? (⟨(ad.add (i * 5)).block, (ad.add (i * 5)).off + 3, none⟩) = some (.slice B3 e.f3.length b3)) (he4 : w.cell? (⟨(ad.add (i * 5)).block, (ad.add (i * 5)).off + 4, none⟩) = some (.slice B4 e.f4.length b4))
    (hx0 : Kd.C (Kd.int .i64) w A0 x.f0.length x.f0 ∧ x.f0.length ≤ c0) (hx2 : Kd.C (Kd.int .i64) w A2 x.f2.length x.f2 ∧ x.f2.length ≤ c2) (hx3 : Kd.C (Kd.int .i64) w A3 x.f3.length x.f3 ∧ x.f3.length ≤ c3) (hx4 : Kd.C (Kd.int .i64) w A4 x.f4.length x.f4 ∧ x.f4.length ≤ c4) (hd0 : Kd.C (Kd.int .i64) w B0 e.f0.length e.f0 ∧ e.f0.length ≤ b0) (hd2 : Kd.C (Kd.int .i64) w B2 e.f2.length e.f2 ∧ e.f2.length ≤ b2) (hd3 : Kd.C (Kd.int .i64) w B3 e.f3.length e.f3 ∧ e.f3.length ≤ b3) (hd4 : Kd.C (Kd.int .i64) w B4 e.f4.length e.f4 ∧ e.f4.length ≤ b4) (h : ownM.f k e = some y) (hl : out.length < 1353245080339)
    (hK : ∀ v W z0 z1 z2 z3 z4 z5 z6 z7, W.heap[go]? = some (.cells #[v] 31 (0, 0)) → W.heap[gx]? = some (.cells #[.slice A0 x.f0.length c0, .int .i64 x.f1, .slice A2 x.f2.length c2, .slice A3 x.f3.length c3, .slice A4 x.f4.length c4] 44 (0, 0)) → Kd.S k44 44 W L (fun k => k ≠ go ∧ k ≠ gx) v (out ++ [y]) → Ch L (· = go) w W → Q .normal { tmps := (List.toArray (u0 :: u1 :: u2 :: .pointer (some ⟨gb, 0, none⟩) :: u4 :: .pointer (some ⟨go, 0, none⟩) :: .pointer (some ⟨gt, 0, none⟩) :: u7 :: u8 :: u9 :: u10 :: u11 :: u12 :: u13 :: u14 :: u15 :: u16 :: u17 :: u18 :: u19 :: u20 :: u21 :: u22 :: u23 :: u24 :: u25 :: u26 :: z0 :: z1 :: z2 :: z3 :: z4 :: z5 :: z6 :: z7 :: u35 :: u36 :: u37 :: u38 :: u39 :: u40 :: u41 :: u42 :: u43 :: u44 :: u45 :: u46 :: u47 :: u48 :: u49 :: u50 :: u51 :: u52 :: u53 :: u54 :: u55 :: u56 :: u57 :: u58 :: u59 :: u60 :: u61 :: u62 :: u63 :: u64 :: u65 :: u66 :: u67 :: u68 :: u69 :: u70 :: u71 :: u72 :: u73 :: u74 :: u75 :: u76 :: u77 :: u78 :: u79 :: [])), defers := [] } W) :
    (Code.region 6 #[{ dst := some 27, op := Op.load 31 (Operand.tmp 5), type := 31, pos := "merge.go:36", after := #[], guard := none }, { dst := some 28, op := Op.load 31 (Operand.tmp 3), type := 31, pos := "merge.go:36", after := #[], guard := none }, { dst := some 29, op := Op.load 3 (Operand.tmp 6), type := 3, pos := "merge.go:36", after := #[], guard := none }, { dst := some 30, op := Op.indexAddr 31 (Operand.tmp 28) (Operand.tmp 29), type := 0, pos := "merge.go:36", after := #[{ on := 1, ground := Ground.data }, { on := 2, ground := Ground.data }], guard := none }, { dst := some 31, op := Op.load 44 (Operand.tmp 30), type := 44, pos := "merge.go:36", after := #[{ on := 3, ground := Ground.data }], guard := none }, { dst := some 32, op := Op.call { callee := Callee.value (Operand.func 38), args := #[Operand.tmp 31], argTypes := #[44] }, type := 44, pos := "merge.go:36", after := #[{ on := 4, ground := Ground.data }], guard := none }, { dst := some 33, op := Op.buildSlice 31 1 #[(0, Operand.tmp 32)], type := 31, pos := "merge.go:36", after := #[{ on := 5, ground := Ground.data }], guard := none }, { dst := some 34, op := Op.call { callee := Callee.builtin Builtin.append, args := #[Operand.tmp 27, Operand.tmp 33], argTypes := #[31, 31] }, type := 31, pos := "merge.go:36", after := #[{ on := 0, ground := Ground.data }, { on := 6, ground := Ground.data }, { on := 5, ground := Ground.chain }], guard := none }, { dst := none, op := Op.store 31 (Operand.tmp 5) (Operand.tmp 34), type := 0, pos := "merge.go:36", after := #[{ on := 7, ground := Ground.data }, { on := 7, ground := Ground.chain }, { on := 0, ground := Ground.phase }, { on := 1, ground := Ground.phase }, { on := 2, ground := Ground.phase }, { on := 3, ground := Ground.phase }, { on := 4, ground := Ground.phase }, { on := 5, ground := Ground.phase }, { on := 6, ground := Ground.phase }, { on := 7, ground := Ground.phase }], guard := none }] true).wpIn (Fence.wide.inRound l) m Try.prog Q { tmps := (List.toArray (u0 :: u1 :: u2 :: .pointer (some ⟨gb, 0, none⟩) :: u4 :: .pointer (some ⟨go, 0, none⟩) :: .pointer (some ⟨gt, 0, none⟩) :: u7 :: u8 :: u9 :: u10 :: u11 :: u12 :: u13 :: u14 :: u15 :: u16 :: u17 :: u18 :: u19 :: u20 :: u21 :: u22 :: u23 :: u24 :: u25 :: u26 :: u27 :: u28 :: u29 :: u30 :: u31 :: u32 :: u33 :: u34 :: u35 :: u36 :: u37 :: u38 :: u39 :: u40 :: u41 :: u42 :: u43 :: u44 :: u45 :: u46 :: u47 :: u48 :: u49 :: u50 :: u51 :: u52 :: u53 :: u54 :: u55 :: u56 :: u57 :: u58 :: u59 :: u60 :: u61 :: u62 :: u63 :: u64 :: u65 :: u66 :: u67 :: u68 :: u69 :: u70 :: u71 :: u72 :: u73 :: u74 :: u75 :: u76 :: u77 :: u78 :: u79 :: [])), defers := [] } w := by
  have hu44 := Try.underlying44
  have BKo := am hko
  have BKx := am hkx
  have KB := am hkb
  have KT := am hkt
  have HS := am hS
  have HL := am hL
  have HN := am hne
  have HE := am hbl
  have HA := am h
  have HM := am hl
  have HK := am hK
  have HC := am (Ch.refl L (· = go) w)
  have Q0 := am he0
  have Q1 := am he1
  have Q2 := am he2
  have Q3 := am he3
  have Q4 := am he4
  have G0 := am hx0
  have G2 := am hx2
  have G3 := am hx3
  have G4 := am hx4
  have D0 := am hd0
  have D2 := am hd2
  have D3 := am hd3
  have D4 := am hd4
  have i1 : (0 ≤ (i : Int)) = True := eq_true (by omega)
  have i2 : ((i : Int) < (n : Int)) = True := eq_true (by omega)
  have i3 : (i < n) = True := eq_true hin
  clear hko hkx hkb hkt hS hL hne hbl h hl hK he0 he1 he2 he3 he4 hx0 hx2 hx3 hx4 hd0 hd2 hd3 hd4 hin
  have fB : ∀ {W : World}, Ch L (· = go) w W → W.cell? ⟨gb, 0, none⟩ = some (.slice (some ad) n cb) := fun hC => (blk_cell ((hC.2 gb (blk_lt KB.out) HN.out.2.1 (.inl HN.out.2.2.2.1)).trans KB.out) 0).trans rfl
  have fT : ∀ {W : World}, Ch L (· = go) w W → W.cell? ⟨gt, 0, none⟩ = some (.int .i64 (i : Int)) := fun hC => (blk_cell ((hC.2 gt (blk_lt KT.out) HN.out.2.2.1 (.inl HN.out.2.2.2.2)).trans KT.out) 0).trans rfl
  have fE : ∀ {W : World} {p : Addr} {u : Value}, Ch L (· = go) w W → w.cell? p = some u → p.block = (ad.add (i * 5)).block → W.cell? p = some u := fun {W p u} hC hu hp => (World.cell?_of_block (w := w) (w' := W) (a := p) (hC.2 _ (World.block_lt_of_cell? w _ hu) (hp ▸ HE.out.2) (.inl (hp ▸ HE.out.1)))).trans hu
  have FB := am @fB
  have FT := am @fT
  have FE := am @fE
  clear fB fT fE
  refine start_round (n := 9) (S := fun w' => w'.cell? ⟨go, 0, none⟩ = some (.slice A out.length c) ∧ w'.cell? ⟨gb, 0, none⟩ = some (.slice (some ad) n cb) ∧ w'.cell? ⟨gt, 0, none⟩ = some (.int .i64 (i : Int)) ∧ w'.cell? (ad.add (i * 5)) = some (.slice B0 e.f0.length b0) ∧ w'.cell? (⟨(ad.add (i * 5)).block, (ad.add (i * 5)).off + 1, none⟩) = some (.int .i64 e.f1) ∧ w'.cell? (⟨(ad.add (i * 5)).block, (ad.add (i * 5)).off + 2, none⟩) = some (.slice B2 e.f2.length b2) ∧ w'.cell? (⟨(ad.add (i * 5)).block, (ad.add (i * 5)).off + 3, none⟩) = some (.slice B3 e.f3.length b3) ∧ w'.cell? (⟨(ad.add (i * 5)).block, (ad.add (i * 5)).off + 4, none⟩) = some (.slice B4 e.f4.length b4)) (ds := [8]) (bb 9 0) (by kernel_rfl) (by kernel_rfl) hQ rfl rfl ⟨bc BKo 0, FB.out (Ch.below (below_drew (Below.refl _ w))), FT.out (Ch.below (below_drew (Below.refl _ w))), FE.out (Ch.below (below_drew (Below.refl _ w))) Q0.out rfl, FE.out (Ch.below (below_drew (Below.refl _ w))) Q1.out rfl, FE.out (Ch.below (below_drew (Below.refl _ w))) Q2.out rfl, FE.out (Ch.below (below_drew (Below.refl _ w))) Q3.out rfl, FE.out (Ch.below (below_drew (Below.refl _ w))) Q4.out rfl⟩ (fun hHeld => ?_); refine with_tabW two.tab6 two.bits6 (fun HT_ HW_ => ?_)
  have n0_ := am (blk_drew BKx.out)
  have n1_ := am (blk_drew BKo.out)
  have n2_ := am (Kd.S_drew HS.out)
  have n3_ := am (HC.out.trans (Ch.below (below_drew (Below.refl _ w))))
  have n4_ := am (And.intro (Kd.C_drew G0.out.1) G0.out.2)
  have n5_ := am (And.intro (Kd.C_drew G2.out.1) G2.out.2)
  have n6_ := am (And.intro (Kd.C_drew G3.out.1) G3.out.2)
  have n7_ := am (And.intro (Kd.C_drew G4.out.1) G4.out.2)
  have n8_ := am (And.intro (Kd.C_drew D0.out.1) D0.out.2)
  have n9_ := am (And.intro (Kd.C_drew D2.out.1) D2.out.2)
  have n10_ := am (And.intro (Kd.C_drew D3.out.1) D3.out.2)
  have n11_ := am (And.intro (Kd.C_drew D4.out.1) D4.out.2)
  clear BKx BKo HS HC G0 G2 G3 G4 D0 D2 D3 D4
  have BKx := n0_
  have BKo := n1_
  have HS := n2_
  have HC := n3_
  have G0 := n4_
  have G2 := n5_
  have G3 := n6_
  have G4 := n7_
  have D0 := n8_
  have D2 := n9_
  have D3 := n10_
  have D4 := n11_
  clear n0_ n1_ n2_ n3_ n4_ n5_ n6_ n7_ n8_ n9_ n10_ n11_
  generalize hw1 : w.drew = w1 at BKx BKo HS HC G0 G2 G3 G4 D0 D2 D3 D4 hHeld ⊢
  have hs1 : w.heap.size ≤ w1.heap.size := HC.out.1.size
  have HL1 := am (Nat.le_trans HL.out hs1)
  clear hw1 hs1 HL
  refine tk (i := 0) (N := some 27) (bb 9 1) HT_ HW_ hHeld ?_ (hQ := fun _ _ _ h => hQp _ _ _ _ h)
  refine tk (i := 1) (N := some 28) (bb 9 3) HT_ HW_ hHeld ?_ (hQ := fun _ _ _ h => hQp _ _ _ _ h)
  refine tk (i := 2) (N := some 29) (bb 9 7) HT_ HW_ hHeld ?_ (hQ := fun _ _ _ h => hQp _ _ _ _ h)
  refine pu (i := 3) (N := some 30) (bb 9 15) HT_ ?_ (hQ := fun _ _ _ h => hQp _ _ _ _ h)
  refine tk (i := 4) (N := some 31) (bb 9 31) HT_ HW_ hHeld ?_ (hQ := fun _ _ _ h => hQp _ _ _ _ h)
  refine one_ (i := 5) (N := some 32) (bb 9 63) rfl rfl (one_of HT_.out (by kernel_rfl)) (by decide) (fun K hK => ?_)
  refine goes_ Try.func38 (by kernel_rfl) rfl #[.agg #[.slice B0 e.f0.length b0, .int .i64 e.f1, .slice B2 e.f2.length b2, .slice B3 e.f3.length b3, .slice B4 e.f4.length b4]] (by rfl) rfl rfl (by (try simp only [List.map_toArray, List.map_cons, List.map_nil]); first | done | rfl) ?_
  refine (ownM_calls k B0 b0 B2 b2 B3 b3 B4 b4 e y _ D0.out.1 D0.out.2 D2.out.1 D2.out.2 D3.out.1 D3.out.2 D4.out.1 D4.out.2 HA.out).mono ?_
  rintro ee w2 ⟨E0, d0, E2, d2, E3, d3, E4, d4, rfl, hM, hb⟩
  refine ⟨_, rfl, ?_⟩
  have nM_ := am hM
  clear hM
  have nl_ : Aside0 (go < w1.heap.size ∧ gx < w1.heap.size ∧ w1.heap.size ≤ w2.heap.size) := ⟨blk_lt BKo.out, blk_lt BKx.out, hb.size⟩
  have nb_ := am (Kd.S_mono (Kd.S_bound HS.out) (ok' := fun k => (k ≠ go ∧ k ≠ gx) ∧ ¬ w1.heap.size ≤ k) (fun k hk => ⟨hk.1, by have := hk.2.2.1; omega⟩))
  clear HS
  have HS := nb_
  clear nb_
  have n0_ := am (blk_below BKx.out hb)
  have n1_ := am (blk_below BKo.out hb)
  have n2_ := am (Kd.S_below HS.out hb)
  have n3_ := am (HC.out.trans (Ch.below hb))
  clear BKx BKo HS HC
  have BKx := n0_
  have BKo := n1_
  have HS := n2_
  have HC := n3_
  clear n0_ n1_ n2_ n3_
  clear hb G0 G2 G3 G4 D0 D2 D3 D4 HA
  refine hK.out _ _ ⟨bc BKo 0, FB.out HC.out, FT.out HC.out, FE.out HC.out Q0.out rfl, FE.out HC.out Q1.out rfl, FE.out HC.out Q2.out rfl, FE.out HC.out Q3.out rfl, FE.out HC.out Q4.out rfl⟩ (fun hHeld => ?_)
  clear hK K
  refine nm ?_
  refine one_ (i := 6) (N := some 33) (bb 9 127) rfl rfl (one_of HT_.out (by kernel_rfl)) (by decide) (fun K hK => ?_)
  refine value_ (w1 := ?_) (v := ?_) (by rfl) rfl ?_ ?_
  rotate_left 2
  ·go_simp
   constructor
   ·rfl
   ·rfl
  refine hK.out _ _ ⟨(World.cell?_alloc_lt _ _ _ (World.block_lt_of_cell? _ _ ((blk_cell BKo.out 0).trans rfl))).trans ((blk_cell BKo.out 0).trans rfl), (World.cell?_alloc_lt _ _ _ (World.block_lt_of_cell? _ _ (FB.out HC.out))).trans (FB.out HC.out), (World.cell?_alloc_lt _ _ _ (World.block_lt_of_cell? _ _ (FT.out HC.out))).trans (FT.out HC.out), (World.cell?_alloc_lt _ _ _ (World.block_lt_of_cell? _ _ (FE.out HC.out Q0.out rfl))).trans (FE.out HC.out Q0.out rfl), (World.cell?_alloc_lt _ _ _ (World.block_lt_of_cell? _ _ (FE.out HC.out Q1.out rfl))).trans (FE.out HC.out Q1.out rfl), (World.cell?_alloc_lt _ _ _ (World.block_lt_of_cell? _ _ (FE.out HC.out Q2.out rfl))).trans (FE.out HC.out Q2.out rfl), (World.cell?_alloc_lt _ _ _ (World.block_lt_of_cell? _ _ (FE.out HC.out Q3.out rfl))).trans (FE.out HC.out Q3.out rfl), (World.cell?_alloc_lt _ _ _ (World.block_lt_of_cell? _ _ (FE.out HC.out Q4.out rfl))).trans (FE.out HC.out Q4.out rfl)⟩ (fun hHeld => ?_)
  clear hK K
  refine nm ?_
  refine one_ (i := 7) (N := some 34) (bb 9 255) rfl rfl (one_of HT_.out (by kernel_rfl)) (by decide) (fun K hK => ?_)
  refine Kd.S_append_step k44 (w0 := w2) L (by rfl) (.tmp 27) (.tmp 33) 31 44 (.agg #[.slice none 0 0, .int .i64 0, .slice none 0 0, .slice none 0 0, .slice none 0 0]) 104 rfl Try.underlying31 info44 rfl (by decide) (by omega) (.slice A out.length c) out y [.slice E0 y.f0.length d0, .int .i64 y.f1, .slice E2 y.f2.length d2, .slice E3 y.f3.length d3, .slice E4 y.f4.length d4] (fun k => k ≠ go ∧ k ≠ gx) (fun k => w1.heap.size ≤ k) rfl rfl ?aP ?aK ?aF ?aO ?aB ?aS ?aL ?_
  case aP => exact k44.M_lower HL1.out nM_.out
  case aK => exact fun k hk => ⟨by have := nl_.out; omega, Kd.S_away HS.out (fun j hj e => hj.2 (e ▸ hk))⟩
  case aF => exact fun k hk => by have := nl_.out; omega
  case aO => exact HS.out
  case aB => exact Below.refl _ _
  case aS => have := nl_.out; have := HL1.out; omega
  case aL => have := HM.out; omega
  intro v1 w3 ho hb hg hat
  obtain ⟨A9, c9, rfl⟩ := Kd.S_slice ho
  have nq_ := Kd.S_typed HS.out
  have nr_ := Kd.S_base HS.out
  have n0_ := am (blk_grown BKo.out hg (Kd.S_away HS.out (fun j hj e => hj.1.1 e)))
  have n1_ := am (blk_grown BKx.out hg (Kd.S_away HS.out (fun j hj e => hj.1.2 e)))
  have n2_ := am ho
  have n3_ := am (HC.out.trans (Ch.grown hg (fun k e => ⟨nr_ k e, by obtain ⟨cs, h⟩ := nq_ k e; exact ⟨cs, _, _, h⟩⟩)))
  clear BKo BKx HS HC ho hb hg hat nM_ nq_ nr_
  have BKo := n0_
  have BKx := n1_
  have HS := n2_
  have HC := n3_
  clear n0_ n1_ n2_ n3_
  rw [show (out ++ [y]).length = out.length + 1 by simp] at HS
  refine hK.out _ _ ⟨bc BKo 0, FB.out HC.out, FT.out HC.out, FE.out HC.out Q0.out rfl, FE.out HC.out Q1.out rfl, FE.out HC.out Q2.out rfl, FE.out HC.out Q3.out rfl, FE.out HC.out Q4.out rfl⟩ (fun hHeld => ?_)
  clear hK K
  refine nm ?_
  refine last_ (i := 8) (N := none) (bb 9 511) rfl rfl (one_of HT_.out (by kernel_rfl)) (by decide) (fun K hK => ?_)
  have hs22 := (blk_cell BKo.out 0).trans rfl
  have hfs22 := blk_frozen BKo.out 0
  refine skip_ (w1 := ?_) (by rfl) rfl ?_ ?_
  rotate_left
  ·go_simp
   rfl
  refine hK.out _ _ ?_
  clear hK K hs22 hfs22
  refine done_ (done_of HT_.out (by kernel_rfl)) ?_
  exact HK.out _ _ _ _ _ _ _ _ _ _ (blk_put BKo.out 0 _ rfl) ((Below.heap_setCell _ _ _ _ (fun e => HN.out.1 e.symm)).trans BKx.out) (Kd.S_far HS.out (fun k hk => hk.1) _) (HC.out.trans (Ch.set rfl))
def two.T9 : Bool × List (List Nat × List Nat) := (true, [([], []), ([], []), ([], []), ([], []), ([2, 3], [2, 3]), ([4], [4]), ([1, 5], [1, 5]), ([6], [6]), ([0, 7, 6], [0, 7]), ([8, 8, 0, 1, 2, 3, 4, 5, 6, 7, 8], [8])])
def two.B9 : List Nat := [0, 0, 0, 0, 12, 28, 62, 126, 255, 511]
theorem two.tab9 : rtab .any (opsOf Try.f23 9) = two.T9 := by kernel_rfl
theorem two.bits9 : waitsOk two.T9.2 two.B9 = true := by kernel_rfl
set_option maxHeartbeats 4000000 in
set_option maxRecDepth 100000 in
theorem two_r9 {m l k L go gx gb gt i n cb : Nat} {ad : Addr} {w : World} {A A0 A2 A3 A4 B0 B2 B3 B4 : Option Addr} {c c0 c2 c3 c4 b0 b2 b3 b4 : Nat} {out : List S44} {x e y : S44} {Q : Exit → Act → World → Prop} (hQ : ¬ LetsOut Q) (hQp : ∀ c a a' w, Q (.panic c) a w → Q (.panic c) a' w) {u0 u1 u2 u4 u8 u9 u10 u11 u12 u13 u14 u15 u16 u17 u18 u19 u20 u21 u22 u23 u24 u25 u26 u27 u28 u29 u30 u31 u32 u33 u34 u35 u36 u37 u38 u39 u40 u41 u42 u43 u44 u45 u46 u47 u48 u49 u50 u51 u52 u53 u54 u55 u56 u57 u58 u59 u60 u61 u62 u63 u64 u65 u66 u67 u68 u69 u70 u71 u72 u73 u74 u75 u76 u77 u78 u79 : Value}
    (hko : w.heap[go]? = some (.cells #[.slice A out.length c] 31 (0, 0))) (hkx : w.heap[gx]? = some (.cells #[.slice A0 x.f0.length c0, .int .i64 x.f1, .slice A2 x.f2.length c2, .slice A3 x.f3.length c3, .slice A4 x.f4.length c4] 44 (0, 0))) (hkb : w.heap[gb]? = some (.cells #[.slice (some ad) n cb] 31 (0, 0))) (hkt : w.heap[gt]? = some (.cells #[.int .i64 (i : Int)] 3 (0, 0)))
    (hne : go ≠ gx ∧ gb ≠ go ∧ gt ≠ go ∧ gb < L ∧ gt < L) (hS : Kd.S k44 44 w L (fun k => k ≠ go ∧ k ≠ gx) (.slice A out.length c) out) (hL : L ≤ w.heap.size) (hin : i < n) (hbl : (ad.add (i * 5)).block < L ∧ (ad.add (i * 5)).block ≠ go) (he0 : w.cell? (ad.add (i * 5)) = some (.slice B0 e.f0.length b0)) (he1 : w.cell? (⟨(ad.add (i * 5)).block, (ad.add (i * 5)).off + 1, none⟩) = some (.int .i64 e.f1)) (he2 : w.cell? (⟨(ad.add (i * 5)).block, (ad.add (i * 5)).off + 2, none⟩) = some (.slice B2 e.f2.length b2)) (he3 : w.cell? (⟨(ad.add (i * 5)).block, (ad.add (i * 5)).off + 3, none⟩) = some (.slice B3 e.f3.length b3)) (he4 : w.cell? (⟨(ad.add (i * 5)).block, (ad.add (i * 5)).off + 4, none⟩) = some (.slice B4 e.f4.length b4))
    (hx0 : Kd.C (Kd.int .i64) w A0 x.f0.length x.f0 ∧ x.f0.length ≤ c0) (hx2 : Kd.C (Kd.int .i64) w A2 x.f2.length x.f2 ∧ x.f2.length ≤ c2) (hx3 : Kd.C (Kd.int .i64) w A3 x.f3.length x.f3 ∧ x.f3.length ≤ c3) (hx4 : Kd.C (Kd.int .i64) w A4 x.f4.length x.f4 ∧ x.f4.length ≤ c4) (hd0 : Kd.C (Kd.int .i64) w B0 e.f0.length e.f0 ∧ e.f0.length ≤ b0) (hd2 : Kd.C (Kd.int .i64) w B2 e.f2.length e.f2 ∧ e.f2.length ≤ b2) (hd3 : Kd.C (Kd.int .i64) w B3 e.f3.length e.f3 ∧ e.f3.length ≤ b3) (hd4 : Kd.C (Kd.int .i64) w B4 e.f4.length e.f4 ∧ e.f4.length ≤ b4) (h : cell_Join.f k x.f0 x.f1 x.f2 x.f3 x.f4 e.f0 e.f1 e.f2 e.f3 e.f4 = some (y.f0, y.f1, y.f2, y.f3, y.f4)) (hl : out.length < 1353245080339)
    (hK : ∀ v W z0 z1 z2 z3 z4 z5 z6 z7 z8, W.heap[go]? = some (.cells #[v] 31 (0, 0)) → W.heap[gx]? = some (.cells #[.slice A0 x.f0.length c0, .int .i64 x.f1, .slice A2 x.f2.length c2, .slice A3 x.f3.length c3, .slice A4 x.f4.length c4] 44 (0, 0)) → Kd.S k44 44 W L (fun k => k ≠ go ∧ k ≠ gx) v (out ++ [y]) → Ch L (· = go) w W → Q .normal { tmps := (List.toArray (u0 :: u1 :: u2 :: .pointer (some ⟨gb, 0, none⟩) :: u4 :: .pointer (some ⟨go, 0, none⟩) :: .pointer (some ⟨gt, 0, none⟩) :: .pointer (some ⟨gx, 0, none⟩) :: u8 :: u9 :: u10 :: u11 :: u12 :: u13 :: u14 :: u15 :: u16 :: u17 :: u18 :: u19 :: u20 :: u21 :: u22 :: u23 :: u24 :: u25 :: u26 :: u27 :: u28 :: u29 :: u30 :: u31 :: u32 :: u33 :: u34 :: u35 :: u36 :: u37 :: u38 :: u39 :: u40 :: u41 :: u42 :: u43 :: u44 :: u45 :: u46 :: u47 :: u48 :: u49 :: u50 :: u51 :: z0 :: z1 :: z2 :: z3 :: z4 :: z5 :: z6 :: z7 :: z8 :: u61 :: u62 :: u63 :: u64 :: u65 :: u66 :: u67 :: u68 :: u69 :: u70 :: u71 :: u72 :: u73 :: u74 :: u75 :: u76 :: u77 :: u78 :: u79 :: [])), defers := [] } W) :
    (Code.region 9 #[{ dst := some 52, op := Op.load 31 (Operand.tmp 5), type := 31, pos := "merge.go:40", after := #[], guard := none }, { dst := some 53, op := Op.load 44 (Operand.tmp 7), type := 44, pos := "merge.go:40", after := #[], guard := none }, { dst := some 54, op := Op.load 31 (Operand.tmp 3), type := 31, pos := "merge.go:40", after := #[], guard := none }, { dst := some 55, op := Op.load 3 (Operand.tmp 6), type := 3, pos := "merge.go:40", after := #[], guard := none }, { dst := some 56, op := Op.indexAddr 31 (Operand.tmp 54) (Operand.tmp 55), type := 0, pos := "merge.go:40", after := #[{ on := 2, ground := Ground.data }, { on := 3, ground := Ground.data }], guard := none }, { dst := some 57, op := Op.load 44 (Operand.tmp 56), type := 44, pos := "merge.go:40", after := #[{ on := 4, ground := Ground.data }], guard := none }, { dst := some 58, op := Op.call { callee := Callee.value (Operand.func 39), args := #[Operand.tmp 53, Operand.tmp 57], argTypes := #[44, 44] }, type := 44, pos := "merge.go:40", after := #[{ on := 1, ground := Ground.data }, { on := 5, ground := Ground.data }], guard := none }, { dst := some 59, op := Op.buildSlice 31 1 #[(0, Operand.tmp 58)], type := 31, pos := "merge.go:40", after := #[{ on := 6, ground := Ground.data }], guard := none }, { dst := some 60, op := Op.call { callee := Callee.builtin Builtin.append, args := #[Operand.tmp 52, Operand.tmp 59], argTypes := #[31, 31] }, type := 31, pos := "merge.go:40", after := #[{ on := 0, ground := Ground.data }, { on := 7, ground := Ground.data }, { on := 6, ground := Ground.chain }], guard := none }, { dst := none, op := Op.store 31 (Operand.tmp 5) (Operand.tmp 60), type := 0, pos := "merge.go:40", after := #[{ on := 8, ground := Ground.data }, { on := 8, ground := Ground.chain }, { on := 0, ground := Ground.phase }, { on := 1, ground := Ground.phase }, { on := 2, ground := Ground.phase }, { on := 3, ground := Ground.phase }, { on := 4, ground := Ground.phase }, { on := 5, ground := Ground.phase }, { on := 6, ground := Ground.phase }, { on := 7, ground := Ground.phase }, { on := 8, ground := Ground.phase }], guard := none }] true).wpIn (Fence.wide.inRound l) m Try.prog Q { tmps := (List.toArray (u0 :: u1 :: u2 :: .pointer (some ⟨gb, 0, none⟩) :: u4 :: .pointer (some ⟨go, 0, none⟩) :: .pointer (some ⟨gt, 0, none⟩) :: .pointer (some ⟨gx, 0, none⟩) :: u8 :: u9 :: u10 :: u11 :: u12 :: u13 :: u14 :: u15 :: u16 :: u17 :: u18 :: u19 :: u20 :: u21 :: u22 :: u23 :: u24 :: u25 :: u26 :: u27 :: u28 :: u29 :: u30 :: u31 :: u32 :: u33 :: u34 :: u35 :: u36 :: u37 :: u38 :: u39 :: u40 :: u41 :: u42 :: u43 :: u44 :: u45 :: u46 :: u47 :: u48 :: u49 :: u50 :: u51 :: u52 :: u53 :: u54 :: u55 :: u56 :: u57 :: u58 :: u59 :: u60 :: u61 :: u62 :: u63 :: u64 :: u65 :: u66 :: u67 :: u68 :: u69 :: u70 :: u71 :: u72 :: u73 :: u74 :: u75 :: u76 :: u77 :: u78 :: u79 :: [])), defers := [] } w := by
  have hu44 := Try.underlying44
  have BKo := am hko
  have BKx := am hkx
  have KB := am hkb
  have KT := am hkt
  have HS := am hS
  have HL := am hL
  have HN := am hne
  have HE := am hbl
  have HA := am h
  have HM := am hl
  have HK := am hK
  have HC := am (Ch.refl L (· = go) w)
  have Q0 := am he0
  have Q1 := am he1
  have Q2 := am he2
  have Q3 := am he3
  have Q4 := am he4
  have G0 := am hx0
  have G2 := am hx2
  have G3 := am hx3
  have G4 := am hx4
  have D0 := am hd0
  have D2 := am hd2
  have D3 := am hd3
  have D4 := am hd4
  have i1 : (0 ≤ (i : Int)) = True := eq_true (by omega)
  have i2 : ((i : Int) < (n : Int)) = True := eq_true (by omega)
  have i3 : (i < n) = True := eq_true hin
  clear hko hkx hkb hkt hS hL hne hbl h hl hK he0 he1 he2 he3 he4 hx0 hx2 hx3 hx4 hd0 hd2 hd3 hd4 hin
  have fB : ∀ {W : World}, Ch L (· = go) w W → W.cell? ⟨gb, 0, none⟩ = some (.slice (some ad) n cb) := fun hC => (blk_cell ((hC.2 gb (blk_lt KB.out) HN.out.2.1 (.inl HN.out.2.2.2.1)).trans KB.out) 0).trans rfl
  have fT : ∀ {W : World}, Ch L (· = go) w W → W.cell? ⟨gt, 0, none⟩ = some (.int .i64 (i : Int)) := fun hC => (blk_cell ((hC.2 gt (blk_lt KT.out) HN.out.2.2.1 (.inl HN.out.2.2.2.2)).trans KT.out) 0).trans rfl
  have fE : ∀ {W : World} {p : Addr} {u : Value}, Ch L (· = go) w W → w.cell? p = some u → p.block = (ad.add (i * 5)).block → W.cell? p = some u := fun {W p u} hC hu hp => (World.cell?_of_block (w := w) (w' := W) (a := p) (hC.2 _ (World.block_lt_of_cell? w _ hu) (hp ▸ HE.out.2) (.inl (hp ▸ HE.out.1)))).trans hu
  have FB := am @fB
  have FT := am @fT
  have FE := am @fE
  clear fB fT fE
  refine start_round (n := 10) (S := fun w' => w'.cell? ⟨go, 0, none⟩ = some (.slice A out.length c) ∧ w'.cell? ⟨gx, 0, none⟩ = some (.slice A0 x.f0.length c0) ∧ w'.cell? ⟨gx, 1, none⟩ = some (.int .i64 x.f1) ∧ w'.cell? ⟨gx, 2, none⟩ = some (.slice A2 x.f2.length c2) ∧ w'.cell? ⟨gx, 3, none⟩ = some (.slice A3 x.f3.length c3) ∧ w'.cell? ⟨gx, 4, none⟩ = some (.slice A4 x.f4.length c4) ∧ w'.cell? ⟨gb, 0, none⟩ = some (.slice (some ad) n cb) ∧ w'.cell? ⟨gt, 0, none⟩ = some (.int .i64 (i : Int)) ∧ w'.cell? (ad.add (i * 5)) = some (.slice B0 e.f0.length b0) ∧ w'.cell? (⟨(ad.add (i * 5)).block, (ad.add (i * 5)).off + 1, none⟩) = some (.int .i64 e.f1) ∧ w'.cell? (⟨(ad.add (i * 5)).block, (ad.add (i * 5)).off + 2, none⟩) = some (.slice B2 e.f2.length b2) ∧ w'.cell? (⟨(ad.add (i * 5)).block, (ad.add (i * 5)).off + 3, none⟩) = some (.slice B3 e.f3.length b3) ∧ w'.cell? (⟨(ad.add (i * 5)).block, (ad.add (i * 5)).off + 4, none⟩) = some (.slice B4 e.f4.length b4)) (ds := [9]) (bb 10 0) (by kernel_rfl) (by kernel_rfl) hQ rfl rfl ⟨bc BKo 0, bc BKx 0, bc BKx 1, bc BKx 2, bc BKx 3, bc BKx 4, FB.out (Ch.below (below_drew (Below.refl _ w))), FT.out (Ch.below (below_drew (Below.refl _ w))), FE.out (Ch.below (below_drew (Below.refl _ w))) Q0.out rfl, FE.out (Ch.below (below_drew (Below.refl _ w))) Q1.out rfl, FE.out (Ch.below (below_drew (Below.refl _ w))) Q2.out rfl, FE.out (Ch.below (below_drew (Below.refl _ w))) Q3.out rfl, FE.out (Ch.below (below_drew (Below.refl _ w))) Q4.out rfl⟩ (fun hHeld => ?_); refine with_tabW two.tab9 two.bits9 (fun HT_ HW_ => ?_)
  have n0_ := am (blk_drew BKx.out)
  have n1_ := am (blk_drew BKo.out)
  have n2_ := am (Kd.S_drew HS.out)
  have n3_ := am (HC.out.trans (Ch.below (below_drew (Below.refl _ w))))
  have n4_ := am (And.intro (Kd.C_drew G0.out.1) G0.out.2)
  have n5_ := am (And.intro (Kd.C_drew G2.out.1) G2.out.2)
  have n6_ := am (And.intro (Kd.C_drew G3.out.1) G3.out.2)
  have n7_ := am (And.intro (Kd.C_drew G4.out.1) G4.out.2)
  have n8_ := am (And.intro (Kd.C_drew D0.out.1) D0.out.2)
  have n9_ := am (And.intro (Kd.C_drew D2.out.1) D2.out.2)
  have n10_ := am (And.intro (Kd.C_drew D3.out.1) D3.out.2)
  have n11_ := am (And.intro (Kd.C_drew D4.out.1) D4.out.2)
  clear BKx BKo HS HC G0 G2 G3 G4 D0 D2 D3 D4
  have BKx := n0_
  have BKo := n1_
  have HS := n2_
  have HC := n3_
  have G0 := n4_
  have G2 := n5_
  have G3 := n6_
  have G4 := n7_
  have D0 := n8_
  have D2 := n9_
  have D3 := n10_
  have D4 := n11_
  clear n0_ n1_ n2_ n3_ n4_ n5_ n6_ n7_ n8_ n9_ n10_ n11_
  generalize hw1 : w.drew = w1 at BKx BKo HS HC G0 G2 G3 G4 D0 D2 D3 D4 hHeld ⊢
  have hs1 : w.heap.size ≤ w1.heap.size := HC.out.1.size
  have HL1 := am (Nat.le_trans HL.out hs1)
  clear hw1 hs1 HL
  refine tk (i := 0) (N := some 52) (bb 10 1) HT_ HW_ hHeld ?_ (hQ := fun _ _ _ h => hQp _ _ _ _ h)
  refine tk (i := 1) (N := some 53) (bb 10 3) HT_ HW_ hHeld ?_ (hQ := fun _ _ _ h => hQp _ _ _ _ h)
  refine tk (i := 2) (N := some 54) (bb 10 7) HT_ HW_ hHeld ?_ (hQ := fun _ _ _ h => hQp _ _ _ _ h)
  refine tk (i := 3) (N := some 55) (bb 10 15) HT_ HW_ hHeld ?_ (hQ := fun _ _ _ h => hQp _ _ _ _ h)
  refine pu (i := 4) (N := some 56) (bb 10 31) HT_ ?_ (hQ := fun _ _ _ h => hQp _ _ _ _ h)
  refine tk (i := 5) (N := some 57) (bb 10 63) HT_ HW_ hHeld ?_ (hQ := fun _ _ _ h => hQp _ _ _ _ h)
  refine one_ (i := 6) (N := some 58) (bb 10 127) rfl rfl (one_of HT_.out (by kernel_rfl)) (by decide) (fun K hK => ?_)
  refine goes_ Try.func39 (by kernel_rfl) rfl #[.agg #[.slice A0 x.f0.length c0, .int .i64 x.f1, .slice A2 x.f2.length c2, .slice A3 x.f3.length c3, .slice A4 x.f4.length c4], .agg #[.slice B0 e.f0.length b0, .int .i64 e.f1, .slice B2 e.f2.length b2, .slice B3 e.f3.length b3, .slice B4 e.f4.length b4]] (by rfl) rfl rfl (by (try simp only [List.map_toArray, List.map_cons, List.map_nil]); first | done | rfl) ?_
  refine (cell_Join.calls k A0 c0 x.f0 x.f1 A2 c2 x.f2 A3 c3 x.f3 A4 c4 x.f4 B0 b0 e.f0 e.f1 B2 b2 e.f2 B3 b3 e.f3 B4 b4 e.f4 y.f0 y.f1 y.f2 y.f3 y.f4 _ G0.out.1 G0.out.2 G2.out.1 G2.out.2 G3.out.1 G3.out.2 G4.out.1 G4.out.2 D0.out.1 D0.out.2 D2.out.1 D2.out.2 D3.out.1 D3.out.2 D4.out.1 D4.out.2 HA.out).mono ?_
  rintro ee w2 ⟨v0, v2, v3, v4, rfl, o0, o2, o3, o4, hb⟩
  refine ⟨_, rfl, ?_⟩
  obtain ⟨E0, d0, rfl⟩ := Kd.R_slice o0
  obtain ⟨E2, d2, rfl⟩ := Kd.R_slice o2
  obtain ⟨E3, d3, rfl⟩ := Kd.R_slice o3
  obtain ⟨E4, d4, rfl⟩ := Kd.R_slice o4
  have nM_ := am (k44_mkM w2 w1.heap.size (fun k => w1.heap.size ≤ k) y (Kd.R_mono (Kd.R_bound o0) (fun k hk => hk.2.1)) (Kd.R_mono (Kd.R_bound o2) (fun k hk => hk.2.1)) (Kd.R_mono (Kd.R_bound o3) (fun k hk => hk.2.1)) (Kd.R_mono (Kd.R_bound o4) (fun k hk => hk.2.1)))
  clear o0 o2 o3 o4
  have nl_ : Aside0 (go < w1.heap.size ∧ gx < w1.heap.size ∧ w1.heap.size ≤ w2.heap.size) := ⟨blk_lt BKo.out, blk_lt BKx.out, hb.size⟩
  have nb_ := am (Kd.S_mono (Kd.S_bound HS.out) (ok' := fun k => (k ≠ go ∧ k ≠ gx) ∧ ¬ w1.heap.size ≤ k) (fun k hk => ⟨hk.1, by have := hk.2.2.1; omega⟩))
  clear HS
  have HS := nb_
  clear nb_
  have n0_ := am (blk_below BKx.out hb)
  have n1_ := am (blk_below BKo.out hb)
  have n2_ := am (Kd.S_below HS.out hb)
  have n3_ := am (HC.out.trans (Ch.below hb))
  clear BKx BKo HS HC
  have BKx := n0_
  have BKo := n1_
  have HS := n2_
  have HC := n3_
  clear n0_ n1_ n2_ n3_
  clear hb G0 G2 G3 G4 D0 D2 D3 D4 HA
  refine hK.out _ _ ⟨bc BKo 0, bc BKx 0, bc BKx 1, bc BKx 2, bc BKx 3, bc BKx 4, FB.out HC.out, FT.out HC.out, FE.out HC.out Q0.out rfl, FE.out HC.out Q1.out rfl, FE.out HC.out Q2.out rfl, FE.out HC.out Q3.out rfl, FE.out HC.out Q4.out rfl⟩ (fun hHeld => ?_)
  clear hK K
  refine nm ?_
  refine one_ (i := 7) (N := some 59) (bb 10 255) rfl rfl (one_of HT_.out (by kernel_rfl)) (by decide) (fun K hK => ?_)
  refine value_ (w1 := ?_) (v := ?_) (by rfl) rfl ?_ ?_
  rotate_left 2
  ·go_simp
   constructor
   ·rfl
   ·rfl
  refine hK.out _ _ ⟨(World.cell?_alloc_lt _ _ _ (World.block_lt_of_cell? _ _ ((blk_cell BKo.out 0).trans rfl))).trans ((blk_cell BKo.out 0).trans rfl), (World.cell?_alloc_lt _ _ _ (World.block_lt_of_cell? _ _ ((blk_cell BKx.out 0).trans rfl))).trans ((blk_cell BKx.out 0).trans rfl), (World.cell?_alloc_lt _ _ _ (World.block_lt_of_cell? _ _ ((blk_cell BKx.out 1).trans rfl))).trans ((blk_cell BKx.out 1).trans rfl), (World.cell?_alloc_lt _ _ _ (World.block_lt_of_cell? _ _ ((blk_cell BKx.out 2).trans rfl))).trans ((blk_cell BKx.out 2).trans rfl), (World.cell?_alloc_lt _ _ _ (World.block_lt_of_cell? _ _ ((blk_cell BKx.out 3).trans rfl))).trans ((blk_cell BKx.out 3).trans rfl), (World.cell?_alloc_lt _ _ _ (World.block_lt_of_cell? _ _ ((blk_cell BKx.out 4).trans rfl))).trans ((blk_cell BKx.out 4).trans rfl), (World.cell?_alloc_lt _ _ _ (World.block_lt_of_cell? _ _ (FB.out HC.out))).trans (FB.out HC.out), (World.cell?_alloc_lt _ _ _ (World.block_lt_of_cell? _ _ (FT.out HC.out))).trans (FT.out HC.out), (World.cell?_alloc_lt _ _ _ (World.block_lt_of_cell? _ _ (FE.out HC.out Q0.out rfl))).trans (FE.out HC.out Q0.out rfl), (World.cell?_alloc_lt _ _ _ (World.block_lt_of_cell? _ _ (FE.out HC.out Q1.out rfl))).trans (FE.out HC.out Q1.out rfl), (World.cell?_alloc_lt _ _ _ (World.block_lt_of_cell? _ _ (FE.out HC.out Q2.out rfl))).trans (FE.out HC.out Q2.out rfl), (World.cell?_alloc_lt _ _ _ (World.block_lt_of_cell? _ _ (FE.out HC.out Q3.out rfl))).trans (FE.out HC.out Q3.out rfl), (World.cell?_alloc_lt _ _ _ (World.block_lt_of_cell? _ _ (FE.out HC.out Q4.out rfl))).trans (FE.out HC.out Q4.out rfl)⟩ (fun hHeld => ?_)
  clear hK K
  refine nm ?_
  refine one_ (i := 8) (N := some 60) (bb 10 511) rfl rfl (one_of HT_.out (by kernel_rfl)) (by decide) (fun K hK => ?_)
  refine Kd.S_append_step k44 (w0 := w2) L (by rfl) (.tmp 52) (.tmp 59) 31 44 (.agg #[.slice none 0 0, .int .i64 0, .slice none 0 0, .slice none 0 0, .slice none 0 0]) 104 rfl Try.underlying31 info44 rfl (by decide) (by omega) (.slice A out.length c) out y [.slice E0 y.f0.length d0, .int .i64 y.f1, .slice E2 y.f2.length d2, .slice E3 y.f3.length d3, .slice E4 y.f4.length d4] (fun k => k ≠ go ∧ k ≠ gx) (fun k => w1.heap.size ≤ k) rfl rfl ?aP ?aK ?aF ?aO ?aB ?aS ?aL ?_
  case aP => exact k44.M_lower HL1.out nM_.out
  case aK => exact fun k hk => ⟨by have := nl_.out; omega, Kd.S_away HS.out (fun j hj e => hj.2 (e ▸ hk))⟩
  case aF => exact fun k hk => by have := nl_.out; omega
  case aO => exact HS.out
  case aB => exact Below.refl _ _
  case aS => have := nl_.out; have := HL1.out; omega
  case aL => have := HM.out; omega
  intro v1 w3 ho hb hg hat
  obtain ⟨A9, c9, rfl⟩ := Kd.S_slice ho
  have nq_ := Kd.S_typed HS.out
  have nr_ := Kd.S_base HS.out
  have n0_ := am (blk_grown BKo.out hg (Kd.S_away HS.out (fun j hj e => hj.1.1 e)))
  have n1_ := am (blk_grown BKx.out hg (Kd.S_away HS.out (fun j hj e => hj.1.2 e)))
  have n2_ := am ho
  have n3_ := am (HC.out.trans (Ch.grown hg (fun k e => ⟨nr_ k e, by obtain ⟨cs, h⟩ := nq_ k e; exact ⟨cs, _, _, h⟩⟩)))
  clear BKo BKx HS HC ho hb hg hat nM_ nq_ nr_
  have BKo := n0_
  have BKx := n1_
  have HS := n2_
  have HC := n3_
  clear n0_ n1_ n2_ n3_
  rw [show (out ++ [y]).length = out.length + 1 by simp] at HS
  refine hK.out _ _ ⟨bc BKo 0, bc BKx 0, bc BKx 1, bc BKx 2, bc BKx 3, bc BKx 4, FB.out HC.out, FT.out HC.out, FE.out HC.out Q0.out rfl, FE.out HC.out Q1.out rfl, FE.out HC.out Q2.out rfl, FE.out HC.out Q3.out rfl, FE.out HC.out Q4.out rfl⟩ (fun hHeld => ?_)
  clear hK K
  refine nm ?_
  refine last_ (i := 9) (N := none) (bb 10 1023) rfl rfl (one_of HT_.out (by kernel_rfl)) (by decide) (fun K hK => ?_)
  have hs22 := (blk_cell BKo.out 0).trans rfl
  have hfs22 := blk_frozen BKo.out 0
  refine skip_ (w1 := ?_) (by rfl) rfl ?_ ?_
  rotate_left
  ·go_simp
   rfl
  refine hK.out _ _ ?_
  clear hK K hs22 hfs22
  refine done_ (done_of HT_.out (by kernel_rfl)) ?_
  exact HK.out _ _ _ _ _ _ _ _ _ _ _ (blk_put BKo.out 0 _ rfl) ((Below.heap_setCell _ _ _ _ (fun e => HN.out.1 e.symm)).trans BKx.out) (Kd.S_far HS.out (fun k hk => hk.1) _) (HC.out.trans (Ch.set rfl))
def two.T5 : Bool × List (List Nat × List Nat) := (true, [([], []), ([], []), ([1], [1]), ([0, 2], [0, 2]), ([3], [3]), ([4], [4]), ([4], [4]), ([5, 6, 4], [4, 5, 6]), ([7, 4], [4, 7]), ([8, 4], [4, 8]), ([4], [4]), ([10, 4], [4, 10]), ([9, 11, 4, 4], [4, 9, 11]), ([12, 4], [4, 12]), ([4, 13], [4, 13])])
def two.B5 : List Nat := [0, 0, 2, 7, 15, 31, 31, 127, 255, 511, 31, 1055, 4095, 8191, 16383]
theorem two.tab5 : rtab .any (opsOf Try.f23 5) = two.T5 := by kernel_rfl
theorem two.bits5 : waitsOk two.T5.2 two.B5 = true := by kernel_rfl
set_option maxHeartbeats 4000000 in
set_option maxRecDepth 100000 in
theorem two_r5t {m l k gx gb gt i n cb : Nat} {r : Int} {ad : Addr} {w : World} {AB A0 A2 A3 A4 B0 : Option Addr} {c0 c2 c3 c4 b0 : Nat} {x e : S44} {Q : Exit → Act → World → Prop} (hQ : ¬ LetsOut Q) (hQp : ∀ c a a' w, Q (.panic c) a w → Q (.panic c) a' w) {u0 u1 u2 u4 u5 u8 u9 u10 u11 u12 u13 u14 u15 u16 u17 u18 u19 u20 u21 u22 u23 u24 u25 u26 u27 u28 u29 u30 u31 u32 u33 u34 u35 u36 u37 u38 u39 u40 u41 u42 u43 u44 u45 u46 u47 u48 u49 u50 u51 u52 u53 u54 u55 u56 u57 u58 u59 u60 u61 u62 u63 u64 u65 u66 u67 u68 u69 u70 u71 u72 u73 u74 u75 u76 u77 u78 u79 : Value}
  (hkx : w.heap[gx]? = some (.cells #[.slice A0 x.f0.length c0, .int .i64 x.f1, .slice A2 x.f2.length c2, .slice A3 x.f3.length c3, .slice A4 x.f4.length c4] 44 (0, 0))) (hkb : w.heap[gb]? = some (.cells #[.slice (some ad) n cb] 31 (0, 0))) (hkt : w.heap[gt]? = some (.cells #[.int .i64 (i : Int)] 3 (0, 0))) (h : cell_Less.f k e.f0 x.f0 = some r) (hin : i < n) (he0 : w.cell? (ad.add (i * 5)) = some (.slice B0 e.f0.length b0)) (hd0 : Kd.C (Kd.int .i64) w B0 e.f0.length e.f0 ∧ e.f0.length ≤ b0) (hx0 : Kd.C (Kd.int .i64) w A0 x.f0.length x.f0 ∧ x.f0.length ≤ c0)
  (hK : ∀ W z0 z1 z2 z3 z4 z5 z6 z7 z8 z9 z10 z11 z12 z13, Below w.heap.size w W → Q .normal { tmps := (List.toArray (u0 :: u1 :: u2 :: .pointer (some ⟨gb, 0, none⟩) :: u4 :: u5 :: .pointer (some ⟨gt, 0, none⟩) :: .pointer (some ⟨gx, 0, none⟩) :: u8 :: u9 :: u10 :: u11 :: z0 :: z1 :: z2 :: z3 :: z4 :: z5 :: z6 :: z7 :: z8 :: z9 :: z10 :: z11 :: z12 :: z13 :: .bool (decide (r < 0)) :: u27 :: u28 :: u29 :: u30 :: u31 :: u32 :: u33 :: u34 :: u35 :: u36 :: u37 :: u38 :: u39 :: u40 :: u41 :: u42 :: u43 :: u44 :: u45 :: u46 :: u47 :: u48 :: u49 :: u50 :: u51 :: u52 :: u53 :: u54 :: u55 :: u56 :: u57 :: u58 :: u59 :: u60 :: u61 :: u62 :: u63 :: u64 :: u65 :: u66 :: u67 :: u68 :: u69 :: u70 :: u71 :: u72 :: u73 :: u74 :: u75 :: u76 :: u77 :: u78 :: u79 :: [])), defers := [] } W) :
  (Code.region 5 #[{ dst := some 12, op := Op.load 3 (Operand.tmp 6), type := 3, pos := "merge.go:35", after := #[], guard := none }, { dst := some 13, op := Op.load 31 (Operand.tmp 3), type := 31, pos := "merge.go:35", after := #[], guard := none }, { dst := some 14, op := Op.call { callee := Callee.builtin Builtin.len, args := #[Operand.tmp 13], argTypes := #[31] }, type := 3, pos := "merge.go:35", after := #[{ on := 1, ground := Ground.data }], guard := none }, { dst := some 15, op := Op.binOp BinOp.lss 3 (Operand.tmp 12) (Operand.tmp 14) 3, type := 4, pos := "merge.go:35", after := #[{ on := 0, ground := Ground.data }, { on := 2, ground := Ground.data }], guard := none }, { dst := some 16, op := Op.move (Operand.tmp 15), type := 4, pos := "merge.go:35", after := #[{ on := 3, ground := Ground.data }], guard := none }, { dst := some 17, op := Op.load 31 (Operand.tmp 3), type := 31, pos := "merge.go:35", after := #[{ on := 4, ground := Ground.guard }], guard := some (4, true) }, { dst := some 18, op := Op.load 3 (Operand.tmp 6), type := 3, pos := "merge.go:35", after := #[{ on := 4, ground := Ground.guard }], guard := some (4, true) }, { dst := some 19, op := Op.indexAddr 31 (Operand.tmp 17) (Operand.tmp 18), type := 0, pos := "merge.go:35", after := #[{ on := 5, ground := Ground.data }, { on := 6, ground := Ground.data }, { on := 4, ground := Ground.guard }], guard := some (4, true) }, { dst := some 20, op := Op.fieldAddr 44 (Operand.tmp 19) 0, type := 0, pos := "merge.go:35", after := #[{ on := 7, ground := Ground.data }, { on := 4, ground := Ground.guard }], guard := some (4, true) }, { dst := some 21, op := Op.load 22 (Operand.tmp 20), type := 22, pos := "merge.go:35", after := #[{ on := 8, ground := Ground.data }, { on := 4, ground := Ground.guard }], guard := some (4, true) }, { dst := some 22, op := Op.fieldAddr 44 (Operand.tmp 7) 0, type := 0, pos := "merge.go:35", after := #[{ on := 4, ground := Ground.guard }], guard := some (4, true) }, { dst := some 23, op := Op.load 22 (Operand.tmp 22), type := 22, pos := "merge.go:35", after := #[{ on := 10, ground := Ground.data }, { on := 4, ground := Ground.guard }], guard := some (4, true) }, { dst := some 24, op := Op.call { callee := Callee.value (Operand.func 37), args := #[Operand.tmp 21, Operand.tmp 23], argTypes := #[22, 22] }, type := 3, pos := "merge.go:35", after := #[{ on := 9, ground := Ground.data }, { on := 11, ground := Ground.data }, { on := 4, ground := Ground.chain }, { on := 4, ground := Ground.guard }], guard := some (4, true) }, { dst := some 25, op := Op.binOp BinOp.lss 3 (Operand.tmp 24) (Operand.const (Value.int IntKind.i64 0)) 3, type := 4, pos := "merge.go:35", after := #[{ on := 12, ground := Ground.data }, { on := 4, ground := Ground.guard }], guard := some (4, true) }, { dst := some 26, op := Op.pick (Operand.tmp 16) (Operand.tmp 25) (Operand.const (Value.bool false)), type := 4, pos := "merge.go:35", after := #[{ on := 4, ground := Ground.data }, { on := 13, ground := Ground.data }], guard := none }] true).wpIn (Fence.wide.inRound l) m Try.prog Q { tmps := (List.toArray (u0 :: u1 :: u2 :: .pointer (some ⟨gb, 0, none⟩) :: u4 :: u5 :: .pointer (some ⟨gt, 0, none⟩) :: .pointer (some ⟨gx, 0, none⟩) :: u8 :: u9 :: u10 :: u11 :: u12 :: u13 :: u14 :: u15 :: u16 :: u17 :: u18 :: u19 :: u20 :: u21 :: u22 :: u23 :: u24 :: u25 :: u26 :: u27 :: u28 :: u29 :: u30 :: u31 :: u32 :: u33 :: u34 :: u35 :: u36 :: u37 :: u38 :: u39 :: u40 :: u41 :: u42 :: u43 :: u44 :: u45 :: u46 :: u47 :: u48 :: u49 :: u50 :: u51 :: u52 :: u53 :: u54 :: u55 :: u56 :: u57 :: u58 :: u59 :: u60 :: u61 :: u62 :: u63 :: u64 :: u65 :: u66 :: u67 :: u68 :: u69 :: u70 :: u71 :: u72 :: u73 :: u74 :: u75 :: u76 :: u77 :: u78 :: u79 :: [])), defers := [] } w := by
 have hu44 := Try.underlying44
 have HK := am hK
 have hb0 : Below w.heap.size w w.drew := below_drew (Below.refl _ w)
 have BKx := am (blk_below hkx hb0)
 have BKb := am (blk_below hkb hb0)
 have BKt := am (blk_below hkt hb0)
 have Q0 := am ((hb0.cell (World.block_lt_of_cell? w _ he0)).trans he0)
 have D0 := am (And.intro (Kd.C_drew hd0.1) hd0.2)
 have G0 := am (And.intro (Kd.C_drew hx0.1) hx0.2)
 have HA := am h
 have HB := am hb0
 have i1 : (0 ≤ (i : Int)) = True := eq_true (by omega)
 have i2 : ((i : Int) < (n : Int)) = True := eq_true (by omega)
 have i3 : (i < n) = True := eq_true hin
 clear hkx hkb hkt h he0 hd0 hx0 hin hK hb0
 refine start_round (n := 15) (S := fun w' => w'.cell? ⟨gt, 0, none⟩ = some (.int .i64 (i : Int)) ∧ w'.cell? ⟨gb, 0, none⟩ = some (.slice (some ad) n cb) ∧ w'.cell? (ad.add (i * 5)) = some (.slice B0 e.f0.length b0) ∧ w'.cell? ⟨gx, 0, none⟩ = some (.slice A0 x.f0.length c0)) (ds := []) (bb 15 0) (by kernel_rfl) (by kernel_rfl) hQ rfl rfl ⟨bc BKt 0, bc BKb 0, Q0.out, bc BKx 0⟩ (fun hHeld => ?_); refine with_tabW two.tab5 two.bits5 (fun HT_ HW_ => ?_)
 generalize w.drew = w1 at BKx BKb BKt HB Q0 D0 G0 hHeld ⊢
 refine tk (i := 0) (N := some 12) (bb 15 1) HT_ HW_ hHeld ?_ (hQ := fun _ _ _ h => hQp _ _ _ _ h)
 refine tk (i := 1) (N := some 13) (bb 15 3) HT_ HW_ hHeld ?_ (hQ := fun _ _ _ h => hQp _ _ _ _ h)
 refine pu (i := 2) (N := some 14) (bb 15 7) HT_ ?_ (hQ := fun _ _ _ h => hQp _ _ _ _ h)
 refine pu (i := 3) (N := some 15) (bb 15 15) HT_ ?_ (hQ := fun _ _ _ h => hQp _ _ _ _ h)
 refine pu (i := 4) (N := some 16) (bb 15 31) HT_ ?_ (hQ := fun _ _ _ h => hQp _ _ _ _ h)
 refine tk (i := 5) (N := some 17) (bb 15 63) HT_ HW_ hHeld ?_ (hQ := fun _ _ _ h => hQp _ _ _ _ h)
 refine tk (i := 6) (N := some 18) (bb 15 127) HT_ HW_ hHeld ?_ (hQ := fun _ _ _ h => hQp _ _ _ _ h)
 refine pu (i := 7) (N := some 19) (bb 15 255) HT_ ?_ (hQ := fun _ _ _ h => hQp _ _ _ _ h)
 refine pu (i := 8) (N := some 20) (bb 15 511) HT_ ?_ (hQ := fun _ _ _ h => hQp _ _ _ _ h)
 refine tk (i := 9) (N := some 21) (bb 15 1023) HT_ HW_ hHeld ?_ (hQ := fun _ _ _ h => hQp _ _ _ _ h)
 refine pu (i := 10) (N := some 22) (bb 15 2047) HT_ ?_ (hQ := fun _ _ _ h => hQp _ _ _ _ h)
 refine tk (i := 11) (N := some 23) (bb 15 4095) HT_ HW_ hHeld ?_ (hQ := fun _ _ _ h => hQp _ _ _ _ h)
 refine one_ (i := 12) (N := some 24) (bb 15 8191) rfl rfl (one_of HT_.out (by kernel_rfl)) (by decide) (fun K hK => ?_)
 refine goes_ Try.func37 (by kernel_rfl) rfl #[.slice B0 e.f0.length b0, .slice A0 x.f0.length c0] (by rfl) rfl rfl (by (try simp only [List.map_toArray, List.map_cons, List.map_nil]); first | done | rfl) ?_
 refine (cell_Less.calls k B0 b0 e.f0 A0 c0 x.f0 r _ D0.out.1 D0.out.2 G0.out.1 G0.out.2 HA.out).mono ?_
 rintro ee w2 ⟨rfl, ⟨nd, rfl⟩⟩
 refine ⟨_, rfl, ?_⟩
 have hb := pw_below_drewN (Below.refl w1.heap.size w1) nd
 have n0_ := am (blk_below BKx.out hb)
 have n1_ := am (blk_below BKb.out hb)
 have n2_ := am (blk_below BKt.out hb)
 have n3_ := am ((hb.cell (World.block_lt_of_cell? w1 _ Q0.out)).trans Q0.out)
 have n4_ := am (below_step HB.out hb)
 clear BKx BKb BKt Q0 HB hb D0 G0 HA
 have BKx := n0_
 have BKb := n1_
 have BKt := n2_
 have Q0 := n3_
 have HB := n4_
 clear n0_ n1_ n2_ n3_ n4_
 refine hK.out _ _ ⟨bc BKt 0, bc BKb 0, Q0.out, bc BKx 0⟩ (fun hHeld => ?_)
 clear hK K
 refine nm ?_
 refine pu (i := 13) (N := some 25) (bb 15 16383) HT_ ?_ (hQ := fun _ _ _ h => hQp _ _ _ _ h)
 refine pu (i := 14) (N := some 26) (bb 15 32767) HT_ ?_ (hQ := fun _ _ _ h => hQp _ _ _ _ h)
 refine done_ (done_of HT_.out (by kernel_rfl)) ?_
 exact HK.out _ _ _ _ _ _ _ _ _ _ _ _ _ _ _ HB.out
set_option maxHeartbeats 4000000 in
set_option maxRecDepth 100000 in
theorem two_r5f {m l k gx gb gt i n cb : Nat} {r : Int} {ad : Addr} {w : World} {AB A0 A2 A3 A4 B0 : Option Addr} {c0 c2 c3 c4 b0 : Nat} {x e : S44} {Q : Exit → Act → World → Prop} (hQ : ¬ LetsOut Q) (hQp : ∀ c a a' w, Q (.panic c) a w → Q (.panic c) a' w) {u0 u1 u2 u4 u5 u8 u9 u10 u11 u12 u13 u14 u15 u16 u17 u18 u19 u20 u21 u22 u23 u24 u25 u26 u27 u28 u29 u30 u31 u32 u33 u34 u35 u36 u37 u38 u39 u40 u41 u42 u43 u44 u45 u46 u47 u48 u49 u50 u51 u52 u53 u54 u55 u56 u57 u58 u59 u60 u61 u62 u63 u64 u65 u66 u67 u68 u69 u70 u71 u72 u73 u74 u75 u76 u77 u78 u79 : Value}
  (hkx : w.heap[gx]? = some (.cells #[.slice A0 x.f0.length c0, .int .i64 x.f1, .slice A2 x.f2.length c2, .slice A3 x.f3.length c3, .slice A4 x.f4.length c4] 44 (0, 0))) (hkb : w.heap[gb]? = some (.cells #[.slice AB n cb] 31 (0, 0))) (hkt : w.heap[gt]? = some (.cells #[.int .i64 (i : Int)] 3 (0, 0))) (hin : ¬ i < n)
  (hK : ∀ W z0 z1 z2 z3 z4 z5 z6 z7 z8 z9 z10 z11 z12 z13, Below w.heap.size w W → Q .normal { tmps := (List.toArray (u0 :: u1 :: u2 :: .pointer (some ⟨gb, 0, none⟩) :: u4 :: u5 :: .pointer (some ⟨gt, 0, none⟩) :: .pointer (some ⟨gx, 0, none⟩) :: u8 :: u9 :: u10 :: u11 :: z0 :: z1 :: z2 :: z3 :: z4 :: z5 :: z6 :: z7 :: z8 :: z9 :: z10 :: z11 :: z12 :: z13 :: .bool false :: u27 :: u28 :: u29 :: u30 :: u31 :: u32 :: u33 :: u34 :: u35 :: u36 :: u37 :: u38 :: u39 :: u40 :: u41 :: u42 :: u43 :: u44 :: u45 :: u46 :: u47 :: u48 :: u49 :: u50 :: u51 :: u52 :: u53 :: u54 :: u55 :: u56 :: u57 :: u58 :: u59 :: u60 :: u61 :: u62 :: u63 :: u64 :: u65 :: u66 :: u67 :: u68 :: u69 :: u70 :: u71 :: u72 :: u73 :: u74 :: u75 :: u76 :: u77 :: u78 :: u79 :: [])), defers := [] } W) :
  (Code.region 5 #[{ dst := some 12, op := Op.load 3 (Operand.tmp 6), type := 3, pos := "merge.go:35", after := #[], guard := none }, { dst := some 13, op := Op.load 31 (Operand.tmp 3), type := 31, pos := "merge.go:35", after := #[], guard := none }, { dst := some 14, op := Op.call { callee := Callee.builtin Builtin.len, args := #[Operand.tmp 13], argTypes := #[31] }, type := 3, pos := "merge.go:35", after := #[{ on := 1, ground := Ground.data }], guard := none }, { dst := some 15, op := Op.binOp BinOp.lss 3 (Operand.tmp 12) (Operand.tmp 14) 3, type := 4, pos := "merge.go:35", after := #[{ on := 0, ground := Ground.data }, { on := 2, ground := Ground.data }], guard := none }, { dst := some 16, op := Op.move (Operand.tmp 15), type := 4, pos := "merge.go:35", after := #[{ on := 3, ground := Ground.data }], guard := none }, { dst := some 17, op := Op.load 31 (Operand.tmp 3), type := 31, pos := "merge.go:35", after := #[{ on := 4, ground := Ground.guard }], guard := some (4, true) }, { dst := some 18, op := Op.load 3 (Operand.tmp 6), type := 3, pos := "merge.go:35", after := #[{ on := 4, ground := Ground.guard }], guard := some (4, true) }, { dst := some 19, op := Op.indexAddr 31 (Operand.tmp 17) (Operand.tmp 18), type := 0, pos := "merge.go:35", after := #[{ on := 5, ground := Ground.data }, { on := 6, ground := Ground.data }, { on := 4, ground := Ground.guard }], guard := some (4, true) }, { dst := some 20, op := Op.fieldAddr 44 (Operand.tmp 19) 0, type := 0, pos := "merge.go:35", after := #[{ on := 7, ground := Ground.data }, { on := 4, ground := Ground.guard }], guard := some (4, true) }, { dst := some 21, op := Op.load 22 (Operand.tmp 20), type := 22, pos := "merge.go:35", after := #[{ on := 8, ground := Ground.data }, { on := 4, ground := Ground.guard }], guard := some (4, true) }, { dst := some 22, op := Op.fieldAddr 44 (Operand.tmp 7) 0, type := 0, pos := "merge.go:35", after := #[{ on := 4, ground := Ground.guard }], guard := some (4, true) }, { dst := some 23, op := Op.load 22 (Operand.tmp 22), type := 22, pos := "merge.go:35", after := #[{ on := 10, ground := Ground.data }, { on := 4, ground := Ground.guard }], guard := some (4, true) }, { dst := some 24, op := Op.call { callee := Callee.value (Operand.func 37), args := #[Operand.tmp 21, Operand.tmp 23], argTypes := #[22, 22] }, type := 3, pos := "merge.go:35", after := #[{ on := 9, ground := Ground.data }, { on := 11, ground := Ground.data }, { on := 4, ground := Ground.chain }, { on := 4, ground := Ground.guard }], guard := some (4, true) }, { dst := some 25, op := Op.binOp BinOp.lss 3 (Operand.tmp 24) (Operand.const (Value.int IntKind.i64 0)) 3, type := 4, pos := "merge.go:35", after := #[{ on := 12, ground := Ground.data }, { on := 4, ground := Ground.guard }], guard := some (4, true) }, { dst := some 26, op := Op.pick (Operand.tmp 16) (Operand.tmp 25) (Operand.const (Value.bool false)), type := 4, pos := "merge.go:35", after := #[{ on := 4, ground := Ground.data }, { on := 13, ground := Ground.data }], guard := none }] true).wpIn (Fence.wide.inRound l) m Try.prog Q { tmps := (List.toArray (u0 :: u1 :: u2 :: .pointer (some ⟨gb, 0, none⟩) :: u4 :: u5 :: .pointer (some ⟨gt, 0, none⟩) :: .pointer (some ⟨gx, 0, none⟩) :: u8 :: u9 :: u10 :: u11 :: u12 :: u13 :: u14 :: u15 :: u16 :: u17 :: u18 :: u19 :: u20 :: u21 :: u22 :: u23 :: u24 :: u25 :: u26 :: u27 :: u28 :: u29 :: u30 :: u31 :: u32 :: u33 :: u34 :: u35 :: u36 :: u37 :: u38 :: u39 :: u40 :: u41 :: u42 :: u43 :: u44 :: u45 :: u46 :: u47 :: u48 :: u49 :: u50 :: u51 :: u52 :: u53 :: u54 :: u55 :: u56 :: u57 :: u58 :: u59 :: u60 :: u61 :: u62 :: u63 :: u64 :: u65 :: u66 :: u67 :: u68 :: u69 :: u70 :: u71 :: u72 :: u73 :: u74 :: u75 :: u76 :: u77 :: u78 :: u79 :: [])), defers := [] } w := by
 have hu44 := Try.underlying44
 have HK := am hK
 have hb0 : Below w.heap.size w w.drew := below_drew (Below.refl _ w)
 have BKx := am (blk_below hkx hb0)
 have BKb := am (blk_below hkb hb0)
 have BKt := am (blk_below hkt hb0)
 have HB := am hb0
 have i2 : ((i : Int) < (n : Int)) = False := eq_false (by omega)
 have i3 : (i < n) = False := eq_false hin
 clear hkx hkb hkt hin hK hb0
 refine start_round (n := 15) (S := fun w' => w'.cell? ⟨gt, 0, none⟩ = some (.int .i64 (i : Int)) ∧ w'.cell? ⟨gb, 0, none⟩ = some (.slice AB n cb)) (ds := []) (bb 15 0) (by kernel_rfl) (by kernel_rfl) hQ rfl rfl ⟨bc BKt 0, bc BKb 0⟩ (fun hHeld => ?_); refine with_tabW two.tab5 two.bits5 (fun HT_ HW_ => ?_)
 generalize w.drew = w1 at BKx BKb BKt HB hHeld ⊢
 refine tk (i := 0) (N := some 12) (bb 15 1) HT_ HW_ hHeld ?_ (hQ := fun _ _ _ h => hQp _ _ _ _ h)
 refine tk (i := 1) (N := some 13) (bb 15 3) HT_ HW_ hHeld ?_ (hQ := fun _ _ _ h => hQp _ _ _ _ h)
 refine pu (i := 2) (N := some 14) (bb 15 7) HT_ ?_ (hQ := fun _ _ _ h => hQp _ _ _ _ h)
 refine pu (i := 3) (N := some 15) (bb 15 15) HT_ ?_ (hQ := fun _ _ _ h => hQp _ _ _ _ h)
 refine pu (i := 4) (N := some 16) (bb 15 31) HT_ ?_ (hQ := fun _ _ _ h => hQp _ _ _ _ h)
 refine pn (i := 5) (N := some 17) (bb 15 63) HT_ ?_ (hQ := fun _ _ _ h => hQp _ _ _ _ h)
 refine pn (i := 6) (N := some 18) (bb 15 127) HT_ ?_ (hQ := fun _ _ _ h => hQp _ _ _ _ h)
 refine pn (i := 7) (N := some 19) (bb 15 255) HT_ ?_ (hQ := fun _ _ _ h => hQp _ _ _ _ h)
 refine pn (i := 8) (N := some 20) (bb 15 511) HT_ ?_ (hQ := fun _ _ _ h => hQp _ _ _ _ h)
 refine pn (i := 9) (N := some 21) (bb 15 1023) HT_ ?_ (hQ := fun _ _ _ h => hQp _ _ _ _ h)
 refine pn (i := 10) (N := some 22) (bb 15 2047) HT_ ?_ (hQ := fun _ _ _ h => hQp _ _ _ _ h)
 refine pn (i := 11) (N := some 23) (bb 15 4095) HT_ ?_ (hQ := fun _ _ _ h => hQp _ _ _ _ h)
 refine pn (i := 12) (N := some 24) (bb 15 8191) HT_ ?_ (hQ := fun _ _ _ h => hQp _ _ _ _ h)
 refine pn (i := 13) (N := some 25) (bb 15 16383) HT_ ?_ (hQ := fun _ _ _ h => hQp _ _ _ _ h)
 refine pu (i := 14) (N := some 26) (bb 15 32767) HT_ ?_ (hQ := fun _ _ _ h => hQp _ _ _ _ h)
 refine done_ (done_of HT_.out (by kernel_rfl)) ?_
 exact HK.out _ _ _ _ _ _ _ _ _ _ _ _ _ _ _ HB.out
def two.T8 : Bool × List (List Nat × List Nat) := (true, [([], []), ([], []), ([1], [1]), ([0, 2], [0, 2]), ([3], [3]), ([4], [4]), ([4], [4]), ([5, 6, 4], [4, 5, 6]), ([7, 4], [4, 7]), ([8, 4], [4, 8]), ([4], [4]), ([10, 4], [4, 10]), ([9, 11, 4, 4], [4, 9, 11]), ([12, 4], [4, 12]), ([4, 13], [4, 13])])
def two.B8 : List Nat := [0, 0, 2, 7, 15, 31, 31, 127, 255, 511, 31, 1055, 4095, 8191, 16383]
theorem two.tab8 : rtab .any (opsOf Try.f23 8) = two.T8 := by kernel_rfl
theorem two.bits8 : waitsOk two.T8.2 two.B8 = true := by kernel_rfl
set_option maxHeartbeats 4000000 in
set_option maxRecDepth 100000 in
theorem two_r8t {m l k gx gb gt i n cb : Nat} {r : Int} {ad : Addr} {w : World} {AB A0 A2 A3 A4 B0 : Option Addr} {c0 c2 c3 c4 b0 : Nat} {x e : S44} {Q : Exit → Act → World → Prop} (hQ : ¬ LetsOut Q) (hQp : ∀ c a a' w, Q (.panic c) a w → Q (.panic c) a' w) {u0 u1 u2 u4 u5 u8 u9 u10 u11 u12 u13 u14 u15 u16 u17 u18 u19 u20 u21 u22 u23 u24 u25 u26 u27 u28 u29 u30 u31 u32 u33 u34 u35 u36 u37 u38 u39 u40 u41 u42 u43 u44 u45 u46 u47 u48 u49 u50 u51 u52 u53 u54 u55 u56 u57 u58 u59 u60 u61 u62 u63 u64 u65 u66 u67 u68 u69 u70 u71 u72 u73 u74 u75 u76 u77 u78 u79 : Value}
  (hkx : w.heap[gx]? = some (.cells #[.slice A0 x.f0.length c0, .int .i64 x.f1, .slice A2 x.f2.length c2, .slice A3 x.f3.length c3, .slice A4 x.f4.length c4] 44 (0, 0))) (hkb : w.heap[gb]? = some (.cells #[.slice (some ad) n cb] 31 (0, 0))) (hkt : w.heap[gt]? = some (.cells #[.int .i64 (i : Int)] 3 (0, 0))) (h : cell_Less.f k e.f0 x.f0 = some r) (hin : i < n) (he0 : w.cell? (ad.add (i * 5)) = some (.slice B0 e.f0.length b0)) (hd0 : Kd.C (Kd.int .i64) w B0 e.f0.length e.f0 ∧ e.f0.length ≤ b0) (hx0 : Kd.C (Kd.int .i64) w A0 x.f0.length x.f0 ∧ x.f0.length ≤ c0)
  (hK : ∀ W z0 z1 z2 z3 z4 z5 z6 z7 z8 z9 z10 z11 z12 z13, Below w.heap.size w W → Q .normal { tmps := (List.toArray (u0 :: u1 :: u2 :: .pointer (some ⟨gb, 0, none⟩) :: u4 :: u5 :: .pointer (some ⟨gt, 0, none⟩) :: .pointer (some ⟨gx, 0, none⟩) :: u8 :: u9 :: u10 :: u11 :: u12 :: u13 :: u14 :: u15 :: u16 :: u17 :: u18 :: u19 :: u20 :: u21 :: u22 :: u23 :: u24 :: u25 :: u26 :: u27 :: u28 :: u29 :: u30 :: u31 :: u32 :: u33 :: u34 :: u35 :: u36 :: z0 :: z1 :: z2 :: z3 :: z4 :: z5 :: z6 :: z7 :: z8 :: z9 :: z10 :: z11 :: z12 :: z13 :: .bool (decide (r = 0)) :: u52 :: u53 :: u54 :: u55 :: u56 :: u57 :: u58 :: u59 :: u60 :: u61 :: u62 :: u63 :: u64 :: u65 :: u66 :: u67 :: u68 :: u69 :: u70 :: u71 :: u72 :: u73 :: u74 :: u75 :: u76 :: u77 :: u78 :: u79 :: [])), defers := [] } W) :
  (Code.region 8 #[{ dst := some 37, op := Op.load 3 (Operand.tmp 6), type := 3, pos := "merge.go:39", after := #[], guard := none }, { dst := some 38, op := Op.load 31 (Operand.tmp 3), type := 31, pos := "merge.go:39", after := #[], guard := none }, { dst := some 39, op := Op.call { callee := Callee.builtin Builtin.len, args := #[Operand.tmp 38], argTypes := #[31] }, type := 3, pos := "merge.go:39", after := #[{ on := 1, ground := Ground.data }], guard := none }, { dst := some 40, op := Op.binOp BinOp.lss 3 (Operand.tmp 37) (Operand.tmp 39) 3, type := 4, pos := "merge.go:39", after := #[{ on := 0, ground := Ground.data }, { on := 2, ground := Ground.data }], guard := none }, { dst := some 41, op := Op.move (Operand.tmp 40), type := 4, pos := "merge.go:39", after := #[{ on := 3, ground := Ground.data }], guard := none }, { dst := some 42, op := Op.load 31 (Operand.tmp 3), type := 31, pos := "merge.go:39", after := #[{ on := 4, ground := Ground.guard }], guard := some (4, true) }, { dst := some 43, op := Op.load 3 (Operand.tmp 6), type := 3, pos := "merge.go:39", after := #[{ on := 4, ground := Ground.guard }], guard := some (4, true) }, { dst := some 44, op := Op.indexAddr 31 (Operand.tmp 42) (Operand.tmp 43), type := 0, pos := "merge.go:39", after := #[{ on := 5, ground := Ground.data }, { on := 6, ground := Ground.data }, { on := 4, ground := Ground.guard }], guard := some (4, true) }, { dst := some 45, op := Op.fieldAddr 44 (Operand.tmp 44) 0, type := 0, pos := "merge.go:39", after := #[{ on := 7, ground := Ground.data }, { on := 4, ground := Ground.guard }], guard := some (4, true) }, { dst := some 46, op := Op.load 22 (Operand.tmp 45), type := 22, pos := "merge.go:39", after := #[{ on := 8, ground := Ground.data }, { on := 4, ground := Ground.guard }], guard := some (4, true) }, { dst := some 47, op := Op.fieldAddr 44 (Operand.tmp 7) 0, type := 0, pos := "merge.go:39", after := #[{ on := 4, ground := Ground.guard }], guard := some (4, true) }, { dst := some 48, op := Op.load 22 (Operand.tmp 47), type := 22, pos := "merge.go:39", after := #[{ on := 10, ground := Ground.data }, { on := 4, ground := Ground.guard }], guard := some (4, true) }, { dst := some 49, op := Op.call { callee := Callee.value (Operand.func 37), args := #[Operand.tmp 46, Operand.tmp 48], argTypes := #[22, 22] }, type := 3, pos := "merge.go:39", after := #[{ on := 9, ground := Ground.data }, { on := 11, ground := Ground.data }, { on := 4, ground := Ground.chain }, { on := 4, ground := Ground.guard }], guard := some (4, true) }, { dst := some 50, op := Op.binOp BinOp.eql 3 (Operand.tmp 49) (Operand.const (Value.int IntKind.i64 0)) 3, type := 4, pos := "merge.go:39", after := #[{ on := 12, ground := Ground.data }, { on := 4, ground := Ground.guard }], guard := some (4, true) }, { dst := some 51, op := Op.pick (Operand.tmp 41) (Operand.tmp 50) (Operand.const (Value.bool false)), type := 4, pos := "merge.go:39", after := #[{ on := 4, ground := Ground.data }, { on := 13, ground := Ground.data }], guard := none }] true).wpIn (Fence.wide.inRound l) m Try.prog Q { tmps := (List.toArray (u0 :: u1 :: u2 :: .pointer (some ⟨gb, 0, none⟩) :: u4 :: u5 :: .pointer (some ⟨gt, 0, none⟩) :: .pointer (some ⟨gx, 0, none⟩) :: u8 :: u9 :: u10 :: u11 :: u12 :: u13 :: u14 :: u15 :: u16 :: u17 :: u18 :: u19 :: u20 :: u21 :: u22 :: u23 :: u24 :: u25 :: u26 :: u27 :: u28 :: u29 :: u30 :: u31 :: u32 :: u33 :: u34 :: u35 :: u36 :: u37 :: u38 :: u39 :: u40 :: u41 :: u42 :: u43 :: u44 :: u45 :: u46 :: u47 :: u48 :: u49 :: u50 :: u51 :: u52 :: u53 :: u54 :: u55 :: u56 :: u57 :: u58 :: u59 :: u60 :: u61 :: u62 :: u63 :: u64 :: u65 :: u66 :: u67 :: u68 :: u69 :: u70 :: u71 :: u72 :: u73 :: u74 :: u75 :: u76 :: u77 :: u78 :: u79 :: [])), defers := [] } w := by
 have hu44 := Try.underlying44
 have HK := am hK
 have hb0 : Below w.heap.size w w.drew := below_drew (Below.refl _ w)
 have BKx := am (blk_below hkx hb0)
 have BKb := am (blk_below hkb hb0)
 have BKt := am (blk_below hkt hb0)
 have Q0 := am ((hb0.cell (World.block_lt_of_cell? w _ he0)).trans he0)
 have D0 := am (And.intro (Kd.C_drew hd0.1) hd0.2)
 have G0 := am (And.intro (Kd.C_drew hx0.1) hx0.2)
 have HA := am h
 have HB := am hb0
 have i1 : (0 ≤ (i : Int)) = True := eq_true (by omega)
 have i2 : ((i : Int) < (n : Int)) = True := eq_true (by omega)
 have i3 : (i < n) = True := eq_true hin
 clear hkx hkb hkt h he0 hd0 hx0 hin hK hb0
 refine start_round (n := 15) (S := fun w' => w'.cell? ⟨gt, 0, none⟩ = some (.int .i64 (i : Int)) ∧ w'.cell? ⟨gb, 0, none⟩ = some (.slice (some ad) n cb) ∧ w'.cell? (ad.add (i * 5)) = some (.slice B0 e.f0.length b0) ∧ w'.cell? ⟨gx, 0, none⟩ = some (.slice A0 x.f0.length c0)) (ds := []) (bb 15 0) (by kernel_rfl) (by kernel_rfl) hQ rfl rfl ⟨bc BKt 0, bc BKb 0, Q0.out, bc BKx 0⟩ (fun hHeld => ?_); refine with_tabW two.tab8 two.bits8 (fun HT_ HW_ => ?_)
 generalize w.drew = w1 at BKx BKb BKt HB Q0 D0 G0 hHeld ⊢
 refine tk (i := 0) (N := some 37) (bb 15 1) HT_ HW_ hHeld ?_ (hQ := fun _ _ _ h => hQp _ _ _ _ h)
 refine tk (i := 1) (N := some 38) (bb 15 3) HT_ HW_ hHeld ?_ (hQ := fun _ _ _ h => hQp _ _ _ _ h)
 refine pu (i := 2) (N := some 39) (bb 15 7) HT_ ?_ (hQ := fun _ _ _ h => hQp _ _ _ _ h)
 refine pu (i := 3) (N := some 40) (bb 15 15) HT_ ?_ (hQ := fun _ _ _ h => hQp _ _ _ _ h)
 refine pu (i := 4) (N := some 41) (bb 15 31) HT_ ?_ (hQ := fun _ _ _ h => hQp _ _ _ _ h)
 refine tk (i := 5) (N := some 42) (bb 15 63) HT_ HW_ hHeld ?_ (hQ := fun _ _ _ h => hQp _ _ _ _ h)
 refine tk (i := 6) (N := some 43) (bb 15 127) HT_ HW_ hHeld ?_ (hQ := fun _ _ _ h => hQp _ _ _ _ h)
 refine pu (i := 7) (N := some 44) (bb 15 255) HT_ ?_ (hQ := fun _ _ _ h => hQp _ _ _ _ h)
 refine pu (i := 8) (N := some 45) (bb 15 511) HT_ ?_ (hQ := fun _ _ _ h => hQp _ _ _ _ h)
 refine tk (i := 9) (N := some 46) (bb 15 1023) HT_ HW_ hHeld ?_ (hQ := fun _ _ _ h => hQp _ _ _ _ h)
 refine pu (i := 10) (N := some 47) (bb 15 2047) HT_ ?_ (hQ := fun _ _ _ h => hQp _ _ _ _ h)
 refine tk (i := 11) (N := some 48) (bb 15 4095) HT_ HW_ hHeld ?_ (hQ := fun _ _ _ h => hQp _ _ _ _ h)
 refine one_ (i := 12) (N := some 49) (bb 15 8191) rfl rfl (one_of HT_.out (by kernel_rfl)) (by decide) (fun K hK => ?_)
 refine goes_ Try.func37 (by kernel_rfl) rfl #[.slice B0 e.f0.length b0, .slice A0 x.f0.length c0] (by rfl) rfl rfl (by (try simp only [List.map_toArray, List.map_cons, List.map_nil]); first | done | rfl) ?_
 refine (cell_Less.calls k B0 b0 e.f0 A0 c0 x.f0 r _ D0.out.1 D0.out.2 G0.out.1 G0.out.2 HA.out).mono ?_
 rintro ee w2 ⟨rfl, ⟨nd, rfl⟩⟩
 refine ⟨_, rfl, ?_⟩
 have hb := pw_below_drewN (Below.refl w1.heap.size w1) nd
 have n0_ := am (blk_below BKx.out hb)
 have n1_ := am (blk_below BKb.out hb)
 have n2_ := am (blk_below BKt.out hb)
 have n3_ := am ((hb.cell (World.block_lt_of_cell? w1 _ Q0.out)).trans Q0.out)
 have n4_ := am (below_step HB.out hb)
 clear BKx BKb BKt Q0 HB hb D0 G0 HA
 have BKx := n0_
 have BKb := n1_
 have BKt := n2_
 have Q0 := n3_
 have HB := n4_
 clear n0_ n1_ n2_ n3_ n4_
 refine hK.out _ _ ⟨bc BKt 0, bc BKb 0, Q0.out, bc BKx 0⟩ (fun hHeld => ?_)
 clear hK K
 refine nm ?_
 refine pu (i := 13) (N := some 50) (bb 15 16383) HT_ ?_ (hQ := fun _ _ _ h => hQp _ _ _ _ h)
 refine pu (i := 14) (N := some 51) (bb 15 32767) HT_ ?_ (hQ := fun _ _ _ h => hQp _ _ _ _ h)
 refine done_ (done_of HT_.out (by kernel_rfl)) ?_
 exact HK.out _ _ _ _ _ _ _ _ _ _ _ _ _ _ _ HB.out
set_option maxHeartbeats 4000000 in
set_option maxRecDepth 100000 in
theorem two_r8f {m l k gx gb gt i n cb : Nat} {r : Int} {ad : Addr} {w : World} {AB A0 A2 A3 A4 B0 : Option Addr} {c0 c2 c3 c4 b0 : Nat} {x e : S44} {Q : Exit → Act → World → Prop} (hQ : ¬ LetsOut Q) (hQp : ∀ c a a' w, Q (.panic c) a w → Q (.panic c) a' w) {u0 u1 u2 u4 u5 u8 u9 u10 u11 u12 u13 u14 u15 u16 u17 u18 u19 u20 u21 u22 u23 u24 u25 u26 u27 u28 u29 u30 u31 u32 u33 u34 u35 u36 u37 u38 u39 u40 u41 u42 u43 u44 u45 u46 u47 u48 u49 u50 u51 u52 u53 u54 u55 u56 u57 u58 u59 u60 u61 u62 u63 u64 u65 u66 u67 u68 u69 u70 u71 u72 u73 u74 u75 u76 u77 u78 u79 : Value}
  (hkx : w.heap[gx]? = some (.cells #[.slice A0 x.f0.length c0, .int .i64 x.f1, .slice A2 x.f2.length c2, .slice A3 x.f3.length c3, .slice A4 x.f4.length c4] 44 (0, 0))) (hkb : w.heap[gb]? = some (.cells #[.slice AB n cb] 31 (0, 0))) (hkt : w.heap[gt]? = some (.cells #[.int .i64 (i : Int)] 3 (0, 0))) (hin : ¬ i < n)
  (hK : ∀ W z0 z1 z2 z3 z4 z5 z6 z7 z8 z9 z10 z11 z12 z13, Below w.heap.size w W → Q .normal { tmps := (List.toArray (u0 :: u1 :: u2 :: .pointer (some ⟨gb, 0, none⟩) :: u4 :: u5 :: .pointer (some ⟨gt, 0, none⟩) :: .pointer (some ⟨gx, 0, none⟩) :: u8 :: u9 :: u10 :: u11 :: u12 :: u13 :: u14 :: u15 :: u16 :: u17 :: u18 :: u19 :: u20 :: u21 :: u22 :: u23 :: u24 :: u25 :: u26 :: u27 :: u28 :: u29 :: u30 :: u31 :: u32 :: u33 :: u34 :: u35 :: u36 :: z0 :: z1 :: z2 :: z3 :: z4 :: z5 :: z6 :: z7 :: z8 :: z9 :: z10 :: z11 :: z12 :: z13 :: .bool false :: u52 :: u53 :: u54 :: u55 :: u56 :: u57 :: u58 :: u59 :: u60 :: u61 :: u62 :: u63 :: u64 :: u65 :: u66 :: u67 :: u68 :: u69 :: u70 :: u71 :: u72 :: u73 :: u74 :: u75 :: u76 :: u77 :: u78 :: u79 :: [])), defers := [] } W) :
  (Code.region 8 #[{ dst := some 37, op := Op.load 3 (Operand.tmp 6), type := 3, pos := "merge.go:39", after := #[], guard := none }, { dst := some 38, op := Op.load 31 (Operand.tmp 3), type := 31, pos := "merge.go:39", after := #[], guard := none }, { dst := some 39, op := Op.call { callee := Callee.builtin Builtin.len, args := #[Operand.tmp 38], argTypes := #[31] }, type := 3, pos := "merge.go:39", after := #[{ on := 1, ground := Ground.data }], guard := none }, { dst := some 40, op := Op.binOp BinOp.lss 3 (Operand.tmp 37) (Operand.tmp 39) 3, type := 4, pos := "merge.go:39", after := #[{ on := 0, ground := Ground.data }, { on := 2, ground := Ground.data }], guard := none }, { dst := some 41, op := Op.move (Operand.tmp 40), type := 4, pos := "merge.go:39", after := #[{ on := 3, ground := Ground.data }], guard := none }, { dst := some 42, op := Op.load 31 (Operand.tmp 3), type := 31, pos := "merge.go:39", after := #[{ on := 4, ground := Ground.guard }], guard := some (4, true) }, { dst := some 43, op := Op.load 3 (Operand.tmp 6), type := 3, pos := "merge.go:39", after := #[{ on := 4, ground := Ground.guard }], guard := some (4, true) }, { dst := some 44, op := Op.indexAddr 31 (Operand.tmp 42) (Operand.tmp 43), type := 0, pos := "merge.go:39", after := #[{ on := 5, ground := Ground.data }, { on := 6, ground := Ground.data }, { on := 4, ground := Ground.guard }], guard := some (4, true) }, { dst := some 45, op := Op.fieldAddr 44 (Operand.tmp 44) 0, type := 0, pos := "merge.go:39", after := #[{ on := 7, ground := Ground.data }, { on := 4, ground := Ground.guard }], guard := some (4, true) }, { dst := some 46, op := Op.load 22 (Operand.tmp 45), type := 22, pos := "merge.go:39", after := #[{ on := 8, ground := Ground.data }, { on := 4, ground := Ground.guard }], guard := some (4, true) }, { dst := some 47, op := Op.fieldAddr 44 (Operand.tmp 7) 0, type := 0, pos := "merge.go:39", after := #[{ on := 4, ground := Ground.guard }], guard := some (4, true) }, { dst := some 48, op := Op.load 22 (Operand.tmp 47), type := 22, pos := "merge.go:39", after := #[{ on := 10, ground := Ground.data }, { on := 4, ground := Ground.guard }], guard := some (4, true) }, { dst := some 49, op := Op.call { callee := Callee.value (Operand.func 37), args := #[Operand.tmp 46, Operand.tmp 48], argTypes := #[22, 22] }, type := 3, pos := "merge.go:39", after := #[{ on := 9, ground := Ground.data }, { on := 11, ground := Ground.data }, { on := 4, ground := Ground.chain }, { on := 4, ground := Ground.guard }], guard := some (4, true) }, { dst := some 50, op := Op.binOp BinOp.eql 3 (Operand.tmp 49) (Operand.const (Value.int IntKind.i64 0)) 3, type := 4, pos := "merge.go:39", after := #[{ on := 12, ground := Ground.data }, { on := 4, ground := Ground.guard }], guard := some (4, true) }, { dst := some 51, op := Op.pick (Operand.tmp 41) (Operand.tmp 50) (Operand.const (Value.bool false)), type := 4, pos := "merge.go:39", after := #[{ on := 4, ground := Ground.data }, { on := 13, ground := Ground.data }], guard := none }] true).wpIn (Fence.wide.inRound l) m Try.prog Q { tmps := (List.toArray (u0 :: u1 :: u2 :: .pointer (some ⟨gb, 0, none⟩) :: u4 :: u5 :: .pointer (some ⟨gt, 0, none⟩) :: .pointer (some ⟨gx, 0, none⟩) :: u8 :: u9 :: u10 :: u11 :: u12 :: u13 :: u14 :: u15 :: u16 :: u17 :: u18 :: u19 :: u20 :: u21 :: u22 :: u23 :: u24 :: u25 :: u26 :: u27 :: u28 :: u29 :: u30 :: u31 :: u32 :: u33 :: u34 :: u35 :: u36 :: u37 :: u38 :: u39 :: u40 :: u41 :: u42 :: u43 :: u44 :: u45 :: u46 :: u47 :: u48 :: u49 :: u50 :: u51 :: u52 :: u53 :: u54 :: u55 :: u56 :: u57 :: u58 :: u59 :: u60 :: u61 :: u62 :: u63 :: u64 :: u65 :: u66 :: u67 :: u68 :: u69 :: u70 :: u71 :: u72 :: u73 :: u74 :: u75 :: u76 :: u77 :: u78 :: u79 :: [])), defers := [] } w := by
 have hu44 := Try.underlying44
 have HK := am hK
 have hb0 : Below w.heap.size w w.drew := below_drew (Below.refl _ w)
 have BKx := am (blk_below hkx hb0)
 have BKb := am (blk_below hkb hb0)
 have BKt := am (blk_below hkt hb0)
 have HB := am hb0
 have i2 : ((i : Int) < (n : Int)) = False := eq_false (by omega)
 have i3 : (i < n) = False := eq_false hin
 clear hkx hkb hkt hin hK hb0
 refine start_round (n := 15) (S := fun w' => w'.cell? ⟨gt, 0, none⟩ = some (.int .i64 (i : Int)) ∧ w'.cell? ⟨gb, 0, none⟩ = some (.slice AB n cb)) (ds := []) (bb 15 0) (by kernel_rfl) (by kernel_rfl) hQ rfl rfl ⟨bc BKt 0, bc BKb 0⟩ (fun hHeld => ?_); refine with_tabW two.tab8 two.bits8 (fun HT_ HW_ => ?_)
 generalize w.drew = w1 at BKx BKb BKt HB hHeld ⊢
 refine tk (i := 0) (N := some 37) (bb 15 1) HT_ HW_ hHeld ?_ (hQ := fun _ _ _ h => hQp _ _ _ _ h)
 refine tk (i := 1) (N := some 38) (bb 15 3) HT_ HW_ hHeld ?_ (hQ := fun _ _ _ h => hQp _ _ _ _ h)
 refine pu (i := 2) (N := some 39) (bb 15 7) HT_ ?_ (hQ := fun _ _ _ h => hQp _ _ _ _ h)
 refine pu (i := 3) (N := some 40) (bb 15 15) HT_ ?_ (hQ := fun _ _ _ h => hQp _ _ _ _ h)
 refine pu (i := 4) (N := some 41) (bb 15 31) HT_ ?_ (hQ := fun _ _ _ h => hQp _ _ _ _ h)
 refine pn (i := 5) (N := some 42) (bb 15 63) HT_ ?_ (hQ := fun _ _ _ h => hQp _ _ _ _ h)
 refine pn (i := 6) (N := some 43) (bb 15 127) HT_ ?_ (hQ := fun _ _ _ h => hQp _ _ _ _ h)
 refine pn (i := 7) (N := some 44) (bb 15 255) HT_ ?_ (hQ := fun _ _ _ h => hQp _ _ _ _ h)
 refine pn (i := 8) (N := some 45) (bb 15 511) HT_ ?_ (hQ := fun _ _ _ h => hQp _ _ _ _ h)
 refine pn (i := 9) (N := some 46) (bb 15 1023) HT_ ?_ (hQ := fun _ _ _ h => hQp _ _ _ _ h)
 refine pn (i := 10) (N := some 47) (bb 15 2047) HT_ ?_ (hQ := fun _ _ _ h => hQp _ _ _ _ h)
 refine pn (i := 11) (N := some 48) (bb 15 4095) HT_ ?_ (hQ := fun _ _ _ h => hQp _ _ _ _ h)
 refine pn (i := 12) (N := some 49) (bb 15 8191) HT_ ?_ (hQ := fun _ _ _ h => hQp _ _ _ _ h)
 refine pn (i := 13) (N := some 50) (bb 15 16383) HT_ ?_ (hQ := fun _ _ _ h => hQp _ _ _ _ h)
 refine pu (i := 14) (N := some 51) (bb 15 32767) HT_ ?_ (hQ := fun _ _ _ h => hQp _ _ _ _ h)
 refine done_ (done_of HT_.out (by kernel_rfl)) ?_
 exact HK.out _ _ _ _ _ _ _ _ _ _ _ _ _ _ _ HB.out
def addC (out : List S44) (y : S44) : Option (List S44) := if out.length < 1353245080339 then some (out ++ [y]) else none
def twoSkip (k : Nat) (x : S44) : List S44 → List S44 → Option (List S44 × List S44)
 | [], out => some (out, [])
 | e :: t, out => (cell_Less.f k e.f0 x.f0).bind fun r => if r < 0 then (ownM.f k e).bind fun y => (addC out y).bind fun o => twoSkip k x t o else some (out, e :: t)
def twoPut (k : Nat) (x : S44) : List S44 → List S44 → Option (List S44 × List S44)
 | [], out => (ownM.f k x).bind fun y => (addC out y).bind fun o => some (o, [])
 | e :: t, out => (cell_Less.f k e.f0 x.f0).bind fun r => if r = 0 then (cell_Join.f k x.f0 x.f1 x.f2 x.f3 x.f4 e.f0 e.f1 e.f2 e.f3 e.f4).bind fun j => (addC out ⟨j.1, j.2.1, j.2.2.1, j.2.2.2.1, j.2.2.2.2⟩).bind fun o => some (o, t)
  else (ownM.f k x).bind fun y => (addC out y).bind fun o => some (o, e :: t)
def twoStep (k : Nat) (x : S44) (s : List S44 × List S44) : Option (List S44 × List S44) := (twoSkip k x s.2 s.1).bind fun s => twoPut k x s.2 s.1
def twoGo (k : Nat) : List S44 → List S44 × List S44 → Option (List S44 × List S44)
 | [], s => some s
 | x :: t, s => (twoStep k x s).bind fun s => twoGo k t s
def twoRest (k : Nat) : List S44 → List S44 → Option (List S44)
 | [], out => some out
 | x :: t, out => (ownM.f k x).bind fun y => (addC out y).bind fun o => twoRest k t o
def twoOk (k : Nat) (a b : List S44) : Bool := decide (a.length + b.length < 1353245080339) && b.all (fun e => (ownM.f k e).isSome) && a.all fun x => (ownM.f k x).isSome && b.all fun e => (cell_Less.f k e.f0 x.f0).isSome && (cell_Join.f k x.f0 x.f1 x.f2 x.f3 x.f4 e.f0 e.f1 e.f2 e.f3 e.f4).isSome
def Two.f (k : Nat) (a b : List S44) : Option (List S44) := if twoOk k a b = true then (twoGo k a ([], b)).bind fun s => (twoRest k s.2 s.1).bind fun o => if o.length * 104 ≤ 140737488355328 then some o else none else none
theorem LeO.some_ {α : Type} {x y : Option α} (h : LeO x y) : x.isSome = true → y.isSome = true := by
 intro hs
 obtain ⟨v, hv⟩ := Option.isSome_iff_exists.1 hs
 rw [h v hv]
 rfl
theorem addC_ok {out : List S44} {y : S44} (h : out.length < 1353245080339) : addC out y = some (out ++ [y]) := if_pos h
theorem twoSkip_ok {k : Nat} {x : S44} : ∀ (l out : List S44), (∀ e ∈ l, (ownM.f k e).isSome = true ∧ (cell_Less.f k e.f0 x.f0).isSome = true) → out.length + l.length < 1353245080339 →
  ∃ o t, twoSkip k x l out = some (o, t) ∧ o.length + t.length = out.length + l.length ∧ (∀ e ∈ t, e ∈ l)
 | [], out, _, _ => ⟨out, [], rfl, rfl, fun _ h => h⟩
 | e :: t, out, h, hl => by
  obtain ⟨r, hr⟩ := Option.isSome_iff_exists.1 (h e (List.mem_cons_self ..)).2
  simp only [twoSkip]
  rw [hr, Option.bind_some]
  split
  ·obtain ⟨y, hy⟩ := Option.isSome_iff_exists.1 (h e (List.mem_cons_self ..)).1
   rw [hy, Option.bind_some, addC_ok (by omega), Option.bind_some]
   simp only [List.length_cons] at hl
   obtain ⟨o, t', h1, h2, h3⟩ := twoSkip_ok t (out ++ [y]) (fun e he => h e (List.mem_cons_of_mem _ he)) (by simp; omega)
   refine ⟨o, t', h1, ?_, fun e he => List.mem_cons_of_mem _ (h3 e he)⟩
   simp at h2 ⊢
   omega
  ·exact ⟨out, e :: t, rfl, rfl, fun _ h => h⟩
theorem twoStep_ok {k : Nat} {x : S44} (l out : List S44) (hx : (ownM.f k x).isSome = true) (h : ∀ e ∈ l, (ownM.f k e).isSome = true ∧ (cell_Less.f k e.f0 x.f0).isSome = true ∧ (cell_Join.f k x.f0 x.f1 x.f2 x.f3 x.f4 e.f0 e.f1 e.f2 e.f3 e.f4).isSome = true) (hl : out.length + l.length < 1353245080339) :
  ∃ o t, twoStep k x (out, l) = some (o, t) ∧ o.length + t.length ≤ out.length + l.length + 1 := by
 obtain ⟨o, t, h1, h2, h3⟩ := twoSkip_ok (k := k) (x := x) l out (fun e he => ⟨(h e he).1, (h e he).2.1⟩) hl
 obtain ⟨y, hy⟩ := Option.isSome_iff_exists.1 hx
 unfold twoStep
 rw [h1, Option.bind_some]
 cases t with
 | nil =>
  simp only [twoPut]
  rw [hy, Option.bind_some, addC_ok (by simp at h2; omega), Option.bind_some]
  exact ⟨_, _, rfl, by simp at h2 ⊢; omega⟩
 | cons e t =>
  obtain ⟨h4, h5, h6⟩ := h e (h3 e (List.mem_cons_self ..))
  obtain ⟨r, hr⟩ := Option.isSome_iff_exists.1 h5
  obtain ⟨j, hj⟩ := Option.isSome_iff_exists.1 h6
  simp only [twoPut]
  rw [hr, Option.bind_some]
  split
  ·rw [hj, Option.bind_some, addC_ok (by simp at h2; omega), Option.bind_some]
   exact ⟨_, _, rfl, by simp at h2 ⊢; omega⟩
  ·rw [hy, Option.bind_some, addC_ok (by simp at h2; omega), Option.bind_some]
   exact ⟨_, _, rfl, by simp at h2 ⊢; omega⟩
theorem twoGo_snoc (k : Nat) (x : S44) : ∀ (l : List S44) (s), twoGo k (l ++ [x]) s = (twoGo k l s).bind fun s => twoStep k x s
 | [], s => by simp [twoGo]
 | y :: l, s => by
  simp only [List.cons_append, twoGo]
  cases twoStep k y s with
  | none => rfl
  | some s => exact twoGo_snoc k x l s
theorem twoRest_snoc (k : Nat) (x : S44) : ∀ (l o), twoRest k (l ++ [x]) o = (twoRest k l o).bind fun o => (ownM.f k x).bind fun y => addC o y
 | [], o => by simp [twoRest]
 | y :: l, o => by
  simp only [List.cons_append, twoRest]
  cases ownM.f k y with
  | none => rfl
  | some z => cases h : addC o z with
   | none => simp [h]
   | some o' => simpa [h] using twoRest_snoc k x l o'
noncomputable def twoBody1 : Code := match Try.f23.body with
 | some (.seq _ (.seq _ (.seq _ (.seq (.seq _ (.block _ (.rangeFunc _ _ _ b))) _)))) => b
 | _ => .skip
def cellNat (W : World) (g : Nat) : Nat := match W.cell? ⟨g, 0, none⟩ with
 | some (.int _ n) => n.toNat
 | _ => 0
theorem cellNat_of {W : World} {g n t : Nat} (h : W.heap[g]? = some (.cells #[.int .i64 (n : Int)] t (0, 0))) : cellNat W g = n := by
 unfold cellNat
 rw [show W.cell? ⟨g, 0, none⟩ = some (.int .i64 (n : Int)) from (blk_cell h 0).trans rfl]
 simp
theorem S_gt {w : World} {L gt : Nat} {v u : Value} {xs : List S44} {ok : Nat → Prop} (h : Kd.S k44 44 w L ok v xs) (hg : gt < L) : Kd.S k44 44 (w.setCell ⟨gt, 0, none⟩ u) L ok v xs :=
 Kd.S_mono (Kd.S_far (Kd.S_mono (Kd.S_bound h) (ok' := fun k => ok k ∧ L ≤ k) (fun k hk => ⟨hk.1, hk.2.1⟩)) (fun k hk => by have := hk.2; show k ≠ gt; omega) _) (fun k hk => hk.1)
theorem addC_some {out o : List S44} {y : S44} (h : addC out y = some o) : out.length < 1353245080339 ∧ o = out ++ [y] := by
 unfold addC at h
 split at h
 ·rename_i hl
  cases h
  exact ⟨hl, rfl⟩
 ·cases h
theorem Ch.two {L go gt : Nat} {w W W2 : World} (h : Ch L (fun k => k = go ∨ k = gt) w W) (h2 : Ch L (· = go) W W2) : Ch L (fun k => k = go ∨ k = gt) w W2 :=
 h.trans ⟨h2.1, fun k hk hb hc => h2.2 k hk (fun e => hb (.inl e)) hc⟩
theorem below_of_ch {L : Nat} {bad : Nat → Prop} {w0 w W : World} (hB : Below w0.heap.size w0 w) (hC : Ch L bad w W) (hL : w0.heap.size ≤ L) (hb : ∀ k, bad k → w0.heap.size ≤ k) : Below w0.heap.size w0 W :=
 hB.trans ⟨hC.1.os, hC.1.tape, hC.1.output, hC.1.size, fun k hk => hC.2 k (Nat.lt_of_lt_of_le hk hB.size) (fun h => absurd (hb k h) (by omega)) (.inl (by omega))⟩
theorem drop_rd (b : List S44) (i : Nat) (h : i < b.length) : b.drop i = rd_T44 b (i : Int) :: b.drop (i + 1) := by
 rw [List.drop_eq_getElem_cons h]
 unfold rd_T44
 rw [Int.toNat_natCast, List.getD_eq_getElem?_getD, List.getElem?_eq_getElem h]
 rfl
set_option maxRecDepth 100000 in
set_option maxHeartbeats 8000000 in
theorem two_body1 {m l k L go gx gb gt cb i : Nat} {w0 w : World} {AB A0 A2 A3 A4 : Option Addr} {c0 c2 c3 c4 : Nat} {v : Value} {x : S44} {b out out' rest' : List S44} {Q : Exit → Act → World → Prop} (hQ : ¬ LetsOut Q) (hQp : ∀ c a a' w, Q (.panic c) a w → Q (.panic c) a' w)
  {u0 u1 u2 u4 u8 u9 u10 u11 u12 u13 u14 u15 u16 u17 u18 u19 u20 u21 u22 u23 u24 u25 u26 u27 u28 u29 u30 u31 u32 u33 u34 u35 u36 u37 u38 u39 u40 u41 u42 u43 u44 u45 u46 u47 u48 u49 u50 u51 u52 u53 u54 u55 u56 u57 u58 u59 u60 u61 u62 u63 u64 u65 u66 u67 u68 u69 u70 u71 u72 u73 u74 u75 u76 u77 u78 u79 : Value}
  (hko : w.heap[go]? = some (.cells #[v] 31 (0, 0))) (hkx : w.heap[gx]? = some (.cells #[.slice A0 x.f0.length c0, .int .i64 x.f1, .slice A2 x.f2.length c2, .slice A3 x.f3.length c3, .slice A4 x.f4.length c4] 44 (0, 0)))
  (hkb : w.heap[gb]? = some (.cells #[.slice AB b.length cb] 31 (0, 0))) (hkt : w.heap[gt]? = some (.cells #[.int .i64 (i : Int)] 3 (0, 0)))
  (hne : go ≠ gx ∧ gb ≠ go ∧ gt ≠ go ∧ gb < L ∧ gt < L ∧ gb ≠ gt ∧ gt ≠ gx) (hS : Kd.S k44 44 w L (fun k => k ≠ go ∧ k ≠ gx) v out) (hL : L ≤ w.heap.size) (hB : Below w0.heap.size w0 w) (h0L : w0.heap.size ≤ L ∧ w0.heap.size ≤ go ∧ w0.heap.size ≤ gt)
  (hb : Kd.C k44 w0 AB b.length b) (hx0 : Kd.C (Kd.int .i64) w0 A0 x.f0.length x.f0 ∧ x.f0.length ≤ c0) (hx2 : Kd.C (Kd.int .i64) w0 A2 x.f2.length x.f2 ∧ x.f2.length ≤ c2) (hx3 : Kd.C (Kd.int .i64) w0 A3 x.f3.length x.f3 ∧ x.f3.length ≤ c3) (hx4 : Kd.C (Kd.int .i64) w0 A4 x.f4.length x.f4 ∧ x.f4.length ≤ c4)
  (hi : i ≤ b.length) (hstep : twoStep k x (out, b.drop i) = some (out', rest'))
  (hK : ∀ act W v' i', W.heap[go]? = some (.cells #[v'] 31 (0, 0)) → W.heap[gt]? = some (.cells #[.int .i64 (i' : Int)] 3 (0, 0)) → Kd.S k44 44 W L (fun k => k ≠ go ∧ k ≠ gx) v' out' → Ch L (fun k => k = go ∨ k = gt) w W → i' ≤ b.length → rest' = b.drop i' → Q .normal act W) :
  twoBody1.wpIn (Fence.wide.inRound l) m Try.prog Q { tmps := (List.toArray (u0 :: u1 :: u2 :: .pointer (some ⟨gb, 0, none⟩) :: u4 :: .pointer (some ⟨go, 0, none⟩) :: .pointer (some ⟨gt, 0, none⟩) :: .pointer (some ⟨gx, 0, none⟩) :: u8 :: u9 :: u10 :: u11 :: u12 :: u13 :: u14 :: u15 :: u16 :: u17 :: u18 :: u19 :: u20 :: u21 :: u22 :: u23 :: u24 :: u25 :: u26 :: u27 :: u28 :: u29 :: u30 :: u31 :: u32 :: u33 :: u34 :: u35 :: u36 :: u37 :: u38 :: u39 :: u40 :: u41 :: u42 :: u43 :: u44 :: u45 :: u46 :: u47 :: u48 :: u49 :: u50 :: u51 :: u52 :: u53 :: u54 :: u55 :: u56 :: u57 :: u58 :: u59 :: u60 :: u61 :: u62 :: u63 :: u64 :: u65 :: u66 :: u67 :: u68 :: u69 :: u70 :: u71 :: u72 :: u73 :: u74 :: u75 :: u76 :: u77 :: u78 :: u79 :: [])), defers := [] } w := by
 simp only [twoBody1, Try.f23]
 obtain ⟨⟨o1, r1⟩, hskip, hput⟩ := Option.bind_eq_some_iff.1 hstep
 have HK := am hK
 have HP := am hput
 have HC := am (Ch.refl L (fun k => k = go ∨ k = gt) w)
 clear hK hstep hput
 gi_wp2
 gi_loopw [] (fun wr => ∃ (i : Nat) (v : Value) (out : List S44), wr.heap[go]? = some (.cells #[v] 31 (0, 0)) ∧ wr.heap[gx]? = some (.cells #[.slice A0 x.f0.length c0, .int .i64 x.f1, .slice A2 x.f2.length c2, .slice A3 x.f3.length c3, .slice A4 x.f4.length c4] 44 (0, 0)) ∧ wr.heap[gt]? = some (.cells #[.int .i64 (i : Int)] 3 (0, 0)) ∧ Kd.S k44 44 wr L (fun k => k ≠ go ∧ k ≠ gx) v out ∧ Ch L (fun k => k = go ∨ k = gt) w wr ∧ i ≤ b.length ∧ twoSkip k x (b.drop i) out = some (o1, r1))
  (fun wr => b.length - cellNat wr gt)
 case atStart => exact ⟨i, v, out, hko, hkx, hkt, hS, HC.out, hi, hskip⟩
 case round =>
  clear hko hkx hkt hS hskip hi HC
  have HQ := am hQ
  have HQp := am hQp
  clear hQ hQp
  obtain ⟨i, v, out, jo, jx, jt, jS, jC, ji, jskip⟩ := hrel
  have jB : Below w0.heap.size w0 wr := below_of_ch hB jC h0L.1 (fun k hk => by rcases hk with rfl | rfl <;> omega)
  have jkb := (jC.2 gb (blk_lt hkb) (fun h => by rcases h with h | h <;> omega) (.inl hne.2.2.2.1)).trans hkb
  have jL : L ≤ wr.heap.size := Nat.le_trans hL jC.1.size
  obtain ⟨A, c, rfl⟩ := Kd.S_slice jS
  have HB := am hB
  have HKB := am hkb
  have HN := am hne
  have HL := am hL
  have H0 := am h0L
  have HX0 := am hx0
  have HX2 := am hx2
  have HX3 := am hx3
  have HX4 := am hx4
  have HRB := am hb
  have JO := am jo
  have JX := am jx
  have JT := am jt
  have JS := am jS
  have JC := am jC
  have JI := am ji
  have JB := am jB
  have JKB := am jkb
  have JL := am jL
  have HCN := am (cellNat_of jt)
  clear hB hkb hne hL h0L hx0 hx2 hx3 hx4 hb jo jx jt jS jC ji jB jkb jL
  by_cases hlt : i < b.length
  ·rw [drop_rd b i hlt] at jskip
   simp only [twoSkip] at jskip
   obtain ⟨r, hr, jsk⟩ := Option.bind_eq_some_iff.1 jskip
   clear jskip
   obtain ⟨ad, E0, d0, E2, d2, E3, d3, E4, d4, eA, q0, q1, q2, q3, q4, l0, K0, l2, K2, l3, K3, l4, K4⟩ := at_T44 HRB.out (i : Int) (by omega) (by omega)
   subst eA
   simp only [Int.toNat_natCast] at q0 q1 q2 q3 q4
   have hbk := World.block_lt_of_cell? w0 _ q0
   have HBK := am (show (ad.add (i * 5)).block < L ∧ (ad.add (i * 5)).block ≠ go by have := H0.out; omega)
   have HI := am hlt
   have HR := am hr
   have HJ := am jsk
   have HQ5 := am (And.intro q0 (And.intro q1 (And.intro q2 (And.intro q3 q4))))
   have HE0 := am (And.intro K0 l0)
   have HE2 := am (And.intro K2 l2)
   have HE3 := am (And.intro K3 l3)
   have HE4 := am (And.intro K4 l4)
   have FC : ∀ {W : World} {p : Addr} {u : Value}, Below w0.heap.size w0 W → w0.cell? p = some u → W.cell? p = some u := fun hB hu => (hB.cell (World.block_lt_of_cell? w0 _ hu)).trans hu
   have HFC := am @FC
   clear hlt hr jsk q0 q1 q2 q3 q4 l0 K0 l2 K2 l3 K3 l4 K4 hbk FC
   gi_wp2
   refine two_r5t (k := k) (AB := none) (e := rd_T44 b (i : Int)) (x := x) ?hq ?hqp JX.out JKB.out JT.out HR.out HI.out (HFC.out JB.out HQ5.out.1) ⟨Kd.C_below HE0.out.1 JB.out, HE0.out.2⟩ ⟨Kd.C_below HX0.out.1 JB.out, HX0.out.2⟩ ?_
   case hq => rintro ⟨a, w, h⟩; exact HQ.out ⟨a, w, h⟩
   case hqp => exact fun _ _ _ _ h => HQp.out _ _ _ _ h
   intro W1 z0 z1 z2 z3 z4 z5 z6 z7 z8 z9 z10 z11 z12 z13 hb1
   have JB1 := am (JB.out.trans (hb1.mono JB.out.size))
   have JO1 := am (blk_below JO.out hb1)
   have JX1 := am (blk_below JX.out hb1)
   have JT1 := am (blk_below JT.out hb1)
   have JKB1 := am (blk_below JKB.out hb1)
   have JS1 := am (Kd.S_below JS.out hb1)
   have JC1 := am (JC.out.trans (Ch.below hb1))
   have JL1 := am (Nat.le_trans JL.out hb1.size)
   clear JB JO JX JT JKB JS JC JL hb1
   by_cases hr0 : r < 0
   ·have hd := decide_eq_true hr0
    have h := HJ.out
    rw [if_pos hr0] at h
    obtain ⟨y, hy, h⟩ := Option.bind_eq_some_iff.1 h
    obtain ⟨o2, ho2, h⟩ := Option.bind_eq_some_iff.1 h
    obtain ⟨hlen, rfl⟩ := addC_some ho2
    rw [hd]
    have HY := am hy
    have HSK := am h
    have HLN := am hlen
    clear hd h hy hlen HJ hr0
    gi_wp2
    refine two_r6 (k := k) (L := L) (e := rd_T44 b (i : Int)) (x := x) (y := y) ?hq ?hqp JO1.out JX1.out JKB1.out JT1.out ⟨HN.out.1, HN.out.2.1, HN.out.2.2.1, HN.out.2.2.2.1, HN.out.2.2.2.2.1⟩ JS1.out JL1.out HI.out HBK.out (HFC.out JB1.out HQ5.out.1) (HFC.out JB1.out HQ5.out.2.1) (HFC.out JB1.out HQ5.out.2.2.1) (HFC.out JB1.out HQ5.out.2.2.2.1) (HFC.out JB1.out HQ5.out.2.2.2.2)
     ⟨Kd.C_below HX0.out.1 JB1.out, HX0.out.2⟩ ⟨Kd.C_below HX2.out.1 JB1.out, HX2.out.2⟩ ⟨Kd.C_below HX3.out.1 JB1.out, HX3.out.2⟩ ⟨Kd.C_below HX4.out.1 JB1.out, HX4.out.2⟩ ⟨Kd.C_below HE0.out.1 JB1.out, HE0.out.2⟩ ⟨Kd.C_below HE2.out.1 JB1.out, HE2.out.2⟩ ⟨Kd.C_below HE3.out.1 JB1.out, HE3.out.2⟩ ⟨Kd.C_below HE4.out.1 JB1.out, HE4.out.2⟩ HY.out HLN.out ?_
    case hq => rintro ⟨a, w, h⟩; exact HQ.out ⟨a, w, h⟩
    case hqp => exact fun _ _ _ _ h => HQp.out _ _ _ _ h
    intro v2 W2 z0 z1 z2 z3 z4 z5 z6 z7 jo2 jx2 js2 jc2
    have jt2 := (jc2.2 gt (blk_lt JT1.out) HN.out.2.2.1 (.inl HN.out.2.2.2.2.1)).trans JT1.out
    have t2 := (blk_cell jt2 0).trans rfl
    have f2 := blk_frozen jt2 0
    have jc3 := Ch.two JC1.out jc2
    have JO2 := am jo2
    have JX2 := am jx2
    have JS2 := am js2
    have JT2 := am jt2
    have JC2 := am jc3
    have hi1 : i + 1 ≤ b.length := HI.out
    have HI1 := am hi1
    have hmx := Kd.C_max HRB.out
    have w1 : wrap64 ((i : Int) + 1) = ((i + 1 : Nat) : Int) := by unfold wrap64; omega
    clear jo2 jx2 js2 jc2 jt2 jc3 hi1 hmx JB1 JO1 JX1 JT1 JKB1 JS1 JC1 JL1
    gi_wp2
    go_roundw
    case rel => exact ⟨i + 1, v2, out ++ [y], (Below.heap_setCell _ _ _ _ (fun e => HN.out.2.2.1 e.symm)).trans JO2.out, (Below.heap_setCell _ _ _ _ (fun e => HN.out.2.2.2.2.2.2 e.symm)).trans JX2.out, blk_put JT2.out 0 _ rfl, S_gt JS2.out HN.out.2.2.2.2.1, JC2.out.trans (Ch.set (.inr rfl)), HI1.out, HSK.out⟩
    case measure =>
     have e : cellNat (W2.setCell ⟨gt, 0, none⟩ (.int .i64 ((i : Int) + 1))) gt = i + 1 := cellNat_of (n := i + 1) (blk_put JT2.out 0 _ rfl)
     have h1 := HI.out
     rw [HCN.out, e]
     clear w1
     omega
   ·have hd := decide_eq_false hr0
    have h := HJ.out
    rw [if_neg hr0] at h
    injection h with h
    injection h with h1 h2
    have h := HP.out
    rw [← h1, ← h2] at h
    simp only [twoPut] at h
    rw [HR.out, Option.bind_some] at h
    rw [hd]
    have HH := am h
    clear hd h h1 h2 HJ HP hr0
    gi_wp2
    refine two_r8t (k := k) (AB := none) (e := rd_T44 b (i : Int)) (x := x) ?hq ?hqp JX1.out JKB1.out JT1.out HR.out HI.out (HFC.out JB1.out HQ5.out.1) ⟨Kd.C_below HE0.out.1 JB1.out, HE0.out.2⟩ ⟨Kd.C_below HX0.out.1 JB1.out, HX0.out.2⟩ ?_
    case hq => rintro ⟨a, w, h⟩; exact HQ.out ⟨a, w, h⟩
    case hqp => exact fun _ _ _ _ h => HQp.out _ _ _ _ h
    intro W3 z0 z1 z2 z3 z4 z5 z6 z7 z8 z9 z10 z11 z12 z13 hb3
    have JB3 := am (JB1.out.trans (hb3.mono JB1.out.size))
    have JO3 := am (blk_below JO1.out hb3)
    have JX3 := am (blk_below JX1.out hb3)
    have JT3 := am (blk_below JT1.out hb3)
    have JKB3 := am (blk_below JKB1.out hb3)
    have JS3 := am (Kd.S_below JS1.out hb3)
    have JC3 := am (JC1.out.trans (Ch.below hb3))
    have JL3 := am (Nat.le_trans JL1.out hb3.size)
    clear JB1 JO1 JX1 JT1 JKB1 JS1 JC1 JL1 hb3
    have h := HH.out
    clear HH
    by_cases hr0 : r = 0
    ·have hd := decide_eq_true hr0
     rw [if_pos hr0] at h
     obtain ⟨⟨j0, j1, j2, j3, j4⟩, hj, h⟩ := Option.bind_eq_some_iff.1 h
     obtain ⟨o2, ho2, h⟩ := Option.bind_eq_some_iff.1 h
     obtain ⟨hlen, rfl⟩ := addC_some ho2
     rw [hd]
     have HY := am hj
     have HE := am h
     have HLN := am hlen
     clear hd h hj hlen ho2 hr0
     gi_wp2
     refine two_r9 (k := k) (L := L) (e := rd_T44 b (i : Int)) (x := x) (y := ⟨j0, j1, j2, j3, j4⟩) ?hq ?hqp JO3.out JX3.out JKB3.out JT3.out ⟨HN.out.1, HN.out.2.1, HN.out.2.2.1, HN.out.2.2.2.1, HN.out.2.2.2.2.1⟩ JS3.out JL3.out HI.out HBK.out (HFC.out JB3.out HQ5.out.1) (HFC.out JB3.out HQ5.out.2.1) (HFC.out JB3.out HQ5.out.2.2.1) (HFC.out JB3.out HQ5.out.2.2.2.1) (HFC.out JB3.out HQ5.out.2.2.2.2)
      ⟨Kd.C_below HX0.out.1 JB3.out, HX0.out.2⟩ ⟨Kd.C_below HX2.out.1 JB3.out, HX2.out.2⟩ ⟨Kd.C_below HX3.out.1 JB3.out, HX3.out.2⟩ ⟨Kd.C_below HX4.out.1 JB3.out, HX4.out.2⟩ ⟨Kd.C_below HE0.out.1 JB3.out, HE0.out.2⟩ ⟨Kd.C_below HE2.out.1 JB3.out, HE2.out.2⟩ ⟨Kd.C_below HE3.out.1 JB3.out, HE3.out.2⟩ ⟨Kd.C_below HE4.out.1 JB3.out, HE4.out.2⟩ HY.out HLN.out ?_
     case hq => rintro ⟨a, w, h⟩; exact HQ.out ⟨a, w, h⟩
     case hqp => exact fun _ _ _ _ h => HQp.out _ _ _ _ h
     intro v2 W4 z0 z1 z2 z3 z4 z5 z6 z7 z8 jo2 jx2 js2 jc2
     have jt2 := (jc2.2 gt (blk_lt JT3.out) HN.out.2.2.1 (.inl HN.out.2.2.2.2.1)).trans JT3.out
     have t2 := (blk_cell jt2 0).trans rfl
     have f2 := blk_frozen jt2 0
     have e := HE.out
     injection e with e
     injection e with e1 e2
     have JO2 := am jo2
     have JS2 := am (e1 ▸ js2)
     have JT2 := am jt2
     have JC2 := am (Ch.two JC3.out jc2)
     have E2 := am e2
     have hi1 : i + 1 ≤ b.length := HI.out
     have HI1 := am hi1
     have hmx := Kd.C_max HRB.out
     have w1 : wrap64 ((i : Int) + 1) = ((i + 1 : Nat) : Int) := by unfold wrap64; omega
     clear jo2 jx2 js2 jc2 jt2 hi1 hmx e1 e2 JB3 JO3 JX3 JT3 JKB3 JS3 JC3 JL3
     gi_wp2
     exact HK.out _ _ v2 (i + 1) ((Below.heap_setCell _ _ _ _ (fun e => HN.out.2.2.1 e.symm)).trans JO2.out) (blk_put JT2.out 0 _ rfl) (S_gt JS2.out HN.out.2.2.2.2.1) (JC2.out.trans (Ch.set (.inr rfl))) HI1.out E2.out.symm
    ·have hd := decide_eq_false hr0
     rw [if_neg hr0] at h
     rw [hd]
     clear hd hr0
     obtain ⟨y, hy, h⟩ := Option.bind_eq_some_iff.1 h
     obtain ⟨o2, ho2, h⟩ := Option.bind_eq_some_iff.1 h
     obtain ⟨hlen, rfl⟩ := addC_some ho2
     have HY := am hy
     have HE := am h
     have HLN := am hlen
     clear h hy hlen ho2
     gi_wp2
     refine two_r11 (k := k) (L := L) (x := x) (y := y) ?hq ?hqp JO3.out JX3.out HN.out.1 JS3.out JL3.out (Kd.C_below HX0.out.1 JB3.out) HX0.out.2 (Kd.C_below HX2.out.1 JB3.out) HX2.out.2 (Kd.C_below HX3.out.1 JB3.out) HX3.out.2 (Kd.C_below HX4.out.1 JB3.out) HX4.out.2 HY.out HLN.out ?_
     case hq => rintro ⟨a, w, h⟩; exact HQ.out ⟨a, w, h⟩
     case hqp => exact fun _ _ _ _ h => HQp.out _ _ _ _ h
     intro v2 W4 z0 z1 z2 z3 z4 jo2 jx2 js2 jc2
     have jt2 := (jc2.2 gt (blk_lt JT3.out) HN.out.2.2.1 (.inl HN.out.2.2.2.2.1)).trans JT3.out
     have jc3 := Ch.two JC3.out jc2
     have e := HE.out
     injection e with e
     injection e with e1 e2
     gi_wp2
     exact HK.out _ _ v2 i jo2 jt2 (e1 ▸ js2) jc3 JI.out (e2.symm.trans (drop_rd b i HI.out).symm)
  ·have hd : b.drop i = [] := List.drop_eq_nil_of_le (by omega)
   rw [hd] at jskip
   simp only [twoSkip] at jskip
   injection jskip with jskip
   injection jskip with h1 h2
   have h := HP.out
   rw [← h1, ← h2] at h
   simp only [twoPut] at h
   have HH := am h
   have HI := am hlt
   have HD := am hd
   clear hd h h1 h2 HP hlt
   gi_wp2
   refine two_r5f (k := k) (AB := AB) (ad := ⟨0, 0, none⟩) (e := x) (r := 0) (b0 := 0) (B0 := none) (x := x) ?hq ?hqp JX.out JKB.out JT.out HI.out ?_
   case hq => rintro ⟨a, w, h⟩; exact HQ.out ⟨a, w, h⟩
   case hqp => exact fun _ _ _ _ h => HQp.out _ _ _ _ h
   intro W1 z0 z1 z2 z3 z4 z5 z6 z7 z8 z9 z10 z11 z12 z13 hb1
   have JB1 := am (JB.out.trans (hb1.mono JB.out.size))
   have JO1 := am (blk_below JO.out hb1)
   have JX1 := am (blk_below JX.out hb1)
   have JT1 := am (blk_below JT.out hb1)
   have JKB1 := am (blk_below JKB.out hb1)
   have JS1 := am (Kd.S_below JS.out hb1)
   have JC1 := am (JC.out.trans (Ch.below hb1))
   have JL1 := am (Nat.le_trans JL.out hb1.size)
   clear JB JO JX JT JKB JS JC JL hb1
   gi_wp2
   refine two_r8f (k := k) (AB := AB) (ad := ⟨0, 0, none⟩) (e := x) (r := 0) (b0 := 0) (B0 := none) (x := x) ?hq ?hqp JX1.out JKB1.out JT1.out HI.out ?_
   case hq => rintro ⟨a, w, h⟩; exact HQ.out ⟨a, w, h⟩
   case hqp => exact fun _ _ _ _ h => HQp.out _ _ _ _ h
   intro W3 z0 z1 z2 z3 z4 z5 z6 z7 z8 z9 z10 z11 z12 z13 hb3
   have JB3 := am (JB1.out.trans (hb3.mono JB1.out.size))
   have JO3 := am (blk_below JO1.out hb3)
   have JX3 := am (blk_below JX1.out hb3)
   have JT3 := am (blk_below JT1.out hb3)
   have JKB3 := am (blk_below JKB1.out hb3)
   have JS3 := am (Kd.S_below JS1.out hb3)
   have JC3 := am (JC1.out.trans (Ch.below hb3))
   have JL3 := am (Nat.le_trans JL1.out hb3.size)
   clear JB1 JO1 JX1 JT1 JKB1 JS1 JC1 JL1 hb3
   have h := HH.out
   clear HH
   obtain ⟨y, hy, h⟩ := Option.bind_eq_some_iff.1 h
   obtain ⟨o2, ho2, h⟩ := Option.bind_eq_some_iff.1 h
   obtain ⟨hlen, rfl⟩ := addC_some ho2
   have HY := am hy
   have HE := am h
   have HLN := am hlen
   clear h hy hlen ho2
   gi_wp2
   refine two_r11 (k := k) (L := L) (x := x) (y := y) ?hq ?hqp JO3.out JX3.out HN.out.1 JS3.out JL3.out (Kd.C_below HX0.out.1 JB3.out) HX0.out.2 (Kd.C_below HX2.out.1 JB3.out) HX2.out.2 (Kd.C_below HX3.out.1 JB3.out) HX3.out.2 (Kd.C_below HX4.out.1 JB3.out) HX4.out.2 HY.out HLN.out ?_
   case hq => rintro ⟨a, w, h⟩; exact HQ.out ⟨a, w, h⟩
   case hqp => exact fun _ _ _ _ h => HQp.out _ _ _ _ h
   intro v2 W4 z0 z1 z2 z3 z4 jo2 jx2 js2 jc2
   have jt2 := (jc2.2 gt (blk_lt JT3.out) HN.out.2.2.1 (.inl HN.out.2.2.2.2.1)).trans JT3.out
   have jc3 := Ch.two JC3.out jc2
   have e := HE.out
   injection e with e
   injection e with e1 e2
   gi_wp2
   exact HK.out _ _ v2 i jo2 jt2 (e1 ▸ js2) jc3 JI.out (e2.symm.trans HD.out.symm)
end Go.Proofs.Ytndkimjmbpbcmaa.Q
namespace Go.Proofs.Ytndkimjmbpbcmaa.Q
open Go.RowKit Go.Shelf Go.Proofs.YtndkimjmbpbcmaaW.PrintWords Go.Proofs.YtndkimjmbpbcmaaW.PrintLast Go.Proofs.YtndkimjmbpbcmaaW.PrintMore
set_option linter.unusedVariables false
set_option linter.unusedSimpArgs false
theorem S_apartC {w : World} {base g : Nat} {ok : Nat → Prop} {v : Value} {xs : List S44} {cs : Array Value} (h : Kd.S k44 44 w base ok v xs) (hg : w.heap[g]? = some (.cells cs 44 (0, 0))) (hne : some g ≠ v.ownBlock) : Kd.S k44 44 w base (fun k => ok k ∧ k ≠ g) v xs := by
 obtain ⟨f, h0, inner, hown, hr⟩ := h
 refine ⟨f, fun k hk => ⟨h0 k hk, fun e => hne (e ▸ hk.symm)⟩, inner, hown, hr.imp_ (fun _ _ hp => (Kd.tag f k44).M_mono (fun k hk => ?_) ((Kd.tag f k44).M_bound hp))⟩
 obtain ⟨⟨h1, h2⟩, _, _, q, hq, cells, hc⟩ := hk
 refine ⟨⟨h1, fun e => ?_⟩, h2⟩
 subst e
 rw [hg] at hc
 injection hc with hc
 injection hc with _ hc _
 subst hc
 have hq2 : 44 ∈ k44.E := hq
 exact absurd hq2 (by decide)
theorem S_row {w W : World} {base : Nat} {ok : Nat → Prop} {v : Value} {xs : List S44} {row : Option Nat} (h : Kd.S k44 44 w base ok v xs) (hg : w.grownBy W row) (hr : ∀ r, row = some r → ∃ o : Obj, w.heap[r]? = some o ∧ o.isCells = false) : Kd.S k44 44 W base ok v xs :=
 Kd.S_mono (Kd.S_grown (Kd.S_bound h) hg (fun k hk e => by
  obtain ⟨_, _, _, q, _, cells, hc⟩ := hk
  obtain ⟨o, ho, hn⟩ := hr k e.symm
  rw [hc] at ho
  cases ho
  cases hn)) (fun k hk => hk.1)
theorem keepsFrom_below {B : Nat} {W W' : World} (h : Below W.heap.size W W') : KeepsFrom B W W' := ⟨h.size, fun k o _ hk _ => (blk_below hk h)⟩
theorem keepsFrom_ch {L B : Nat} {bad : Nat → Prop} {W W' : World} (h : Ch L bad W W') (hb : ∀ k, bad k → k < B) : KeepsFrom B W W' :=
 ⟨h.1.size, fun k o hk ho hn => (h.2 k (Array.getElem?_eq_some_iff.1 ho).1 (fun e => by have := hb k e; omega) (.inr ⟨o, ho, hn⟩)).trans ho⟩
theorem keepsOld_ch {wl : World} {bad : Nat → Prop} {W W' : World} (h : Ch wl.heap.size bad W W') : KeepsOld wl bad W W' := fun p v h0 hb hv =>
 (World.cell?_of_block (w := W) (w' := W') (a := p) (h.2 p.block (World.block_lt_of_cell? W _ hv) hb (.inl (World.block_lt_of_cell? wl _ h0)))).trans hv
theorem keepsOld_ch2 {L go : Nat} {wm W W' : World} (h : Ch L (· = go) W W') : KeepsOld wm (fun k => k = go ∨ L ≤ k) W W' := fun p v h0 hb hv =>
 (World.cell?_of_block (w := W) (w' := W') (a := p) (h.2 p.block (World.block_lt_of_cell? W _ hv) (fun e => hb (.inl e)) (.inl (by rcases Nat.lt_or_ge p.block L with h | h; exact h; exact absurd (.inr h) hb)))).trans hv
theorem ret_marks2 {P : Program} {fn : Func} {R : Ending → World → Prop} {a : Act} {w : World} {v : Value} {D D2 : Nat} (hd : a.defers = [{ target := .collected D2, args := #[] }, { target := .collected D, args := #[] }]) (hK2 : w.heap[D2]? = some (.deferred (some []))) (hK : (w.putObj D2 (.deferred none)).heap[D]? = some (.deferred (some [])))
  (hr : (results fn a.tmps).run P ((w.putObj D2 (.deferred none)).putObj D (.deferred none)) = .ok v ((w.putObj D2 (.deferred none)).putObj D (.deferred none))) (hR : R (.returned v) ((w.putObj D2 (.deferred none)).putObj D (.deferred none))) : retPost (bodyPostM Fence.wide 6 P fn R) .ret a w := by
 show LeavesInM Fence.wide 6 P fn a.tmps R a.defers .returning w
 rw [hd]
 exact ⟨by simp, .inl ⟨_, _, rfl, run_takeDeferred hK2, ⟨by simp, .inl ⟨_, _, rfl, run_takeDeferred hK, ⟨_, hr, hR⟩⟩⟩⟩⟩
def TwoJ (k : Nat) (l out : List S44) (go gt D : Nat) (wl wm : World) (pre : List (At l.length)) (W : World) : Prop :=
 ∃ v out2, W.heap[go]? = some (.cells #[v] 31 (0, 0)) ∧ Kd.S k44 44 W wl.heap.size (fun j => j ≠ go) v out2 ∧ Ch wl.heap.size (fun j => j = go ∨ j = gt) wl W ∧ (wm.heap.size ≤ W.heap.size ∧ W.heap[D]? = some (.deferred (some []))) ∧
  twoRest k (pre.map fun x => rd_T44 l (x.1 : Int)) out = some out2 ∧ out2.length ≤ out.length + pre.length
def TwoI (k : Nat) (a b : List S44) (go gt : Nat) (wl : World) (pre : List (At a.length)) (W : World) : Prop :=
 ∃ v i out, W.heap[go]? = some (.cells #[v] 31 (0, 0)) ∧ W.heap[gt]? = some (.cells #[.int .i64 ((i : Nat) : Int)] 3 (0, 0)) ∧ Kd.S k44 44 W wl.heap.size (fun j => j ≠ go) v out ∧ Ch wl.heap.size (fun j => j = go ∨ j = gt) wl W ∧ i ≤ b.length ∧
  twoGo k (pre.map fun x => rd_T44 a (x.1 : Int)) ([], b) = some (out, b.drop i) ∧ out.length + (b.length - i) ≤ b.length + pre.length
theorem ch_row {L : Nat} {bad : Nat → Prop} {w W W2 : World} {row : Option Nat} (h : Ch L bad w W) (hL : L ≤ w.heap.size) (hg : W.grownBy W2 row) (hr : ∀ r, row = some r → w.heap.size ≤ r) : Ch L bad w W2 :=
 ⟨h.1.grown hg (Nat.zero_le _) (fun _ _ => Nat.zero_le _), fun k hk hb hc => (hg.block k (Nat.lt_of_lt_of_le hk h.1.size) (fun e => by have := hr k e.symm; omega)).trans (h.2 k hk hb hc)⟩
theorem twoI_own {k : Nat} {a b : List S44} {go gt : Nat} {wl : World} : OwnFrom wl.heap.size (TwoI k a b go gt wl) := by
 rintro pre W W' row ⟨v, i, out, h1, h2, h3, h4, h5, h6, h7⟩ hg hr
 exact ⟨v, i, out, blk_grown h1 hg (blk_not_row h1 (fun r e => (hr r e).2)), blk_grown h2 hg (blk_not_row h2 (fun r e => (hr r e).2)), S_row h3 hg (fun r e => (hr r e).2), ch_row h4 (Nat.le_refl _) hg (fun r e => (hr r e).1), h5, h6, h7⟩
theorem twoJ_own {k : Nat} {l out : List S44} {go gt D : Nat} {wl wm : World} (hB : wl.heap.size ≤ wm.heap.size) (hD : D < wm.heap.size) : OwnFrom wm.heap.size (TwoJ k l out go gt D wl wm) := by
 rintro pre W W' row ⟨v, o, h1, h3, h4, h5, h6, h7⟩ hg hr
 exact ⟨v, o, blk_grown h1 hg (blk_not_row h1 (fun r e => (hr r e).2)), S_row h3 hg (fun r e => (hr r e).2), ch_row h4 (Nat.le_refl _) hg (fun r e => Nat.le_trans hB (hr r e).1), ⟨Nat.le_trans h5.1 hg.size, (hg.block D (Nat.lt_of_lt_of_le hD h5.1) (fun e => by have := (hr D e.symm).1; omega)).trans h5.2⟩, h6, h7⟩
def TwoA (cv : Nat → Nat → Value) (go : Nat) (L : Nat) (tm : Nat → Nat → Array Value) (j : Nat) (a : Act) (W : World) : Prop :=
 ∃ gx v, L ≤ gx ∧ W.heap[gx]? = some (.cells #[cv j 0, cv j 1, cv j 2, cv j 3, cv j 4] 44 (0, 0)) ∧ W.heap[go]? = some (.cells #[v] 31 (0, 0)) ∧ some gx ≠ v.ownBlock ∧ a = { tmps := tm gx j, defers := [] }
theorem twoA_own {B : Nat} {cv : Nat → Nat → Value} {go L : Nat} {tm : Nat → Nat → Array Value} (j : Nat) (a : Act) : OwnFrom B (fun (_ : Unit) W => TwoA cv go L tm j a W) := by
 rintro _ W W' row ⟨gx, v, h1, h2, h3, h4, h5⟩ hg hr
 exact ⟨gx, v, h1, blk_grown h2 hg (blk_not_row h2 (fun r e => (hr r e).2)), blk_grown h3 hg (blk_not_row h3 (fun r e => (hr r e).2)), h4, h5⟩
end Go.Proofs.Ytndkimjmbpbcmaa.Q
namespace Go.Proofs.Ytndkimjmbpbcmaa.Q
open Go.RowKit Go.Shelf Go.Proofs.YtndkimjmbpbcmaaW.PrintWords Go.Proofs.YtndkimjmbpbcmaaW.PrintLast Go.Proofs.YtndkimjmbpbcmaaW.PrintMore
set_option linter.unusedVariables false
set_option linter.unusedSimpArgs false
attribute [local go_sem] Oper.semAt_some
theorem at_all {w : World} {A : Option Addr} {l : List S44} (h : Kd.C k44 w A l.length l) : ∃ ad : Addr, (0 < l.length → A = some ad) ∧ (∀ j : Nat, j < l.length → ∃ A0 c0 A2 c2 A3 c3 A4 c4, w.cell? (ad.add (j * 5)) = some (.slice A0 (rd_T44 l (j : Int)).f0.length c0) ∧ w.cell? ⟨(ad.add (j * 5)).block, (ad.add (j * 5)).off + 1, none⟩ = some (.int .i64 (rd_T44 l (j : Int)).f1) ∧
  w.cell? ⟨(ad.add (j * 5)).block, (ad.add (j * 5)).off + 2, none⟩ = some (.slice A2 (rd_T44 l (j : Int)).f2.length c2) ∧ w.cell? ⟨(ad.add (j * 5)).block, (ad.add (j * 5)).off + 3, none⟩ = some (.slice A3 (rd_T44 l (j : Int)).f3.length c3) ∧ w.cell? ⟨(ad.add (j * 5)).block, (ad.add (j * 5)).off + 4, none⟩ = some (.slice A4 (rd_T44 l (j : Int)).f4.length c4) ∧
  ((rd_T44 l (j : Int)).f0.length ≤ c0 ∧ Kd.C (Kd.int .i64) w A0 (rd_T44 l (j : Int)).f0.length (rd_T44 l (j : Int)).f0) ∧ ((rd_T44 l (j : Int)).f2.length ≤ c2 ∧ Kd.C (Kd.int .i64) w A2 (rd_T44 l (j : Int)).f2.length (rd_T44 l (j : Int)).f2) ∧ ((rd_T44 l (j : Int)).f3.length ≤ c3 ∧ Kd.C (Kd.int .i64) w A3 (rd_T44 l (j : Int)).f3.length (rd_T44 l (j : Int)).f3) ∧ ((rd_T44 l (j : Int)).f4.length ≤ c4 ∧ Kd.C (Kd.int .i64) w A4 (rd_T44 l (j : Int)).f4.length (rd_T44 l (j : Int)).f4)) := by
 by_cases h0 : 0 < l.length
 ·obtain ⟨ad, _, _, _, _, _, _, _, _, eA, _⟩ := at_T44 h 0 (by omega) (by omega)
  refine ⟨ad, fun _ => eA, fun j hj => ?_⟩
  obtain ⟨ad', E0, d0, E2, d2, E3, d3, E4, d4, eA', q0, q1, q2, q3, q4, g0, K0, g2, K2, g3, K3, g4, K4⟩ := at_T44 h (j : Int) (by omega) (by omega)
  rw [eA] at eA'
  cases eA'
  simp only [Int.toNat_natCast] at q0 q1 q2 q3 q4
  exact ⟨E0, d0, E2, d2, E3, d3, E4, d4, q0, q1, q2, q3, q4, ⟨g0, K0⟩, ⟨g2, K2⟩, ⟨g3, K3⟩, ⟨g4, K4⟩⟩
 ·exact ⟨⟨0, 0, none⟩, fun h => by omega, fun j hj => by omega⟩
theorem cells_all {w : World} {ad : Addr} {l : List S44} (hcs : ∀ j : Nat, j < l.length → ∃ A0 c0 A2 c2 A3 c3 A4 c4, w.cell? (ad.add (j * 5)) = some (.slice A0 (rd_T44 l (j : Int)).f0.length c0) ∧ w.cell? ⟨(ad.add (j * 5)).block, (ad.add (j * 5)).off + 1, none⟩ = some (.int .i64 (rd_T44 l (j : Int)).f1) ∧
  w.cell? ⟨(ad.add (j * 5)).block, (ad.add (j * 5)).off + 2, none⟩ = some (.slice A2 (rd_T44 l (j : Int)).f2.length c2) ∧ w.cell? ⟨(ad.add (j * 5)).block, (ad.add (j * 5)).off + 3, none⟩ = some (.slice A3 (rd_T44 l (j : Int)).f3.length c3) ∧ w.cell? ⟨(ad.add (j * 5)).block, (ad.add (j * 5)).off + 4, none⟩ = some (.slice A4 (rd_T44 l (j : Int)).f4.length c4) ∧
  ((rd_T44 l (j : Int)).f0.length ≤ c0 ∧ Kd.C (Kd.int .i64) w A0 (rd_T44 l (j : Int)).f0.length (rd_T44 l (j : Int)).f0) ∧ ((rd_T44 l (j : Int)).f2.length ≤ c2 ∧ Kd.C (Kd.int .i64) w A2 (rd_T44 l (j : Int)).f2.length (rd_T44 l (j : Int)).f2) ∧ ((rd_T44 l (j : Int)).f3.length ≤ c3 ∧ Kd.C (Kd.int .i64) w A3 (rd_T44 l (j : Int)).f3.length (rd_T44 l (j : Int)).f3) ∧ ((rd_T44 l (j : Int)).f4.length ≤ c4 ∧ Kd.C (Kd.int .i64) w A4 (rd_T44 l (j : Int)).f4.length (rd_T44 l (j : Int)).f4)) : CellsAre w ad l.length (cvT w ad l) := fun j hj => by
 obtain ⟨E0, d0, E2, d2, E3, d3, E4, d4, q0, q1, q2, q3, q4, _⟩ := hcs j hj
 refine ⟨?_, ?_, ?_, ?_, ?_⟩
 ·simp [cvT, cvOf, slA, slC, q0]
 ·simp [cvT, q1]
 ·simp [cvT, cvOf, slA, slC, q2]
 ·simp [cvT, cvOf, slA, slC, q3]
 ·simp [cvT, cvOf, slA, slC, q4]
theorem reads_all {w : World} {ad : Addr} {l : List S44} (hcs : ∀ j : Nat, j < l.length → ∃ A0 c0 A2 c2 A3 c3 A4 c4, w.cell? (ad.add (j * 5)) = some (.slice A0 (rd_T44 l (j : Int)).f0.length c0) ∧ w.cell? ⟨(ad.add (j * 5)).block, (ad.add (j * 5)).off + 1, none⟩ = some (.int .i64 (rd_T44 l (j : Int)).f1) ∧
  w.cell? ⟨(ad.add (j * 5)).block, (ad.add (j * 5)).off + 2, none⟩ = some (.slice A2 (rd_T44 l (j : Int)).f2.length c2) ∧ w.cell? ⟨(ad.add (j * 5)).block, (ad.add (j * 5)).off + 3, none⟩ = some (.slice A3 (rd_T44 l (j : Int)).f3.length c3) ∧ w.cell? ⟨(ad.add (j * 5)).block, (ad.add (j * 5)).off + 4, none⟩ = some (.slice A4 (rd_T44 l (j : Int)).f4.length c4) ∧
  ((rd_T44 l (j : Int)).f0.length ≤ c0 ∧ Kd.C (Kd.int .i64) w A0 (rd_T44 l (j : Int)).f0.length (rd_T44 l (j : Int)).f0) ∧ ((rd_T44 l (j : Int)).f2.length ≤ c2 ∧ Kd.C (Kd.int .i64) w A2 (rd_T44 l (j : Int)).f2.length (rd_T44 l (j : Int)).f2) ∧ ((rd_T44 l (j : Int)).f3.length ≤ c3 ∧ Kd.C (Kd.int .i64) w A3 (rd_T44 l (j : Int)).f3.length (rd_T44 l (j : Int)).f3) ∧ ((rd_T44 l (j : Int)).f4.length ≤ c4 ∧ Kd.C (Kd.int .i64) w A4 (rd_T44 l (j : Int)).f4.length (rd_T44 l (j : Int)).f4)) : ∀ (W : World), Below w.heap.size w W → ∀ j : Nat, j < l.length →
  ((rd_T44 l (j : Int)).f0.length ≤ slC (cvOf w ad j 0) ∧ Kd.C (Kd.int .i64) W (slA (cvOf w ad j 0)) (rd_T44 l (j : Int)).f0.length (rd_T44 l (j : Int)).f0) ∧ ((rd_T44 l (j : Int)).f2.length ≤ slC (cvOf w ad j 2) ∧ Kd.C (Kd.int .i64) W (slA (cvOf w ad j 2)) (rd_T44 l (j : Int)).f2.length (rd_T44 l (j : Int)).f2) ∧
  ((rd_T44 l (j : Int)).f3.length ≤ slC (cvOf w ad j 3) ∧ Kd.C (Kd.int .i64) W (slA (cvOf w ad j 3)) (rd_T44 l (j : Int)).f3.length (rd_T44 l (j : Int)).f3) ∧ ((rd_T44 l (j : Int)).f4.length ≤ slC (cvOf w ad j 4) ∧ Kd.C (Kd.int .i64) W (slA (cvOf w ad j 4)) (rd_T44 l (j : Int)).f4.length (rd_T44 l (j : Int)).f4) := fun W hB j hj => by
 obtain ⟨E0, d0, E2, d2, E3, d3, E4, d4, q0, q1, q2, q3, q4, ⟨g0, K0⟩, ⟨g2, K2⟩, ⟨g3, K3⟩, ⟨g4, K4⟩⟩ := hcs j hj
 refine ⟨⟨?_, ?_⟩, ⟨?_, ?_⟩, ⟨?_, ?_⟩, ⟨?_, ?_⟩⟩
 ·simpa [cvOf, slC, q0] using g0
 ·simpa [cvOf, slA, q0] using Kd.C_below K0 hB
 ·simpa [cvOf, slC, q2] using g2
 ·simpa [cvOf, slA, q2] using Kd.C_below K2 hB
 ·simpa [cvOf, slC, q3] using g3
 ·simpa [cvOf, slA, q3] using Kd.C_below K3 hB
 ·simpa [cvOf, slC, q4] using g4
 ·simpa [cvOf, slA, q4] using Kd.C_below K4 hB
theorem map_rd {l : List S44} (ys : List (At l.length)) (h : ys.map (·.1) = List.range l.length) : (ys.map fun x => rd_T44 l (x.1 : Int)) = l := by
 have e : (ys.map fun x => rd_T44 l (x.1 : Int)) = (ys.map (·.1)).map fun j => rd_T44 l ((j : Nat) : Int) := by rw [List.map_map]; rfl
 rw [e, h]
 refine List.ext_getElem (by simp) (fun i h1 h2 => ?_)
 simp [rd_T44, h2]
set_option maxRecDepth 100000 in
set_option maxHeartbeats 4000000 in
theorem Two_calls (k : Nat) (A0 : Option Addr) (c0 : Nat) (a : List S44) (A1 : Option Addr) (c1 : Nat) (b : List S44) (r : List S44) (w : World) (hr0 : Kd.C k44 w A0 a.length a) (hc0 : a.length ≤ c0) (hr1 : Kd.C k44 w A1 b.length b) (hc1 : b.length ≤ c1) (h : Two.f k a b = some r) :
  Calls Try.prog 23 #[.slice A0 a.length c0, .slice A1 b.length c1] w fun e w' => ∃ v, e = .returned v ∧ Kd.S k44 44 w' w.heap.size (fun _ => True) v r ∧ Below w.heap.size w w' := by
 have hu44 := Try.underlying44
 have hmax0 := Kd.C_max hr0
 have hmax1 := Kd.C_max hr1
 unfold Two.f at h
 split at h
 case isFalse => cases h
 case isTrue hok =>
 simp only [twoOk, Bool.and_eq_true, decide_eq_true_eq, List.all_eq_true] at hok
 obtain ⟨⟨hok0, hok1⟩, hok2⟩ := hok
 have HOK := am hok2
 have HOK1 := am hok1
 have HH := am h
 clear h hok1 hok2
 refine calls_marks Try.func23 rfl ?_
 simp only [Try.ntmps23, List.size_toArray, List.length_cons, List.length_nil, Nat.reduceAdd, Nat.reduceSub, Array.replicate_succ, Array.replicate_zero, List.push_toArray, List.append_toArray, List.nil_append, List.cons_append]
 go_wp2_with (first | ((with_reducible refine gate_callee (f := 36) rfl ?_); refine goesL_ (some 10) rfl rfl Try.func36 (by kernel_rfl) rfl #[.slice A0 a.length c0] rfl (by (try simp only [List.map_toArray, List.map_cons, List.map_nil]); first | done | rfl) ?_; refine ((callsIn_wide (n := 3)).1 (ofc_in 3 A0 a.length c0 _)).mono ?_; rintro e W1 ⟨rfl, rfl⟩; refine ⟨_, rfl, ?_⟩))
 simp only [Act.put, List.setIfInBounds_toArray, List.set_cons_zero, List.set_cons_succ, World.size_alloc]
 obtain ⟨wl, hwl⟩ : ∃ wl, wl = (((w.alloc (.cells #[.slice A1 b.length c1] 31)).alloc (.cells #[.slice none 0 0] 31)).alloc (.cells #[.int .i64 0] 3)).alloc (.cells #[.slice A0 a.length c0] 31) := ⟨_, rfl⟩
 have hsl : wl.heap.size = w.heap.size + 1 + 1 + 1 + 1 := by rw [hwl]; simp
 have hBl : Below w.heap.size w wl := by rw [hwl]; exact below_alloc (below_alloc (below_alloc (below_alloc (Below.refl _ _) _) _) _) _
 have hkb : wl.heap[w.heap.size]? = some (.cells #[.slice A1 b.length c1] 31 (0, 0)) := by rw [hwl]; exact blk_alloc (blk_alloc (blk_alloc (heap_alloc_new _ _) _) _) _
 have hko : wl.heap[w.heap.size + 1]? = some (.cells #[.slice none 0 0] 31 (0, 0)) := by
  rw [hwl, ← World.size_alloc w (.cells #[.slice A1 b.length c1] 31)]; exact blk_alloc (blk_alloc (heap_alloc_new _ _) _) _
 have hkt : wl.heap[w.heap.size + 1 + 1]? = some (.cells #[.int .i64 0] 3 (0, 0)) := by
  rw [hwl, ← World.size_alloc w (.cells #[.slice A1 b.length c1] 31), ← World.size_alloc (w.alloc (.cells #[.slice A1 b.length c1] 31)) (.cells #[.slice none 0 0] 31)]; exact blk_alloc (heap_alloc_new _ _) _
 have hkx : wl.heap[w.heap.size + 1 + 1 + 1]? = some (.cells #[.slice A0 a.length c0] 31 (0, 0)) := by
  rw [hwl, ← World.size_alloc w (.cells #[.slice A1 b.length c1] 31), ← World.size_alloc (w.alloc (.cells #[.slice A1 b.length c1] 31)) (.cells #[.slice none 0 0] 31), ← World.size_alloc ((w.alloc (.cells #[.slice A1 b.length c1] 31)).alloc (.cells #[.slice none 0 0] 31)) (.cells #[.int .i64 0] 3)]; exact heap_alloc_new _ _
 rw [← hwl]
 clear hwl
 obtain ⟨ad, hA, hcs⟩ := at_all hr0
 have hcells := cells_all hcs
 have hrd := reads_all hcs
 have hcl : CellsAre wl ad a.length (cvT w ad a) := fun j hj => by
  have hh : ∀ p v, w.cell? p = some v → wl.cell? p = some v := fun p v h => (hBl.cell (World.block_lt_of_cell? w _ h)).trans h
  obtain ⟨h0, h1, h2, h3, h4⟩ := hcells j hj
  exact ⟨hh _ _ h0, hh _ _ h1, hh _ _ h2, hh _ _ h3, hh _ _ h4⟩
 have hbd : ∀ j, j < a.length → ¬ (fun k => k = w.heap.size + 1 ∨ k = w.heap.size + 1 + 1) (ad.add (j * 5)).block := fun j hj e => by
  have := World.block_lt_of_cell? w _ (hcells j hj).1
  rcases e with e | e <;> omega
 refine (wpIn_wide (n := 6)).1 ?_
 refine wpIn_rangeFunc_ownH rfl (by omega) (gf := 47) (lb := #[.pointer (some ⟨w.heap.size + 1 + 1 + 1, 0, none⟩)]) rfl trivial (enters_of Try.func47 (by kernel_rfl) rfl)
  (ofc_stops 5 (by omega) (w.heap.size + 1 + 1 + 1) A0 ad a c0 w wl (fun k => k = w.heap.size + 1 ∨ k = w.heap.size + 1 + 1) hbd hA hcl ((blk_cell hkx 0).trans rfl) hmax0) keepsOld_t (fun W l o o' _ h ho _ => keepsOld_b W l o o' h ho) (Below.refl _ _) (fun _ => rfl)
  (TwoI k a b (w.heap.size + 1) (w.heap.size + 1 + 1) wl) (fun _ _ _ => False) twoI_own (fun _ _ _ _ _ h => h.elim) ?init
  (fun x a' W => TwoA (cvT w ad a) (w.heap.size + 1) wl.heap.size (fun gx j => (List.toArray (.slice A0 a.length c0 :: .slice A1 b.length c1 :: undef :: .pointer (some ⟨w.heap.size, 0, none⟩) :: .slice none 0 0 :: .pointer (some ⟨w.heap.size + 1, 0, none⟩) :: .pointer (some ⟨w.heap.size + 1 + 1, 0, none⟩) :: .pointer (some ⟨gx, 0, none⟩) :: undef :: .slice A0 a.length c0 :: .func (.func 47) #[] #[.pointer (some ⟨w.heap.size + 1 + 1 + 1, 0, none⟩)] :: .agg #[cvT w ad a j 0, cvT w ad a j 1, cvT w ad a j 2, cvT w ad a j 3, cvT w ad a j 4] :: undef :: undef :: undef :: undef :: undef :: undef :: undef :: undef :: undef :: undef :: undef :: undef :: undef :: undef :: undef :: undef :: undef :: undef :: undef :: undef :: undef :: undef :: undef :: undef :: undef :: undef :: undef :: undef :: undef :: undef :: undef :: undef :: undef :: undef :: undef :: undef :: undef :: undef :: undef :: undef :: undef :: undef :: undef :: undef :: undef :: undef :: undef :: undef :: undef :: undef :: undef :: undef :: undef :: undef :: undef :: undef :: undef :: undef :: undef :: undef :: undef :: undef :: undef :: undef :: undef :: undef :: undef :: undef :: []))) x.1 a' W) (fun x a' => twoA_own x.1 a') ?assign ?body ?done ?stop
 case init => exact ⟨.slice none 0 0, 0, [], hko, hkt, Kd.S_nil _ _ _ _ _, Ch.refl _ _ _, Nat.zero_le _, rfl, by simp⟩
 case assign =>
  rintro l pre ⟨j, hj⟩ W K hi hK
  obtain ⟨v, i, out, h1, h2, h3, h4, h5, h6, h7⟩ := hi
  have hLW := h4.1.size
  have hne : some W.heap.size ≠ v.ownBlock := fun e => by have := Kd.S_lt h3 _ e.symm; omega
  have HF := am (And.intro h1 (And.intro h2 (And.intro h3 (And.intro h4 (And.intro h5 (And.intro h6 (And.intro h7 (And.intro hLW hne))))))))
  clear h1 h2 h3 h4 h5 h6 h7 hLW hne
  dsimp only [encsC, cvT] at hK ⊢
  gi_wp2
  obtain ⟨h1, h2, h3, h4, h5, h6, h7, hLW, hne⟩ := HF.out
  have hb := below_alloc (Below.refl W.heap.size W) (.cells #[cvT w ad a j 0, cvT w ad a j 1, cvT w ad a j 2, cvT w ad a j 3, cvT w ad a j 4] 44)
  exact hK _ _ (keepsFrom_below hb) (keepsOld_below hb) ⟨v, i, out, blk_alloc h1 _, blk_alloc h2 _, Kd.S_alloc h3 _, h4.trans (Ch.below hb), h5, h6, h7⟩ ⟨W.heap.size, v, hLW, heap_alloc_new _ _, blk_alloc h1 _, hne, rfl⟩
 case body =>
  rintro l pre ⟨j, hj⟩ a' W hl hr ⟨v, i, out, h1, h2, h3, h4, h5, h6, h7⟩ ⟨gx, v', hgx, kx, ko', hne', rfl⟩ hlen
  rw [h1] at ko'
  cases ko'
  have hBW : Below w.heap.size w W := below_of_ch hBl h4 hBl.size (fun k hk => by rcases hk with rfl | rfl <;> omega)
  have hkbW := (h4.2 w.heap.size (by omega) (fun e => by omega) (.inl (by omega))).trans hkb
  have hxm : rd_T44 a (j : Int) ∈ a := by unfold rd_T44; rw [Int.toNat_natCast, List.getD_eq_getElem?_getD, List.getElem?_eq_getElem hj]; exact List.getElem_mem hj
  obtain ⟨o, t, hst, hln⟩ := twoStep_ok (k := k) (x := rd_T44 a (j : Int)) (b.drop i) out (HOK.out _ hxm).1 (fun e he => ⟨HOK1.out e (List.mem_of_mem_drop he), ((HOK.out _ hxm).2 e (List.mem_of_mem_drop he)).1, ((HOK.out _ hxm).2 e (List.mem_of_mem_drop he)).2⟩) (by rw [List.length_drop]; omega)
  obtain ⟨⟨m0, n0⟩, ⟨m2, n2⟩, ⟨m3, n3⟩, ⟨m4, n4⟩⟩ := hrd w (Below.refl _ _) j hj
  dsimp only [cvT] at kx ⊢
  refine two_body1 (k := k) (L := wl.heap.size) (w0 := w) (x := rd_T44 a (j : Int)) (b := b) (out := out) (out' := o) (rest' := t) (i := i) ?hq ?hqp h1 kx hkbW h2 ⟨by omega, by omega, by omega, by omega, by omega, by omega, by omega⟩ (S_apartC h3 kx hne') h4.1.size hBW ⟨hBl.size, by omega, by omega⟩ hr1 ⟨n0, m0⟩ ⟨n2, m2⟩ ⟨n3, m3⟩ ⟨n4, m4⟩ h5 hst ?_
  case hq => rintro ⟨_, _, h⟩; exact h
  case hqp => exact fun _ _ _ _ h => h
  intro act W' v2 i2 g1 g2 g3 g4 g5 g6
  refine ⟨keepsFrom_ch g4 (fun k hk => by rcases hk with rfl | rfl <;> omega), keepsOld_ch g4, v2, i2, o, g1, g2, Kd.S_mono g3 (fun k hk => hk.1), h4.trans g4, g5, ?_, ?_⟩
  ·rw [List.map_append, List.map_cons, List.map_nil, twoGo_snoc, h6, Option.bind_some, hst, g6]
  ·rw [g6, List.length_drop, List.length_drop] at hln
   rw [List.length_append, List.length_singleton]
   omega
 case done =>
  rintro D ys W hD hS ⟨v, i, out, h1, h2, h3, h4, h5, h6, h7⟩ hK
  have hBW : Below w.heap.size w W := below_of_ch hBl h4 hBl.size (fun k hk => by rcases hk with rfl | rfl <;> omega)
  have hkbW := (h4.2 w.heap.size (by omega) (fun e => by omega) (.inl (by omega))).trans hkb
  have p1 := (blk_cell hkbW 0).trans rfl
  have p2 := (blk_cell h2 0).trans rfl
  have i1 : (0 ≤ (i : Int)) = True := eq_true (by omega)
  have i2 : ((i : Int) ≤ (b.length : Int)) = True := eq_true (by omega)
  have i3 : (i ≤ b.length) = True := eq_true h5
  have i4 : ((b.length : Int) ≤ (c1 : Int)) = True := eq_true (by omega)
  have i5 : (b.length ≤ c1) = True := eq_true hc1
  have HF := am (And.intro h1 (And.intro h2 (And.intro h3 (And.intro h4 (And.intro h5 (And.intro h6 (And.intro h7 hBW)))))))
  have HKD := am hK
  have HS := am hS
  clear h1 h2 h3 h4 h5 h6 h7 hBW hK hS hkbW
  obtain ⟨A2, hA2⟩ : ∃ A2, A2 = if c1 = i then A1 else A1.map (fun x => x.add (i * 5)) := ⟨_, rfl⟩
  have HA2 := am hA2
  have HIC := am (show i ≤ c1 by have := HF.out.2.2.2.2.1; omega)
  clear hA2
  go_wp2_with (first | ((with_reducible refine gate_dst (N := 70) rfl ?_); refine Kd.event_run (v := .slice A2 (b.length - i) (c1 - i)) (w1 := W) ?g70 ?r70 ?_; (case g70 => rfl); (case r70 => rw [HA2.out]; by_cases hci : c1 = i; (have hz : c1 - i = 0 := (by omega); rw [if_pos hci, hz]; go_simp; try (intro h; exact absurd hci h)); (rw [if_neg hci]; go_simp; try (intro h; exact absurd h hci)))) | (go_at_call 36; refine ((callsIn_wide (n := 3)).1 (ofc_in 3 A2 (b.length - i) (c1 - i) _)).mono ?_; rintro e W1 ⟨rfl, rfl⟩))
  obtain ⟨h1, h2, h3, h4, h5, h6, h7, hBW⟩ := HF.out
  have hyl : ys.length = a.length := by have := congrArg List.length HS.out; simpa using this
  have hdl : (b.drop i).length = b.length - i := List.length_drop
  have hc2 : Kd.C k44 w A2 (b.drop i).length (b.drop i) := by rw [HA2.out]; exact Kd.C_drop hr1 h5 hc1
  obtain ⟨ad2, hAd2, hcs2⟩ := at_all hc2
  have hcells2 := cells_all hcs2
  have hrd2 := reads_all hcs2
  rw [← hdl]
  obtain ⟨wm, hwm⟩ : ∃ wm, wm = W.alloc (.cells #[.slice A2 (b.drop i).length (c1 - i)] 31) := ⟨_, rfl⟩
  have hbm : Below W.heap.size W wm := by rw [hwm]; exact below_alloc (Below.refl _ _) _
  have hkm : wm.heap[W.heap.size]? = some (.cells #[.slice A2 (b.drop i).length (c1 - i)] 31 (0, 0)) := by rw [hwm]; exact heap_alloc_new _ _
  rw [← hwm]
  clear hwm
  have hBm : Below w.heap.size w wm := hBW.trans (hbm.mono hBW.size)
  have hLm : wl.heap.size ≤ wm.heap.size := Nat.le_trans h4.1.size hbm.size
  have hKm : wm.heap[D]? = some (.deferred (some [])) := (hbm.block D (Array.getElem?_eq_some_iff.1 HKD.out).1).trans HKD.out
  have hDm : D < wm.heap.size := (Array.getElem?_eq_some_iff.1 hKm).1
  have hcl2 : CellsAre wm ad2 (b.drop i).length (cvT w ad2 (b.drop i)) := fun j hj => by
   have hh : ∀ p v, w.cell? p = some v → wm.cell? p = some v := fun p v h => (hBm.cell (World.block_lt_of_cell? w _ h)).trans h
   obtain ⟨h0, h1, h2, h3, h4⟩ := hcells2 j hj
   exact ⟨hh _ _ h0, hh _ _ h1, hh _ _ h2, hh _ _ h3, hh _ _ h4⟩
  have hbd2 : ∀ j, j < (b.drop i).length → ¬ (fun k => k = w.heap.size + 1 ∨ wl.heap.size ≤ k) (ad2.add (j * 5)).block := fun j hj e => by
   have := World.block_lt_of_cell? w _ (hcells2 j hj).1
   rcases e with e | e <;> omega
  refine (wpIn_wide (n := 6)).1 ?_
  refine wpIn_rangeFunc_ownH rfl (by omega) (gf := 47) (lb := #[.pointer (some ⟨W.heap.size, 0, none⟩)]) rfl trivial (enters_of Try.func47 (by kernel_rfl) rfl)
   (ofc_stops 5 (by omega) W.heap.size A2 ad2 (b.drop i) (c1 - i) w wm (fun k => k = w.heap.size + 1 ∨ wl.heap.size ≤ k) hbd2 hAd2 hcl2 ((blk_cell hkm 0).trans rfl) (by omega)) keepsOld_t (fun W l o o' _ h ho _ => keepsOld_b W l o o' h ho) (Below.refl _ _) (fun _ => rfl)
   (TwoJ k (b.drop i) out (w.heap.size + 1) (w.heap.size + 1 + 1) D wl wm) (fun _ _ _ => False) (twoJ_own hLm hDm) (fun _ _ _ _ _ h => h.elim) ?init2
   (fun x a' W' => TwoA (cvT w ad2 (b.drop i)) (w.heap.size + 1) wm.heap.size (fun gx j => (List.toArray (.slice A0 a.length c0 :: .slice A1 b.length c1 :: undef :: .pointer (some ⟨w.heap.size, 0, none⟩) :: .slice none 0 0 :: .pointer (some ⟨w.heap.size + 1, 0, none⟩) :: .pointer (some ⟨w.heap.size + 1 + 1, 0, none⟩) :: undef :: .pointer (some ⟨gx, 0, none⟩) :: .slice A0 a.length c0 :: .func (.func 47) #[] #[.pointer (some ⟨w.heap.size + 1 + 1 + 1, 0, none⟩)] :: undef :: undef :: undef :: undef :: undef :: undef :: undef :: undef :: undef :: undef :: undef :: undef :: undef :: undef :: undef :: undef :: undef :: undef :: undef :: undef :: undef :: undef :: undef :: undef :: undef :: undef :: undef :: undef :: undef :: undef :: undef :: undef :: undef :: undef :: undef :: undef :: undef :: undef :: undef :: undef :: undef :: undef :: undef :: undef :: undef :: undef :: undef :: undef :: undef :: undef :: undef :: undef :: undef :: undef :: undef :: undef :: undef :: .slice A1 b.length c1 :: .int .i64 (i : Int) :: .slice A2 (b.length - i) (c1 - i) :: .func (.func 47) #[] #[.pointer (some ⟨W.heap.size, 0, none⟩)] :: .agg #[cvT w ad2 (b.drop i) j 0, cvT w ad2 (b.drop i) j 1, cvT w ad2 (b.drop i) j 2, cvT w ad2 (b.drop i) j 3, cvT w ad2 (b.drop i) j 4] :: undef :: undef :: undef :: undef :: undef :: undef :: undef :: []))) x.1 a' W') (fun x a' => twoA_own x.1 a') ?assign2 ?body2 ?done2 ?stop2
  case init2 => exact ⟨v, out, blk_below h1 hbm, Kd.S_below h3 hbm, h4.trans (Ch.below hbm), ⟨Nat.le_refl _, hKm⟩, rfl, Nat.le_refl _⟩
  case assign2 =>
   rintro l pre ⟨j, hj⟩ W2 K hi hK
   obtain ⟨v2, o2, g1, g3, g4, g5, g6, g7⟩ := hi
   have hne : some W2.heap.size ≠ v2.ownBlock := fun e => by have := Kd.S_lt g3 _ e.symm; omega
   have HG := am (And.intro g1 (And.intro g3 (And.intro g4 (And.intro g5 (And.intro g6 (And.intro g7 hne))))))
   clear g1 g3 g4 g5 g6 g7 hne
   dsimp only [encsC, cvT] at hK ⊢
   gi_wp2
   obtain ⟨g1, g3, g4, g5, g6, g7, hne⟩ := HG.out
   have hb := below_alloc (Below.refl W2.heap.size W2) (.cells #[cvT w ad2 (b.drop i) j 0, cvT w ad2 (b.drop i) j 1, cvT w ad2 (b.drop i) j 2, cvT w ad2 (b.drop i) j 3, cvT w ad2 (b.drop i) j 4] 44)
   exact hK _ _ (keepsFrom_below hb) (keepsOld_below hb) ⟨v2, o2, blk_alloc g1 _, Kd.S_alloc g3 _, g4.trans (Ch.below hb), ⟨Nat.le_trans g5.1 hb.size, (hb.block D (Array.getElem?_eq_some_iff.1 g5.2).1).trans g5.2⟩, g6, g7⟩ ⟨W2.heap.size, v2, g5.1, heap_alloc_new _ _, blk_alloc g1 _, hne, rfl⟩
  case body2 =>
   rintro l pre ⟨j, hj⟩ a' W2 hl hr ⟨v2, o2, g1, g3, g4, g5, g6, g7⟩ ⟨gx, v', hgx, kx, ko', hne', rfl⟩ hlen
   rw [g1] at ko'
   cases ko'
   obtain ⟨A9, c9, rfl⟩ := Kd.S_slice g3
   have hB2 : Below w.heap.size w W2 := below_of_ch hBl g4 hBl.size (fun k hk => by rcases hk with rfl | rfl <;> omega)
   have hxm : rd_T44 (b.drop i) (j : Int) ∈ b.drop i := by unfold rd_T44; rw [Int.toNat_natCast, List.getD_eq_getElem?_getD, List.getElem?_eq_getElem hj]; exact List.getElem_mem hj
   obtain ⟨y, hy⟩ := Option.isSome_iff_exists.1 (HOK1.out _ (List.mem_of_mem_drop hxm))
   obtain ⟨⟨m0, n0⟩, ⟨m2, n2⟩, ⟨m3, n3⟩, ⟨m4, n4⟩⟩ := hrd2 W2 hB2 j hj
   have hlo : o2.length < 1353245080339 := by omega
   dsimp only [cvT] at kx ⊢
   have HL9 := am (show o2.length + 1 ≤ out.length + (pre.length + 1) by omega)
   have HG := am (And.intro g1 (And.intro g3 (And.intro g4 (And.intro g5 (And.intro g6 (And.intro kx (And.intro hne' hgx)))))))
   have HR := am (And.intro m0 (And.intro n0 (And.intro m2 (And.intro n2 (And.intro m3 (And.intro n3 (And.intro m4 n4)))))))
   have HY := am (And.intro hy hlo)
   clear g1 g3 g4 g5 g6 g7 kx hne' hgx m0 n0 m2 n2 m3 n3 m4 n4 hy hlo
   gi_wp2
   refine two_r14 (k := k) (L := wl.heap.size) (go := w.heap.size + 1) (gx := gx) (x := rd_T44 (b.drop i) (j : Int)) (y := y) (out := o2) ?hq3 ?hqp3 HG.out.1 HG.out.2.2.2.2.2.1 (by have := HG.out.2.2.2.2.2.2.2; omega) (S_apartC HG.out.2.1 HG.out.2.2.2.2.2.1 HG.out.2.2.2.2.2.2.1) HG.out.2.2.1.1.size HR.out.2.1 HR.out.1 HR.out.2.2.2.1 HR.out.2.2.1 HR.out.2.2.2.2.2.1 HR.out.2.2.2.2.1 HR.out.2.2.2.2.2.2.2 HR.out.2.2.2.2.2.2.1 HY.out.1 HY.out.2 ?_
   case hq3 => rintro ⟨_, _, h⟩; exact h
   case hqp3 => exact fun _ _ _ _ h => h
   intro v3 W3 z0 z1 z2 z3 z4 q1 q2 q3 q4
   exact ⟨keepsFrom_ch q4 (fun k hk => by subst hk; omega), keepsOld_ch2 q4, v3, o2 ++ [y], q1, Kd.S_mono q3 (fun k hk => hk.1), Ch.two HG.out.2.2.1 q4, ⟨Nat.le_trans HG.out.2.2.2.1.1 q4.1.size, (q4.2 D (Array.getElem?_eq_some_iff.1 HG.out.2.2.2.1.2).1 (fun e => by omega) (.inr ⟨_, HG.out.2.2.2.1.2, rfl⟩)).trans HG.out.2.2.2.1.2⟩, by rw [List.map_append, List.map_cons, List.map_nil, twoRest_snoc, HG.out.2.2.2.2.1, Option.bind_some, HY.out.1, Option.bind_some]; exact addC_ok HY.out.2, by rw [List.length_append, List.length_append, List.length_singleton, List.length_singleton]; exact HL9.out⟩
  case done2 =>
   rintro D2 xs W3 hD2 hS2 ⟨v2, o2, g1, g3, g4, g5, g6, g7⟩ hK2
   obtain ⟨A9, c9, rfl⟩ := Kd.S_slice g3
   have hrr := HH.out
   rw [map_rd ys HS.out] at h6
   rw [map_rd xs hS2] at g6
   rw [h6, Option.bind_some, g6, Option.bind_some] at hrr
   split at hrr
   case isFalse => cases hrr
   case isTrue hln =>
   cases hrr
   obtain ⟨f, hf⟩ := g3
   have hB3 : Below w.heap.size w W3 := below_of_ch hBl g4 hBl.size (fun k hk => by rcases hk with rfl | rfl <;> omega)
   have HG := am (And.intro g1 (And.intro hf (And.intro g4 (And.intro g5 (And.intro hB3 (And.intro hln (And.intro hD2 hD)))))))
   have HK2 := am hK2
   have r1 := (blk_cell g1 0).trans rfl
   clear g1 hf g4 g5 hB3 hln hK2 g6 g7 hS2
   go_wp2_with (go_at_call 40; refine (CloneCells_calls (Kd.tag f k44) rfl (.slice A9 r.length c9) r.zipIdx wl.heap.size (fun k => k ≠ w.heap.size + 1) W3 W3 ?cB ?cL ?cR ?cF ?cN).mono ?_; (case cB => exact Below.refl _ _); (case cL => exact Nat.le_trans hLm HG.out.2.2.2.1.1); (case cR => exact HG.out.2.1); (case cF => exact fun k hk => by have := HG.out.2.2.2.1.1; omega); (case cN => rw [List.length_zipIdx]; exact HG.out.2.2.2.2.2.1); rintro e W4 ⟨v4, rfl, hR4, hB4, hB5⟩)
   obtain ⟨g1, hf, g4, g5, hB3, hln, hD2', hD'⟩ := HG.out
   have k2 := (hB5.block D2 (Array.getElem?_eq_some_iff.1 HK2.out).1).trans HK2.out
   have k1 := (hB5.block D (Array.getElem?_eq_some_iff.1 g5.2).1).trans g5.2
   have k3 : (W4.putObj D2 (.deferred none)).heap[D]? = some (.deferred (some [])) := ((grownBy_putObj' W4 D2 (.deferred none)).block D (Array.getElem?_eq_some_iff.1 k1).1 (fun e => by injection e with e; omega)).trans k1
   have s1 : Kd.S k44 44 W4 wl.heap.size (fun k => k ≠ w.heap.size + 1) v4 r := ⟨f, hR4⟩
   have s2 := S_row s1 (grownBy_putObj' W4 D2 (.deferred none)) (fun r e => by cases e; exact ⟨_, k2, rfl⟩)
   have s3 := S_row s2 (grownBy_putObj' (W4.putObj D2 (.deferred none)) D (.deferred none)) (fun r e => by cases e; exact ⟨_, k3, rfl⟩)
   have b1 : Below w.heap.size w W4 := hB3.trans (hB5.mono hB3.size)
   exact ret_marks2 (v := v4) rfl k2 k3 (by simp [results, Try.f23, go_sem]) ⟨v4, rfl, Kd.S_mono (Kd.S_lower s3 hBl.size) (fun _ _ => trivial), below_mark (below_mark b1 (by omega)) (by omega)⟩
  case stop2 => exact fun _ _ _ _ _ _ h _ => h.elim
 case stop => exact fun _ _ _ _ _ _ h _ => h.elim
theorem at_row {w : World} {A : Option Addr} {n : Nat} {rows : List (List S44)} (h : Kd.C (Kd.slice 44 k44) w A n rows) (j : Nat) (hj : j < n) : ∃ ad A0 c0, A = some ad ∧ w.cell? (ad.add j) = some (.slice A0 (lenR rows j) c0) ∧ lenR rows j ≤ c0 ∧ Kd.C k44 w A0 (lenR rows j) (rows.getD j []) := by
 obtain ⟨ad, c, e, _, hK, hc0⟩ := Kd.C_get h [] (j : Int) (by omega) (by omega)
 obtain ⟨A0, c0, rfl, hl, hC⟩ := hK
 rw [Int.toNat_natCast] at hl hC hc0
 refine ⟨ad, A0, c0, e, ?_, hl, hC⟩
 have := hc0 0 _ rfl
 simpa [lenR, show (Kd.slice 44 k44).sz = 1 from rfl] using this
theorem rows_all {w : World} {A : Option Addr} {l : List (List S44)} (h : Kd.C (Kd.slice 44 k44) w A l.length l) : ∃ ad : Addr, (0 < l.length → A = some ad) ∧ RowsAre w ad l.length (cvR w ad l) ∧
  ∀ (W : World), Below w.heap.size w W → ∀ j : Nat, j < l.length → lenR l j ≤ slC (slOf w ad j) ∧ Kd.C k44 W (slA (slOf w ad j)) (lenR l j) (l.getD j []) := by
 by_cases h0 : 0 < l.length
 ·obtain ⟨ad, _, _, eA, _⟩ := at_row h 0 h0
  have hj : ∀ j, j < l.length → ∃ A0 c0, w.cell? (ad.add j) = some (.slice A0 (lenR l j) c0) ∧ lenR l j ≤ c0 ∧ Kd.C k44 w A0 (lenR l j) (l.getD j []) := fun j hj => by
   obtain ⟨ad', A0, c0, eA', q, hl, hC⟩ := at_row h j hj
   rw [eA] at eA'
   cases eA'
   exact ⟨A0, c0, q, hl, hC⟩
  refine ⟨ad, fun _ => eA, fun j hjl => ?_, fun W hB j hjl => ?_⟩
  ·obtain ⟨A0, c0, q, _⟩ := hj j hjl
   simp [cvR, slOf, slA, slC, q]
  ·obtain ⟨A0, c0, q, hl, hC⟩ := hj j hjl
   refine ⟨?_, ?_⟩
   ·simpa [slOf, slC, q] using hl
   ·simpa [slOf, slA, q] using Kd.C_below hC hB
 ·exact ⟨⟨0, 0, none⟩, fun h => absurd h h0, fun j hj => by omega, fun _ _ j hj => by omega⟩
def oneGo (k : Nat) : List (List S44) → List S44 → Option (List S44)
 | [], o => some o
 | x :: t, o => (Two.f k o x).bind fun o => oneGo k t o
def oneOk (k : Nat) (l : List (List S44)) : Nat → List S44 → Bool
 | 0, _ => true
 | n + 1, o => l.all fun x => match Two.f k o x with
  | some o2 => oneOk k l n o2
  | none => false
def one.f (k : Nat) : List (List S44) → Option (List S44)
 | [] => none
 | r :: t => (Two.f k r []).bind fun o => if oneOk k t t.length o = true then oneGo k t o else none
theorem oneGo_snoc (k : Nat) (x : List S44) : ∀ (l : List (List S44)) (o), oneGo k (l ++ [x]) o = (oneGo k l o).bind fun o => Two.f k o x
 | [], o => by simp [oneGo]
 | y :: l, o => by
  simp only [List.cons_append, oneGo]
  cases Two.f k o y with
  | none => rfl
  | some o2 => exact oneGo_snoc k x l o2
theorem oneOk_step {k n : Nat} {l : List (List S44)} {o x : List S44} (h : oneOk k l (n + 1) o = true) (hx : x ∈ l) : ∃ o2, Two.f k o x = some o2 ∧ oneOk k l n o2 = true := by
 simp only [oneOk, List.all_eq_true] at h
 have := h x hx
 split at this
 ·rename_i o2 ho2
  exact ⟨o2, ho2, this⟩
 ·cases this
def OneI (k : Nat) (t : List (List S44)) (o : List S44) (go : Nat) (w wl : World) (pre : List (At t.length)) (W : World) : Prop :=
 ∃ v out, W.heap[go]? = some (.cells #[v] 31 (0, 0)) ∧ Kd.S k44 44 W w.heap.size (fun j => j ≠ go) v out ∧ Ch wl.heap.size (fun j => j = go) wl W ∧ oneGo k (pre.map fun x => t.getD x.1 []) o = some out ∧ oneOk k t (t.length - pre.length) out = true
theorem oneI_own {k : Nat} {t : List (List S44)} {o : List S44} {go : Nat} {w wl : World} (h : go < wl.heap.size) : OwnFrom wl.heap.size (OneI k t o go w wl) := by
 rintro pre W W' row ⟨v, out, h1, h3, h4, h5, h6⟩ hg hr
 exact ⟨v, out, blk_grown h1 hg (blk_not_row h1 (fun r e => (hr r e).2)), S_row h3 hg (fun r e => (hr r e).2), ch_row h4 (Nat.le_refl _) hg (fun r e => (hr r e).1), h5, h6⟩
set_option maxRecDepth 100000 in
set_option maxHeartbeats 4000000 in
theorem one_calls (k : Nat) (A0 : Option Addr) (c0 : Nat) (x : List S44) (t : List (List S44)) (r : List S44) (w : World) (hr0 : Kd.C (Kd.slice 44 k44) w A0 (x :: t).length (x :: t)) (hc0 : (x :: t).length ≤ c0) (h : one.f k (x :: t) = some r) :
  Calls Try.prog 34 #[.slice A0 (x :: t).length c0] w fun e w' => ∃ v, e = .returned v ∧ Kd.S k44 44 w' w.heap.size (fun _ => True) v r ∧ Below w.heap.size w w' := by
 have hmax := Kd.C_max hr0
 obtain ⟨o, ho, h⟩ := Option.bind_eq_some_iff.1 h
 split at h
 case isFalse => cases h
 case isTrue hok =>
 obtain ⟨ad, E0, d0, eA, q0, hl0, hC0⟩ := at_row hr0 0 (by simp)
 subst eA
 have HO := am ho
 have HH := am h
 have HOK := am hok
 have HC0 := am (And.intro hl0 hC0)
 clear ho h hok hl0 hC0
 have q1 : w.cell? ad = some (.slice E0 x.length d0) := by
  have e : ad.add 0 = ad := by first | exact Addr.add_zero ad | (cases ad; rfl) | (cases ad; simp [Addr.add])
  rw [e] at q0
  simpa [lenR] using q0
 obtain ⟨A2, hA2⟩ : ∃ A2, A2 = if c0 = 1 then some ad else some (ad.add 1) := ⟨_, rfl⟩
 have j1 : ((t.length : Int) + 1 < 1) = False := eq_false (by omega)
 have HA2 := am hA2
 have HC := am (show 1 ≤ c0 by simp at hc0; omega)
 clear hA2
 have hl0 : x.length ≤ d0 := by simpa [lenR] using HC0.out.1
 have hC0 : Kd.C k44 w E0 x.length x := by simpa [lenR] using HC0.out.2
 have HX := am (And.intro hl0 hC0)
 clear q0 hl0 hC0 HC0
 refine calls_marks Try.func34 rfl ?_
 simp only [Try.ntmps34, List.size_toArray, List.length_cons, List.length_nil, Nat.reduceAdd, Nat.reduceSub, Array.replicate_succ, Array.replicate_zero, List.push_toArray, List.append_toArray, List.nil_append, List.cons_append]
 go_wp2_with (first | ((with_reducible refine gate_dst (N := 10) rfl ?_); refine Kd.event_run (v := .slice A2 t.length (c0 - 1)) (w1 := W1.alloc (.cells #[.slice A1 o.length c1] 31)) ?g70 ?r70 ?_; (case g70 => rfl); (case r70 => rw [HA2.out]; by_cases hci : c0 = 1; (have hz : c0 - 1 = 0 := (by omega); rw [if_pos hci, hz]; go_simp; try (intro h; exact absurd hci h)); (rw [if_neg hci]; go_simp; try (intro h; have := HC.out; omega)))) | ((with_reducible refine gate_callee (f := 45) rfl ?_); refine goesL_ (some 11) rfl rfl Try.func45 (by kernel_rfl) rfl #[.slice A2 t.length (c0 - 1)] rfl (by (try simp only [List.map_toArray, List.map_cons, List.map_nil]); first | done | rfl) ?_; refine ((callsIn_wide (n := 3)).1 (ofr_in 3 A2 t.length (c0 - 1) _)).mono ?_; rintro e W2 ⟨rfl, rfl⟩; refine ⟨_, rfl, ?_⟩) | ((with_reducible refine gate_callee (f := 23) rfl ?_); refine goesL_ (some 8) rfl rfl Try.func23 (by kernel_rfl) rfl #[.slice E0 x.length d0, .slice none 0 0] rfl (by (try simp only [List.map_toArray, List.map_cons, List.map_nil]); first | done | rfl) ?_; refine (Two_calls k E0 d0 x none 0 [] o w HX.out.2 HX.out.1 (Kd.C_nil _ _) (Nat.le_refl _) HO.out).mono ?_; rintro e W1 ⟨v1, rfl, hS1, hB1⟩; obtain ⟨A1, c1, rfl⟩ := Kd.S_slice hS1; have HS1 := am hS1; have HB1 := am hB1; clear hS1 hB1; refine ⟨_, rfl, ?_⟩))
 simp only [World.size_alloc]
 have hS1 := HS1.out
 have hB1 := HB1.out
 have hdrop : Kd.C (Kd.slice 44 k44) w A2 t.length t := by
  have h := Kd.C_drop (m := 1) hr0 (by simp) hc0
  rw [HA2.out]
  simpa [show (Kd.slice 44 k44).sz = 1 from rfl] using h
 obtain ⟨ad2, hAd2, hrw, hrd⟩ := rows_all hdrop
 obtain ⟨wl, hwl⟩ : ∃ wl, wl = (W1.alloc (.cells #[.slice A1 o.length c1] 31)).alloc (.cells #[.slice A2 t.length (c0 - 1)] 29) := ⟨_, rfl⟩
 have hsl : wl.heap.size = W1.heap.size + 1 + 1 := by rw [hwl]; simp
 have hBl1 : Below W1.heap.size W1 wl := by rw [hwl]; exact below_alloc (below_alloc (Below.refl _ _) _) _
 have hBl : Below w.heap.size w wl := hB1.trans (hBl1.mono hB1.size)
 have hko : wl.heap[W1.heap.size]? = some (.cells #[.slice A1 o.length c1] 31 (0, 0)) := by rw [hwl]; exact blk_alloc (heap_alloc_new _ _) _
 have hkx : wl.heap[W1.heap.size + 1]? = some (.cells #[.slice A2 t.length (c0 - 1)] 29 (0, 0)) := by
  rw [hwl, ← World.size_alloc W1 (.cells #[.slice A1 o.length c1] 31)]; exact heap_alloc_new _ _
 have hSl := Kd.S_below hS1 hBl1
 have hSo := Kd.S_elderB hS1 W1.heap.size (Nat.le_refl _)
 rw [← hwl]
 clear hwl
 have hs1 := hB1.size
 have hcl : RowsAre wl ad2 t.length (cvR w ad2 t) := fun j hj => (hBl.cell (World.block_lt_of_cell? w _ (hrw j hj))).trans (hrw j hj)
 have hbd : ∀ j, j < t.length → ¬ (fun k => k = W1.heap.size) (ad2.add j).block := fun j hj e => by
  have h1 := World.block_lt_of_cell? w _ (hrw j hj)
  have h2 : (ad2.add j).block = W1.heap.size := e
  omega
 refine (wpIn_wide (n := 6)).1 ?_
 refine wpIn_rangeFunc_ownH rfl (by omega) (gf := 55) (lb := #[.pointer (some ⟨W1.heap.size + 1, 0, none⟩)]) rfl trivial (enters_of Try.func55 (by kernel_rfl) rfl)
  (ofr_stops 5 (by omega) (W1.heap.size + 1) A2 ad2 t (c0 - 1) w wl (fun k => k = W1.heap.size) hbd hAd2 hcl ((blk_cell hkx 0).trans rfl) (by simp at hmax; omega)) keepsOld_t (fun W l o o' _ h ho _ => keepsOld_b W l o o' h ho) (Below.refl _ _) (fun _ => rfl)
  (OneI k t o W1.heap.size w wl) (fun _ _ _ => False) (oneI_own (by omega)) (fun _ _ _ _ _ h => h.elim) ?init
  (fun x' a' W => a' = { tmps := #[.slice (some ad) (t.length + 1) c0, undef, .slice none 0 0, .pointer (some ⟨W1.heap.size, 0, none⟩), cvR w ad2 t x'.1, .slice (some ad) (t.length + 1) c0, .pointer (some ad), .slice E0 x.length d0, .slice A1 o.length c1, .slice (some ad) (t.length + 1) c0, .slice A2 t.length (c0 - 1), .func (.func 55) #[] #[.pointer (some ⟨W1.heap.size + 1, 0, none⟩)], cvR w ad2 t x'.1, undef, undef, undef, undef], defers := [] }) (fun _ _ _ _ _ _ h _ _ => h) ?assign ?body ?done ?stop
 case init => exact ⟨.slice A1 o.length c1, o, hko, Kd.S_below (Kd.S_mono hSo (fun k hk => hk.2)) hBl1, Ch.refl _ _ _, rfl, by simpa using HOK.out⟩
 case assign =>
  rintro l pre ⟨j, hj⟩ W K hi hK
  dsimp only [cvR] at hK ⊢
  gi_wp2
  exact hK _ _ (KeepsFrom.refl _ _) (fun _ _ _ _ h => h) hi rfl
 case body =>
  rintro l pre ⟨j, hj⟩ a' W hl hr ⟨v, out, h1, h3, h4, h5, h6⟩ rfl hlen
  obtain ⟨A9, c9, rfl⟩ := Kd.S_slice h3
  have hm1 : t.length - pre.length = (t.length - (pre.length + 1)) + 1 := by omega
  rw [hm1] at h6
  have hxm : t.getD j [] ∈ t := by rw [List.getD_eq_getElem?_getD, List.getElem?_eq_getElem hj]; exact List.getElem_mem hj
  obtain ⟨o2, ho2, hok2⟩ := oneOk_step h6 hxm
  have hBW : Below w.heap.size w W := below_of_ch hBl h4 hBl.size (fun k hk => by subst hk; omega)
  obtain ⟨m0, n0⟩ := hrd W hBW j hj
  have hrs := Kd.S_reads' h3
  have HCall := am (CallsIn.inRound (n := 3) l (callsIn_wide.2 (Two_calls k A9 c9 out (slA (slOf w ad2 j)) (slC (slOf w ad2 j)) (t.getD j []) o2 W hrs.2.2 hrs.2.1 n0 m0 ho2)))
  have p1 := (blk_cell h1 0).trans rfl
  have HG := am (And.intro h1 (And.intro h3 (And.intro h4 (And.intro h5 (And.intro ho2 (And.intro hok2 hBW))))))
  clear h1 h3 h4 h5 h6 hm1 hxm ho2 hok2 hBW m0 n0 hrs
  dsimp only [cvR]
  gi_wp2
  refine ⟨trivial, ?_⟩
  refine HCall.out.mono ?_
  rintro e W2 ⟨v2, rfl, hS2, hb⟩
  obtain ⟨A8, c8, rfl⟩ := Kd.S_slice hS2
  have k1 := blk_below HG.out.1 hb
  have p2 := (blk_cell k1 0).trans rfl
  have f2 := blk_frozen k1 0
  have HS2 := am hS2
  have HB2 := am hb
  have HK1 := am k1
  clear hS2 hb k1 p1
  gi_wp2
  obtain ⟨g1, g3, g4, g5, ho2, hok2, hBW⟩ := HG.out
  have hc : Ch wl.heap.size (fun k => k = W1.heap.size) W (W2.setCell ⟨W1.heap.size, 0, none⟩ (.slice A8 o2.length c8)) := (Ch.below HB2.out).trans (Ch.set rfl)
  exact ⟨keepsFrom_ch hc (fun k hk => by subst hk; omega), keepsOld_ch hc, .slice A8 o2.length c8, o2, blk_put HK1.out 0 _ rfl, Kd.S_far (Kd.S_mono (Kd.S_lower (Kd.S_newB HS2.out g1) hBW.size) (fun k hk => hk.2)) (fun k hk => hk) _, g4.trans hc, by rw [List.map_append, List.map_cons, List.map_nil, oneGo_snoc, g5, Option.bind_some]; exact ho2, by rw [List.length_append, List.length_singleton]; exact hok2⟩
 case done =>
  rintro D ys W hD hS ⟨v, out, h1, h3, h4, h5, h6⟩ hK
  obtain ⟨A9, c9, rfl⟩ := Kd.S_slice h3
  have hhr := HH.out
  have hmap : (ys.map fun x => t.getD x.1 []) = t := by
   have e : (ys.map fun x => t.getD x.1 []) = (ys.map (·.1)).map fun j => t.getD j [] := by rw [List.map_map]; rfl
   rw [e, hS]
   exact List.ext_getElem (by simp) (fun i h1 h2 => by simp [h2])
  rw [hmap, hhr] at h5
  cases h5
  have hBW : Below w.heap.size w W := below_of_ch hBl h4 hBl.size (fun k hk => by subst hk; omega)
  have p1 := (blk_cell h1 0).trans rfl
  have HG := am (And.intro h3 hBW)
  have HKD := am hK
  clear h1 h3 h4 h6 hBW hK
  go_wp2_with (fail)
  exact ret_marks (v := .slice A9 r.length c9) rfl HKD.out (by simp [results, Try.f34, go_sem]) (fun ⟨v, e, h, h2⟩ => ⟨v, e, S_row h (grownBy_putObj' W D (.deferred none)) (fun r e => by cases e; exact ⟨_, HKD.out, rfl⟩), below_mark h2 (by omega)⟩) ⟨_, rfl, Kd.S_mono HG.out.1 (fun _ _ => trivial), HG.out.2⟩
 case stop => exact fun _ _ _ _ _ _ h _ => h.elim
def mg.T6 : Bool × List (List Nat × List Nat) := (true, [([], []), ([], []), ([1], [1]), ([2], [2]), ([0, 3, 2], [0, 3]), ([4, 4, 0, 1, 2, 3, 4], [4])])
def mg.B6 : List Nat := [0, 0, 2, 6, 15, 31]
theorem mg.tab6 : rtab .any (opsOf Try.f19 6) = mg.T6 := by kernel_rfl
theorem mg.bits6 : waitsOk mg.T6.2 mg.B6 = true := by kernel_rfl
set_option maxHeartbeats 4000000 in
set_option maxRecDepth 100000 in
theorem mg_r6 {m l k L go : Nat} {w : World} {A Ax : Option Addr} {c cx : Nat} {next t : List (List S44)} {x y : List S44} {Q : Exit → Act → World → Prop} (hQ : ¬ LetsOut Q) (hQp : ∀ c a a' w, Q (.panic c) a w → Q (.panic c) a' w) {u0 u1 u2 u3 u4 u5 u8 u9 u10 u11 u12 u13 u14 u15 u16 u17 u18 u19 u20 u21 u22 u23 u24 u25 u26 u27 u28 u29 u30 u31 : Value}
    (hko : w.heap[go]? = some (.cells #[.slice A next.length c] 29 (0, 0))) (hS : Kd.S (Kd.slice 44 k44) 31 w L (fun k => k ≠ go) (.slice A next.length c) next) (hL : L ≤ w.heap.size)
    (hx : Kd.C (Kd.slice 44 k44) w Ax (t.length + 1) (x :: t)) (hcx : t.length + 1 ≤ cx) (h : one.f k (x :: t) = some y) (hl : next.length < 1000000000000)
    (hK : ∀ v W z0 z1 z2 z3 z4, W.heap[go]? = some (.cells #[v] 29 (0, 0)) → Kd.S (Kd.slice 44 k44) 31 W L (fun k => k ≠ go) v (next ++ [y]) → Ch L (· = go) w W → Q .normal { tmps := (List.toArray (u0 :: u1 :: u2 :: u3 :: u4 :: u5 :: .pointer (some ⟨go, 0, none⟩) :: .slice Ax (t.length + 1) cx :: u8 :: u9 :: u10 :: u11 :: u12 :: u13 :: u14 :: u15 :: u16 :: z0 :: z1 :: z2 :: z3 :: z4 :: u22 :: u23 :: u24 :: u25 :: u26 :: u27 :: u28 :: u29 :: u30 :: u31 :: [])), defers := [] } W) :
    (Code.region 6 #[{ dst := some 17, op := Op.load 29 (Operand.tmp 6), type := 29, pos := "merge.go:67", after := #[], guard := none }, { dst := some 18, op := Op.move (Operand.tmp 7), type := 29, pos := "merge.go:67", after := #[], guard := none }, { dst := some 19, op := Op.call { callee := Callee.value (Operand.func 34), args := #[Operand.tmp 18], argTypes := #[29] }, type := 31, pos := "merge.go:67", after := #[{ on := 1, ground := Ground.data }], guard := none }, { dst := some 20, op := Op.buildSlice 29 1 #[(0, Operand.tmp 19)], type := 29, pos := "merge.go:67", after := #[{ on := 2, ground := Ground.data }], guard := none }, { dst := some 21, op := Op.call { callee := Callee.builtin Builtin.append, args := #[Operand.tmp 17, Operand.tmp 20], argTypes := #[29, 29] }, type := 29, pos := "merge.go:67", after := #[{ on := 0, ground := Ground.data }, { on := 3, ground := Ground.data }, { on := 2, ground := Ground.chain }], guard := none }, { dst := none, op := Op.store 29 (Operand.tmp 6) (Operand.tmp 21), type := 0, pos := "merge.go:67", after := #[{ on := 4, ground := Ground.data }, { on := 4, ground := Ground.chain }, { on := 0, ground := Ground.phase }, { on := 1, ground := Ground.phase }, { on := 2, ground := Ground.phase }, { on := 3, ground := Ground.phase }, { on := 4, ground := Ground.phase }], guard := none }] true).wpIn (Fence.wide.inRound l) m Try.prog Q { tmps := (List.toArray (u0 :: u1 :: u2 :: u3 :: u4 :: u5 :: .pointer (some ⟨go, 0, none⟩) :: .slice Ax (t.length + 1) cx :: u8 :: u9 :: u10 :: u11 :: u12 :: u13 :: u14 :: u15 :: u16 :: u17 :: u18 :: u19 :: u20 :: u21 :: u22 :: u23 :: u24 :: u25 :: u26 :: u27 :: u28 :: u29 :: u30 :: u31 :: [])), defers := [] } w := by
  have BKo := am hko
  have HS := am hS
  have HL := am hL
  have HA := am h
  have HM := am hl
  have HK := am hK
  have HC := am (Ch.refl L (· = go) w)
  have G0 := am (And.intro hx hcx)
  clear hko hS hL h hl hK hx hcx
  refine start_round (n := 6) (S := fun w' => w'.cell? ⟨go, 0, none⟩ = some (.slice A next.length c) ∧ True) (ds := [5]) (bb 6 0) (by kernel_rfl) (by kernel_rfl) hQ rfl rfl ⟨bc BKo 0, trivial⟩ (fun hHeld => ?_); refine with_tabW mg.tab6 mg.bits6 (fun HT_ HW_ => ?_)
  have n0_ := am (blk_drew BKo.out)
  have n1_ := am (Kd.S_drew HS.out)
  have n2_ := am (HC.out.trans (Ch.below (below_drew (Below.refl _ w))))
  have n3_ := am (And.intro (Kd.C_drew G0.out.1) G0.out.2)
  clear BKo HS HC G0
  have BKo := n0_
  have HS := n1_
  have HC := n2_
  have G0 := n3_
  clear n0_ n1_ n2_ n3_
  generalize hw1 : w.drew = w1 at BKo HS HC G0 hHeld ⊢
  have hs1 : w.heap.size ≤ w1.heap.size := HC.out.1.size
  have HL1 := am (Nat.le_trans HL.out hs1)
  clear hw1 hs1 HL
  refine tk (i := 0) (N := some 17) (bb 6 1) HT_ HW_ hHeld ?_ (hQ := fun _ _ _ h => hQp _ _ _ _ h)
  refine pu (i := 1) (N := some 18) (bb 6 3) HT_ ?_ (hQ := fun _ _ _ h => hQp _ _ _ _ h)
  refine one_ (i := 2) (N := some 19) (bb 6 7) rfl rfl (one_of HT_.out (by kernel_rfl)) (by decide) (fun K hK => ?_)
  refine goes_ Try.func34 (by kernel_rfl) rfl #[.slice Ax (t.length + 1) cx] (by rfl) rfl rfl (by (try simp only [List.map_toArray, List.map_cons, List.map_nil]); first | done | rfl) ?_
  refine (one_calls k Ax cx x t y _ G0.out.1 G0.out.2 HA.out).mono ?_
  rintro e w2 ⟨vy, rfl, hM, hb⟩
  obtain ⟨Ay, cy, rfl⟩ := Kd.S_slice hM
  refine ⟨_, rfl, ?_⟩
  have nM_ := am (show (Kd.slice 44 k44).M w2 w1.heap.size (fun k => w1.heap.size ≤ k) y [.slice Ay y.length cy] from ⟨_, rfl, Kd.R_mono (Kd.R_bound (Kd.S_R hM)) (fun k hk => hk.2.1)⟩)
  have nl_ : Aside0 (go < w1.heap.size ∧ w1.heap.size ≤ w2.heap.size) := ⟨blk_lt BKo.out, hb.size⟩
  have nb_ := am (Kd.S_mono (Kd.S_bound HS.out) (ok' := fun k => k ≠ go ∧ ¬ w1.heap.size ≤ k) (fun k hk => ⟨hk.1, by have := hk.2.2.1; omega⟩))
  clear HS
  have HS := nb_
  clear nb_ hM
  have n0_ := am (blk_below BKo.out hb)
  have n1_ := am (Kd.S_below HS.out hb)
  have n2_ := am (HC.out.trans (Ch.below hb))
  clear BKo HS HC
  have BKo := n0_
  have HS := n1_
  have HC := n2_
  clear n0_ n1_ n2_
  clear hb G0 HA
  refine hK.out _ _ ⟨bc BKo 0, trivial⟩ (fun hHeld => ?_)
  clear hK K
  refine nm ?_
  refine one_ (i := 3) (N := some 20) (bb 6 15) rfl rfl (one_of HT_.out (by kernel_rfl)) (by decide) (fun K hK => ?_)
  refine value_ (w1 := ?_) (v := ?_) (by rfl) rfl ?_ ?_
  rotate_left 2
  ·go_simp
   constructor
   ·rfl
   ·rfl
  refine hK.out _ _ ⟨(World.cell?_alloc_lt _ _ _ (World.block_lt_of_cell? _ _ ((blk_cell BKo.out 0).trans rfl))).trans ((blk_cell BKo.out 0).trans rfl), trivial⟩ (fun hHeld => ?_)
  clear hK K
  refine nm ?_
  refine one_ (i := 4) (N := some 21) (bb 6 31) rfl rfl (one_of HT_.out (by kernel_rfl)) (by decide) (fun K hK => ?_)
  refine Kd.S_append_step (Kd.slice 44 k44) (w0 := w2) L (by rfl) (.tmp 17) (.tmp 20) 29 31 (.slice none 0 0) 24 rfl Try.underlying29 (by rfl) rfl (by decide) (by omega) (.slice A next.length c) next y [.slice Ay y.length cy] (fun k => k ≠ go) (fun k => w1.heap.size ≤ k) rfl rfl ?aP ?aK ?aF ?aO ?aB ?aS ?aL ?_
  case aP => exact Kd.M_lower _ HL1.out nM_.out
  case aK => exact fun k hk => ⟨by have := nl_.out; omega, Kd.S_away HS.out (fun j hj e => hj.2 (e ▸ hk))⟩
  case aF => exact fun k hk => by have := nl_.out; omega
  case aO => exact HS.out
  case aB => exact Below.refl _ _
  case aS => have := nl_.out; have := HL1.out; omega
  case aL => have := HM.out; omega
  intro v1 w3 ho hb hg hat
  obtain ⟨A9, c9, rfl⟩ := Kd.S_slice ho
  have nq_ := Kd.S_typed HS.out
  have nr_ := Kd.S_base HS.out
  have n0_ := am (blk_grown BKo.out hg (Kd.S_away HS.out (fun j hj e => hj.1 e)))
  have n2_ := am ho
  have n3_ := am (HC.out.trans (Ch.grown hg (fun k e => ⟨nr_ k e, by obtain ⟨cs, h⟩ := nq_ k e; exact ⟨cs, _, _, h⟩⟩)))
  clear BKo HS HC ho hb hg hat nM_ nq_ nr_
  have BKo := n0_
  have HS := n2_
  have HC := n3_
  clear n0_ n2_ n3_
  rw [show (next ++ [y]).length = next.length + 1 by simp] at HS
  refine hK.out _ _ ⟨bc BKo 0, trivial⟩ (fun hHeld => ?_)
  clear hK K
  refine nm ?_
  refine last_ (i := 5) (N := none) (bb 6 63) rfl rfl (one_of HT_.out (by kernel_rfl)) (by decide) (fun K hK => ?_)
  have hs22 := (blk_cell BKo.out 0).trans rfl
  have hfs22 := blk_frozen BKo.out 0
  refine skip_ (w1 := ?_) (by rfl) rfl ?_ ?_
  rotate_left
  ·go_simp
   rfl
  refine hK.out _ _ ?_
  clear hK K hs22 hfs22
  refine done_ (done_of HT_.out (by kernel_rfl)) ?_
  exact HK.out _ _ _ _ _ _ _ (blk_put BKo.out 0 _ rfl) (Kd.S_far HS.out (fun k hk => hk) _) (HC.out.trans (Ch.set rfl))
end Go.Proofs.Ytndkimjmbpbcmaa.Q
namespace Go.Proofs.Ytndkimjmbpbcmaa.Q
open Go.RowKit Go.Shelf Go.Proofs.YtndkimjmbpbcmaaW.PrintWords Go.Proofs.YtndkimjmbpbcmaaW.PrintLast Go.Proofs.YtndkimjmbpbcmaaW.PrintMore
set_option linter.unusedVariables false
set_option linter.unusedSimpArgs false
def pieceL (l : List (List S44)) (m q : Nat) : List (List S44) := (l.drop (q * m)).take m
def mapQ (k : Nat) (l : List (List S44)) (m : Nat) : List Nat → Option (List (List S44))
 | [] => some []
 | q :: t => (one.f k (pieceL l m q)).bind fun y => (mapQ k l m t).bind fun r => some (y :: r)
def mgPass (k : Nat) (l : List (List S44)) (m : Nat) : Option (List (List S44)) := mapQ k l m (List.range (pieces l.length m))
def mgGo (m : Nat) : Nat → List (List S44) → Int → Option (List S44 × Int)
 | 0, _, _ => none
 | k + 1, l, p => if 1 < l.length then (if l.length ≤ 1000000 then (mgPass k l m).bind fun l2 => mgGo m k l2 (wrap64 (p + 1)) else none)
  else if l.length = 0 then some ([], p) else (one.f k l).bind fun r => some (r, p)
def merge_Merge.f (k : Nat) (l0 : List (List S44)) (a1 : Int) : Option (List S44 × Int) := if max a1 2 ≤ 1000000 then mgGo (max a1 2).toNat k l0 0 else none
theorem mapQ_snoc (k : Nat) (l : List (List S44)) (m q : Nat) : ∀ t, mapQ k l m (t ++ [q]) = (mapQ k l m t).bind fun r => (one.f k (pieceL l m q)).bind fun y => some (r ++ [y])
 | [] => by simp [mapQ]
 | x :: t => by
  simp only [List.cons_append, mapQ]
  rw [mapQ_snoc k l m q t]
  cases one.f k (pieceL l m x) with
  | none => rfl
  | some y => cases mapQ k l m t with
   | none => rfl
   | some r => cases h : one.f k (pieceL l m q) with
    | none => simp [h]
    | some z => simp [h]
theorem mapQ_one {k : Nat} {l : List (List S44)} {m q : Nat} : ∀ {t r}, mapQ k l m t = some r → q ∈ t → ∃ y, one.f k (pieceL l m q) = some y
 | x :: t, r, h, hq => by
  simp only [mapQ] at h
  obtain ⟨y, hy, h⟩ := Option.bind_eq_some_iff.1 h
  obtain ⟨r2, hr, h⟩ := Option.bind_eq_some_iff.1 h
  rcases List.mem_cons.1 hq with rfl | hq
  ·exact ⟨y, hy⟩
  ·exact mapQ_one hr hq
def unmark : List Nat → World → World
 | [], w => w
 | D :: t, w => unmark t (w.putObj D (.deferred none))
def MarksAt (B : Nat) : List Nat → World → Prop
 | [], _ => True
 | D :: t, w => B ≤ D ∧ w.heap[D]? = some (.deferred (some [])) ∧ D ∉ t ∧ MarksAt B t w
def marksOf (ds : List Nat) : List Deferred := ds.map fun D => { target := .collected D, args := #[] }
theorem MarksAt.keep {B : Nat} {w W : World} : ∀ {ds : List Nat}, MarksAt B ds w → (∀ D ∈ ds, w.heap[D]? = some (.deferred (some [])) → W.heap[D]? = some (.deferred (some []))) → MarksAt B ds W
 | [], _, _ => trivial
 | D :: t, h, hk => ⟨h.1, hk D (List.mem_cons_self ..) h.2.1, h.2.2.1, MarksAt.keep h.2.2.2 (fun D hD => hk D (List.mem_cons_of_mem _ hD))⟩
theorem MarksAt.mark {B D : Nat} {w : World} {ds : List Nat} (h : MarksAt B ds w) (hD : D ∉ ds) : MarksAt B ds (w.putObj D (.deferred none)) :=
 h.keep fun E hE hw => ((grownBy_putObj' w D (.deferred none)).block E (Array.getElem?_eq_some_iff.1 hw).1 (fun e => by injection e with e; exact hD (e ▸ hE))).trans hw
theorem leaves_marks {P : Program} {fn : Func} {tmps : Array Value} {R : Ending → World → Prop} {v : Value} {B : Nat} : ∀ {ds : List Nat} {w : World}, MarksAt B ds w → (results fn tmps).run P (unmark ds w) = .ok v (unmark ds w) → R (.returned v) (unmark ds w) → LeavesInM Fence.wide 6 P fn tmps R (marksOf ds) .returning w
 | [], w, _, hr, hR => ⟨_, hr, hR⟩
 | D :: t, w, h, hr, hR => ⟨by simp, .inl ⟨_, _, rfl, run_takeDeferred h.2.1, leaves_marks (h.2.2.2.mark h.2.2.1) hr hR⟩⟩
theorem ret_marksL {P : Program} {fn : Func} {R : Ending → World → Prop} {a : Act} {w : World} {v : Value} {B : Nat} {ds : List Nat} (hd : a.defers = marksOf ds) (h : MarksAt B ds w) (hr : (results fn a.tmps).run P (unmark ds w) = .ok v (unmark ds w)) (hR : R (.returned v) (unmark ds w)) : retPost (bodyPostM Fence.wide 6 P fn R) .ret a w := by
 show LeavesInM Fence.wide 6 P fn a.tmps R a.defers .returning w
 rw [hd]
 exact leaves_marks h hr hR
theorem S_unmark {B base : Nat} {ok : Nat → Prop} {v : Value} {xs : List S44} : ∀ {ds : List Nat} {w : World}, MarksAt B ds w → Kd.S k44 44 w base ok v xs → Kd.S k44 44 (unmark ds w) base ok v xs
 | [], _, _, h => h
 | D :: t, w, hm, h => S_unmark (ds := t) (w := w.putObj D (.deferred none)) (hm.2.2.2.mark hm.2.2.1) (S_row h (grownBy_putObj' w D (.deferred none)) (fun r e => by cases e; exact ⟨_, hm.2.1, rfl⟩))
theorem below_unmark {B : Nat} {w0 : World} : ∀ {ds : List Nat} {w : World}, MarksAt B ds w → w0.heap.size ≤ B → Below w0.heap.size w0 w → Below w0.heap.size w0 (unmark ds w)
 | [], _, _, _, h => h
 | D :: t, w, hm, hB, h => below_unmark (ds := t) (w := w.putObj D (.deferred none)) (hm.2.2.2.mark hm.2.2.1) hB (below_mark h (Nat.le_trans hB hm.1))
end Go.Proofs.Ytndkimjmbpbcmaa.Q
namespace Go.Proofs.Ytndkimjmbpbcmaa.Q
open Go.RowKit Go.Shelf Go.Proofs.YtndkimjmbpbcmaaW.PrintWords Go.Proofs.YtndkimjmbpbcmaaW.PrintLast Go.Proofs.YtndkimjmbpbcmaaW.PrintMore
set_option linter.unusedVariables false
set_option linter.unusedSimpArgs false
attribute [local go_sem] Oper.semAt_some max2_int min2_int
def mgLen (a : Act) : Nat := match (a.tmps[0]? : Option Value) with
 | some (Value.slice _ n _) => n
 | _ => 0
theorem S_rowG {α : Type} {d : Kd α} {e : Nat} {w W : World} {base : Nat} {ok : Nat → Prop} {v : Value} {xs : List α} {row : Option Nat} (h : Kd.S d e w base ok v xs) (hg : w.grownBy W row) (hr : ∀ r, row = some r → ∃ o : Obj, w.heap[r]? = some o ∧ o.isCells = false) : Kd.S d e W base ok v xs :=
 Kd.S_mono (Kd.S_grown (Kd.S_bound h) hg (fun k hk e => by
  obtain ⟨_, _, _, q, _, cells, hc⟩ := hk
  obtain ⟨o, ho, hn⟩ := hr k e.symm
  rw [hc] at ho
  cases ho
  cases hn)) (fun k hk => hk.1)
def KeepsTwo (Bn Bm : Nat) (W W' : World) : Prop := ∀ p v, (p = ⟨Bn, 0, none⟩ ∨ p = ⟨Bm, 0, none⟩) → W.cell? p = some v → W'.cell? p = some v
theorem keepsTwo_t {Bn Bm : Nat} {W1 W2 W3 : World} (h : KeepsTwo Bn Bm W1 W2) (k : KeepsTwo Bn Bm W2 W3) : KeepsTwo Bn Bm W1 W3 := fun p v hp h1 => k p v hp (h p v hp h1)
theorem keepsTwo_b {Bn Bm : Nat} (W : World) (l : Nat) (o o' : Obj) (h : W.heap[l]? = some o) (ho : o.isCells = false) : KeepsTwo Bn Bm W (W.putObj l o') :=
 fun _ _ _ hv => cell_kept hv (grownBy_putObj' W l o') (fun r e => by cases e; exact ⟨_, h, ho⟩)
theorem keepsTwo_ch {L go Bn Bm : Nat} {W W' : World} (h : Ch L (· = go) W W') (hn : Bn < L ∧ Bn ≠ go) (hm : Bm < L ∧ Bm ≠ go) (_ : True) : KeepsTwo Bn Bm W W' := fun p v hp hv =>
 (World.cell?_of_block (w := W) (w' := W') (a := p) (h.2 p.block (World.block_lt_of_cell? W _ hv) (by rcases hp with rfl | rfl; exact hn.2; exact hm.2) (.inl (by rcases hp with rfl | rfl; exact hn.1; exact hm.1)))).trans hv
theorem pieces_le {len m : Nat} (hm : 1 ≤ m) : pieces len m ≤ len := by
 rcases Nat.lt_or_ge (pieces len m) (len + 1) with h | h
 ·omega
 ·have h1 : len < pieces len m := by omega
  have h2 := (pieces_lt hm).1 h1
  have h3 := Nat.le_mul_of_pos_right len (show 0 < m by omega)
  omega
theorem pieces_less {len m : Nat} (hm : 2 ≤ m) (h : 1 < len) : pieces len m < len := by
 rcases Nat.lt_or_ge (pieces len m) len with h1 | h1
 ·exact h1
 ·have h2 := (pieces_lt (len := len) (m := m) (q := len - 1) (by omega)).1 (by omega)
  have h3 : (len - 1) * 2 ≤ (len - 1) * m := Nat.mul_le_mul_left _ hm
  omega
theorem marks_lt {B D : Nat} {w : World} : ∀ {ds : List Nat}, MarksAt B ds w → D ∈ ds → D < w.heap.size
 | E :: t, h, hm => by
  rcases List.mem_cons.1 hm with rfl | hm
  ·exact (Array.getElem?_eq_some_iff.1 h.2.1).1
  ·exact marks_lt h.2.2.2 hm
theorem MarksAt.get {B D : Nat} {w : World} : ∀ {ds : List Nat}, MarksAt B ds w → D ∈ ds → w.heap[D]? = some (.deferred (some []))
 | E :: t, h, hm => by
  rcases List.mem_cons.1 hm with rfl | hm
  ·exact h.2.1
  ·exact MarksAt.get h.2.2.2 hm
theorem piece_C {w : World} {ad : Addr} {l : List (List S44)} {c m q : Nat} (h : Kd.C (Kd.slice 44 k44) w (some ad) l.length l) (hc : l.length ≤ c) (hq : q * m < l.length) :
  (pieceL l m q).length = min m (l.length - q * m) ∧ Kd.C (Kd.slice 44 k44) w (some (ad.add (q * m))) (pieceL l m q).length (pieceL l m q) := by
 refine ⟨by simp [pieceL, List.length_take, List.length_drop], ?_⟩
 have h1 := Kd.C_drop (m := q * m) h (Nat.le_of_lt hq) hc
 rw [if_neg (by omega), show (Kd.slice 44 k44).sz = 1 from rfl, Nat.mul_one] at h1
 have h2 : Kd.C (Kd.slice 44 k44) w (some (ad.add (q * m))) (l.drop (q * m)).length (l.drop (q * m)) := h1
 unfold pieceL
 rcases Nat.lt_or_ge (l.drop (q * m)).length m with h3 | h3
 ·rw [List.take_of_length_le (Nat.le_of_lt h3)]
  exact h2
 ·exact Kd.C_take h2 h3
def MgI (k : Nat) (l : List (List S44)) (m go : Nat) (ds : List Nat) (wl : World) (pre : List (At (pieces l.length m))) (W : World) : Prop :=
 ∃ v next, W.heap[go]? = some (.cells #[v] 29 (0, 0)) ∧ Kd.S (Kd.slice 44 k44) 31 W wl.heap.size (fun j => j ≠ go) v next ∧ Ch wl.heap.size (fun j => j = go) wl W ∧ mapQ k l m (pre.map (·.1)) = some next ∧ next.length = pre.length
theorem mgI_own {k : Nat} {l : List (List S44)} {m go : Nat} {ds : List Nat} {wl : World} : OwnFrom wl.heap.size (MgI k l m go ds wl) := by
 rintro pre W W' row ⟨v, next, h1, h3, h4, h5, h6⟩ hg hr
 exact ⟨v, next, blk_grown h1 hg (blk_not_row h1 (fun r e => (hr r e).2)), S_rowG h3 hg (fun r e => (hr r e).2), ch_row h4 (Nat.le_refl _) hg (fun r e => (hr r e).1), h5, h6⟩
set_option maxRecDepth 100000 in
set_option maxHeartbeats 4000000 in
theorem merge_Merge.calls (k : Nat) (A0 : Option Addr) (c0 : Nat) (l0 : List (List S44)) (a1 : Int) (r1 : List S44) (r2 : Int) (w : World) (hr0 : Kd.C (Kd.slice 44 k44) w A0 l0.length l0) (hc0 : l0.length ≤ c0) (h : merge_Merge.f k l0 a1 = some (r1, r2)) :
  Calls Try.prog 19 #[.slice A0 l0.length c0, .int .i64 a1] w fun e w' => ∃ v0_ : Value, e = .returned (.tuple #[v0_, .int .i64 r2]) ∧ Kd.S k44 44 w' w.heap.size (fun _ => True) v0_ r1 ∧ Below w.heap.size w w' := by
 unfold merge_Merge.f at h
 split at h
 case isFalse => cases h
 case isTrue hmx =>
 obtain ⟨m, hm⟩ : ∃ m, m = (max a1 2).toNat := ⟨_, rfl⟩
 have hm2 : 2 ≤ m ∧ m ≤ 1000000 ∧ ((m : Nat) : Int) = max a1 2 := by omega
 rw [← hm] at h
 have HM := am hm2
 clear hm hm2
 have HH := am h
 clear h hmx
 refine calls_marks Try.func19 rfl ?_
 simp only [Try.ntmps19, List.size_toArray, List.length_cons, List.length_nil, Nat.reduceAdd, Nat.reduceSub, Array.replicate_succ, Array.replicate_zero, List.push_toArray, List.append_toArray, List.nil_append, List.cons_append]
 go_wp2_with (fail)
 refine wp_loop (I := fun a' W => ∃ ds kq A c l p x6 x7 x8 x9 x10 x11 x12 x13 x14 x15 x16 x17 x18 x19 x20 x21 x22 x23 x24 x25 x26 x27 x28 x29 x30 x31, a' = { tmps := (List.toArray (.slice A l.length c :: .int .i64 (m : Int) :: undef :: undef :: .slice none 0 0 :: .int .i64 p :: x6 :: x7 :: x8 :: x9 :: x10 :: x11 :: x12 :: x13 :: x14 :: x15 :: x16 :: x17 :: x18 :: x19 :: x20 :: x21 :: x22 :: x23 :: x24 :: x25 :: x26 :: x27 :: x28 :: x29 :: x30 :: x31 :: [])), defers := marksOf ds } ∧ MarksAt w.heap.size ds W ∧ Kd.C (Kd.slice 44 k44) W A l.length l ∧ l.length ≤ c ∧ mgGo m kq l p = some (r1, r2) ∧ Below w.heap.size w W) (μ := fun a' W => mgLen a') ?start ?round
 case start =>
  rw [← HM.out.2.2]
  exact ⟨[], k, A0, c0, l0, 0, _, _, _, _, _, _, _, _, _, _, _, _, _, _, _, _, _, _, _, _, _, _, _, _, _, _, rfl, trivial, hr0, hc0, HH.out, Below.refl _ _⟩
 case round =>
  rintro _ W ⟨ds, kq, A, c, l, p, x6, x7, x8, x9, x10, x11, x12, x13, x14, x15, x16, x17, x18, x19, x20, x21, x22, x23, x24, x25, x26, x27, x28, x29, x30, x31, rfl, hM, hC, hc, hg, hB⟩
  have hmax := Kd.C_max hC
  cases kq with
  | zero => cases hg
  | succ kq =>
   by_cases h1 : 1 < l.length
   ·have i1 : ((1 : Int) < (l.length : Int)) = True := eq_true (by omega)
    have i2 : (1 < l.length) = True := eq_true h1
    have hg2 : (if l.length ≤ 1000000 then (mgPass kq l m).bind fun l2 => mgGo m kq l2 (wrap64 (p + 1)) else none) = some (r1, r2) := by
     have h := hg
     unfold mgGo at h
     rw [if_pos h1] at h
     exact h
    split at hg2
    case isFalse => cases hg2
    case isTrue hlen =>
    obtain ⟨l2, hp, hg3⟩ := Option.bind_eq_some_iff.1 hg2
    have HP := am hp
    have HG3 := am hg3
    have HMA := am hM
    have HC := am (And.intro hC hc)
    have HB := am hB
    clear hg hg2 hg3 hp hM hC hc hB
    go_wp2_with ((with_reducible refine gate_callee (f := 33) rfl ?_); refine goesL_ (some 15) rfl rfl Try.func33 (by kernel_rfl) rfl #[.slice A l.length c, .int .i64 (m : Int)] rfl (by (try simp only [List.map_toArray, List.map_cons, List.map_nil]); first | done | rfl) ?_; refine ((callsIn_wide (n := 3)).1 (chunk_in 3 A l.length c m (by have := HM.out; omega) _)).mono ?_; rintro e W2 ⟨rfl, rfl⟩; refine ⟨_, rfl, ?_⟩)
    simp only [Act.put, List.setIfInBounds_toArray, List.set_cons_zero, List.set_cons_succ, World.size_alloc]
    obtain ⟨ad, _, _, rfl, _⟩ := at_row HC.out.1 0 (by omega)
    obtain ⟨wl, hwl⟩ : ∃ wl, wl = ((W.alloc (.cells #[.slice none 0 0] 29)).alloc (.cells #[.slice (some ad) l.length c] 29)).alloc (.cells #[.int .i64 (m : Int)] 3) := ⟨_, rfl⟩
    have hsl : wl.heap.size = W.heap.size + 1 + 1 + 1 := by rw [hwl]; simp
    have hBl1 : Below W.heap.size W wl := by rw [hwl]; exact below_alloc (below_alloc (below_alloc (Below.refl _ _) _) _) _
    have hBl : Below w.heap.size w wl := HB.out.trans (hBl1.mono HB.out.size)
    have hko : wl.heap[W.heap.size]? = some (.cells #[.slice none 0 0] 29 (0, 0)) := by rw [hwl]; exact blk_alloc (blk_alloc (heap_alloc_new _ _) _) _
    have hkn : wl.heap[W.heap.size + 1]? = some (.cells #[.slice (some ad) l.length c] 29 (0, 0)) := by
     rw [hwl, ← World.size_alloc W (.cells #[.slice none 0 0] 29)]; exact blk_alloc (heap_alloc_new _ _) _
    have hkm : wl.heap[W.heap.size + 1 + 1]? = some (.cells #[.int .i64 (m : Int)] 3 (0, 0)) := by
     rw [hwl, ← World.size_alloc W (.cells #[.slice none 0 0] 29), ← World.size_alloc (W.alloc (.cells #[.slice none 0 0] 29)) (.cells #[.slice (some ad) l.length c] 29)]; exact heap_alloc_new _ _
    have hML := HMA.out.keep (W := wl) (fun D _ hD => (hBl1.block D (Array.getElem?_eq_some_iff.1 hD).1).trans hD)
    rw [← hwl]
    clear hwl
    have hm1 : 2 ≤ m ∧ m ≤ 1000000 := ⟨HM.out.1, HM.out.2.1⟩
    have hsz := HB.out.size
    have hCl : Kd.C (Kd.slice 44 k44) wl (some ad) l.length l := Kd.C_below HC.out.1 hBl1
    refine (wpIn_wide (n := 6)).1 ?_
    refine wpIn_rangeFunc_ownH rfl (by omega) (gf := 44) (lb := #[.pointer (some ⟨W.heap.size + 1, 0, none⟩), .pointer (some ⟨W.heap.size + 1 + 1, 0, none⟩)]) rfl trivial (enters_of Try.func44 (by kernel_rfl) rfl)
     (chunk_stops 5 (by omega) (W.heap.size + 1) (W.heap.size + 1 + 1) (some ad) ad l.length c m (by omega) hm1.2 wl (fun _ => rfl) HC.out.2 (KeepsTwo (W.heap.size + 1) (W.heap.size + 1 + 1)) (fun _ _ h => h) ((blk_cell hkn 0).trans rfl) ((blk_cell hkm 0).trans rfl) hlen) keepsTwo_t (fun W l o o' _ h ho _ => keepsTwo_b W l o o' h ho) (Below.refl _ _) (fun _ => rfl)
     (MgI kq l m W.heap.size ds wl) (fun _ _ _ => False) mgI_own (fun _ _ _ _ _ h => h.elim) ?init
     (fun x' a' W' => a' = { tmps := (List.toArray (.slice (some ad) l.length c :: .int .i64 (m : Int) :: undef :: undef :: .slice none 0 0 :: .int .i64 p :: .pointer (some ⟨W.heap.size, 0, none⟩) :: pieceV ad l.length m x'.1 :: x8 :: x9 :: .slice (some ad) l.length c :: .int .i64 (l.length : Int) :: .bool true :: .slice (some ad) l.length c :: .int .i64 (m : Int) :: .func (.func 44) #[] #[.pointer (some ⟨W.heap.size + 1, 0, none⟩), .pointer (some ⟨W.heap.size + 1 + 1, 0, none⟩)] :: pieceV ad l.length m x'.1 :: x17 :: x18 :: x19 :: x20 :: x21 :: x22 :: x23 :: x24 :: x25 :: x26 :: x27 :: x28 :: x29 :: x30 :: x31 :: [])), defers := [] }) (fun _ _ _ _ _ _ h _ _ => h) ?assign ?body ?done ?stop
    case init => exact ⟨.slice none 0 0, [], hko, Kd.S_nil _ _ _ _ _, Ch.refl _ _ _, rfl, rfl⟩
    case assign =>
     rintro l9 pre ⟨j, hj⟩ W3 K hi hK
     dsimp only [pieceV] at hK ⊢
     gi_wp2
     exact hK _ _ (KeepsFrom.refl _ _) (fun _ _ _ h => h) hi rfl
    case body =>
     rintro l9 pre ⟨j, hj⟩ a' W3 hl9 hr9 ⟨v, next, g1, g3, g4, g5, g6⟩ rfl hlp
     obtain ⟨A9, c9, rfl⟩ := Kd.S_slice g3
     have hjm := (pieces_lt (by omega)).1 hj
     have hBW3 : Below W.heap.size W W3 := below_of_ch hBl1 g4 hBl1.size (fun k hk => by subst hk; exact Nat.le_refl _)
     obtain ⟨hpl, hpC⟩ := piece_C HC.out.1 HC.out.2 hjm
     obtain ⟨y, hy⟩ := mapQ_one HP.out (List.mem_range.2 hj)
     obtain ⟨x0, t0, hxt⟩ : ∃ x0 t0, pieceL l m j = x0 :: t0 := by
      cases h : pieceL l m j with
      | nil => rw [h] at hy; cases hy
      | cons x0 t0 => exact ⟨x0, t0, rfl⟩
     rw [hxt] at hpl hpC hy
     have hpl2 : min m (l.length - j * m) = t0.length + 1 := hpl.symm
     have hnl : next.length < 1000000000000 := by
      have h1 : pieces l.length m ≤ l.length := pieces_le (by omega)
      omega
     dsimp only [pieceV]
     rw [hpl2]
     have HG := am (And.intro g1 (And.intro g3 (And.intro g4 (And.intro g5 (And.intro g6 (And.intro hpC (And.intro hy (And.intro hnl hBW3))))))))
     have HXT := am hxt
     clear g1 g3 g4 g5 g6 hpC hy hnl hBW3 hpl hpl2 hxt hjm
     gi_wp2
     refine mg_r6 (k := kq) (L := wl.heap.size) (x := x0) (t := t0) (y := y) (next := next) ?hq ?hqp HG.out.1 HG.out.2.1 HG.out.2.2.1.1.size (Kd.C_below HG.out.2.2.2.2.2.1 HG.out.2.2.2.2.2.2.2.2) (Nat.le_refl _) HG.out.2.2.2.2.2.2.1 HG.out.2.2.2.2.2.2.2.1 ?_
     case hq => rintro ⟨_, _, h⟩; exact h
     case hqp => exact fun _ _ _ _ h => h
     intro v3 W4 z0 z1 z2 z3 z4 q1 q2 q3
     exact ⟨keepsFrom_ch q3 (fun k hk => by subst hk; omega), keepsTwo_ch q3 (by omega) (by omega) trivial, v3, next ++ [y], q1, q2, HG.out.2.2.1.trans q3, by rw [List.map_append, List.map_cons, List.map_nil, mapQ_snoc, HG.out.2.2.2.1, Option.bind_some, HXT.out, HG.out.2.2.2.2.2.2.1, Option.bind_some], by rw [List.length_append, List.length_append, HG.out.2.2.2.2.1]; rfl⟩
    case done =>
     rintro D ys W3 hD hS ⟨v, next, g1, g3, g4, g5, g6⟩ hK
     obtain ⟨A9, c9, rfl⟩ := Kd.S_slice g3
     rw [hS] at g5
     have hl2 : next = l2 := by have h := HP.out; unfold mgPass at h; rw [g5] at h; exact Option.some.inj h
     subst hl2
     have hnl : next.length = pieces l.length m := by
      have e := congrArg List.length hS
      rw [List.length_map, List.length_range] at e
      rw [g6, e]
     have hBW : Below w.heap.size w W3 := below_of_ch hBl g4 hBl.size (fun k hk => by subst hk; omega)
     have hMD : MarksAt w.heap.size (D :: ds) W3 := ⟨by omega, hK, fun hm => by have := marks_lt hML hm; omega, hML.keep (fun E hE hE2 => (g4.2 E (Array.getElem?_eq_some_iff.1 hE2).1 (fun e => by have h3 := HMA.out.get hE; have h4 := blk_lt hko; rw [e, hko] at hE2; cases hE2) (.inr ⟨_, hE2, rfl⟩)).trans hE2)⟩
     have hrs := Kd.S_reads' g3
     have p1 := (blk_cell g1 0).trans rfl
     have hlt : next.length < l.length := by rw [hnl]; exact pieces_less (by omega) h1
     have HG := am (And.intro hMD (And.intro hrs (And.intro hBW hlt)))
     clear g1 g3 g4 g5 g6 hMD hrs hBW hlt hnl hK
     go_wp2_with (fail)
     exact ⟨⟨D :: ds, kq, A9, c9, next, _, ⟨⟨⟨rfl, rfl, rfl⟩, rfl⟩, rfl⟩, HG.out.1, HG.out.2.1.2.2, HG.out.2.1.2.1, HG3.out, HG.out.2.2.1⟩, HG.out.2.2.2⟩
    case stop => exact fun _ _ _ _ _ _ h _ => h.elim
   ·have i1 : ((1 : Int) < (l.length : Int)) = False := eq_false (by omega)
    have i2 : (1 < l.length) = False := eq_false h1
    unfold mgGo at hg
    rw [if_neg h1] at hg
    have HMA := am hM
    have HC := am (And.intro hC hc)
    have HB := am hB
    clear hM hC hc hB
    cases l with
    | nil =>
     rw [if_pos (by rfl)] at hg
     cases hg
     go_wp2_with (fail)
     exact ret_marksL (v := .tuple #[.slice none 0 0, .int .i64 r2]) rfl HMA.out (by simp [results, Try.f19, go_sem]) ⟨.slice none 0 0, rfl, Kd.S_nil _ _ _ _ _, below_unmark HMA.out (Nat.le_refl _) HB.out⟩
    | cons y t =>
     rw [if_neg (by simp)] at hg
     obtain ⟨ro, hro, hg⟩ := Option.bind_eq_some_iff.1 hg
     cases hg
     have ht : t = [] := by cases t with
      | nil => rfl
      | cons _ _ => simp at h1
     subst ht
     have HR := am hro
     clear hro i1 i2 h1
     go_wp2_with (fail)
     refine (one_calls kq A c y [] _ W HC.out.1 HC.out.2 HR.out).mono ?_
     rintro e W2 ⟨v2, rfl, hS2, hB2⟩
     have HS2 := am hS2
     have HB2 := am hB2
     clear hS2 hB2
     go_wp2_with (fail)
     have hM2 := HMA.out.keep (W := W2) (fun D _ hD => (HB2.out.block D (Array.getElem?_eq_some_iff.1 hD).1).trans hD)
     have hB3 := HB.out.trans (HB2.out.mono HB.out.size)
     exact ret_marksL (v := .tuple #[v2, .int .i64 r2]) rfl hM2 (by simp [results, Try.f19, go_sem]) ⟨v2, rfl, S_unmark hM2 (Kd.S_lower HS2.out HB.out.size), below_unmark hM2 (Nat.le_refl _) hB3⟩
end Go.Proofs.Ytndkimjmbpbcmaa.Q
namespace Go.Proofs.Ytndkimjmbpbcmaa.Q
open Go.RowKit Go.Proofs.YtndkimjmbpbcmaaW.PrintWords Go.Proofs.YtndkimjmbpbcmaaW.PrintLast Go.Proofs.YtndkimjmbpbcmaaW.PrintMore
set_option linter.unusedVariables false
set_option linter.unusedSimpArgs false
theorem known_two : Two.f 12 [⟨[2], 1, [], [], []⟩] [⟨[2], 1, [], [], []⟩] = some [⟨[2], 2, [], [], []⟩] := by kernel_rfl
theorem known_merge0 : merge_Merge.f 12 [] 2 = some ([], 0) := by kernel_rfl
theorem known_merge : merge_Merge.f 12 [[⟨[2], 1, [], [], []⟩], [⟨[1], 4, [], [], []⟩]] 2 = some ([⟨[1], 4, [], [], []⟩, ⟨[2], 1, [], [], []⟩], 1) := by kernel_rfl
theorem rC_of_blk {w : World} {g : Nat} {xs : List Int} (h : w.heap[g]? = some (.cells (encs (Value.int .i64) xs).toArray 3 (0, 0))) (hl : xs.length ≤ maxLen) : Kd.C (Kd.int .i64) w (some ⟨g, 0, none⟩) xs.length xs := by
 have hR : Kd.R (Kd.int .i64) 3 w 0 (fun _ => True) (.slice (some ⟨g, 0, none⟩) xs.length xs.length) xs := by
  refine Kd.R_of_own (h1 := fun _ => rfl) ⟨by rw [encs_length, Nat.mul_one], .inr ⟨g, xs.length, _, rfl, Nat.zero_le _, h, Nat.le_refl _, hl, ?_, ?_⟩⟩ (fun _ _ => trivial)
  ·rw [List.size_toArray, encs_length, Nat.mul_one]
  ·rw [Nat.mul_one, ← encs_length (enc := Value.int .i64) xs]
   exact List.take_length
 exact (Kd.R_reads' hR).2.2
theorem rows_two {w : World} {g ga gb : Nat} {x y : S44} (h : w.heap[g]? = some (.cells #[.slice (some ⟨ga, 0, none⟩) 1 1, .slice (some ⟨gb, 0, none⟩) 1 1] 31 (0, 0))) (hx : Kd.C k44 w (some ⟨ga, 0, none⟩) 1 [x]) (hy : Kd.C k44 w (some ⟨gb, 0, none⟩) 1 [y]) : Kd.C (Kd.slice 44 k44) w (some ⟨g, 0, none⟩) 2 [[x], [y]] := by
 refine ⟨rfl, by decide, fun _ => ⟨_, rfl, fun j p hj => ?_⟩⟩
 have hj2 : j < 2 := (List.getElem?_eq_some_iff.1 hj).1
 match j, hj2, hj with
 | 0, _, hj =>
  have hm : p = [x] := by simpa using hj.symm
  refine ⟨[.slice (some ⟨ga, 0, none⟩) 1 1], rfl, by rw [hm]; exact ⟨_, _, rfl, Nat.le_refl _, hx⟩, fun i u hu => ?_⟩
  have hi : i = 0 := by have := (List.getElem?_eq_some_iff.1 hu).1; simp at this; exact this
  subst hi
  rw [Addr.add_lit, cell_of_row w g _ _ _ _ h]
  exact hu
 | 1, _, hj =>
  have hm : p = [y] := by simpa using hj.symm
  refine ⟨[.slice (some ⟨gb, 0, none⟩) 1 1], rfl, by rw [hm]; exact ⟨_, _, rfl, Nat.le_refl _, hy⟩, fun i u hu => ?_⟩
  have hi : i = 0 := by have := (List.getElem?_eq_some_iff.1 hu).1; simp at this; exact this
  subst hi
  rw [Addr.add_lit, cell_of_row w g _ _ _ _ h]
  exact hu
theorem new_at {w : World} {n : Nat} (o : Obj) (h : w.heap.size = n) : (w.alloc o).heap[n]? = some o := by rw [← h]; exact heap_alloc_new w o
def hypercubelaw6_known.f : Option Bool := some true
set_option maxHeartbeats 8000000 in
set_option maxRecDepth 100000 in
theorem hypercubelaw6_known.calls (r : Bool) (w : World) (h : hypercubelaw6_known.f = some r) :
    Calls Try.prog 13 #[] w fun e w' => e = .returned (.bool r) ∧ Below w.heap.size w w' := by
  have e : true = r := Option.some.inj h
  subst e
  clear h
  have hu44 := Try.underlying44
  go_enter Try.func13, Try.ntmps13
  go_wp2_with (fail)
  -- from here by mkmknown.py
  obtain ⟨w1, e0⟩ : ∃ x, x = w.alloc (.cells #[.int .i64 2] 3) := ⟨_, rfl⟩
  have z0 : w1.heap.size = w.heap.size + 1 := by rw [e0, World.size_alloc]
  have b0 : Below w.heap.size w w1 := by rw [e0]; exact below_alloc (Below.refl _ _) _
  have k0_0 : w1.heap[w.heap.size]? = some (.cells #[.int .i64 2] 3) := by rw [e0]; exact heap_alloc_new _ _
  rw [← e0]
  clear e0
  obtain ⟨w2, e1⟩ : ∃ x, x = w1.alloc (.cells #[.int .i64 1] 3) := ⟨_, rfl⟩
  have z1 : w2.heap.size = w.heap.size + 1 + 1 := by rw [e1, World.size_alloc, z0]
  have b1 : Below w1.heap.size w1 w2 := by rw [e1]; exact below_alloc (Below.refl _ _) _
  have k1_1 : w2.heap[w.heap.size + 1]? = some (.cells #[.int .i64 1] 3) := by rw [e1, ← z0]; exact heap_alloc_new _ _
  rw [← e1]
  clear e1
  have k0_1 := blk_below k0_0 b1
  obtain ⟨w3, e2⟩ : ∃ x, x = w2.alloc (.cells #[.slice (some ⟨w.heap.size, 0, none⟩) 1 1, .int .i64 1, .slice none 0 0, .slice none 0 0, .slice none 0 0] 44) := ⟨_, rfl⟩
  have z2 : w3.heap.size = w.heap.size + 1 + 1 + 1 := by rw [e2, World.size_alloc, z1]
  have b2 : Below w2.heap.size w2 w3 := by rw [e2]; exact below_alloc (Below.refl _ _) _
  have k2_2 : w3.heap[w.heap.size + 1 + 1]? = some (.cells #[.slice (some ⟨w.heap.size, 0, none⟩) 1 1, .int .i64 1, .slice none 0 0, .slice none 0 0, .slice none 0 0] 44) := by rw [e2, ← z1]; exact heap_alloc_new _ _
  rw [← e2]
  clear e2
  have k0_2 := blk_below k0_1 b2
  have k1_2 := blk_below k1_1 b2
  obtain ⟨w4, e3⟩ : ∃ x, x = w3.alloc (.cells #[.slice (some ⟨w.heap.size + 1, 0, none⟩) 1 1, .int .i64 4, .slice none 0 0, .slice none 0 0, .slice none 0 0] 44) := ⟨_, rfl⟩
  have z3 : w4.heap.size = w.heap.size + 1 + 1 + 1 + 1 := by rw [e3, World.size_alloc, z2]
  have b3 : Below w3.heap.size w3 w4 := by rw [e3]; exact below_alloc (Below.refl _ _) _
  have k3_3 : w4.heap[w.heap.size + 1 + 1 + 1]? = some (.cells #[.slice (some ⟨w.heap.size + 1, 0, none⟩) 1 1, .int .i64 4, .slice none 0 0, .slice none 0 0, .slice none 0 0] 44) := by rw [e3, ← z2]; exact heap_alloc_new _ _
  rw [← e3]
  clear e3
  have k0_3 := blk_below k0_2 b3
  have k1_3 := blk_below k1_2 b3
  have k2_3 := blk_below k2_2 b3
  obtain ⟨w5, e4⟩ : ∃ x, x = w4.alloc (.cells #[.slice (some ⟨w.heap.size, 0, none⟩) 1 1, .int .i64 1, .slice none 0 0, .slice none 0 0, .slice none 0 0] 44) := ⟨_, rfl⟩
  have z4 : w5.heap.size = w.heap.size + 1 + 1 + 1 + 1 + 1 := by rw [e4, World.size_alloc, z3]
  have b4 : Below w4.heap.size w4 w5 := by rw [e4]; exact below_alloc (Below.refl _ _) _
  have k4_4 : w5.heap[w.heap.size + 1 + 1 + 1 + 1]? = some (.cells #[.slice (some ⟨w.heap.size, 0, none⟩) 1 1, .int .i64 1, .slice none 0 0, .slice none 0 0, .slice none 0 0] 44) := by rw [e4, ← z3]; exact heap_alloc_new _ _
  rw [← e4]
  clear e4
  have k0_4 := blk_below k0_3 b4
  have k1_4 := blk_below k1_3 b4
  have k2_4 := blk_below k2_3 b4
  have k3_4 := blk_below k3_3 b4
  obtain ⟨w6, e5⟩ : ∃ x, x = w5.alloc (.cells #[.slice (some ⟨w.heap.size + 1, 0, none⟩) 1 1, .int .i64 4, .slice none 0 0, .slice none 0 0, .slice none 0 0] 44) := ⟨_, rfl⟩
  have z5 : w6.heap.size = w.heap.size + 1 + 1 + 1 + 1 + 1 + 1 := by rw [e5, World.size_alloc, z4]
  have b5 : Below w5.heap.size w5 w6 := by rw [e5]; exact below_alloc (Below.refl _ _) _
  have k5_5 : w6.heap[w.heap.size + 1 + 1 + 1 + 1 + 1]? = some (.cells #[.slice (some ⟨w.heap.size + 1, 0, none⟩) 1 1, .int .i64 4, .slice none 0 0, .slice none 0 0, .slice none 0 0] 44) := by rw [e5, ← z4]; exact heap_alloc_new _ _
  rw [← e5]
  clear e5
  have k0_5 := blk_below k0_4 b5
  have k1_5 := blk_below k1_4 b5
  have k2_5 := blk_below k2_4 b5
  have k3_5 := blk_below k3_4 b5
  have k4_5 := blk_below k4_4 b5
  obtain ⟨w7, e6⟩ : ∃ x, x = w6.alloc (.cells #[.slice (some ⟨w.heap.size + 1 + 1 + 1 + 1, 0, none⟩) 1 1, .slice (some ⟨w.heap.size + 1 + 1 + 1 + 1 + 1, 0, none⟩) 1 1] 31) := ⟨_, rfl⟩
  have z6 : w7.heap.size = w.heap.size + 1 + 1 + 1 + 1 + 1 + 1 + 1 := by rw [e6, World.size_alloc, z5]
  have b6 : Below w6.heap.size w6 w7 := by rw [e6]; exact below_alloc (Below.refl _ _) _
  have k6_6 : w7.heap[w.heap.size + 1 + 1 + 1 + 1 + 1 + 1]? = some (.cells #[.slice (some ⟨w.heap.size + 1 + 1 + 1 + 1, 0, none⟩) 1 1, .slice (some ⟨w.heap.size + 1 + 1 + 1 + 1 + 1, 0, none⟩) 1 1] 31) := by rw [e6, ← z5]; exact heap_alloc_new _ _
  rw [← e6]
  clear e6
  have k0_6 := blk_below k0_5 b6
  have k1_6 := blk_below k1_5 b6
  have k2_6 := blk_below k2_5 b6
  have k3_6 := blk_below k3_5 b6
  have k4_6 := blk_below k4_5 b6
  have k5_6 := blk_below k5_5 b6
  have B6 : Below w.heap.size w w7 := b0.trans ((b1.trans ((b2.trans ((b3.trans ((b4.trans ((b5.trans (b6.mono b5.size)).mono b4.size)).mono b3.size)).mono b2.size)).mono b1.size)).mono b0.size)
  have hkk : ∀ (W : World) (g1 : Nat) (x y : Int), W.heap[g1]? = some (.cells #[.int .i64 x] 3 (0, 0)) → k44.K W (⟨[x], y, [], [], []⟩ : S44) [.slice (some ⟨g1, 0, none⟩) 1 1, .int .i64 y, .slice none 0 0, .slice none 0 0, .slice none 0 0] := fun W g1 x y h1 =>
    k44_mk W (⟨[x], y, [], [], []⟩ : S44) (c0 := 1) (c2 := 0) (c3 := 0) (c4 := 0) (Nat.le_refl 1) (rC_of_blk (xs := [x]) h1 (by show 1 ≤ maxLen; decide)) (Nat.le_refl 0) (Kd.C_nil _ _) (Nat.le_refl 0) (Kd.C_nil _ _) (Nat.le_refl 0) (Kd.C_nil _ _)
  have hca := C_one k4_6 (hkk w7 _ 2 1 k0_6) rfl
  have hcb := C_one k5_6 (hkk w7 _ 1 4 k1_6) rfl
  have hcc : Kd.C (Kd.slice 44 k44) w7 (some ⟨w.heap.size + 1 + 1 + 1 + 1 + 1 + 1, 0, none⟩) 2 [[⟨[2], 1, [], [], []⟩], [⟨[1], 4, [], [], []⟩]] := rows_two k6_6 hca hcb
  have HC2 := am k2_6
  have HB := am B6
  have HK0 := am k0_6
  have HCC := am hcc
  have HZ := am z6
  clear b0 b1 b2 b3 b4 b5 b6 z0 z1 z2 z3 z4 z5 z6 B6 hca hcb hcc
  clear k0_0 k0_1 k1_1 k0_2 k1_2 k2_2 k0_3 k1_3 k2_3 k3_3 k0_4 k1_4 k2_4 k3_4 k4_4 k0_5 k1_5 k2_5 k3_5 k4_5 k5_5 k0_6 k1_6 k2_6 k3_6 k4_6 k5_6 k6_6
  refine (merge_Merge.calls 12 (some ⟨w.heap.size + 1 + 1 + 1 + 1 + 1 + 1, 0, none⟩) 2 [[⟨[2], 1, [], [], []⟩], [⟨[1], 4, [], [], []⟩]] 2 [⟨[1], 4, [], [], []⟩, ⟨[2], 1, [], [], []⟩] 1 w7 HCC.out (Nat.le_refl _) known_merge).mono ?_
  rintro e w8 ⟨v1, rfl, hS1, hb8⟩
  have HS1 := am hS1
  have HB8 := am hb8
  clear hS1 hb8
  go_wp2_with (fail)
  refine (merge_Merge.calls 12 none 0 [] 2 [] 0 w8 (Kd.C_nil _ _) (Nat.le_refl _) known_merge0).mono ?_
  rintro e w9 ⟨v2, rfl, hS2, hb9⟩
  have HS9 := Kd.S_below HS1.out hb9
  have hB8 := HB8.out
  have hk9 := blk_below (blk_below HC2.out hB8) hb9
  have hk0 := blk_below (blk_below HK0.out hB8) hb9
  have hb79 := below_step hB8 hb9
  obtain ⟨g, cp, rfl, hg0, hg1, _⟩ := Kd.S_form HS9 (by decide)
  obtain ⟨ad, A0, c0, A2, c2, A3, c3, A4, c4, e255, hx0, hx1, -⟩ := at_T44 (Kd.S_reads' HS9).2.2 0 (by decide) (by decide)
  injection e255 with e255
  subst e255
  have x1 : w9.cell? ⟨g, 1, none⟩ = some (.int .i64 4) := hx1
  have hbw : Below w.heap.size w w9 := below_step HB.out hb79
  have y20 : w9.cell? ⟨w.heap.size + 1 + 1, 0, none⟩ = some (.slice (some ⟨w.heap.size, 0, none⟩) 1 1) := (blk_cell hk9 0).trans rfl
  have y21 : w9.cell? ⟨w.heap.size + 1 + 1, 1, none⟩ = some (.int .i64 1) := (blk_cell hk9 1).trans rfl
  have y22 : w9.cell? ⟨w.heap.size + 1 + 1, 2, none⟩ = some (.slice none 0 0) := (blk_cell hk9 2).trans rfl
  have y23 : w9.cell? ⟨w.heap.size + 1 + 1, 3, none⟩ = some (.slice none 0 0) := (blk_cell hk9 3).trans rfl
  have y24 : w9.cell? ⟨w.heap.size + 1 + 1, 4, none⟩ = some (.slice none 0 0) := (blk_cell hk9 4).trans rfl
  have z20 : (w9.alloc (.cells #[.slice (some ⟨w.heap.size, 0, none⟩) 1 1, .int .i64 1, .slice none 0 0, .slice none 0 0, .slice none 0 0] 44)).cell? ⟨w.heap.size + 1 + 1, 0, none⟩ = some (.slice (some ⟨w.heap.size, 0, none⟩) 1 1) := (blk_cell (blk_alloc hk9 _) 0).trans rfl
  have z21 : (w9.alloc (.cells #[.slice (some ⟨w.heap.size, 0, none⟩) 1 1, .int .i64 1, .slice none 0 0, .slice none 0 0, .slice none 0 0] 44)).cell? ⟨w.heap.size + 1 + 1, 1, none⟩ = some (.int .i64 1) := (blk_cell (blk_alloc hk9 _) 1).trans rfl
  have z22 : (w9.alloc (.cells #[.slice (some ⟨w.heap.size, 0, none⟩) 1 1, .int .i64 1, .slice none 0 0, .slice none 0 0, .slice none 0 0] 44)).cell? ⟨w.heap.size + 1 + 1, 2, none⟩ = some (.slice none 0 0) := (blk_cell (blk_alloc hk9 _) 2).trans rfl
  have z23 : (w9.alloc (.cells #[.slice (some ⟨w.heap.size, 0, none⟩) 1 1, .int .i64 1, .slice none 0 0, .slice none 0 0, .slice none 0 0] 44)).cell? ⟨w.heap.size + 1 + 1, 3, none⟩ = some (.slice none 0 0) := (blk_cell (blk_alloc hk9 _) 3).trans rfl
  have z24 : (w9.alloc (.cells #[.slice (some ⟨w.heap.size, 0, none⟩) 1 1, .int .i64 1, .slice none 0 0, .slice none 0 0, .slice none 0 0] 44)).cell? ⟨w.heap.size + 1 + 1, 4, none⟩ = some (.slice none 0 0) := (blk_cell (blk_alloc hk9 _) 4).trans rfl
  have HK9 := am hk0
  have HBW := am hbw
  clear hS2 hx0 hx1 HS9 hB8 hk9 hk0 hb79 hbw hg0 hg1 hb9 HS1 HB8 HB HC2 HK0 HCC HZ
  go_wp2_with (first
  | ((with_reducible refine gate_callee (f := 23) rfl ?_)
     (try (refine gate_guard (by rfl) ?_; dsimp only))
     refine goesL_ (some 47) rfl rfl Try.func23 (by kernel_rfl) rfl #[.slice (some ⟨w9.heap.size, 0, none⟩) 1 1, .slice (some ⟨w9.heap.size + 1, 0, none⟩) 1 1] rfl (by (try simp only [List.map_toArray, List.map_cons, List.map_nil]); first | done | rfl) ?_
     refine name_calls ?_
     intro w10 hw10
     have b0 : w10.heap[w9.heap.size]? = some (.cells #[.slice (some ⟨w.heap.size, 0, none⟩) 1 1, .int .i64 1, .slice none 0 0, .slice none 0 0, .slice none 0 0] 44 (0, 0)) := by rw [hw10]; exact blk_alloc (new_at _ (by simp only [World.size_alloc])) _
     have b1 : w10.heap[w9.heap.size + 1]? = some (.cells #[.slice (some ⟨w.heap.size, 0, none⟩) 1 1, .int .i64 1, .slice none 0 0, .slice none 0 0, .slice none 0 0] 44 (0, 0)) := by rw [hw10]; exact new_at _ (by simp only [World.size_alloc])
     have b2 : w10.heap[w.heap.size]? = some (.cells #[.int .i64 2] 3 (0, 0)) := by rw [hw10]; exact blk_alloc (blk_alloc HK9.out _) _
     have n0_ : Aside0 (Below w.heap.size w w10) := am (by rw [hw10]; exact below_alloc (below_alloc HBW.out _) _)
     clear HBW hw10
     have hc0 := C_one b0 (hkk w10 _ 2 1 b2) rfl
     have hc1 := C_one b1 (hkk w10 _ 2 1 b2) rfl
     refine (Two_calls 12 (some ⟨w9.heap.size, 0, none⟩) 1 [⟨[2], 1, [], [], []⟩] (some ⟨w9.heap.size + 1, 0, none⟩) 1 [⟨[2], 1, [], [], []⟩] _ w10 hc0 (Nat.le_refl _) hc1 (Nat.le_refl _) known_two).mono ?_
     rintro e w11 ⟨v3, rfl, hS3, hb11⟩
     refine ⟨_, rfl, ?_⟩
     obtain ⟨A5, c5, rfl⟩ := Kd.S_slice hS3
     have HB := am (below_step n0_.out hb11)
     clear b0 b1 b2 hc0 hc1 hS3 hb11 n0_))
  go_ret
  exact ⟨rfl, HB.out⟩
end Go.Proofs.Ytndkimjmbpbcmaa.Q
namespace Go.Proofs.Ytndkimjmbpbcmaa.Q
open Go.RowKit Go.Proofs.YtndkimjmbpbcmaaW.PrintWords Go.Proofs.YtndkimjmbpbcmaaW.PrintLast Go.Proofs.YtndkimjmbpbcmaaW.PrintMore
attribute [local go_sem] max2_int min2_int max_two min_two max_three min_three max_four min_four
set_option linter.unusedVariables false
set_option linter.unusedSimpArgs false
def hypercuberef2_Same.l0 : Nat → List (S44) → List (S44) → Int → Option (Bool)
 | 0, _, _, _ => none
 | k + 1, x0, x1, x5 => if x5 < (x0.length : Int) then (if 0 ≤ x5 then (if x5 < (x1.length : Int) then ((hypercuberef2_Equal.f k ((rd_T44 x0 x5).f0) ((rd_T44 x0 x5).f1) ((rd_T44 x0 x5).f2) ((rd_T44 x0 x5).f3) ((rd_T44 x0 x5).f4) ((rd_T44 x1 x5).f0) ((rd_T44 x1 x5).f1) ((rd_T44 x1 x5).f2) ((rd_T44 x1 x5).f3) ((rd_T44 x1 x5).f4)).bind fun t459 => (if t459 = true then (hypercuberef2_Same.l0 k x0 x1 (wrap64 (x5 + 1))) else (some false))) else (none)) else (none)) else (some true)
def hypercuberef2_Same.f (k : Nat) (l0 : List (S44)) (l1 : List (S44)) : Option (Bool) := if (l0.length : Int) = (l1.length : Int) then (hypercuberef2_Same.l0 k l0 l1 0) else (some false)
def hypercuberef2_Same.T6 : Bool × List (List Nat × List Nat) := (true, [([], []), ([], []), ([0, 1], [0, 1]), ([2], [2]), ([], []), ([], []), ([4, 5], [4, 5]), ([6], [6]), ([3, 7], [3, 7]), ([8], [8])])
def hypercuberef2_Same.B6 : List Nat := [0, 0, 3, 7, 0, 0, 48, 112, 255, 511]
theorem hypercuberef2_Same.tab6 : rtab .any (opsOf Try.f21 6) = hypercuberef2_Same.T6 := by kernel_rfl
theorem hypercuberef2_Same.bits6 : waitsOk hypercuberef2_Same.T6.2 hypercuberef2_Same.B6 = true := by kernel_rfl
set_option maxHeartbeats 8000000 in
set_option maxRecDepth 100000 in
theorem hypercuberef2_Same.calls (k : Nat) (A0 : Option Addr) (c0 : Nat) (l0 : List (S44)) (A1 : Option Addr) (c1 : Nat) (l1 : List (S44)) (r : Bool) (w : World) (hr0 : Kd.C k44 w A0 l0.length l0) (hc0 : l0.length ≤ c0) (hr1 : Kd.C k44 w A1 l1.length l1) (hc1 : l1.length ≤ c1) (h : hypercuberef2_Same.f k l0 l1 = some r) :
  Calls Try.prog 21 #[.slice A0 l0.length c0, .slice A1 l1.length c1] w fun e w' => e = .returned (.bool r) ∧ Below w.heap.size w w' := by
 have hu44 := Try.underlying44
 have HR0 := am hr0
 have HC0 := am hc0
 clear hr0 hc0
 have HR1 := am hr1
 have HC1 := am hc1
 clear hr1 hc1
 have HB := am (Below.refl w.heap.size w)
 have H : (if (l0.length : Int) = (l1.length : Int) then (hypercuberef2_Same.l0 k l0 l1 0) else (some false)) = some r := h
 clear h
 by_cases c3 : (l0.length : Int) = (l1.length : Int)
 ·rw [if_pos c3] at H
  have c3b0 : ((l0.length : Int) == (l1.length : Int)) = true := beq_iff_eq.mpr c3
  have c3b1 : ((l0.length : Int) != (l1.length : Int)) = false := bne_eq_false_iff_eq.mpr c3
  have c3b2 : (l0.length == l1.length) = true := by first | simpa using c3 | (simp at c3 ⊢; omega)
  clear c3
  have H' := am H
  clear H
  go_enter Try.func21, Try.ntmps21
  go_wp2
  go_loopg [5] k (fun kq v5 w' => ∃ (x5_1 : Int), v5 = .int .i64 x5_1 ∧ Aside0 (hypercuberef2_Same.l0 kq l0 l1 x5_1 = some r) ∧ Aside0 (kq ≤ k) ∧ Aside0 (Below w.heap.size w w'))
  case atStart => exact ⟨(0), (by first | rfl | (simp; done) | (simp [*]; done)), H', ⟨Nat.le_refl _⟩, ⟨by repeat (first | (with_reducible first | exact HB.out | apply below_alloc | apply pw_below_drewN | apply below_drew1) | exact HB.out)⟩⟩
  case round =>
   clear H'
   try clear c1
   try clear c2
   try clear p2
   try clear c3
   try clear c3b0
   try clear c3b1
   try clear c3b2
   obtain ⟨x5_1, rfl, HA, HK1, HB⟩ := hrel
   cases gk with
   | zero => exact absurd HA.out (by simp [hypercuberef2_Same.l0])
   | succ k1 =>
    have H := HA.out
    clear HA
    simp only [hypercuberef2_Same.l0] at H
    by_cases c4 : x5_1 < (l0.length : Int)
    ·rw [if_pos c4] at H
     have c4b0 : decide (x5_1 < (l0.length : Int)) = true := decide_eq_true c4
     clear c4
     by_cases c5 : 0 ≤ x5_1
     ·rw [if_pos c5] at H
      have c5b0 : decide (0 ≤ x5_1) = true := decide_eq_true c5
      clear c5
      by_cases c6 : x5_1 < (l1.length : Int)
      ·rw [if_pos c6] at H
       have c6b0 : decide (x5_1 < (l1.length : Int)) = true := decide_eq_true c6
       clear c6
       replace H := Option.bind_eq_some_iff.mp H
       obtain ⟨t459, A70, H⟩ := H
       replace H : (if t459 = true then (hypercuberef2_Same.l0 k1 l0 l1 (wrap64 (x5_1 + 1))) else (some false)) = some r := H
       have A7 := am A70
       clear A70
       by_cases c8 : t459 = true
       ·subst c8
        have H1 : (hypercuberef2_Same.l0 k1 l0 l1 (wrap64 (x5_1 + 1))) = some r := by rw [if_pos rfl] at H; exact H
        clear H
        have H := H1
        clear H1
        have H' := am H
        clear H
        try go_wp2
        have n0_ := am (below_drew1 HB.out)
        clear HB
        revert n0_
        intro HB
        have p457 : 0 ≤ (x5_1 : Int) := of_decide_eq_true (by first | (with_reducible assumption) | assumption)
        have q457 : x5_1 < (l0.length : Int) := of_decide_eq_true (by first | (with_reducible assumption) | assumption)
        obtain ⟨ad457, A457_0, c457_0, A457_2, c457_2, A457_3, c457_3, A457_4, c457_4, e457, hx457_0, hx457_1, hx457_2, hx457_3, hx457_4, hl457_0, hi457_0, hl457_2, hi457_2, hl457_3, hi457_3, hl457_4, hi457_4⟩ := at_T44 HR0.out x5_1 p457 q457
        have hw457_4 := hx457_4
        have hw457_3 := hx457_3
        have hw457_2 := hx457_2
        have hw457_1 := hx457_1
        have hw457_0 := hx457_0
        cases e457
        replace hx457_0 := (HB.out.cell (World.block_lt_of_cell? w _ hx457_0)).trans hx457_0
        replace hx457_1 := (HB.out.cell (World.block_lt_of_cell? w _ hx457_1)).trans hx457_1
        replace hx457_2 := (HB.out.cell (World.block_lt_of_cell? w _ hx457_2)).trans hx457_2
        replace hx457_3 := (HB.out.cell (World.block_lt_of_cell? w _ hx457_3)).trans hx457_3
        replace hx457_4 := (HB.out.cell (World.block_lt_of_cell? w _ hx457_4)).trans hx457_4
        have HR457_0 := am hi457_0
        have HC457_0 := am hl457_0
        clear hi457_0 hl457_0
        have HR457_2 := am hi457_2
        have HC457_2 := am hl457_2
        clear hi457_2 hl457_2
        have HR457_3 := am hi457_3
        have HC457_3 := am hl457_3
        clear hi457_3 hl457_3
        have HR457_4 := am hi457_4
        have HC457_4 := am hl457_4
        clear hi457_4 hl457_4
        replace p457 := eq_true p457
        replace q457 := eq_true q457
        have p458 : 0 ≤ (x5_1 : Int) := of_decide_eq_true (by first | (with_reducible assumption) | assumption)
        have q458 : x5_1 < (l1.length : Int) := of_decide_eq_true (by first | (with_reducible assumption) | assumption)
        obtain ⟨ad458, A458_0, c458_0, A458_2, c458_2, A458_3, c458_3, A458_4, c458_4, e458, hx458_0, hx458_1, hx458_2, hx458_3, hx458_4, hl458_0, hi458_0, hl458_2, hi458_2, hl458_3, hi458_3, hl458_4, hi458_4⟩ := at_T44 HR1.out x5_1 p458 q458
        have hw458_4 := hx458_4
        have hw458_3 := hx458_3
        have hw458_2 := hx458_2
        have hw458_1 := hx458_1
        have hw458_0 := hx458_0
        cases e458
        replace hx458_0 := (HB.out.cell (World.block_lt_of_cell? w _ hx458_0)).trans hx458_0
        replace hx458_1 := (HB.out.cell (World.block_lt_of_cell? w _ hx458_1)).trans hx458_1
        replace hx458_2 := (HB.out.cell (World.block_lt_of_cell? w _ hx458_2)).trans hx458_2
        replace hx458_3 := (HB.out.cell (World.block_lt_of_cell? w _ hx458_3)).trans hx458_3
        replace hx458_4 := (HB.out.cell (World.block_lt_of_cell? w _ hx458_4)).trans hx458_4
        have HR458_0 := am hi458_0
        have HC458_0 := am hl458_0
        clear hi458_0 hl458_0
        have HR458_2 := am hi458_2
        have HC458_2 := am hl458_2
        clear hi458_2 hl458_2
        have HR458_3 := am hi458_3
        have HC458_3 := am hl458_3
        clear hi458_3 hl458_3
        have HR458_4 := am hi458_4
        have HC458_4 := am hl458_4
        clear hi458_4 hl458_4
        replace p458 := eq_true p458
        replace q458 := eq_true q458
        refine start_ (n := 10) (S := fun w' => w'.cell? (ad457.add ((x5_1).toNat * 5)) = some (.slice A457_0 ((rd_T44 l0 x5_1).f0).length c457_0) ∧ w'.cell? ⟨(ad457.add ((x5_1).toNat * 5)).block, (ad457.add ((x5_1).toNat * 5)).off + 1, none⟩ = some (.int .i64 ((rd_T44 l0 x5_1).f1)) ∧ w'.cell? ⟨(ad457.add ((x5_1).toNat * 5)).block, (ad457.add ((x5_1).toNat * 5)).off + 2, none⟩ = some (.slice A457_2 ((rd_T44 l0 x5_1).f2).length c457_2) ∧ w'.cell? ⟨(ad457.add ((x5_1).toNat * 5)).block, (ad457.add ((x5_1).toNat * 5)).off + 3, none⟩ = some (.slice A457_3 ((rd_T44 l0 x5_1).f3).length c457_3) ∧ w'.cell? ⟨(ad457.add ((x5_1).toNat * 5)).block, (ad457.add ((x5_1).toNat * 5)).off + 4, none⟩ = some (.slice A457_4 ((rd_T44 l0 x5_1).f4).length c457_4) ∧ w'.cell? (ad458.add ((x5_1).toNat * 5)) = some (.slice A458_0 ((rd_T44 l1 x5_1).f0).length c458_0) ∧ w'.cell? ⟨(ad458.add ((x5_1).toNat * 5)).block, (ad458.add ((x5_1).toNat * 5)).off + 1, none⟩ = some (.int .i64 ((rd_T44 l1 x5_1).f1)) ∧ w'.cell? ⟨(ad458.add ((x5_1).toNat * 5)).block, (ad458.add ((x5_1).toNat * 5)).off + 2, none⟩ = some (.slice A458_2 ((rd_T44 l1 x5_1).f2).length c458_2) ∧ w'.cell? ⟨(ad458.add ((x5_1).toNat * 5)).block, (ad458.add ((x5_1).toNat * 5)).off + 3, none⟩ = some (.slice A458_3 ((rd_T44 l1 x5_1).f3).length c458_3) ∧ w'.cell? ⟨(ad458.add ((x5_1).toNat * 5)).block, (ad458.add ((x5_1).toNat * 5)).off + 4, none⟩ = some (.slice A458_4 ((rd_T44 l1 x5_1).f4).length c458_4)) (ds := []) (bb 10 0) (by kernel_rfl) rfl rfl ⟨((HB.out.cell (World.block_lt_of_cell? w _ hw457_0)).trans hw457_0), ((HB.out.cell (World.block_lt_of_cell? w _ hw457_1)).trans hw457_1), ((HB.out.cell (World.block_lt_of_cell? w _ hw457_2)).trans hw457_2), ((HB.out.cell (World.block_lt_of_cell? w _ hw457_3)).trans hw457_3), ((HB.out.cell (World.block_lt_of_cell? w _ hw457_4)).trans hw457_4), ((HB.out.cell (World.block_lt_of_cell? w _ hw458_0)).trans hw458_0), ((HB.out.cell (World.block_lt_of_cell? w _ hw458_1)).trans hw458_1), ((HB.out.cell (World.block_lt_of_cell? w _ hw458_2)).trans hw458_2), ((HB.out.cell (World.block_lt_of_cell? w _ hw458_3)).trans hw458_3), ((HB.out.cell (World.block_lt_of_cell? w _ hw458_4)).trans hw458_4)⟩ (fun hHeld => ?_); refine with_tabW hypercuberef2_Same.tab6 hypercuberef2_Same.bits6 (fun HT_ HW_ => ?_)
        generalize wr.drew = w9 at HB HR457_0 HR457_2 HR457_3 HR457_4 HR458_0 HR458_2 HR458_3 HR458_4 hx457_0 hx457_1 hx457_2 hx457_3 hx457_4 hx458_0 hx458_1 hx458_2 hx458_3 hx458_4 hHeld ⊢
        refine pu (i := 0) (N := some 17) (bb 10 1) HT_ ?_
        refine pu (i := 1) (N := some 18) (bb 10 3) HT_ ?_
        refine pu (i := 2) (N := some 19) (bb 10 7) HT_ ?_
        refine pu (i := 4) (N := some 21) (bb 10 23) HT_ ?_
        refine pu (i := 5) (N := some 22) (bb 10 55) HT_ ?_
        refine pu (i := 6) (N := some 23) (bb 10 119) HT_ ?_
        refine tk (i := 3) (N := some 20) (bb 10 127) HT_ HW_ hHeld ?_
        refine tk (i := 7) (N := some 24) (bb 10 255) HT_ HW_ hHeld ?_
        refine one_ (i := 8) (N := some 25) (bb 10 511) rfl rfl (one_of HT_.out (by kernel_rfl)) (by decide) (fun K hK => ?_)
        refine goes_ Try.func35 (by kernel_rfl) rfl #[.agg #[.slice A457_0 ((rd_T44 l0 x5_1).f0).length c457_0, .int .i64 ((rd_T44 l0 x5_1).f1), .slice A457_2 ((rd_T44 l0 x5_1).f2).length c457_2, .slice A457_3 ((rd_T44 l0 x5_1).f3).length c457_3, .slice A457_4 ((rd_T44 l0 x5_1).f4).length c457_4], .agg #[.slice A458_0 ((rd_T44 l1 x5_1).f0).length c458_0, .int .i64 ((rd_T44 l1 x5_1).f1), .slice A458_2 ((rd_T44 l1 x5_1).f2).length c458_2, .slice A458_3 ((rd_T44 l1 x5_1).f3).length c458_3, .slice A458_4 ((rd_T44 l1 x5_1).f4).length c458_4]] (by rfl) rfl rfl (by (try simp only [List.map_toArray, List.map_cons, List.map_nil]); first | done | rfl | (simp only [List.length_drop, List.length_take]; rfl)) ?_
        with_reducible refine (hypercuberef2_Equal.calls k1 _ _ ((rd_T44 l0 x5_1).f0) ((rd_T44 l0 x5_1).f1) _ _ ((rd_T44 l0 x5_1).f2) _ _ ((rd_T44 l0 x5_1).f3) _ _ ((rd_T44 l0 x5_1).f4) _ _ ((rd_T44 l1 x5_1).f0) ((rd_T44 l1 x5_1).f1) _ _ ((rd_T44 l1 x5_1).f2) _ _ ((rd_T44 l1 x5_1).f3) _ _ ((rd_T44 l1 x5_1).f4) true _ ?side1 ?side2 ?side3 ?side4 ?side5 ?side6 ?side7 ?side8 ?side9 ?side10 ?side11 ?side12 ?side13 ?side14 ?side15 ?side16 A7.out).mono ?_
        (case side1 => exact Kd.Cw HR457_0.out HB.out)
        (case side2 => exact HC457_0.out)
        (case side3 => exact Kd.Cw HR457_2.out HB.out)
        (case side4 => exact HC457_2.out)
        (case side5 => exact Kd.Cw HR457_3.out HB.out)
        (case side6 => exact HC457_3.out)
        (case side7 => exact Kd.Cw HR457_4.out HB.out)
        (case side8 => exact HC457_4.out)
        (case side9 => exact Kd.Cw HR458_0.out HB.out)
        (case side10 => exact HC458_0.out)
        (case side11 => exact Kd.Cw HR458_2.out HB.out)
        (case side12 => exact HC458_2.out)
        (case side13 => exact Kd.Cw HR458_3.out HB.out)
        (case side14 => exact HC458_3.out)
        (case side15 => exact Kd.Cw HR458_4.out HB.out)
        (case side16 => exact HC458_4.out)
        rintro e w10 ⟨rfl, hb⟩
        refine ⟨_, rfl, ?_⟩
        have n0_ := am (below_step (wmv HB.out) hb)
        clear HB
        revert n0_
        intro HB
        (try clear hb)
        (try clear hb2)
        (try clear hk)
        (try clear hi)
        refine hK.out _ _ ⟨((HB.out.cell (World.block_lt_of_cell? w _ hw457_0)).trans hw457_0), ((HB.out.cell (World.block_lt_of_cell? w _ hw457_1)).trans hw457_1), ((HB.out.cell (World.block_lt_of_cell? w _ hw457_2)).trans hw457_2), ((HB.out.cell (World.block_lt_of_cell? w _ hw457_3)).trans hw457_3), ((HB.out.cell (World.block_lt_of_cell? w _ hw457_4)).trans hw457_4), ((HB.out.cell (World.block_lt_of_cell? w _ hw458_0)).trans hw458_0), ((HB.out.cell (World.block_lt_of_cell? w _ hw458_1)).trans hw458_1), ((HB.out.cell (World.block_lt_of_cell? w _ hw458_2)).trans hw458_2), ((HB.out.cell (World.block_lt_of_cell? w _ hw458_3)).trans hw458_3), ((HB.out.cell (World.block_lt_of_cell? w _ hw458_4)).trans hw458_4)⟩ (fun hHeld => ?_)
        clear hK K
        refine nm ?_
        refine pu (i := 9) (N := some 26) (bb 10 1023) HT_ ?_
        refine done_ (done_of HT_.out (by kernel_rfl)) ?_
        try go_wp2
        go_roundg k1
        case measure => have := HK1.out; omega
        case rel => exact ⟨(wrap64 (x5_1 + 1)), (by first | rfl | (simp; done) | (simp [*]; done)), H', ⟨by have := HK1.out; omega⟩, ⟨by repeat (first | (with_reducible first | exact HB.out | apply below_alloc | apply pw_below_drewN | apply below_drew1) | exact HB.out)⟩⟩
       ·replace c8 := Bool.eq_false_iff.mpr c8
        subst c8
        have H1 : (some false) = some r := by rw [if_neg (show ¬ (false = true) by decide)] at H; exact H
        clear H
        have H := H1
        clear H1
        obtain rfl := Option.some.inj H
        try go_wp2
        have n0_ := am (below_drew1 HB.out)
        clear HB
        revert n0_
        intro HB
        have p457 : 0 ≤ (x5_1 : Int) := of_decide_eq_true (by first | (with_reducible assumption) | assumption)
        have q457 : x5_1 < (l0.length : Int) := of_decide_eq_true (by first | (with_reducible assumption) | assumption)
        obtain ⟨ad457, A457_0, c457_0, A457_2, c457_2, A457_3, c457_3, A457_4, c457_4, e457, hx457_0, hx457_1, hx457_2, hx457_3, hx457_4, hl457_0, hi457_0, hl457_2, hi457_2, hl457_3, hi457_3, hl457_4, hi457_4⟩ := at_T44 HR0.out x5_1 p457 q457
        have hw457_4 := hx457_4
        have hw457_3 := hx457_3
        have hw457_2 := hx457_2
        have hw457_1 := hx457_1
        have hw457_0 := hx457_0
        cases e457
        replace hx457_0 := (HB.out.cell (World.block_lt_of_cell? w _ hx457_0)).trans hx457_0
        replace hx457_1 := (HB.out.cell (World.block_lt_of_cell? w _ hx457_1)).trans hx457_1
        replace hx457_2 := (HB.out.cell (World.block_lt_of_cell? w _ hx457_2)).trans hx457_2
        replace hx457_3 := (HB.out.cell (World.block_lt_of_cell? w _ hx457_3)).trans hx457_3
        replace hx457_4 := (HB.out.cell (World.block_lt_of_cell? w _ hx457_4)).trans hx457_4
        have HR457_0 := am hi457_0
        have HC457_0 := am hl457_0
        clear hi457_0 hl457_0
        have HR457_2 := am hi457_2
        have HC457_2 := am hl457_2
        clear hi457_2 hl457_2
        have HR457_3 := am hi457_3
        have HC457_3 := am hl457_3
        clear hi457_3 hl457_3
        have HR457_4 := am hi457_4
        have HC457_4 := am hl457_4
        clear hi457_4 hl457_4
        replace p457 := eq_true p457
        replace q457 := eq_true q457
        have p458 : 0 ≤ (x5_1 : Int) := of_decide_eq_true (by first | (with_reducible assumption) | assumption)
        have q458 : x5_1 < (l1.length : Int) := of_decide_eq_true (by first | (with_reducible assumption) | assumption)
        obtain ⟨ad458, A458_0, c458_0, A458_2, c458_2, A458_3, c458_3, A458_4, c458_4, e458, hx458_0, hx458_1, hx458_2, hx458_3, hx458_4, hl458_0, hi458_0, hl458_2, hi458_2, hl458_3, hi458_3, hl458_4, hi458_4⟩ := at_T44 HR1.out x5_1 p458 q458
        have hw458_4 := hx458_4
        have hw458_3 := hx458_3
        have hw458_2 := hx458_2
        have hw458_1 := hx458_1
        have hw458_0 := hx458_0
        cases e458
        replace hx458_0 := (HB.out.cell (World.block_lt_of_cell? w _ hx458_0)).trans hx458_0
        replace hx458_1 := (HB.out.cell (World.block_lt_of_cell? w _ hx458_1)).trans hx458_1
        replace hx458_2 := (HB.out.cell (World.block_lt_of_cell? w _ hx458_2)).trans hx458_2
        replace hx458_3 := (HB.out.cell (World.block_lt_of_cell? w _ hx458_3)).trans hx458_3
        replace hx458_4 := (HB.out.cell (World.block_lt_of_cell? w _ hx458_4)).trans hx458_4
        have HR458_0 := am hi458_0
        have HC458_0 := am hl458_0
        clear hi458_0 hl458_0
        have HR458_2 := am hi458_2
        have HC458_2 := am hl458_2
        clear hi458_2 hl458_2
        have HR458_3 := am hi458_3
        have HC458_3 := am hl458_3
        clear hi458_3 hl458_3
        have HR458_4 := am hi458_4
        have HC458_4 := am hl458_4
        clear hi458_4 hl458_4
        replace p458 := eq_true p458
        replace q458 := eq_true q458
        refine start_ (n := 10) (S := fun w' => w'.cell? (ad457.add ((x5_1).toNat * 5)) = some (.slice A457_0 ((rd_T44 l0 x5_1).f0).length c457_0) ∧ w'.cell? ⟨(ad457.add ((x5_1).toNat * 5)).block, (ad457.add ((x5_1).toNat * 5)).off + 1, none⟩ = some (.int .i64 ((rd_T44 l0 x5_1).f1)) ∧ w'.cell? ⟨(ad457.add ((x5_1).toNat * 5)).block, (ad457.add ((x5_1).toNat * 5)).off + 2, none⟩ = some (.slice A457_2 ((rd_T44 l0 x5_1).f2).length c457_2) ∧ w'.cell? ⟨(ad457.add ((x5_1).toNat * 5)).block, (ad457.add ((x5_1).toNat * 5)).off + 3, none⟩ = some (.slice A457_3 ((rd_T44 l0 x5_1).f3).length c457_3) ∧ w'.cell? ⟨(ad457.add ((x5_1).toNat * 5)).block, (ad457.add ((x5_1).toNat * 5)).off + 4, none⟩ = some (.slice A457_4 ((rd_T44 l0 x5_1).f4).length c457_4) ∧ w'.cell? (ad458.add ((x5_1).toNat * 5)) = some (.slice A458_0 ((rd_T44 l1 x5_1).f0).length c458_0) ∧ w'.cell? ⟨(ad458.add ((x5_1).toNat * 5)).block, (ad458.add ((x5_1).toNat * 5)).off + 1, none⟩ = some (.int .i64 ((rd_T44 l1 x5_1).f1)) ∧ w'.cell? ⟨(ad458.add ((x5_1).toNat * 5)).block, (ad458.add ((x5_1).toNat * 5)).off + 2, none⟩ = some (.slice A458_2 ((rd_T44 l1 x5_1).f2).length c458_2) ∧ w'.cell? ⟨(ad458.add ((x5_1).toNat * 5)).block, (ad458.add ((x5_1).toNat * 5)).off + 3, none⟩ = some (.slice A458_3 ((rd_T44 l1 x5_1).f3).length c458_3) ∧ w'.cell? ⟨(ad458.add ((x5_1).toNat * 5)).block, (ad458.add ((x5_1).toNat * 5)).off + 4, none⟩ = some (.slice A458_4 ((rd_T44 l1 x5_1).f4).length c458_4)) (ds := []) (bb 10 0) (by kernel_rfl) rfl rfl ⟨((HB.out.cell (World.block_lt_of_cell? w _ hw457_0)).trans hw457_0), ((HB.out.cell (World.block_lt_of_cell? w _ hw457_1)).trans hw457_1), ((HB.out.cell (World.block_lt_of_cell? w _ hw457_2)).trans hw457_2), ((HB.out.cell (World.block_lt_of_cell? w _ hw457_3)).trans hw457_3), ((HB.out.cell (World.block_lt_of_cell? w _ hw457_4)).trans hw457_4), ((HB.out.cell (World.block_lt_of_cell? w _ hw458_0)).trans hw458_0), ((HB.out.cell (World.block_lt_of_cell? w _ hw458_1)).trans hw458_1), ((HB.out.cell (World.block_lt_of_cell? w _ hw458_2)).trans hw458_2), ((HB.out.cell (World.block_lt_of_cell? w _ hw458_3)).trans hw458_3), ((HB.out.cell (World.block_lt_of_cell? w _ hw458_4)).trans hw458_4)⟩ (fun hHeld => ?_); refine with_tabW hypercuberef2_Same.tab6 hypercuberef2_Same.bits6 (fun HT_ HW_ => ?_)
        generalize wr.drew = w11 at HB HR457_0 HR457_2 HR457_3 HR457_4 HR458_0 HR458_2 HR458_3 HR458_4 hx457_0 hx457_1 hx457_2 hx457_3 hx457_4 hx458_0 hx458_1 hx458_2 hx458_3 hx458_4 hHeld ⊢
        refine pu (i := 0) (N := some 17) (bb 10 1) HT_ ?_
        refine pu (i := 1) (N := some 18) (bb 10 3) HT_ ?_
        refine pu (i := 2) (N := some 19) (bb 10 7) HT_ ?_
        refine pu (i := 4) (N := some 21) (bb 10 23) HT_ ?_
        refine pu (i := 5) (N := some 22) (bb 10 55) HT_ ?_
        refine pu (i := 6) (N := some 23) (bb 10 119) HT_ ?_
        refine tk (i := 3) (N := some 20) (bb 10 127) HT_ HW_ hHeld ?_
        refine tk (i := 7) (N := some 24) (bb 10 255) HT_ HW_ hHeld ?_
        refine one_ (i := 8) (N := some 25) (bb 10 511) rfl rfl (one_of HT_.out (by kernel_rfl)) (by decide) (fun K hK => ?_)
        refine goes_ Try.func35 (by kernel_rfl) rfl #[.agg #[.slice A457_0 ((rd_T44 l0 x5_1).f0).length c457_0, .int .i64 ((rd_T44 l0 x5_1).f1), .slice A457_2 ((rd_T44 l0 x5_1).f2).length c457_2, .slice A457_3 ((rd_T44 l0 x5_1).f3).length c457_3, .slice A457_4 ((rd_T44 l0 x5_1).f4).length c457_4], .agg #[.slice A458_0 ((rd_T44 l1 x5_1).f0).length c458_0, .int .i64 ((rd_T44 l1 x5_1).f1), .slice A458_2 ((rd_T44 l1 x5_1).f2).length c458_2, .slice A458_3 ((rd_T44 l1 x5_1).f3).length c458_3, .slice A458_4 ((rd_T44 l1 x5_1).f4).length c458_4]] (by rfl) rfl rfl (by (try simp only [List.map_toArray, List.map_cons, List.map_nil]); first | done | rfl | (simp only [List.length_drop, List.length_take]; rfl)) ?_
        with_reducible refine (hypercuberef2_Equal.calls k1 _ _ ((rd_T44 l0 x5_1).f0) ((rd_T44 l0 x5_1).f1) _ _ ((rd_T44 l0 x5_1).f2) _ _ ((rd_T44 l0 x5_1).f3) _ _ ((rd_T44 l0 x5_1).f4) _ _ ((rd_T44 l1 x5_1).f0) ((rd_T44 l1 x5_1).f1) _ _ ((rd_T44 l1 x5_1).f2) _ _ ((rd_T44 l1 x5_1).f3) _ _ ((rd_T44 l1 x5_1).f4) false _ ?side1 ?side2 ?side3 ?side4 ?side5 ?side6 ?side7 ?side8 ?side9 ?side10 ?side11 ?side12 ?side13 ?side14 ?side15 ?side16 A7.out).mono ?_
        (case side1 => exact Kd.Cw HR457_0.out HB.out)
        (case side2 => exact HC457_0.out)
        (case side3 => exact Kd.Cw HR457_2.out HB.out)
        (case side4 => exact HC457_2.out)
        (case side5 => exact Kd.Cw HR457_3.out HB.out)
        (case side6 => exact HC457_3.out)
        (case side7 => exact Kd.Cw HR457_4.out HB.out)
        (case side8 => exact HC457_4.out)
        (case side9 => exact Kd.Cw HR458_0.out HB.out)
        (case side10 => exact HC458_0.out)
        (case side11 => exact Kd.Cw HR458_2.out HB.out)
        (case side12 => exact HC458_2.out)
        (case side13 => exact Kd.Cw HR458_3.out HB.out)
        (case side14 => exact HC458_3.out)
        (case side15 => exact Kd.Cw HR458_4.out HB.out)
        (case side16 => exact HC458_4.out)
        rintro e w12 ⟨rfl, hb⟩
        refine ⟨_, rfl, ?_⟩
        have n0_ := am (below_step (wmv HB.out) hb)
        clear HB
        revert n0_
        intro HB
        (try clear hb)
        (try clear hb2)
        (try clear hk)
        (try clear hi)
        refine hK.out _ _ ⟨((HB.out.cell (World.block_lt_of_cell? w _ hw457_0)).trans hw457_0), ((HB.out.cell (World.block_lt_of_cell? w _ hw457_1)).trans hw457_1), ((HB.out.cell (World.block_lt_of_cell? w _ hw457_2)).trans hw457_2), ((HB.out.cell (World.block_lt_of_cell? w _ hw457_3)).trans hw457_3), ((HB.out.cell (World.block_lt_of_cell? w _ hw457_4)).trans hw457_4), ((HB.out.cell (World.block_lt_of_cell? w _ hw458_0)).trans hw458_0), ((HB.out.cell (World.block_lt_of_cell? w _ hw458_1)).trans hw458_1), ((HB.out.cell (World.block_lt_of_cell? w _ hw458_2)).trans hw458_2), ((HB.out.cell (World.block_lt_of_cell? w _ hw458_3)).trans hw458_3), ((HB.out.cell (World.block_lt_of_cell? w _ hw458_4)).trans hw458_4)⟩ (fun hHeld => ?_)
        clear hK K
        refine nm ?_
        refine pu (i := 9) (N := some 26) (bb 10 1023) HT_ ?_
        refine done_ (done_of HT_.out (by kernel_rfl)) ?_
        try go_wp2
        go_ret
        exact ⟨by first | rfl | (simp [errW_none, errW_some] <;> rfl) | (simp [*, errW_none, errW_some] <;> rfl), by repeat (first | (with_reducible first | exact HB.out | apply below_alloc | apply pw_below_drewN | apply below_drew1) | exact HB.out)⟩
      ·rw [if_neg c6] at H
       exact absurd H (by simp)
     ·rw [if_neg c5] at H
      exact absurd H (by simp)
    ·rw [if_neg c4] at H
     have c4b0 : decide (x5_1 < (l0.length : Int)) = false := decide_eq_false c4
     clear c4
     obtain rfl := Option.some.inj H
     go_wp2
     go_ret
     exact ⟨by first | rfl | (simp [errW_none, errW_some] <;> rfl) | (simp [*, errW_none, errW_some] <;> rfl), by repeat (first | (with_reducible first | exact HB.out | apply below_alloc | apply pw_below_drewN | apply below_drew1) | exact HB.out)⟩
 ·rw [if_neg c3] at H
  have c3b0 : ((l0.length : Int) == (l1.length : Int)) = false := beq_eq_false_iff_ne.mpr c3
  have c3b1 : ((l0.length : Int) != (l1.length : Int)) = true := bne_iff_ne.mpr c3
  have c3b2 : (l0.length == l1.length) = false := by first | simpa using c3 | (simp at c3 ⊢; omega)
  obtain rfl := Option.some.inj H
  go_enter Try.func21, Try.ntmps21
  go_wp2
  go_ret
  exact ⟨by first | rfl | (simp [errW_none, errW_some] <;> rfl) | (simp [*, errW_none, errW_some] <;> rfl), by repeat (first | (with_reducible first | exact HB.out | apply below_alloc | apply pw_below_drewN | apply below_drew1) | exact HB.out)⟩
end Go.Proofs.Ytndkimjmbpbcmaa.Q
namespace Go.Proofs.Ytndkimjmbpbcmaa.Q
open Go.RowKit Go.Proofs.YtndkimjmbpbcmaaW.PrintWords Go.Proofs.YtndkimjmbpbcmaaW.PrintLast Go.Proofs.YtndkimjmbpbcmaaW.PrintMore
set_option linter.unusedVariables false
set_option linter.unusedSimpArgs false
theorem heapC : Kd.Heap k44 := by
 unfold k44
 repeat (first | exact Kd.heap_int _ | exact Kd.heap_slice _ (Kd.heap_int _) | apply Kd.heap_iso | apply Kd.heap_pair)
def hypercubelaw6_MergeAllH.Pure : Prop := ∀ (a0 : Int) (l1 : List Int) (a2 : Int) (l3 : List Int) (a4 : Int) (a5 : Int) (a6 : Int), (Lit.int .i64 a0).wf = true → l1.length ≤ maxLen → l1.length * 8 ≤ 140737488351232 → (∀ x ∈ l1, (Lit.int .i64 x).wf = true) → (Lit.int .i64 a2).wf = true → l3.length ≤ maxLen → l3.length * 8 ≤ 140737488351232 → (∀ x ∈ l3, (Lit.int .i64 x).wf = true) → (Lit.int .i64 a4).wf = true → (Lit.int .i64 a5).wf = true → (Lit.int .i64 a6).wf = true →
 ∃ k cards meas rows s l q u r c d p, hypercubelaw1_Facts.f k a0 l1 a2 l3 = some (cards, meas, rows) ∧ hypercubelaw2_Set.f cards meas a4 = some s ∧ hypercubelaw2_Make.f k rows s = some l ∧ hypercubelaw6_within.f a5 6 = some q ∧ hypercuberef5_Runs.f k l (wrap64 (1 + q)) = some r ∧ hypercubelaw6_within.f a6 6 = some u ∧ merge_Merge.f k r (wrap64 (2 + u)) = some (c, p) ∧ hypercuberef6_Merge.f k r (wrap64 (2 + u)) = some (d, p) ∧ hypercuberef2_Same.f k c d = some true
set_option maxHeartbeats 8000000 in
set_option maxRecDepth 100000 in
theorem hypercubelaw6_MergeAllH.calls (k : Nat) (a0 : Int) (A1 : Option Addr) (c1 : Nat) (l1 : List Int) (a2 : Int) (A3 : Option Addr) (c3 : Nat) (l3 : List Int) (a4 : Int) (a5 : Int) (a6 : Int) (w : World) (hr1 : Kd.C (Kd.int .i64) w A1 l1.length l1) (hc1 : l1.length ≤ c1) (hr3 : Kd.C (Kd.int .i64) w A3 l3.length l3) (hc3 : l3.length ≤ c3)
  {cards : List Int} {meas : Int} {rows : List S51} {s p q u : Int} {l c d : List S44} {r : List (List S44)} (h1 : hypercubelaw1_Facts.f k a0 l1 a2 l3 = some (cards, meas, rows)) (h2 : hypercubelaw2_Set.f cards meas a4 = some s) (h3 : hypercubelaw2_Make.f k rows s = some l) (h4 : hypercubelaw6_within.f a5 6 = some q) (h5 : hypercuberef5_Runs.f k l (wrap64 (1 + q)) = some r) (h6 : hypercubelaw6_within.f a6 6 = some u) (h7 : merge_Merge.f k r (wrap64 (2 + u)) = some (c, p)) (h8 : hypercuberef6_Merge.f k r (wrap64 (2 + u)) = some (d, p)) (h9 : hypercuberef2_Same.f k c d = some true) :
  Calls Try.prog 3 #[.int .i64 a0, .slice A1 l1.length c1, .int .i64 a2, .slice A3 l3.length c3, .int .i64 a4, .int .i64 a5, .int .i64 a6] w fun e w' => e = .returned (.bool true) ∧ Below w.heap.size w w' := by
 have hu25 := Try.underlying25
 have H1 := am h1
 have H2 := am h2
 have H3 := am h3
 have H4 := am h4
 have H5 := am h5
 have H6 := am h6
 have H7 := am h7
 have H8 := am h8
 have H9 := am h9
 have HR1 := am hr1
 have HC1 := am hc1
 have HR3 := am hr3
 have HC3 := am hc3
 clear h1 h2 h3 h4 h5 h6 h7 h8 h9 hr1 hc1 hr3 hc3
 go_enter Try.func3, Try.ntmps3
 go_wp2_with (fail)
 refine (hypercubelaw6_known.calls true w rfl).mono ?_
 rintro e w1 ⟨rfl, hb1⟩
 have HB1 := am hb1
 clear hb1
 go_wp2_with (fail)
 refine (hypercubelaw1_Facts.calls k a0 A1 c1 l1 a2 A3 c3 l3 cards meas rows w1 (Kd.C_below HR1.out HB1.out) HC1.out (Kd.C_below HR3.out HB1.out) HC3.out H1.out).mono ?_
 rintro e w2 ⟨v1, v2, rfl, ho0, ho1, hb2⟩
 obtain ⟨A14, c14, rfl⟩ := Kd.R_slice ho0
 obtain ⟨A15, c15, rfl⟩ := Kd.S_slice ho1
 have HX := am (Kd.R_reads' ho0).2
 have HY := am (Kd.S_reads' ho1).2
 have HB2 := am (below_step HB1.out hb2)
 clear ho0 ho1 hb2
 go_wp2_with (first | ((with_reducible refine gate_dst (N := 15) rfl ?_); (try (refine gate_guard (by rfl) ?_; dsimp only)); refine box_event ?hg (N := 15) ?hd (cs := #[.slice none 0 0, .int .i64 0]) (t := 25) ?hr ?_; (case hd => rfl); (case hg => rfl); (case hr => first | (go_simp; done) | (go_simp; rfl)); intro gb hg w3 hbox hb; have hcz0 : w3.cell? ⟨gb, 0, none⟩ = some (.slice none 0 0) := (blk_cell hbox 0).trans rfl; have hcz1 : w3.cell? ⟨gb, 1, none⟩ = some (.int .i64 0) := (blk_cell hbox 1).trans rfl; have hfz0 := blk_frozen hbox 0; have hfz1 := blk_frozen hbox 1; have HBX := am hbox; have HG := am hg; have HB3 := am hb; clear hbox hg hb))
 refine name_calls ?_
 intro w4 hw4
 have hb4 : Below w2.heap.size w2 w4 := by rw [hw4]; exact below_set (below_set HB3.out (Nat.le_of_eq HG.out.symm)) (Nat.le_of_eq HG.out.symm)
 have HB4 := am (below_step HB2.out hb4)
 have HX4 := am (Kd.C_below HX.out.2 hb4)
 have HY4 := am (Kd.C_below HY.out.2 hb4)
 clear hw4 hb4 hcz0 hcz1 hfz0 hfz1
 refine (hypercubelaw2_Set.calls A14 c14 cards meas a4 s w4 HX4.out HX.out.1 H2.out).mono ?_
 rintro e w5 ⟨rfl, hb5⟩
 have HY5 := am (Kd.C_below HY4.out hb5)
 have HB5 := am (below_step HB4.out hb5)
 clear hb5 HX4 HB4 HB3 HBX HG HY4
 go_wp2_with (fail)
 refine (hypercubelaw2_Make.calls k A15 c15 rows s l w5 HY5.out HY.out.1 H3.out).mono ?_
 rintro e w6 ⟨v6, rfl, ho0, hb⟩
 obtain ⟨A26, c26, rfl⟩ := Kd.S_slice ho0
 have HL6 := am (Kd.S_reads' ho0).2
 have HB6 := am (below_step HB5.out hb)
 clear ho0 hb
 go_wp2_with (fail)
 refine (hypercubelaw6_within.calls a5 6 q w6 H4.out).mono ?_
 rintro e w' ⟨rfl, ⟨nd, rfl⟩⟩
 go_wp2_with (fail)
 refine name_calls ?_
 intro w7 hw7
 have hb7 : Below w6.heap.size w6 w7 := by rw [hw7]; exact pw_below_drewN (Below.refl _ _) _
 have HL7 := am (Kd.C_below HL6.out.2 hb7)
 have HB7 := am (below_step HB6.out hb7)
 clear hw7 hb7
 refine (hypercuberef5_Runs.calls k A26 c26 l (wrap64 (1 + q)) r w7 HL7.out HL6.out.1 H5.out).mono ?_
 rintro e w8 ⟨v6, rfl, ho0, hb⟩
 obtain ⟨A35, c35, rfl⟩ := Kd.N_slice ho0
 have LP := am (Kd.N_reads' ho0).2.1
 have HP8 := am (Kd.N_reads' ho0).2.2
 have HB8 := am (below_step HB7.out hb)
 clear ho0 hb
 go_wp2_with (fail)
 refine (hypercubelaw6_within.calls a6 6 u w8 H6.out).mono ?_
 rintro e w' ⟨rfl, ⟨nd2, rfl⟩⟩
 go_wp2_with (fail)
 refine name_calls ?_
 intro w9 hw9
 have hb9 : Below w8.heap.size w8 w9 := by rw [hw9]; exact pw_below_drewN (Below.refl _ _) _
 have HP9 := am (Kd.C_below HP8.out hb9)
 have HB9 := am (below_step HB8.out hb9)
 clear hw9 hb9
 refine (merge_Merge.calls k A35 c35 r (wrap64 (2 + u)) c p w9 HP9.out LP.out H7.out).mono ?_
 rintro e w10 ⟨v10, rfl, ho0, hb10⟩
 obtain ⟨A8, c8, rfl⟩ := Kd.S_slice ho0
 have HG10 := am (Kd.S_reads' ho0).2
 have HP10 := am (Kd.C_below HP9.out hb10)
 have HB10 := am (below_step HB9.out hb10)
 clear ho0 hb10
 go_wp2_with (fail)
 have hV : Kd.V (Kd.slice 44 k44) 31 w10 w10.heap.size (fun k_ => k_ < w10.heap.size) (.slice A35 r.length c35) r := Kd.V_mk LP.out (Kd.C_F (Kd.heap_slice _ heapC) HP10.out)
 refine (hypercuberef6_Merge.calls k (fun k_ => k_ < w10.heap.size) A35 c35 r (wrap64 (2 + u)) d p w10 hV H8.out).mono ?_
 rintro e w11 ⟨v11, rfl, ho0, hb11⟩
 obtain ⟨A11, c11, rfl⟩ := Kd.N_slice ho0
 have HD11 := am (Kd.N_reads' ho0).2
 have HG11 := am (Kd.C_below HG10.out.2 hb11)
 have HB11 := am (below_step HB10.out hb11)
 clear ho0 hb11 hV
 go_wp2_with (first
 | (go_at_call 21; (with_reducible refine (hypercuberef2_Same.calls k A8 c8 c A11 c11 d true w11 HG11.out HG10.out.1 HD11.out.2 HD11.out.1 H9.out).mono ?_); rintro e w12 ⟨rfl, hb12⟩; have HB12 := am (below_step HB11.out hb12); clear hb12))
 go_ret
 exact ⟨by first | rfl | simp, HB12.out⟩
theorem hypercubelaw6_MergeAllH.walk (P : hypercubelaw6_MergeAllH.Pure) (a0 : Int) (a1 : Option Addr) (len1 cap1 : Nat) (z1 : List Int) (a2 : Int) (a3 : Option Addr) (len3 cap3 : Nat) (z3 : List Int) (a4 : Int) (a5 : Int) (a6 : Int) (w : World) (w0 : (Lit.int .i64 a0).wf = true) (w1 : (a1 = none ∧ len1 = 0 ∧ cap1 = 0 ∧ z1 = []) ∨ ∃ x, a1 = some x ∧ len1 ≤ cap1 ∧ cap1 ≤ maxLen ∧ z1.length = cap1 ∧ (∀ i, i < z1.length → w.cell? (x.add i) = some (.int .i64 (z1.getD i 0))) ∧ ∀ n ∈ z1, (Lit.int .i64 n).wf = true) (y1 : len1 * 8 ≤ 140737488351232) (w2 : (Lit.int .i64 a2).wf = true) (w3 : (a3 = none ∧ len3 = 0 ∧ cap3 = 0 ∧ z3 = []) ∨ ∃ x, a3 = some x ∧ len3 ≤ cap3 ∧ cap3 ≤ maxLen ∧ z3.length = cap3 ∧ (∀ i, i < z3.length → w.cell? (x.add i) = some (.int .i64 (z3.getD i 0))) ∧ ∀ n ∈ z3, (Lit.int .i64 n).wf = true) (y3 : len3 * 8 ≤ 140737488351232) (w4 : (Lit.int .i64 a4).wf = true) (w5 : (Lit.int .i64 a5).wf = true) (w6 : (Lit.int .i64 a6).wf = true) :
  Calls Try.prog 3 #[.int .i64 a0, .slice a1 len1 cap1, .int .i64 a2, .slice a3 len3 cap3, .int .i64 a4, .int .i64 a5, .int .i64 a6] w fun e w' => e = .returned (.bool true) ∧ Below w.heap.size w w' := by
 obtain ⟨l1, rfl, hr1, hm1, hw1, hc1⟩ := ReadsInt.ofRowC w1
 obtain ⟨l3, rfl, hr3, hm3, hw3, hc3⟩ := ReadsInt.ofRowC w3
 obtain ⟨k, cards, meas, rows, s, l, q, u, r, c, d, p, h1, h2, h3, h4, h5, h6, h7, h8, h9⟩ := P a0 l1 a2 l3 a4 a5 a6 w0 hm1 y1 hw1 w2 hm3 y3 hw3 w4 w5 w6
 exact hypercubelaw6_MergeAllH.calls k a0 _ _ l1 a2 _ _ l3 a4 a5 a6 w (Kd.C_of_reads (d := (0 : Int)) (h1 := fun _ => rfl) hr1) hc1 (Kd.C_of_reads (d := (0 : Int)) (h1 := fun _ => rfl) hr3) hc3 h1 h2 h3 h4 h5 h6 h7 h8 h9
theorem ref_join_l0 (n : Nat) (hn : n ≤ 100) (a b : S44) (ha : RegC n a) (hb : RegC n b) (f0 : List Int) (f1 : Int) (d : Nat) : ∀ (i : Nat) (s m x : List Int), n - i = d → i ≤ n → s.length = i → m.length = i → x.length = i →
  Ev (fun k => hypercuberef2_Join.l0 k (i : Int) a.f0 a.f1 a.f2 a.f3 a.f4 b.f0 b.f1 b.f2 b.f3 b.f4 f0 f1 s m x)
   (f0, f1, s ++ List.zipWith (fun x y => wrap64 (x + y)) (a.f2.drop i) (b.f2.drop i), m ++ List.zipWith mn (a.f3.drop i) (b.f3.drop i), x ++ List.zipWith mx (a.f4.drop i) (b.f4.drop i)) := by
 obtain ⟨a0, a2, a3, a4⟩ := ha
 obtain ⟨b0, b2, b3, b4⟩ := hb
 induction d with
 | zero =>
  intro i s m x hd hi hs hm hx
  have e2 : a.f2.drop i = [] := List.drop_eq_nil_of_le (by omega)
  have e3 : a.f3.drop i = [] := List.drop_eq_nil_of_le (by omega)
  have e4 : a.f4.drop i = [] := List.drop_eq_nil_of_le (by omega)
  rw [e2, e3, e4, List.zipWith_nil_left, List.zipWith_nil_left, List.zipWith_nil_left, List.append_nil, List.append_nil, List.append_nil]
  exact Ev.step (f := fun _ => some (f0, f1, s, m, x)) (fun k => by simp only [hypercuberef2_Join.l0]; rw [if_neg (by omega)]) (Ev.now _)
 | succ d ih =>
  intro i s m x hd hi hs hm hx
  have ia2 : i < a.f2.length := by omega
  have ia3 : i < a.f3.length := by omega
  have ia4 : i < a.f4.length := by omega
  have ib2 : i < b.f2.length := by omega
  have ib3 : i < b.f3.length := by omega
  have ib4 : i < b.f4.length := by omega
  have h := ih (i + 1) (s ++ [wrap64 (a.f2[i] + b.f2[i])]) (m ++ [mn a.f3[i] b.f3[i]]) (x ++ [mx a.f4[i] b.f4[i]]) (by omega) (by omega) (by simp; omega) (by simp; omega) (by simp; omega)
  rw [List.append_assoc, List.append_assoc, List.append_assoc, List.singleton_append, List.singleton_append, List.singleton_append] at h
  rw [drop_cons ia2, drop_cons ia3, drop_cons ia4, drop_cons ib2, drop_cons ib3, drop_cons ib4, List.zipWith_cons_cons, List.zipWith_cons_cons, List.zipWith_cons_cons]
  exact Ev.step (fun k => by
   simp only [hypercuberef2_Join.l0]
   rw [if_pos (by omega), if_pos (by omega), if_pos (by omega), if_pos (by omega), if_pos (by omega), if_pos (by omega), if_pos (by omega), if_pos (by omega), if_pos (by omega), if_pos (by omega), rd_get ia2, rd_get ia3, rd_get ia4, rd_get ib2, rd_get ib3, rd_get ib4, w64s ia2 (by omega)]) h
theorem ref_join_ev {n : Nat} (hn : n ≤ 100) {a b : S44} (ha : RegC n a) (hb : RegC n b) : Ev (fun k => hypercuberef2_Join.f k a.f0 a.f1 a.f2 a.f3 a.f4 b.f0 b.f1 b.f2 b.f3 b.f4) (tupC (joinC a b)) := by
 have h := ref_join_l0 n hn a b ha hb a.f0 (wrap64 (a.f1 + b.f1)) n 0 [] [] [] (by omega) (by omega) rfl rfl rfl
 simp only [List.drop_zero, List.nil_append] at h
 refine Ev.congr (fun k => ?_) h
 unfold hypercuberef2_Join.f
 rw [Option.bind_some, if_pos (by have := ha.1; simp only [List.length_nil]; omega), List.nil_append]
 rfl
theorem ref_copy_eq {c : S44} (h : SmallC c) : hypercuberef2_Copy.f c.f0 c.f1 c.f2 c.f3 c.f4 = some (tupC c) := by
 obtain ⟨h0, h2, h3, h4⟩ := h
 unfold hypercuberef2_Copy.f
 rw [if_pos ⟨by omega, by omega, by omega, by omega⟩]
 rfl
theorem ref_put_end {n : Nat} (hn : n ≤ 100) {xs : List S44} {x : S44} (hl : xs.length ≤ 1000000) (hr : RegL n xs) (hx : RegC n x) (i : Nat) (hi : i ≤ xs.length) (h1 : ∀ m (h : m < xs.length), m < i → lexC (xs[m]).f0 x.f0 < 0) (h2 : ∀ (h : i < xs.length), 0 ≤ lexC (xs[i]).f0 x.f0) :
  Ev (fun k => hypercuberef2_Put.j1 k xs (i : Int) x.f0 x.f1 x.f2 x.f3 x.f4) (putL x xs) := by
 have hput := putL_at x i xs hi h1 h2
 have hcat : xs.take i ++ [x] ++ xs.drop i = xs.take i ++ x :: xs.drop i := by simp
 have hins : Ev (fun k => hypercuberef2_Put.j2 k xs (i : Int) false x.f0 x.f1 x.f2 x.f3 x.f4) (xs.take i ++ x :: xs.drop i) := by
  refine Ev.step (f := fun _ => some (xs.take i ++ x :: xs.drop i)) (fun k => ?_) (Ev.now _)
  simp only [hypercuberef2_Put.j2]
  rw [if_neg (by simp), Option.bind_some, if_pos (by omega), if_pos (by omega), Option.bind_some, if_pos (by simp; omega), Option.bind_some, ref_copy_eq (hx.small hn), Option.bind_some, if_pos (by simp; omega), Option.bind_some, Option.bind_some, if_pos (by simp; omega)]
  simp only [List.nil_append, Int.toNat_natCast, tupC, ← hcat]
 by_cases hlt : i < xs.length
 ·have hc := ref_less_ev (xs[i]).f0 x.f0 (by have := (hr _ (List.getElem_mem hlt)).1; omega)
  refine Ev.step (f := fun k => (hypercuberef2_Less.f k (xs[i]).f0 x.f0).bind fun t => hypercuberef2_Put.j2 k xs (i : Int) (t == 0) x.f0 x.f1 x.f2 x.f3 x.f4) (fun k => ?_) (Ev.bind hc ?_)
  ·simp only [hypercuberef2_Put.j1]
   rw [if_pos (by omega), if_pos (by omega), rdC_get hlt]
  ·rw [hput, dif_pos hlt]
   by_cases c : lexC (xs[i]).f0 x.f0 = 0
   ·rw [if_pos c, show (lexC (xs[i]).f0 x.f0 == 0) = true by simp [c]]
    have hj := ref_join_ev hn (hr _ (List.getElem_mem hlt)) hx
    refine Ev.step (f := fun k => (hypercuberef2_Join.f k (xs[i]).f0 (xs[i]).f1 (xs[i]).f2 (xs[i]).f3 (xs[i]).f4 x.f0 x.f1 x.f2 x.f3 x.f4).bind fun bt => some (xs.set i (⟨bt.1, bt.2.1, bt.2.2.1, bt.2.2.2.1, bt.2.2.2.2⟩ : S44))) (fun k => ?_) (Ev.bind hj (Ev.now _))
    simp only [hypercuberef2_Put.j2]
    rw [if_pos trivial, Option.bind_some, if_pos (by simp; omega), Option.bind_some, if_pos (by omega), if_pos (by omega), rdC_get hlt, List.nil_append]
    congr 1
    funext bt
    rw [if_pos (by omega), Int.toNat_natCast]
   ·rw [if_neg c, show (lexC (xs[i]).f0 x.f0 == 0) = false by simp [c]]
    exact hins
 ·rw [hput, dif_neg hlt]
  refine Ev.step (fun k => ?_) hins
  simp only [hypercuberef2_Put.j1]
  rw [if_neg (by omega)]
theorem ref_put_l0 {n : Nat} (hn : n ≤ 100) {xs : List S44} {x : S44} (hl : xs.length ≤ 1000000) (hr : RegL n xs) (hx : RegC n x) (d : Nat) : ∀ i : Nat, xs.length - i = d → i ≤ xs.length → (∀ m (h : m < xs.length), m < i → lexC (xs[m]).f0 x.f0 < 0) →
  Ev (fun k => hypercuberef2_Put.l0 k xs (i : Int) x.f0 x.f1 x.f2 x.f3 x.f4) (putL x xs) := by
 induction d with
 | zero =>
  intro i hd hi h1
  refine Ev.step (fun k => ?_) (ref_put_end hn hl hr hx i hi h1 (fun h => by omega))
  simp only [hypercuberef2_Put.l0]
  rw [if_neg (by omega)]
 | succ d ih =>
  intro i hd hi h1
  have hlt : i < xs.length := by omega
  have hc := ref_less_ev (xs[i]).f0 x.f0 (by have := (hr _ (List.getElem_mem hlt)).1; omega)
  refine Ev.step (f := fun k => (hypercuberef2_Less.f k (xs[i]).f0 x.f0).bind fun t => if t < 0 then hypercuberef2_Put.l0 k xs ((i + 1 : Nat) : Int) x.f0 x.f1 x.f2 x.f3 x.f4 else hypercuberef2_Put.j1 k xs (i : Int) x.f0 x.f1 x.f2 x.f3 x.f4) (fun k => ?_) (Ev.bind hc ?_)
  ·simp only [hypercuberef2_Put.l0]
   rw [if_pos (by omega), if_pos (by omega), rdC_get hlt, w64s hlt (by omega)]
  ·by_cases c : lexC (xs[i]).f0 x.f0 < 0
   ·refine Ev.congr (fun k => by rw [if_pos c]) (ih (i + 1) (by omega) (by omega) (fun m h hm => ?_))
    by_cases e : m = i
    ·subst e; exact c
    ·exact h1 m h (by omega)
   ·exact Ev.congr (fun k => by rw [if_neg c]) (ref_put_end hn hl hr hx i hi h1 (fun _ => by omega))
theorem ref_put_ev {n : Nat} (hn : n ≤ 100) {xs : List S44} {x : S44} (hl : xs.length ≤ 1000000) (hr : RegL n xs) (hx : RegC n x) : Ev (fun k => hypercuberef2_Put.f k xs x.f0 x.f1 x.f2 x.f3 x.f4) (putL x xs) :=
 Ev.congr (fun k => by unfold hypercuberef2_Put.f; rfl) (ref_put_l0 hn hl hr hx xs.length 0 (by omega) (by omega) (fun m h hm => by omega))
theorem equal_true {c : S44} (ha : SmallC c) : Ev (fun k => hypercuberef2_Equal.f k c.f0 c.f1 c.f2 c.f3 c.f4 c.f0 c.f1 c.f2 c.f3 c.f4) true := by
 obtain ⟨h0, h2, h3, h4⟩ := ha
 have e : ∀ l : List Int, l.length ≤ 100000 → Ev (fun k => hypercuberef1_Ints.f k l l) true := fun l hl => by
  have := ints_ev l l (by omega)
  rw [decide_eq_true rfl] at this
  exact this
 refine Ev.congr (fun k => by unfold hypercuberef2_Equal.f; rw [if_pos rfl]) ?_
 refine Ev.bind (e _ h0) (Ev.congr (fun k => by rw [if_pos rfl]) ?_)
 refine Ev.bind (e _ h2) (Ev.congr (fun k => by rw [if_pos rfl]) ?_)
 refine Ev.bind (e _ h3) (Ev.congr (fun k => by rw [if_pos rfl]) ?_)
 exact Ev.bind (e _ h4) (Ev.now _)
theorem same_l0 (l : List S44) (hl : l.length ≤ 1000000) (hs : ∀ c ∈ l, SmallC c) (d : Nat) : ∀ i : Nat, l.length - i = d → i ≤ l.length → Ev (fun k => hypercuberef2_Same.l0 k l l (i : Int)) true := by
 induction d with
 | zero =>
  intro i hd hi
  exact Ev.step (f := fun _ => some true) (fun k => by simp only [hypercuberef2_Same.l0]; rw [if_neg (by omega)]) (Ev.now _)
 | succ d ih =>
  intro i hd hi
  have hlt : i < l.length := by omega
  refine Ev.step (f := fun k => (hypercuberef2_Equal.f k (l[i]).f0 (l[i]).f1 (l[i]).f2 (l[i]).f3 (l[i]).f4 (l[i]).f0 (l[i]).f1 (l[i]).f2 (l[i]).f3 (l[i]).f4).bind fun t => if t = true then hypercuberef2_Same.l0 k l l ((i + 1 : Nat) : Int) else some false) (fun k => ?_) (Ev.bind (equal_true (hs _ (List.getElem_mem hlt))) ?_)
  ·simp only [hypercuberef2_Same.l0]
   rw [if_pos (by omega), if_pos (by omega), if_pos (by omega), rdC_get hlt, w64s hlt (by omega)]
  ·exact Ev.congr (fun k => by rw [if_pos rfl]) (ih (i + 1) (by omega) (by omega))
theorem same_true {l l' : List S44} (h : l = l') (hl : l.length ≤ 1000000) (hs : ∀ c ∈ l, SmallC c) : Ev (fun k => hypercuberef2_Same.f k l l') true := by
 subst h
 exact Ev.congr (fun k => by unfold hypercuberef2_Same.f; rw [if_pos rfl]; rfl) (same_l0 l hl hs l.length 0 (by omega) (by omega))
end Go.Proofs.Ytndkimjmbpbcmaa.Q
