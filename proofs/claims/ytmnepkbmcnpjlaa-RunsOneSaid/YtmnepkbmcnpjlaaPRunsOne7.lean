-- packed by wip/tools/pack.py (a program of this session) out of its own texts
import Derived.Test.YtmnepkbmcnpjlaaPRunsOne0
import Derived.ArgAppend
import Derived.Below
import Derived.BigQuiet
import Derived.Deep.AppendLies
import Derived.Deep.CutBlock
import Derived.Deep.DeepCutAuto
import Derived.Deep.Draws
import Derived.Deep.LoopGhost
import Derived.Deep.OwnRows
import Derived.Deep.QuietTactic
import Derived.Deep.RegionHeld3
import Derived.KernelRfl
import Derived.Laws.BitsLemmas
import Derived.Laws.BytesArg
import Derived.Laws.IdiomCopy
import Derived.Laws.MakeOwn
import Derived.Laws.OwnMore
import Derived.Laws.Rows
import Derived.Laws.Slices
import Derived.Lib.AppendStr
import Derived.Lib.ConvBytes
import Derived.Maps.AppendAt
import Derived.OrdersHeld
import Derived.OwnWalk
import Derived.RowKit
import Derived.RowKit3
import Derived.Tactics
import Derived.Test.YtmnepkbmcnpjlaaProg
import Derived.WalkKit
import Derived.WideLaws
import Derived.Test.YtmnepkbmcnpjlaaPRunsOne1
import Derived.Test.YtmnepkbmcnpjlaaPRunsOne3
import Derived.Test.YtmnepkbmcnpjlaaPRunsOne4
import Derived.Test.YtmnepkbmcnpjlaaPRunsOne5
import Derived.Test.YtmnepkbmcnpjlaaPRunsOne6
namespace Go.Proofs.Ytmnepkbmcnpjlaa.Q
open Go.RowKit Go.Proofs.YtmnepkbmcnpjlaaW.PrintWords Go.Proofs.YtmnepkbmcnpjlaaW.PrintLast Go.Proofs.YtmnepkbmcnpjlaaW.PrintMore
set_option linter.unusedVariables false
set_option linter.unusedSimpArgs false
def hypercuberef2_Copy.f (l0_0 : List Int) (a0_1 : Int) (l0_2 : List Int) (l0_3 : List Int) (l0_4 : List Int) : Option (List Int × Int × List Int × List Int × List Int) :=
 if l0_0.length * 8 ≤ 140737488355328 ∧ l0_2.length * 8 ≤ 140737488355328 ∧ l0_3.length * 8 ≤ 140737488355328 ∧ l0_4.length * 8 ≤ 140737488355328 then some (l0_0, a0_1, l0_2, l0_3, l0_4) else none
def ref_Copy.T1 : Bool × List (List Nat × List Nat) := (true, [([], []), ([], []), ([1], [1]), ([0, 2], [0, 2]), ([], []), ([4], [4]), ([], []), ([], []), ([7], [7]), ([6, 8, 3], [6, 8]), ([], []), ([], []), ([11], [11]), ([10, 12, 9], [10, 12]), ([], []), ([], []), ([15], [15]), ([14, 16, 13], [14, 16]), ([3, 5, 9, 13, 17], [3, 5, 9, 13, 17]), ([18, 17, 0, 1, 2, 3, 4, 5, 6, 7, 8, 9, 10, 11, 12, 13, 14, 15, 16, 17, 18], [18])])
def ref_Copy.B1 : List Nat := [0, 0, 2, 7, 0, 16, 0, 0, 128, 463, 0, 0, 2048, 8143, 0, 0, 32768, 131023, 262143, 524287]
theorem ref_Copy.tab1 : rtab .any (opsOf Try.f42 1) = ref_Copy.T1 := by kernel_rfl
theorem ref_Copy.bits1 : waitsOk ref_Copy.T1.2 ref_Copy.B1 = true := by kernel_rfl
def RowSt (w0 : World) (l : Array Bool) (w : World) (f : Nat → Nat) (q B A : Nat) (vb va : Value) (y : List Int) : Prop :=
 (l.getD B true = true → l.getD A true = false → Kd.R (Kd.int .i64) 3 w w0.heap.size (fun k => f k = q) vb []) ∧ (l.getD A true = true → Kd.R (Kd.int .i64) 3 w w0.heap.size (fun k => f k = q) va y)
theorem R_refun {e base q : Nat} {f f' : Nat → Nat} {w w1 : World} {v : Value} {y : List Int} (h : Kd.R (Kd.int .i64) e w base (fun k => f k = q) v y) (hh : ∀ k, f k = q → k < w.heap.size → w1.heap[k]? = w.heap[k]?) (hf : ∀ k, k < w.heap.size → f' k = f k) : Kd.R (Kd.int .i64) e w1 base (fun k => f' k = q) v y :=
 Kd.R_mono (Kd.R_step (Kd.R_bound h) (fun k hk hlt => hh k hk.1 hlt)) (fun k hk => (hf k hk.2.2.1).trans hk.1)
theorem RowSt.keep {w0 w w1 : World} {l : Array Bool} {f f' : Nat → Nat} {q B A i : Nat} {vb va : Value} {y : List Int} (h : RowSt w0 l w f q B A vb va y) (hi : i < l.size) (hB : i ≠ B) (hA : i ≠ A) (hh : ∀ k, f k = q → k < w.heap.size → w1.heap[k]? = w.heap[k]?) (hf : ∀ k, k < w.heap.size → f' k = f k) : RowSt w0 (l.setIfInBounds i true) w1 f' q B A vb va y := by
 unfold RowSt at h ⊢
 rw [getD_set hi, getD_set hi, if_neg hB, if_neg hA]
 exact ⟨fun h1 h2 => R_refun (h.1 h1 h2) hh hf, fun h1 => R_refun (h.2 h1) hh hf⟩
theorem RowSt.made {w0 w w1 : World} {l : Array Bool} {f' : Nat → Nat} {q B A : Nat} {vb va : Value} {y : List Int} (hi : B < l.size) (hBA : B ≠ A) (hA : l.getD A true = false) (h : Kd.R (Kd.int .i64) 3 w1 w0.heap.size (fun k => f' k = q) vb []) : RowSt w0 (l.setIfInBounds B true) w1 f' q B A vb va y := by
 unfold RowSt
 rw [getD_set hi, getD_set hi, if_neg hBA, if_pos rfl]
 exact ⟨fun _ _ => h, fun h1 => (by rw [hA] at h1; cases h1)⟩
theorem RowSt.full {w0 w w1 : World} {l : Array Bool} {f' : Nat → Nat} {q B A : Nat} {vb va : Value} {y : List Int} (hi : A < l.size) (h : Kd.R (Kd.int .i64) 3 w1 w0.heap.size (fun k => f' k = q) va y) : RowSt w0 (l.setIfInBounds A true) w1 f' q B A vb va y := by
 unfold RowSt
 rw [getD_set hi, getD_set hi, if_pos rfl]
 exact ⟨fun _ h1 => (by cases h1), fun _ => h⟩
def OrdC (l : Array Bool) : Prop := ∀ A B, (A = 3 ∧ B = 0) ∨ (A = 9 ∧ B = 6) ∨ (A = 13 ∧ B = 10) ∨ (A = 17 ∧ B = 14) ∨ (A = 19 ∧ B = 18) → l.getD A true = true → l.getD B true = true
theorem ordC_set {l : Array Bool} {i : Nat} (hi : i < l.size) (h : OrdC l) (hn : ∀ B, (i = 3 ∧ B = 0) ∨ (i = 9 ∧ B = 6) ∨ (i = 13 ∧ B = 10) ∨ (i = 17 ∧ B = 14) ∨ (i = 19 ∧ B = 18) → l.getD B true = true) : OrdC (l.setIfInBounds i true) := by
 intro A B hAB h1
 rw [getD_set hi] at h1 ⊢
 split
 ·rfl
 ·by_cases c : i = A
  ·subst c
   exact hn B hAB
  ·rw [if_neg c] at h1
   exact h A B hAB h1
structure CInv (w0 : World) (xb rb : Nat) (XC : Array Value) (y0 y1 y2 y3 : List Int) (n : Int) (l : Array Bool) (a : Act) (w : World) : Prop where
 sz : l.size = 20
 old : ∀ j, j = 1 ∨ j = 2 ∨ j = 4 ∨ j = 5 ∨ j = 7 ∨ j = 8 ∨ j = 11 ∨ j = 12 ∨ j = 15 ∨ j = 16 → l.getD j true = true
 ord : OrdC l
 tsz : a.tmps.size = 22
 dfr : a.defers = []
 bel : Below w0.heap.size w0 w
 bx : w.heap[xb]? = some (.cells XC 41 (0, 0))
 e2 : a.eval (.tmp 2) = .pointer (some ⟨rb, 0, none⟩)
 e8 : a.eval (.tmp 8) = .int .i64 n
 rows : ∃ A0 c0 A1 c1 A2 c2 A3 c3, a.eval (.tmp 5) = .slice A0 y0.length c0 ∧ a.eval (.tmp 11) = .slice A1 y1.length c1 ∧ a.eval (.tmp 15) = .slice A2 y2.length c2 ∧ a.eval (.tmp 19) = .slice A3 y3.length c3 ∧
  (Kd.int .i64).C w0 A0 y0.length y0 ∧ (Kd.int .i64).C w0 A1 y1.length y1 ∧ (Kd.int .i64).C w0 A2 y2.length y2 ∧ (Kd.int .i64).C w0 A3 y3.length y3
 made : l.getD 19 true = false → w.heap[rb]? = some (.cells #[.slice none 0 0, .int .i64 0, .slice none 0 0, .slice none 0 0, .slice none 0 0] 41 (0, 0)) ∧ w0.heap.size ≤ rb ∧ ∃ f : Nat → Nat,
  RowSt w0 l w f 0 0 3 (a.eval (.tmp 3)) (a.eval (.tmp 6)) y0 ∧ RowSt w0 l w f 1 6 9 (a.eval (.tmp 9)) (a.eval (.tmp 12)) y1 ∧ RowSt w0 l w f 2 10 13 (a.eval (.tmp 13)) (a.eval (.tmp 16)) y2 ∧ RowSt w0 l w f 3 14 17 (a.eval (.tmp 17)) (a.eval (.tmp 20)) y3
 told : l.getD 18 true = true → l.getD 3 true = true ∧ l.getD 9 true = true ∧ l.getD 13 true = true ∧ l.getD 17 true = true ∧ a.eval (.tmp 21) = .agg #[a.eval (.tmp 6), .int .i64 n, a.eval (.tmp 12), a.eval (.tmp 16), a.eval (.tmp 20)]
 fin : l.getD 19 true = true → ∃ v0 v1 v2 v3 : Value, ∃ f : Nat → Nat, w.heap[rb]? = some (.cells #[v0, .int .i64 n, v1, v2, v3] 41 (0, 0)) ∧ Kd.R (Kd.int .i64) 3 w w0.heap.size (fun k => f k = 0) v0 y0 ∧ Kd.R (Kd.int .i64) 3 w w0.heap.size (fun k => f k = 1) v1 y1 ∧ Kd.R (Kd.int .i64) 3 w w0.heap.size (fun k => f k = 2) v2 y2 ∧ Kd.R (Kd.int .i64) 3 w w0.heap.size (fun k => f k = 3) v3 y3
theorem old_set {l : Array Bool} {i j : Nat} (hi : i < l.size) (h : l.getD j true = true) : (l.setIfInBounds i true).getD j true = true := by
 rw [getD_set hi]
 split
 ·rfl
 ·exact h
theorem bfalse {b : Bool} (h : b = true → False) : b = false := by
 cases b
 ·rfl
 ·exact (h rfl).elim
theorem blk_other {w w1 : World} {g : Nat} {o : Obj} (h : w.heap[g]? = some o) (hh : ∀ k, k < w.heap.size → w1.heap[k]? = w.heap[k]?) : w1.heap[g]? = some o := (hh g (blk_lt h)).trans h
theorem R_fresh (w0 w : World) (q : Nat) (hb : w0.heap.size ≤ w.heap.size) (f : Nat → Nat) : Kd.R (Kd.int .i64) 3 (w.alloc (.cells #[] 3)) w0.heap.size (fun k => (if k = w.heap.size then q else f k) = q) (.slice (some ⟨w.heap.size, 0, none⟩) 0 0) [] :=
 ⟨fun k hk => by simp only [Value.ownBlock, Option.some.injEq] at hk; subst hk; simp, [], ⟨rfl, .inr ⟨w.heap.size, 0, #[], rfl, hb, blk_new w _, Nat.le_refl _, Nat.zero_le _, rfl, rfl⟩⟩, Reps.none _ _⟩
section
variable {w0 : World} {xb rb : Nat} {XC : Array Value} {y0 y1 y2 y3 : List Int} {n : Int} {l : Array Bool} {a : Act} {w : World} {K : Act → World → Prop} {Q : Exit → Act → World → Prop}
theorem CInv.build (h : CInv w0 xb rb XC y0 y1 y2 y3 n l a w) (i d : Nat) (hid : (i = 0 ∧ d = 3) ∨ (i = 6 ∧ d = 9) ∨ (i = 10 ∧ d = 13) ∨ (i = 14 ∧ d = 17)) (hl : l.getD i true = false) :
  CInv w0 xb rb XC y0 y1 y2 y3 n (l.setIfInBounds i true) (a.put (some d) (.slice (some ⟨w.heap.size, 0, none⟩) 0 0)) (w.alloc (.cells #[] 3)) := by
 have hi : i < l.size := by rw [h.sz]; omega
 have h18 : l.getD 18 true = false := bfalse fun e => by
  obtain ⟨a3, a9, a13, a17, _⟩ := h.told e
  rcases hid with ⟨rfl, _⟩ | ⟨rfl, _⟩ | ⟨rfl, _⟩ | ⟨rfl, _⟩
  ·rw [h.ord 3 0 (by omega) a3] at hl; cases hl
  ·rw [h.ord 9 6 (by omega) a9] at hl; cases hl
  ·rw [h.ord 13 10 (by omega) a13] at hl; cases hl
  ·rw [h.ord 17 14 (by omega) a17] at hl; cases hl
 have h19 : l.getD 19 true = false := bfalse fun e => by rw [h.ord 19 18 (by omega) e] at h18; cases h18
 have hd : d < a.tmps.size := by rw [h.tsz]; omega
 have hw : ∀ k, k < w.heap.size → (w.alloc (.cells #[] 3)).heap[k]? = w.heap[k]? := fun k hk => Below.heap_alloc w _ k hk
 have ev : ∀ d', d ≠ d' → (a.put (some d) (.slice (some ⟨w.heap.size, 0, none⟩) 0 0)).eval (.tmp d') = a.eval (.tmp d') := fun d' hne => eval_put_ne hne
 have es : (a.put (some d) (.slice (some ⟨w.heap.size, 0, none⟩) 0 0)).eval (.tmp d) = .slice (some ⟨w.heap.size, 0, none⟩) 0 0 := eval_put_same hd
 obtain ⟨hr, hrb, f, r0, r1, r2, r3⟩ := h.made h19
 have hsz : w0.heap.size ≤ w.heap.size := h.bel.size
 refine ⟨by rw [Array.size_setIfInBounds]; exact h.sz, fun j hj => old_set hi (h.old j hj), ordC_set hi h.ord (fun B hB => by omega), by rw [put_size]; exact h.tsz, h.dfr, below_alloc h.bel _, blk_other h.bx hw, (ev 2 (by omega)).trans h.e2, (ev 8 (by omega)).trans h.e8, ?_, fun _ => ⟨blk_other hr hw, hrb, fun k => if k = w.heap.size then (if i = 0 then 0 else if i = 6 then 1 else if i = 10 then 2 else 3) else f k, ?_⟩, fun h2 => ?_, fun h2 => ?_⟩
 ·obtain ⟨A0, c0, A1, c1, A2, c2, A3, c3, x0, x1, x2, x3, z⟩ := h.rows
  exact ⟨A0, c0, A1, c1, A2, c2, A3, c3, (ev 5 (by omega)).trans x0, (ev 11 (by omega)).trans x1, (ev 15 (by omega)).trans x2, (ev 19 (by omega)).trans x3, z⟩
 ·have hf : ∀ k, k < w.heap.size → (if k = w.heap.size then (if i = 0 then 0 else if i = 6 then 1 else if i = 10 then 2 else 3) else f k) = f k := fun k hk => if_neg (by omega)
  rcases hid with ⟨rfl, rfl⟩ | ⟨rfl, rfl⟩ | ⟨rfl, rfl⟩ | ⟨rfl, rfl⟩
  ·rw [es, ev 6 (by omega), ev 9 (by omega), ev 12 (by omega), ev 13 (by omega), ev 16 (by omega), ev 17 (by omega), ev 20 (by omega)]
   exact ⟨RowSt.made (w := w) hi (by omega) (bfalse fun e => by rw [h.ord 3 0 (by omega) e] at hl; cases hl) (R_fresh w0 w 0 hsz f), r1.keep hi (by omega) (by omega) (fun k _ hk => hw k hk) hf, r2.keep hi (by omega) (by omega) (fun k _ hk => hw k hk) hf, r3.keep hi (by omega) (by omega) (fun k _ hk => hw k hk) hf⟩
  ·rw [es, ev 3 (by omega), ev 6 (by omega), ev 12 (by omega), ev 13 (by omega), ev 16 (by omega), ev 17 (by omega), ev 20 (by omega)]
   exact ⟨r0.keep hi (by omega) (by omega) (fun k _ hk => hw k hk) hf, RowSt.made (w := w) hi (by omega) (bfalse fun e => by rw [h.ord 9 6 (by omega) e] at hl; cases hl) (R_fresh w0 w 1 hsz f), r2.keep hi (by omega) (by omega) (fun k _ hk => hw k hk) hf, r3.keep hi (by omega) (by omega) (fun k _ hk => hw k hk) hf⟩
  ·rw [es, ev 3 (by omega), ev 6 (by omega), ev 9 (by omega), ev 12 (by omega), ev 16 (by omega), ev 17 (by omega), ev 20 (by omega)]
   exact ⟨r0.keep hi (by omega) (by omega) (fun k _ hk => hw k hk) hf, r1.keep hi (by omega) (by omega) (fun k _ hk => hw k hk) hf, RowSt.made (w := w) hi (by omega) (bfalse fun e => by rw [h.ord 13 10 (by omega) e] at hl; cases hl) (R_fresh w0 w 2 hsz f), r3.keep hi (by omega) (by omega) (fun k _ hk => hw k hk) hf⟩
  ·rw [es, ev 3 (by omega), ev 6 (by omega), ev 9 (by omega), ev 12 (by omega), ev 13 (by omega), ev 16 (by omega), ev 20 (by omega)]
   exact ⟨r0.keep hi (by omega) (by omega) (fun k _ hk => hw k hk) hf, r1.keep hi (by omega) (by omega) (fun k _ hk => hw k hk) hf, r2.keep hi (by omega) (by omega) (fun k _ hk => hw k hk) hf, RowSt.made (w := w) hi (by omega) (bfalse fun e => by rw [h.ord 17 14 (by omega) e] at hl; cases hl) (R_fresh w0 w 3 hsz f)⟩
 ·rw [getD_set hi, if_neg (by omega), h18] at h2; cases h2
 ·rw [getD_set hi, if_neg (by omega), h19] at h2; cases h2
theorem CInv.app (h : CInv w0 xb rb XC y0 y1 y2 y3 n l a w) (i d q : Nat) (hid : (i = 3 ∧ d = 6 ∧ q = 0) ∨ (i = 9 ∧ d = 12 ∧ q = 1) ∨ (i = 13 ∧ d = 16 ∧ q = 2) ∨ (i = 17 ∧ d = 20 ∧ q = 3)) (hl : l.getD i true = false) (hB : ∀ B, (i = 3 ∧ B = 0) ∨ (i = 9 ∧ B = 6) ∨ (i = 13 ∧ B = 10) ∨ (i = 17 ∧ B = 14) ∨ (i = 19 ∧ B = 18) → l.getD B true = true) (h18 : l.getD 18 true = false) (h19 : l.getD 19 true = false)
  {f f' : Nat → Nat} {v v1 : Value} {w1 : World} (hr : w.heap[rb]? = some (.cells #[.slice none 0 0, .int .i64 0, .slice none 0 0, .slice none 0 0, .slice none 0 0] 41 (0, 0))) (hrb : w0.heap.size ≤ rb) (hf : ∀ k, k < w.heap.size → f' k = f k)
  (r0 : RowSt w0 l w f 0 0 3 (a.eval (.tmp 3)) (a.eval (.tmp 6)) y0) (r1 : RowSt w0 l w f 1 6 9 (a.eval (.tmp 9)) (a.eval (.tmp 12)) y1) (r2 : RowSt w0 l w f 2 10 13 (a.eval (.tmp 13)) (a.eval (.tmp 16)) y2) (r3 : RowSt w0 l w f 3 14 17 (a.eval (.tmp 17)) (a.eval (.tmp 20)) y3)
  (hv : ∀ k, v.ownBlock = some k → f k = q ∧ ∃ cells, w.heap[k]? = some (.cells cells 3 (0, 0))) (hb : Below w0.heap.size w0 w1) (hg : w.grownBy w1 v.ownBlock)
  (ho : Kd.R (Kd.int .i64) 3 w1 w0.heap.size (fun k => f' k = q) v1 (if i = 3 then y0 else if i = 9 then y1 else if i = 13 then y2 else y3)) :
  CInv w0 xb rb XC y0 y1 y2 y3 n (l.setIfInBounds i true) (a.put (some d) v1) w1 := by
 have hi : i < l.size := by rw [h.sz]; omega
 have hd : d < a.tmps.size := by rw [h.tsz]; omega
 have ev : ∀ d', d ≠ d' → (a.put (some d) v1).eval (.tmp d') = a.eval (.tmp d') := fun d' hne => eval_put_ne hne
 have es : (a.put (some d) v1).eval (.tmp d) = v1 := eval_put_same hd
 have hfar : ∀ (g t : Nat) (cs : Array Value), w.heap[g]? = some (.cells cs t (0, 0)) → t ≠ 3 → w1.heap[g]? = some (.cells cs t (0, 0)) := fun g t cs hgc hne =>
  blk_grown hgc hg (fun e => by obtain ⟨_, cells, hc⟩ := hv g e.symm; rw [hgc] at hc; injection hc with hc; injection hc with _ hc; exact hne hc)
 have hw : ∀ q', q' ≠ q → ∀ k, f k = q' → k < w.heap.size → w1.heap[k]? = w.heap[k]? := fun q' hne k hk hlt => hg.block k hlt (fun e => by have := (hv k e.symm).1; omega)
 refine ⟨by rw [Array.size_setIfInBounds]; exact h.sz, fun j hj => old_set hi (h.old j hj), ordC_set hi h.ord hB, by rw [put_size]; exact h.tsz, h.dfr, hb, hfar _ _ _ h.bx (by decide), (ev 2 (by omega)).trans h.e2, (ev 8 (by omega)).trans h.e8, ?_, fun _ => ⟨hfar _ _ _ hr (by decide), hrb, f', ?_⟩, fun h2 => ?_, fun h2 => ?_⟩
 ·obtain ⟨A0, c0, A1, c1, A2, c2, A3, c3, x0, x1, x2, x3, z⟩ := h.rows
  exact ⟨A0, c0, A1, c1, A2, c2, A3, c3, (ev 5 (by omega)).trans x0, (ev 11 (by omega)).trans x1, (ev 15 (by omega)).trans x2, (ev 19 (by omega)).trans x3, z⟩
 ·rcases hid with ⟨rfl, rfl, rfl⟩ | ⟨rfl, rfl, rfl⟩ | ⟨rfl, rfl, rfl⟩ | ⟨rfl, rfl, rfl⟩
  ·rw [es, ev 3 (by omega), ev 9 (by omega), ev 12 (by omega), ev 13 (by omega), ev 16 (by omega), ev 17 (by omega), ev 20 (by omega)]
   exact ⟨RowSt.full (w := w) hi ho, r1.keep hi (by omega) (by omega) (hw 1 (by omega)) hf, r2.keep hi (by omega) (by omega) (hw 2 (by omega)) hf, r3.keep hi (by omega) (by omega) (hw 3 (by omega)) hf⟩
  ·rw [es, ev 3 (by omega), ev 6 (by omega), ev 9 (by omega), ev 13 (by omega), ev 16 (by omega), ev 17 (by omega), ev 20 (by omega)]
   exact ⟨r0.keep hi (by omega) (by omega) (hw 0 (by omega)) hf, RowSt.full (w := w) hi ho, r2.keep hi (by omega) (by omega) (hw 2 (by omega)) hf, r3.keep hi (by omega) (by omega) (hw 3 (by omega)) hf⟩
  ·rw [es, ev 3 (by omega), ev 6 (by omega), ev 9 (by omega), ev 12 (by omega), ev 13 (by omega), ev 17 (by omega), ev 20 (by omega)]
   exact ⟨r0.keep hi (by omega) (by omega) (hw 0 (by omega)) hf, r1.keep hi (by omega) (by omega) (hw 1 (by omega)) hf, RowSt.full (w := w) hi ho, r3.keep hi (by omega) (by omega) (hw 3 (by omega)) hf⟩
  ·rw [es, ev 3 (by omega), ev 6 (by omega), ev 9 (by omega), ev 12 (by omega), ev 13 (by omega), ev 16 (by omega), ev 17 (by omega)]
   exact ⟨r0.keep hi (by omega) (by omega) (hw 0 (by omega)) hf, r1.keep hi (by omega) (by omega) (hw 1 (by omega)) hf, r2.keep hi (by omega) (by omega) (hw 2 (by omega)) hf, RowSt.full (w := w) hi ho⟩
 ·rw [getD_set hi, if_neg (by omega), h18] at h2; cases h2
 ·rw [getD_set hi, if_neg (by omega), h19] at h2; cases h2
theorem CInv.tell (h : CInv w0 xb rb XC y0 y1 y2 y3 n l a w) (hl : l.getD 18 true = false) (h19 : l.getD 19 true = false) (a3 : l.getD 3 true = true) (a9 : l.getD 9 true = true) (a13 : l.getD 13 true = true) (a17 : l.getD 17 true = true) :
  CInv w0 xb rb XC y0 y1 y2 y3 n (l.setIfInBounds 18 true) (a.put (some 21) (.agg #[a.eval (.tmp 6), .int .i64 n, a.eval (.tmp 12), a.eval (.tmp 16), a.eval (.tmp 20)])) w := by
 have hi : 18 < l.size := by rw [h.sz]; omega
 have hd : 21 < a.tmps.size := by rw [h.tsz]; omega
 have ev : ∀ d' : Nat, (21 : Nat) ≠ d' → (a.put (some 21) (.agg #[a.eval (.tmp 6), .int .i64 n, a.eval (.tmp 12), a.eval (.tmp 16), a.eval (.tmp 20)])).eval (.tmp d') = a.eval (.tmp d') := fun d' hne => eval_put_ne hne
 have hg : ∀ j : Nat, (18 : Nat) ≠ j → (l.setIfInBounds 18 true).getD j true = l.getD j true := fun j hj => by rw [getD_set hi, if_neg hj]
 refine ⟨by rw [Array.size_setIfInBounds]; exact h.sz, fun j hj => old_set hi (h.old j hj), ordC_set hi h.ord (fun B hB => by omega), by rw [put_size]; exact h.tsz, h.dfr, h.bel, h.bx, (ev 2 (by omega)).trans h.e2, (ev 8 (by omega)).trans h.e8, ?_, fun _ => ?_, fun _ => ?_, fun h2 => ?_⟩
 ·obtain ⟨A0, c0, A1, c1, A2, c2, A3, c3, x0, x1, x2, x3, z⟩ := h.rows
  exact ⟨A0, c0, A1, c1, A2, c2, A3, c3, (ev 5 (by omega)).trans x0, (ev 11 (by omega)).trans x1, (ev 15 (by omega)).trans x2, (ev 19 (by omega)).trans x3, z⟩
 ·obtain ⟨hr, hrb, f, r0, r1, r2, r3⟩ := h.made h19
  refine ⟨hr, hrb, f, ?_⟩
  rw [ev 3 (by omega), ev 6 (by omega), ev 9 (by omega), ev 12 (by omega), ev 13 (by omega), ev 16 (by omega), ev 17 (by omega), ev 20 (by omega)]
  exact ⟨r0.keep hi (by omega) (by omega) (fun _ _ _ => rfl) (fun _ _ => rfl), r1.keep hi (by omega) (by omega) (fun _ _ _ => rfl) (fun _ _ => rfl), r2.keep hi (by omega) (by omega) (fun _ _ _ => rfl) (fun _ _ => rfl), r3.keep hi (by omega) (by omega) (fun _ _ _ => rfl) (fun _ _ => rfl)⟩
 ·rw [hg 3 (by omega), hg 9 (by omega), hg 13 (by omega), hg 17 (by omega), ev 6 (by omega), ev 12 (by omega), ev 16 (by omega), ev 20 (by omega)]
  exact ⟨a3, a9, a13, a17, eval_put_same hd⟩
 ·rw [hg 19 (by omega), h19] at h2; cases h2
theorem CInv.store (h : CInv w0 xb rb XC y0 y1 y2 y3 n l a w) (hl : l.getD 19 true = false) (hr : w.heap[rb]? = some (.cells #[.slice none 0 0, .int .i64 0, .slice none 0 0, .slice none 0 0, .slice none 0 0] 41 (0, 0))) (hrb : w0.heap.size ≤ rb) (h18 : l.getD 18 true = true) {f : Nat → Nat} {v0 v1 v2 v3 : Value}
  (r0 : Kd.R (Kd.int .i64) 3 w w0.heap.size (fun k => f k = 0) v0 y0) (r1 : Kd.R (Kd.int .i64) 3 w w0.heap.size (fun k => f k = 1) v1 y1) (r2 : Kd.R (Kd.int .i64) 3 w w0.heap.size (fun k => f k = 2) v2 y2) (r3 : Kd.R (Kd.int .i64) 3 w w0.heap.size (fun k => f k = 3) v3 y3) (hne : xb ≠ rb) :
  CInv w0 xb rb XC y0 y1 y2 y3 n (l.setIfInBounds 19 true) (a.put none undef) (w.setCells rb 0 [v0, .int .i64 n, v1, v2, v3]) := by
 have hi : 19 < l.size := by rw [h.sz]; omega
 have hg : ∀ j : Nat, (19 : Nat) ≠ j → (l.setIfInBounds 19 true).getD j true = l.getD j true := fun j hj => by rw [getD_set hi, if_neg hj]
 have hs : (l.setIfInBounds 19 true).getD 19 true = true := by rw [getD_set hi, if_pos rfl]
 obtain ⟨cur, c1, c2, c3⟩ := setCells_row [v0, .int .i64 n, v1, v2, v3] 0 w _ hr (by simp)
 obtain ⟨s1, s2, s3, s4⟩ := setCells_same rb [v0, .int .i64 n, v1, v2, v3] 0 w
 have hfar : ∀ k, k ≠ rb → (w.setCells rb 0 [v0, .int .i64 n, v1, v2, v3]).heap[k]? = w.heap[k]? := fun k hk => setCells_far _ _ k hk
 have hcur : cur = #[v0, .int .i64 n, v1, v2, v3] := by
  apply Array.toList_inj.mp
  rw [c3]
  simp
 have hR : ∀ {q : Nat} {v : Value} {y : List Int}, Kd.R (Kd.int .i64) 3 w w0.heap.size (fun k => f k = q) v y → Kd.R (Kd.int .i64) 3 (w.setCells rb 0 [v0, .int .i64 n, v1, v2, v3]) w0.heap.size (fun k => f k = q) v y := fun hv =>
  Kd.R_mono (Kd.R_step (Kd.R_types hv hr (by decide)) (fun k hk _ => hfar k hk.2)) (fun k hk => hk.1)
 refine ⟨by rw [Array.size_setIfInBounds]; exact h.sz, fun j hj => old_set hi (h.old j hj), ordC_set hi h.ord (fun B hB => by rw [show B = 18 by omega]; exact h18), h.tsz, h.dfr, h.bel.trans ⟨s1, s2, s3, by rw [s4]; exact Nat.le_refl _, fun k hk => hfar k (by omega)⟩, (hfar xb hne).trans h.bx, h.e2, h.e8, h.rows, fun h2 => (by rw [hs] at h2; cases h2), fun _ => ?_, fun _ => ?_⟩
 ·obtain ⟨a3, a9, a13, a17, e⟩ := h.told h18
  exact ⟨(hg 3 (by omega)).trans a3, (hg 9 (by omega)).trans a9, (hg 13 (by omega)).trans a13, (hg 17 (by omega)).trans a17, e⟩
 ·exact ⟨v0, v1, v2, v3, f, by rw [c1, hcur], hR r0, hR r1, hR r2, hR r3⟩
end
set_option maxHeartbeats 8000000 in
set_option maxRecDepth 100000 in
theorem hypercuberef2_Copy.calls (A0_0 : Option Addr) (c0_0 : Nat) (l0_0 : List Int) (a0_1 : Int) (A0_2 : Option Addr) (c0_2 : Nat) (l0_2 : List Int) (A0_3 : Option Addr) (c0_3 : Nat) (l0_3 : List Int) (A0_4 : Option Addr) (c0_4 : Nat) (l0_4 : List Int) (r1 : List Int) (r2 : Int) (r3 : List Int) (r4 : List Int) (r5 : List Int) (w : World) (hr0_0 : Kd.C (Kd.int .i64) w A0_0 l0_0.length l0_0) (hc0_0 : l0_0.length ≤ c0_0) (hr0_2 : Kd.C (Kd.int .i64) w A0_2 l0_2.length l0_2) (hc0_2 : l0_2.length ≤ c0_2) (hr0_3 : Kd.C (Kd.int .i64) w A0_3 l0_3.length l0_3) (hc0_3 : l0_3.length ≤ c0_3) (hr0_4 : Kd.C (Kd.int .i64) w A0_4 l0_4.length l0_4) (hc0_4 : l0_4.length ≤ c0_4) (h : hypercuberef2_Copy.f l0_0 a0_1 l0_2 l0_3 l0_4 = some (r1, r2, r3, r4, r5)) :
  Calls Try.prog 42 #[.agg #[.slice A0_0 l0_0.length c0_0, .int .i64 a0_1, .slice A0_2 l0_2.length c0_2, .slice A0_3 l0_3.length c0_3, .slice A0_4 l0_4.length c0_4]] w fun e w' => ∃ v0_ v2_ v3_ v4_ : Value, e = .returned (.agg #[v0_, .int .i64 r2, v2_, v3_, v4_]) ∧ Kd.R (Kd.int .i64) 3 w' w.heap.size (fun k_ => some k_ ≠ (v2_ : Value).ownBlock ∧ some k_ ≠ (v3_ : Value).ownBlock ∧ some k_ ≠ (v4_ : Value).ownBlock) v0_ r1 ∧ Kd.R (Kd.int .i64) 3 w' w.heap.size (fun k_ => some k_ ≠ (v0_ : Value).ownBlock ∧ some k_ ≠ (v3_ : Value).ownBlock ∧ some k_ ≠ (v4_ : Value).ownBlock) v2_ r3 ∧ Kd.R (Kd.int .i64) 3 w' w.heap.size (fun k_ => some k_ ≠ (v0_ : Value).ownBlock ∧ some k_ ≠ (v2_ : Value).ownBlock ∧ some k_ ≠ (v4_ : Value).ownBlock) v3_ r4 ∧ Kd.R (Kd.int .i64) 3 w' w.heap.size (fun k_ => some k_ ≠ (v0_ : Value).ownBlock ∧ some k_ ≠ (v2_ : Value).ownBlock ∧ some k_ ≠ (v3_ : Value).ownBlock) v4_ r5 ∧ Below w.heap.size w w' := by
 have hu30 := Try.underlying41
 unfold hypercuberef2_Copy.f at h
 have hlim : (l0_0.length * 8 ≤ 140737488355328 ∧ l0_2.length * 8 ≤ 140737488355328 ∧ l0_3.length * 8 ≤ 140737488355328 ∧ l0_4.length * 8 ≤ 140737488355328) ∧ (l0_0, a0_1, l0_2, l0_3, l0_4) = (r1, r2, r3, r4, r5) := by
  split at h
  · exact ⟨by assumption, Option.some.inj h⟩
  · cases h
 obtain ⟨hlim, he⟩ := hlim
 simp only [Prod.mk.injEq] at he
 obtain ⟨rfl, rfl, rfl, rfl, rfl⟩ := he
 have HL := am hlim
 have G0 := am hr0_0
 have G2 := am hr0_2
 have G3 := am hr0_3
 have G4 := am hr0_4
 clear h hlim hr0_0 hr0_2 hr0_3 hr0_4 hc0_0 hc0_2 hc0_3 hc0_4
 have HB := am (Below.refl w.heap.size w)
 go_enter Try.func42, Try.ntmps42
 go_wp2_with (first
  | ((with_reducible refine gate_dst (N := 1) rfl ?_); refine box_event ?hg (N := 1) ?hd (cs := #[.slice A0_0 l0_0.length c0_0, .int .i64 a0_1, .slice A0_2 l0_2.length c0_2, .slice A0_3 l0_3.length c0_3, .slice A0_4 l0_4.length c0_4]) (t := 41) ?hr ?_; (case hd => rfl); (case hg => rfl); (case hr => first | (go_simp; done) | (go_simp; rfl)); intro gx hg w3 hbox hb; have n0_ := am (below_step HB.out hb); have n1_ := am hbox; clear HB; revert n0_ n1_; intro HB BKx; clear hb hbox hg)
  | ((with_reducible refine gate_dst (N := 2) rfl ?_); refine box_event ?hg (N := 2) ?hd (cs := #[.slice none 0 0, .int .i64 0, .slice none 0 0, .slice none 0 0, .slice none 0 0]) (t := 41) ?hr ?_; (case hd => rfl); (case hg => rfl); (case hr => first | (go_simp; done) | (go_simp; rfl)); intro gr hg w4 hbox hb; have n0_ := am (below_step HB.out hb); have n1_ := am hbox; have n2_ := am (blk_below BKx.out hb); have n3_ := am (show w.heap.size ≤ gr by rw [hg]; exact HB.out.size); have NExr := am (show gx ≠ gr by rw [hg]; exact Nat.ne_of_lt (blk_lt BKx.out)); clear HB BKx; revert n0_ n1_ n2_ n3_; intro HB BKr BKx GEr; clear hb hbox hg))

 refine start_ (n := 20) (S := fun w' => w'.heap[gx]? = some (.cells #[.slice A0_0 l0_0.length c0_0, .int .i64 a0_1, .slice A0_2 l0_2.length c0_2, .slice A0_3 l0_3.length c0_3, .slice A0_4 l0_4.length c0_4] 41 (0, 0))) (ds := [19]) (bb 20 0) (by kernel_rfl) rfl rfl BKx.out (fun hHeld => ?_); refine with_tabW ref_Copy.tab1 ref_Copy.bits1 (fun HT_ HW_ => ?_)
 have n0_ := am (below_drew1 HB.out)
 have n1_ := am (blk_drew BKx.out)
 have n2_ := am (blk_drew BKr.out)
 clear HB BKx BKr
 revert n0_ n1_ n2_
 intro HB BKx BKr
 generalize w4.drew = w5 at HB BKx BKr hHeld ⊢
 refine pure_ (i := 1) (N := some 4) (v := ?_) (a' := ?_) (bb 20 2) rfl rfl (any_of HT_.out (by kernel_rfl)) (fun _ _ _ h => h) (Or.inl ⟨by rfl, ?_⟩) ?_ ?_
 rotate_left
 ·intro w'
  go_simp
  with_reducible rfl
 rotate_left
 ·simp only [ps]
  rfl
 refine pure_ (i := 4) (N := some 7) (v := ?_) (a' := ?_) (bb 20 18) rfl rfl (any_of HT_.out (by kernel_rfl)) (fun _ _ _ h => h) (Or.inl ⟨by rfl, ?_⟩) ?_ ?_
 rotate_left
 ·intro w'
  go_simp
  with_reducible rfl
 rotate_left
 ·simp only [ps]
  rfl
 refine pure_ (i := 7) (N := some 10) (v := ?_) (a' := ?_) (bb 20 146) rfl rfl (any_of HT_.out (by kernel_rfl)) (fun _ _ _ h => h) (Or.inl ⟨by rfl, ?_⟩) ?_ ?_
 rotate_left
 ·intro w'
  go_simp
  with_reducible rfl
 rotate_left
 ·simp only [ps]
  rfl
 refine pure_ (i := 11) (N := some 14) (v := ?_) (a' := ?_) (bb 20 2194) rfl rfl (any_of HT_.out (by kernel_rfl)) (fun _ _ _ h => h) (Or.inl ⟨by rfl, ?_⟩) ?_ ?_
 rotate_left
 ·intro w'
  go_simp
  with_reducible rfl
 rotate_left
 ·simp only [ps]
  rfl
 refine pure_ (i := 15) (N := some 18) (v := ?_) (a' := ?_) (bb 20 34962) rfl rfl (any_of HT_.out (by kernel_rfl)) (fun _ _ _ h => h) (Or.inl ⟨by rfl, ?_⟩) ?_ ?_
 rotate_left
 ·intro w'
  go_simp
  with_reducible rfl
 rotate_left
 ·simp only [ps]
  rfl
 refine take_ (i := 2) (N := some 5) (v := ?_) (a' := ?_) (bb 20 34966) rfl rfl (take_ofW HT_.out HW_.out (by kernel_rfl)) (fun _ _ _ h => h) (Or.inl ⟨by rfl, ?_⟩) hHeld ?_ ?_
 rotate_left
 ·intro w' hs
  have s0 := (blk_cell hs 0).trans rfl
  have s1 := (blk_cell hs 1).trans rfl
  have s2 := (blk_cell hs 2).trans rfl
  have s3 := (blk_cell hs 3).trans rfl
  have s4 := (blk_cell hs 4).trans rfl
  clear hs
  go_simp
  with_reducible rfl
 rotate_left
 ·simp only [ps]
  rfl
 refine take_ (i := 5) (N := some 8) (v := ?_) (a' := ?_) (bb 20 34998) rfl rfl (take_ofW HT_.out HW_.out (by kernel_rfl)) (fun _ _ _ h => h) (Or.inl ⟨by rfl, ?_⟩) hHeld ?_ ?_
 rotate_left
 ·intro w' hs
  have s0 := (blk_cell hs 0).trans rfl
  have s1 := (blk_cell hs 1).trans rfl
  have s2 := (blk_cell hs 2).trans rfl
  have s3 := (blk_cell hs 3).trans rfl
  have s4 := (blk_cell hs 4).trans rfl
  clear hs
  go_simp
  with_reducible rfl
 rotate_left
 ·simp only [ps]
  rfl
 refine take_ (i := 8) (N := some 11) (v := ?_) (a' := ?_) (bb 20 35254) rfl rfl (take_ofW HT_.out HW_.out (by kernel_rfl)) (fun _ _ _ h => h) (Or.inl ⟨by rfl, ?_⟩) hHeld ?_ ?_
 rotate_left
 ·intro w' hs
  have s0 := (blk_cell hs 0).trans rfl
  have s1 := (blk_cell hs 1).trans rfl
  have s2 := (blk_cell hs 2).trans rfl
  have s3 := (blk_cell hs 3).trans rfl
  have s4 := (blk_cell hs 4).trans rfl
  clear hs
  go_simp
  with_reducible rfl
 rotate_left
 ·simp only [ps]
  rfl
 refine take_ (i := 12) (N := some 15) (v := ?_) (a' := ?_) (bb 20 39350) rfl rfl (take_ofW HT_.out HW_.out (by kernel_rfl)) (fun _ _ _ h => h) (Or.inl ⟨by rfl, ?_⟩) hHeld ?_ ?_
 rotate_left
 ·intro w' hs
  have s0 := (blk_cell hs 0).trans rfl
  have s1 := (blk_cell hs 1).trans rfl
  have s2 := (blk_cell hs 2).trans rfl
  have s3 := (blk_cell hs 3).trans rfl
  have s4 := (blk_cell hs 4).trans rfl
  clear hs
  go_simp
  with_reducible rfl
 rotate_left
 ·simp only [ps]
  rfl
 refine take_ (i := 16) (N := some 19) (v := ?_) (a' := ?_) (bb 20 104886) rfl rfl (take_ofW HT_.out HW_.out (by kernel_rfl)) (fun _ _ _ h => h) (Or.inl ⟨by rfl, ?_⟩) hHeld ?_ ?_
 rotate_left
 ·intro w' hs
  have s0 := (blk_cell hs 0).trans rfl
  have s1 := (blk_cell hs 1).trans rfl
  have s2 := (blk_cell hs 2).trans rfl
  have s3 := (blk_cell hs 3).trans rfl
  have s4 := (blk_cell hs 4).trans rfl
  clear hs
  go_simp
  with_reducible rfl
 rotate_left
 ·simp only [ps]
  rfl
 refine anyLast_inv (CInv w gx gr #[.slice A0_0 l0_0.length c0_0, .int .i64 a0_1, .slice A0_2 l0_2.length c0_2, .slice A0_3 l0_3.length c0_3, .slice A0_4 l0_4.length c0_4] l0_0 l0_2 l0_3 l0_4 a0_1) ?step ?last _ _ _ _ (by decide) ?init
 case init =>
  refine ⟨rfl, ?_, ?_, rfl, rfl, HB.out, BKx.out, rfl, rfl, ⟨_, _, _, _, _, _, _, _, rfl, rfl, rfl, rfl, G0.out, G2.out, G3.out, G4.out⟩, fun _ => ⟨BKr.out, GEr.out, fun _ => 0, ?_, ?_, ?_, ?_⟩, fun h => absurd h (by decide), fun h => absurd h (by decide)⟩
  · rintro j (rfl | rfl | rfl | rfl | rfl | rfl | rfl | rfl | rfl | rfl) <;> rfl
  · intro A B hAB h1
    rcases hAB with ⟨rfl, rfl⟩ | ⟨rfl, rfl⟩ | ⟨rfl, rfl⟩ | ⟨rfl, rfl⟩ | ⟨rfl, rfl⟩ <;> exact absurd h1 (by decide)
  all_goals exact ⟨fun h => absurd h (by decide), fun h => absurd h (by decide)⟩
 case step =>
  intro l a w' i hI hr
  clear HB BKx BKr hHeld HT_ HW_
  obtain ⟨hi, hl, hn⟩ := ready_at hr
  have hcase : i = 0 ∨ i = 3 ∨ i = 6 ∨ i = 9 ∨ i = 10 ∨ i = 13 ∨ i = 14 ∨ i = 17 ∨ i = 18 ∨ i = 19 := by
   have h20 : i < 20 := hi
   have hno : ¬ (i = 1 ∨ i = 2 ∨ i = 4 ∨ i = 5 ∨ i = 7 ∨ i = 8 ∨ i = 11 ∨ i = 12 ∨ i = 15 ∨ i = 16) := fun h => by rw [hI.old i h] at hl; cases hl
   omega
  clear hi hr
  rcases hcase with rfl | rfl | rfl | rfl | rfl | rfl | rfl | rfl | rfl | rfl
  · refine op_now rfl (value_ (w1 := w'.alloc (.cells #[] 3)) (v := .slice (some ⟨w'.heap.size, 0, none⟩) 0 0) (by rfl) rfl (by go_simp; first | done | rfl | (constructor <;> rfl)) ⟨fun _ hS => blk_alloc hS _, ?_⟩)
    exact hI.build 0 3 (by omega) hl
  · have hB0 := hn _ rfl ⟨0, .data⟩ (by simp) rfl
    have h18 : l.getD 18 true = false := bfalse fun e => by
      obtain ⟨a3, a9, a13, a17, _⟩ := hI.told e
      first | (rw [a3] at hl; cases hl) | (rw [a9] at hl; cases hl) | (rw [a13] at hl; cases hl) | (rw [a17] at hl; cases hl)
    have h19 : l.getD 19 true = false := bfalse fun e => by rw [hI.ord 19 18 (by omega) e] at h18; cases h18
    obtain ⟨hr, hrb, f, r0, r1, r2, r3⟩ := hI.made h19
    obtain ⟨X0, z0, X1, z1, X2, z2, X3, z3, x0, x1, x2, x3, k0, k1, k2, k3⟩ := hI.rows
    have hHO := r0.1 hB0 hl
    have hHO2 := R_refun (f' := fun k => if w'.heap.size ≤ k then 0 else f k) hHO (fun _ _ _ => rfl) (fun k hk => if_neg (by omega))
    refine op_now rfl (Kd.R_append_rows_step (Kd.int .i64) (Rr := (Kd.int .i64).K w) (w0 := w) w.heap.size (by rfl) (.tmp 3) (.tmp 5) 22 3 (.int .i64 0) 8 rfl Try.underlying22 info3 rfl (by decide) (by decide) (a.eval (.tmp 3)) [] l0_0 X0 l0_0.length z0 (fun k => (if w'.heap.size ≤ k then 0 else f k) = 0) (fun _ => False) rfl x0 hHO2 (Kd.C_below k0 hI.bel) (fun _ _ h => h) (fun _ h => h.elim) (fun k hk => if_pos hk) hI.bel hI.bel.size (by have := HL.out.1; simp only [List.length_nil]; omega) ?_)
    intro v1 w1 ho hb hg hat
    have hv : ∀ k, (a.eval (.tmp 3)).ownBlock = some k → f k = 0 ∧ ∃ cells, w'.heap[k]? = some (.cells cells 3 (0, 0)) := fun k hk => ⟨hHO.1 k hk, Kd.R_typed hHO k hk⟩
    refine ⟨fun _ hS => blk_grown hS hg (fun e => by obtain ⟨_, cells, hc⟩ := hv gx e.symm; rw [hS] at hc; injection hc with hc; injection hc with _ hc; exact absurd hc (by decide)), ?_⟩
    exact hI.app 3 6 0 (by omega) hl (fun B hB => (show 0 = B by omega) ▸ hB0) h18 h19 hr hrb (f' := fun k => if w'.heap.size ≤ k then 0 else f k) (fun k hk => if_neg (by omega)) r0 r1 r2 r3 hv hb hg ho
  · refine op_now rfl (value_ (w1 := w'.alloc (.cells #[] 3)) (v := .slice (some ⟨w'.heap.size, 0, none⟩) 0 0) (by rfl) rfl (by go_simp; first | done | rfl | (constructor <;> rfl)) ⟨fun _ hS => blk_alloc hS _, ?_⟩)
    exact hI.build 6 9 (by omega) hl
  · have hB0 := hn _ rfl ⟨6, .data⟩ (by simp) rfl
    have h18 : l.getD 18 true = false := bfalse fun e => by
      obtain ⟨a3, a9, a13, a17, _⟩ := hI.told e
      first | (rw [a3] at hl; cases hl) | (rw [a9] at hl; cases hl) | (rw [a13] at hl; cases hl) | (rw [a17] at hl; cases hl)
    have h19 : l.getD 19 true = false := bfalse fun e => by rw [hI.ord 19 18 (by omega) e] at h18; cases h18
    obtain ⟨hr, hrb, f, r0, r1, r2, r3⟩ := hI.made h19
    obtain ⟨X0, z0, X1, z1, X2, z2, X3, z3, x0, x1, x2, x3, k0, k1, k2, k3⟩ := hI.rows
    have hHO := r1.1 hB0 hl
    have hHO2 := R_refun (f' := fun k => if w'.heap.size ≤ k then 1 else f k) hHO (fun _ _ _ => rfl) (fun k hk => if_neg (by omega))
    refine op_now rfl (Kd.R_append_rows_step (Kd.int .i64) (Rr := (Kd.int .i64).K w) (w0 := w) w.heap.size (by rfl) (.tmp 9) (.tmp 11) 22 3 (.int .i64 0) 8 rfl Try.underlying22 info3 rfl (by decide) (by decide) (a.eval (.tmp 9)) [] l0_2 X1 l0_2.length z1 (fun k => (if w'.heap.size ≤ k then 1 else f k) = 1) (fun _ => False) rfl x1 hHO2 (Kd.C_below k1 hI.bel) (fun _ _ h => h) (fun _ h => h.elim) (fun k hk => if_pos hk) hI.bel hI.bel.size (by have := HL.out.2.1; simp only [List.length_nil]; omega) ?_)
    intro v1 w1 ho hb hg hat
    have hv : ∀ k, (a.eval (.tmp 9)).ownBlock = some k → f k = 1 ∧ ∃ cells, w'.heap[k]? = some (.cells cells 3 (0, 0)) := fun k hk => ⟨hHO.1 k hk, Kd.R_typed hHO k hk⟩
    refine ⟨fun _ hS => blk_grown hS hg (fun e => by obtain ⟨_, cells, hc⟩ := hv gx e.symm; rw [hS] at hc; injection hc with hc; injection hc with _ hc; exact absurd hc (by decide)), ?_⟩
    exact hI.app 9 12 1 (by omega) hl (fun B hB => (show 6 = B by omega) ▸ hB0) h18 h19 hr hrb (f' := fun k => if w'.heap.size ≤ k then 1 else f k) (fun k hk => if_neg (by omega)) r0 r1 r2 r3 hv hb hg ho
  · refine op_now rfl (value_ (w1 := w'.alloc (.cells #[] 3)) (v := .slice (some ⟨w'.heap.size, 0, none⟩) 0 0) (by rfl) rfl (by go_simp; first | done | rfl | (constructor <;> rfl)) ⟨fun _ hS => blk_alloc hS _, ?_⟩)
    exact hI.build 10 13 (by omega) hl
  · have hB0 := hn _ rfl ⟨10, .data⟩ (by simp) rfl
    have h18 : l.getD 18 true = false := bfalse fun e => by
      obtain ⟨a3, a9, a13, a17, _⟩ := hI.told e
      first | (rw [a3] at hl; cases hl) | (rw [a9] at hl; cases hl) | (rw [a13] at hl; cases hl) | (rw [a17] at hl; cases hl)
    have h19 : l.getD 19 true = false := bfalse fun e => by rw [hI.ord 19 18 (by omega) e] at h18; cases h18
    obtain ⟨hr, hrb, f, r0, r1, r2, r3⟩ := hI.made h19
    obtain ⟨X0, z0, X1, z1, X2, z2, X3, z3, x0, x1, x2, x3, k0, k1, k2, k3⟩ := hI.rows
    have hHO := r2.1 hB0 hl
    have hHO2 := R_refun (f' := fun k => if w'.heap.size ≤ k then 2 else f k) hHO (fun _ _ _ => rfl) (fun k hk => if_neg (by omega))
    refine op_now rfl (Kd.R_append_rows_step (Kd.int .i64) (Rr := (Kd.int .i64).K w) (w0 := w) w.heap.size (by rfl) (.tmp 13) (.tmp 15) 22 3 (.int .i64 0) 8 rfl Try.underlying22 info3 rfl (by decide) (by decide) (a.eval (.tmp 13)) [] l0_3 X2 l0_3.length z2 (fun k => (if w'.heap.size ≤ k then 2 else f k) = 2) (fun _ => False) rfl x2 hHO2 (Kd.C_below k2 hI.bel) (fun _ _ h => h) (fun _ h => h.elim) (fun k hk => if_pos hk) hI.bel hI.bel.size (by have := HL.out.2.2.1; simp only [List.length_nil]; omega) ?_)
    intro v1 w1 ho hb hg hat
    have hv : ∀ k, (a.eval (.tmp 13)).ownBlock = some k → f k = 2 ∧ ∃ cells, w'.heap[k]? = some (.cells cells 3 (0, 0)) := fun k hk => ⟨hHO.1 k hk, Kd.R_typed hHO k hk⟩
    refine ⟨fun _ hS => blk_grown hS hg (fun e => by obtain ⟨_, cells, hc⟩ := hv gx e.symm; rw [hS] at hc; injection hc with hc; injection hc with _ hc; exact absurd hc (by decide)), ?_⟩
    exact hI.app 13 16 2 (by omega) hl (fun B hB => (show 10 = B by omega) ▸ hB0) h18 h19 hr hrb (f' := fun k => if w'.heap.size ≤ k then 2 else f k) (fun k hk => if_neg (by omega)) r0 r1 r2 r3 hv hb hg ho
  · refine op_now rfl (value_ (w1 := w'.alloc (.cells #[] 3)) (v := .slice (some ⟨w'.heap.size, 0, none⟩) 0 0) (by rfl) rfl (by go_simp; first | done | rfl | (constructor <;> rfl)) ⟨fun _ hS => blk_alloc hS _, ?_⟩)
    exact hI.build 14 17 (by omega) hl
  · have hB0 := hn _ rfl ⟨14, .data⟩ (by simp) rfl
    have h18 : l.getD 18 true = false := bfalse fun e => by
      obtain ⟨a3, a9, a13, a17, _⟩ := hI.told e
      first | (rw [a3] at hl; cases hl) | (rw [a9] at hl; cases hl) | (rw [a13] at hl; cases hl) | (rw [a17] at hl; cases hl)
    have h19 : l.getD 19 true = false := bfalse fun e => by rw [hI.ord 19 18 (by omega) e] at h18; cases h18
    obtain ⟨hr, hrb, f, r0, r1, r2, r3⟩ := hI.made h19
    obtain ⟨X0, z0, X1, z1, X2, z2, X3, z3, x0, x1, x2, x3, k0, k1, k2, k3⟩ := hI.rows
    have hHO := r3.1 hB0 hl
    have hHO2 := R_refun (f' := fun k => if w'.heap.size ≤ k then 3 else f k) hHO (fun _ _ _ => rfl) (fun k hk => if_neg (by omega))
    refine op_now rfl (Kd.R_append_rows_step (Kd.int .i64) (Rr := (Kd.int .i64).K w) (w0 := w) w.heap.size (by rfl) (.tmp 17) (.tmp 19) 22 3 (.int .i64 0) 8 rfl Try.underlying22 info3 rfl (by decide) (by decide) (a.eval (.tmp 17)) [] l0_4 X3 l0_4.length z3 (fun k => (if w'.heap.size ≤ k then 3 else f k) = 3) (fun _ => False) rfl x3 hHO2 (Kd.C_below k3 hI.bel) (fun _ _ h => h) (fun _ h => h.elim) (fun k hk => if_pos hk) hI.bel hI.bel.size (by have := HL.out.2.2.2; simp only [List.length_nil]; omega) ?_)
    intro v1 w1 ho hb hg hat
    have hv : ∀ k, (a.eval (.tmp 17)).ownBlock = some k → f k = 3 ∧ ∃ cells, w'.heap[k]? = some (.cells cells 3 (0, 0)) := fun k hk => ⟨hHO.1 k hk, Kd.R_typed hHO k hk⟩
    refine ⟨fun _ hS => blk_grown hS hg (fun e => by obtain ⟨_, cells, hc⟩ := hv gx e.symm; rw [hS] at hc; injection hc with hc; injection hc with _ hc; exact absurd hc (by decide)), ?_⟩
    exact hI.app 17 20 3 (by omega) hl (fun B hB => (show 14 = B by omega) ▸ hB0) h18 h19 hr hrb (f' := fun k => if w'.heap.size ≤ k then 3 else f k) (fun k hk => if_neg (by omega)) r0 r1 r2 r3 hv hb hg ho
  · have a3 := hn _ rfl ⟨3, .data⟩ (by simp) rfl
    have a9 := hn _ rfl ⟨9, .data⟩ (by simp) rfl
    have a13 := hn _ rfl ⟨13, .data⟩ (by simp) rfl
    have a17 := hn _ rfl ⟨17, .data⟩ (by simp) rfl
    have h19 : l.getD 19 true = false := bfalse fun e => by rw [hI.ord 19 18 (by omega) e] at hl; cases hl
    obtain ⟨hr, hrb, f, r0, r1, r2, r3⟩ := hI.made h19
    obtain ⟨B0, b0, e0⟩ := Kd.R_slice (r0.2 a3)
    obtain ⟨B2, b2, e2⟩ := Kd.R_slice (r1.2 a9)
    obtain ⟨B3, b3, e3⟩ := Kd.R_slice (r2.2 a13)
    obtain ⟨B4, b4, e4⟩ := Kd.R_slice (r3.2 a17)
    have t8 : a.tmps[8]?.getD undef = .int .i64 a0_1 := by simpa [Act.eval] using hI.e8
    have t6 : a.tmps[6]?.getD undef = .slice B0 l0_0.length b0 := by simpa [Act.eval] using e0
    have t12 : a.tmps[12]?.getD undef = .slice B2 l0_2.length b2 := by simpa [Act.eval] using e2
    have t16 : a.tmps[16]?.getD undef = .slice B3 l0_3.length b3 := by simpa [Act.eval] using e3
    have t20 : a.tmps[20]?.getD undef = .slice B4 l0_4.length b4 := by simpa [Act.eval] using e4
    refine op_now rfl (value_ (w1 := w') (v := .agg #[a.eval (.tmp 6), .int .i64 a0_1, a.eval (.tmp 12), a.eval (.tmp 16), a.eval (.tmp 20)]) (by rfl) rfl (by go_simp; first | done | rfl | trace_state) ⟨fun _ hS => hS, ?_⟩)
    exact hI.tell hl h19 a3 a9 a13 a17
  · have a18 := hn _ rfl ⟨18, .data⟩ (by simp) rfl
    obtain ⟨hr, hrb, f, r0, r1, r2, r3⟩ := hI.made hl
    obtain ⟨a3, a9, a13, a17, e21⟩ := hI.told a18
    obtain ⟨B0, b0, e0⟩ := Kd.R_slice (r0.2 a3)
    obtain ⟨B2, b2, e2⟩ := Kd.R_slice (r1.2 a9)
    obtain ⟨B3, b3, e3⟩ := Kd.R_slice (r2.2 a13)
    obtain ⟨B4, b4, e4⟩ := Kd.R_slice (r3.2 a17)
    rw [e0, e2, e3, e4] at e21
    have t2 : a.tmps[2]?.getD undef = .pointer (some ⟨gr, 0, none⟩) := by simpa [Act.eval] using hI.e2
    have t21 : a.tmps[21]?.getD undef = .agg #[.slice B0 l0_0.length b0, .int .i64 a0_1, .slice B2 l0_2.length b2, .slice B3 l0_3.length b3, .slice B4 l0_4.length b4] := by simpa [Act.eval] using e21
    have z0 := (blk_cell hr 0).trans rfl
    have z1 := (blk_cell hr 1).trans rfl
    have z2 := (blk_cell hr 2).trans rfl
    have z3 := (blk_cell hr 3).trans rfl
    have z4 := (blk_cell hr 4).trans rfl
    have f0 := blk_frozen hr 0
    have f1 := blk_frozen hr 1
    have f2 := blk_frozen hr 2
    have f3 := blk_frozen hr 3
    have f4 := blk_frozen hr 4
    refine op_now rfl (skip_ (w1 := w'.setCells gr 0 [.slice B0 l0_0.length b0, .int .i64 a0_1, .slice B2 l0_2.length b2, .slice B3 l0_3.length b3, .slice B4 l0_4.length b4]) (by rfl) rfl (by go_simp; rfl) ⟨fun hd => absurd (by simp) hd, ?_⟩)
    rw [e0] at r0
    rw [e2] at r1
    rw [e3] at r2
    rw [e4] at r3
    exact hI.store hl hr hrb a18 (r0.2 a3) (r1.2 a9) (r2.2 a13) (r3.2 a17) NExr.out
 case last =>
  intro l a w' hI hr
  clear HB BKx BKr hHeld HT_ HW_
  have hall := none_left (by exact hI.sz) (low_of (by kernel_rfl)) hr
  obtain ⟨v0, v1, v2, v3, f, hb, x0, x1, x2, x3⟩ := hI.fin (hall 19 (by decide))
  have he2 := hI.e2
  have hdf := hI.dfr
  go_wp2
  refine bodyPost_ret (results_cell_row rfl _ _ gr 41 #[v0, .int .i64 a0_1, v1, v2, v3] (0, 0) _ he2 hb Try.underlying41 rfl (by kernel_rfl)) hdf ?_
  exact ⟨v0, v1, v2, v3, rfl, Kd.R_mono x0 (fun k hk => ⟨fun e => by have := x1.1 k e.symm; omega, fun e => by have := x2.1 k e.symm; omega, fun e => by have := x3.1 k e.symm; omega⟩),
    Kd.R_mono x1 (fun k hk => ⟨fun e => by have := x0.1 k e.symm; omega, fun e => by have := x2.1 k e.symm; omega, fun e => by have := x3.1 k e.symm; omega⟩),
    Kd.R_mono x2 (fun k hk => ⟨fun e => by have := x0.1 k e.symm; omega, fun e => by have := x1.1 k e.symm; omega, fun e => by have := x3.1 k e.symm; omega⟩),
    Kd.R_mono x3 (fun k hk => ⟨fun e => by have := x0.1 k e.symm; omega, fun e => by have := x1.1 k e.symm; omega, fun e => by have := x2.1 k e.symm; omega⟩), hI.bel⟩
end Go.Proofs.Ytmnepkbmcnpjlaa.Q
namespace Go.Proofs.Ytmnepkbmcnpjlaa.Q
open Go.RowKit Go.Proofs.YtmnepkbmcnpjlaaW.PrintWords Go.Proofs.YtmnepkbmcnpjlaaW.PrintLast Go.Proofs.YtmnepkbmcnpjlaaW.PrintMore
attribute [local go_sem] max2_int min2_int max_two min_two max_three min_three max_four min_four
set_option linter.unusedVariables false
set_option linter.unusedSimpArgs false
mutual
def hypercuberef2_Put.j1 : Nat → List (S41) → Int → List Int → Int → List Int → List Int → List Int → Option ((List (S41)))
 | 0, _, _, _, _, _, _, _ => none
 | k + 1, x0, x5, x325000, x325001, x325002, x325003, x325004 => if x5 < (x0.length : Int) then (if 0 ≤ x5 then ((hypercuberef2_Less.f k ((rd_T41 x0 x5).f0) x325000).bind fun t328 => (hypercuberef2_Put.j2 k x0 x5 (t328 == 0) x325000 x325001 x325002 x325003 x325004)) else (none)) else (hypercuberef2_Put.j2 k x0 x5 false x325000 x325001 x325002 x325003 x325004)
def hypercuberef2_Put.j2 : Nat → List (S41) → Int → Bool → List Int → Int → List Int → List Int → List Int → Option ((List (S41)))
 | 0, _, _, _, _, _, _, _, _ => none
 | k + 1, x0, x5, x38, x325000, x325001, x325002, x325003, x325004 => if x38 = true then ((some (([] : List (S41)) : List (S41))).bind fun y329 => (if y329.length + x0.length < 1353245080339 then ((some (y329 ++ x0 : List (S41))).bind fun y332 => (if 0 ≤ x5 then (if x5 < (x0.length : Int) then ((hypercuberef2_Join.f k ((rd_T41 x0 x5).f0) ((rd_T41 x0 x5).f1) ((rd_T41 x0 x5).f2) ((rd_T41 x0 x5).f3) ((rd_T41 x0 x5).f4) x325000 x325001 x325002 x325003 x325004).bind fun bt336 => (if x5 < (y332.length : Int) then (some (y332.set (x5 : Int).toNat (⟨bt336.1, bt336.2.1, bt336.2.2.1, bt336.2.2.2.1, bt336.2.2.2.2⟩ : S41))) else (none))) else (none)) else (none))) else (none))) else ((some (([] : List (S41)) : List (S41))).bind fun y350 => (if 0 ≤ x5 then (if x5 ≤ (x0.length : Int) then ((some (x0.take (x5 : Int).toNat : List (S41))).bind fun y353 => (if y350.length + y353.length < 1353245080339 then ((some (y350 ++ y353 : List (S41))).bind fun y358 => ((hypercuberef2_Copy.f x325000 x325001 x325002 x325003 x325004).bind fun bt361 => (if y358.length < 1353245080339 then ((some (y358 ++ [(⟨bt361.1, bt361.2.1, bt361.2.2.1, bt361.2.2.2.1, bt361.2.2.2.2⟩ : S41)] : List (S41))).bind fun y374 => ((some (x0.drop (x5 : Int).toNat : List (S41))).bind fun y377 => (if y374.length + y377.length < 1353245080339 then (some (y374 ++ y377)) else (none)))) else (none)))) else (none))) else (none)) else (none)))
def hypercuberef2_Put.l0 : Nat → List (S41) → Int → List Int → Int → List Int → List Int → List Int → Option ((List (S41)))
 | 0, _, _, _, _, _, _, _ => none
 | k + 1, x0, x5, x325000, x325001, x325002, x325003, x325004 => if x5 < (x0.length : Int) then (if 0 ≤ x5 then ((hypercuberef2_Less.f k ((rd_T41 x0 x5).f0) x325000).bind fun t326 => (if t326 < 0 then (hypercuberef2_Put.l0 k x0 (wrap64 (x5 + 1)) x325000 x325001 x325002 x325003 x325004) else (hypercuberef2_Put.j1 k x0 x5 x325000 x325001 x325002 x325003 x325004))) else (none)) else (hypercuberef2_Put.j1 k x0 x5 x325000 x325001 x325002 x325003 x325004)
end
def hypercuberef2_Put.f (k : Nat) (l0 : List (S41)) (l1_0 : List Int) (a1_1 : Int) (l1_2 : List Int) (l1_3 : List Int) (l1_4 : List Int) : Option ((List (S41))) := hypercuberef2_Put.l0 k l0 0 l1_0 a1_1 l1_2 l1_3 l1_4
def hypercuberef2_Put.T2 : Bool × List (List Nat × List Nat) := (true, [([], []), ([], []), ([1], [1]), ([0, 2], [0, 2]), ([3], [3]), ([4], [4]), ([4], [4]), ([5, 6, 4], [4, 5, 6]), ([7, 4], [4, 7]), ([8, 4], [4, 8]), ([4], [4]), ([10, 4], [4, 10]), ([9, 11, 4, 4], [4, 9, 11]), ([12, 4], [4, 12]), ([4, 13], [4, 13])])
def hypercuberef2_Put.B2 : List Nat := [0, 0, 2, 7, 15, 31, 31, 127, 255, 511, 31, 1055, 4095, 8191, 16383]
theorem hypercuberef2_Put.tab2 : rtab .any (opsOf Try.f32 2) = hypercuberef2_Put.T2 := by kernel_rfl
theorem hypercuberef2_Put.bits2 : waitsOk hypercuberef2_Put.T2.2 hypercuberef2_Put.B2 = true := by kernel_rfl
def hypercuberef2_Put.T4 : Bool × List (List Nat × List Nat) := (true, [([], []), ([], []), ([1], [1]), ([0, 2], [0, 2]), ([3], [3]), ([4], [4]), ([4], [4]), ([5, 6, 4], [4, 5, 6]), ([7, 4], [4, 7]), ([8, 4], [4, 8]), ([4], [4]), ([10, 4], [4, 10]), ([9, 11, 4, 4], [4, 9, 11]), ([12, 4], [4, 12]), ([4, 13], [4, 13])])
def hypercuberef2_Put.B4 : List Nat := [0, 0, 2, 7, 15, 31, 31, 127, 255, 511, 31, 1055, 4095, 8191, 16383]
theorem hypercuberef2_Put.tab4 : rtab .any (opsOf Try.f32 4) = hypercuberef2_Put.T4 := by kernel_rfl
theorem hypercuberef2_Put.bits4 : waitsOk hypercuberef2_Put.T4.2 hypercuberef2_Put.B4 = true := by kernel_rfl
def hypercuberef2_Put.T6 : Bool × List (List Nat × List Nat) := (true, [([], []), ([], []), ([], []), ([], []), ([2, 3], [2, 3]), ([4], [4]), ([], []), ([5, 6], [5, 6]), ([0, 1, 0, 1, 2, 3, 4, 5, 6, 7], [0, 1]), ([8, 7, 7, 0, 1, 2, 3, 4, 5, 6, 7], [7, 8])])
def hypercuberef2_Put.B6 : List Nat := [0, 0, 0, 0, 12, 28, 0, 124, 255, 511]
theorem hypercuberef2_Put.tab6 : rtab .any (opsOf Try.f32 6) = hypercuberef2_Put.T6 := by kernel_rfl
theorem hypercuberef2_Put.bits6 : waitsOk hypercuberef2_Put.T6.2 hypercuberef2_Put.B6 = true := by kernel_rfl
def hypercuberef2_Put.T8 : Bool × List (List Nat × List Nat) := (true, [([], []), ([], []), ([], []), ([1, 2], [1, 2]), ([0, 3], [0, 3]), ([], []), ([5, 4], [5]), ([6], [6]), ([4, 7, 6], [4, 7]), ([], []), ([], []), ([9, 10], [9, 10]), ([8, 11, 8], [8, 11]), ([12, 12, 0, 1, 2, 3, 4, 5, 6, 7, 8, 9, 10, 11, 12], [12])])
def hypercuberef2_Put.B8 : List Nat := [0, 0, 0, 6, 15, 0, 63, 127, 255, 0, 0, 1536, 4095, 8191]
theorem hypercuberef2_Put.tab8 : rtab .any (opsOf Try.f32 8) = hypercuberef2_Put.T8 := by kernel_rfl
theorem hypercuberef2_Put.bits8 : waitsOk hypercuberef2_Put.T8.2 hypercuberef2_Put.B8 = true := by kernel_rfl
set_option maxHeartbeats 8000000 in
set_option maxRecDepth 100000 in
theorem hypercuberef2_Put.calls (k : Nat) (P0_ : Nat → Prop) (A0 : Option Addr) (c0 : Nat) (l0 : List (S41)) (A1_0 : Option Addr) (c1_0 : Nat) (l1_0 : List Int) (a1_1 : Int) (A1_2 : Option Addr) (c1_2 : Nat) (l1_2 : List Int) (A1_3 : Option Addr) (c1_3 : Nat) (l1_3 : List Int) (A1_4 : Option Addr) (c1_4 : Nat) (l1_4 : List Int) (r : List (S41)) (w : World) (hs0 : Kd.V k41 41 w w.heap.size (fun k_ => P0_ k_) (.slice A0 l0.length c0) l0) (hr1_0 : Kd.C (Kd.int .i64) w A1_0 l1_0.length l1_0) (hc1_0 : l1_0.length ≤ c1_0) (hr1_2 : Kd.C (Kd.int .i64) w A1_2 l1_2.length l1_2) (hc1_2 : l1_2.length ≤ c1_2) (hr1_3 : Kd.C (Kd.int .i64) w A1_3 l1_3.length l1_3) (hc1_3 : l1_3.length ≤ c1_3) (hr1_4 : Kd.C (Kd.int .i64) w A1_4 l1_4.length l1_4) (hc1_4 : l1_4.length ≤ c1_4) (h : hypercuberef2_Put.f k l0 l1_0 a1_1 l1_2 l1_3 l1_4 = some r) :
  Calls Try.prog 32 #[.slice A0 l0.length c0, .agg #[.slice A1_0 l1_0.length c1_0, .int .i64 a1_1, .slice A1_2 l1_2.length c1_2, .slice A1_3 l1_3.length c1_3, .slice A1_4 l1_4.length c1_4]] w fun e w' => ∃ v0_ : Value, e = .returned (v0_) ∧ Kd.N k41 41 w' w.heap.size (fun k_ => (P0_ k_ ∨ w.heap.size ≤ k_)) v0_ r ∧ Below w.heap.size w w' := by
 have hu41 := Try.underlying41
 have HO0 := am (show Kd.V k41 41 w w.heap.size (fun k_ => (P0_ k_ ∨ w.heap.size ≤ k_)) (.slice A0 l0.length c0) l0 from Kd.V_mono hs0 (fun k_ hk => .inl hk))
 have HR1_0 := am hr1_0
 have HC1_0 := am hc1_0
 clear hr1_0 hc1_0
 have HR1_2 := am hr1_2
 have HC1_2 := am hc1_2
 clear hr1_2 hc1_2
 have HR1_3 := am hr1_3
 have HC1_3 := am hc1_3
 clear hr1_3 hc1_3
 have HR1_4 := am hr1_4
 have HC1_4 := am hc1_4
 clear hr1_4 hc1_4
 have HB := am (Below.refl w.heap.size w)
 have H : (hypercuberef2_Put.l0 k l0 0 l1_0 a1_1 l1_2 l1_3 l1_4) = some r := h
 clear h
 have HC3 := am H
 clear H
 go_enter Try.func32, Try.ntmps32
 go_upto_block 0 with (first | ((with_reducible refine gate_dst (N := 3) rfl ?_); refine box_event ?hg (N := 3) ?hd (cs := #[.slice A1_0 l1_0.length c1_0, .int .i64 a1_1, .slice A1_2 l1_2.length c1_2, .slice A1_3 l1_3.length c1_3, .slice A1_4 l1_4.length c1_4]) (t := 41) ?hr ?_; (case hd => rfl); (case hg => rfl); (case hr => first | (go_simp; done) | (go_simp; rfl)); intro gb324 hg w4 hbox hb; have n0_ := am (Kd.V_below (Kd.V_elderB (Kd.V_mv HO0.out) gb324 (Nat.le_of_eq hg.symm)) hb); have n1_ := am (below_step (wmv HB.out) hb); have n2_ := am (hbox); have n3_ := am ((by rw [hg]; exact (below_size (wmv HB.out)) : w.heap.size ≤ gb324)); have n4_ := am ((by rw [hg]; exact (below_size (wmv HB.out)) : w.heap.size ≤ gb324)); clear HO0 HB; revert n0_ n1_ n2_ n3_ n4_; intro HO0 HB BK324 GW324 GE324; clear hb hbox hg))
 (try simp only [Act.put, List.setIfInBounds_toArray, List.set_cons_zero, List.set_cons_succ])
 go_cut [5] (fun v5 wc => ∃ (kq : Nat) (x5_2 : Int), v5 = .int .i64 x5_2 ∧ Aside0 (hypercuberef2_Put.j1 kq l0 x5_2 l1_0 a1_1 l1_2 l1_3 l1_4 = some r) ∧ Aside0 (kq ≤ k) ∧ Aside0 (Kd.V k41 41 wc w.heap.size (fun k_ => (P0_ k_ ∨ w.heap.size ≤ k_) ∧ k_ ≠ gb324) (.slice A0 l0.length c0) l0) ∧ Aside0 (wc.heap[gb324]? = some (.cells #[(.slice A1_0 l1_0.length c1_0), .int .i64 a1_1, (.slice A1_2 l1_2.length c1_2), (.slice A1_3 l1_3.length c1_3), (.slice A1_4 l1_4.length c1_4)] 41 (0, 0))) ∧ Aside0 (Below w.heap.size w wc))
 case first =>
  have H := HC3.out
  clear HC3
  have H' := am H
  clear H
  go_wp2
  go_loopg [5] k (fun kq v5 w' => ∃ (x5_1 : Int), v5 = .int .i64 x5_1 ∧ Aside0 (hypercuberef2_Put.l0 kq l0 x5_1 l1_0 a1_1 l1_2 l1_3 l1_4 = some r) ∧ Aside0 (kq ≤ k) ∧ Aside0 (Kd.V k41 41 w' w.heap.size (fun k_ => (P0_ k_ ∨ w.heap.size ≤ k_) ∧ k_ ≠ gb324) (.slice A0 l0.length c0) l0) ∧ Aside0 (w'.heap[gb324]? = some (.cells #[(.slice A1_0 l1_0.length c1_0), .int .i64 a1_1, (.slice A1_2 l1_2.length c1_2), (.slice A1_3 l1_3.length c1_3), (.slice A1_4 l1_4.length c1_4)] 41 (0, 0))) ∧ Aside0 (Below w.heap.size w w'))
  case atStart => exact ⟨(0), (by first | rfl | (simp; done) | (simp [*]; done)), H', ⟨Nat.le_refl _⟩, ⟨by (with_reducible repeat (first | apply Kd.V_alloc | apply Kd.V_drewN | apply Kd.V_drew)); exact HO0.out⟩, ⟨by (with_reducible repeat (first | refine blk_drewN ?_ _ | refine blk_drew ?_ | refine blk_alloc ?_ _)); exact BK324.out⟩, ⟨by repeat (first | (with_reducible first | exact HB.out | apply below_alloc | apply pw_below_drewN | apply below_drew1 | refine below_set ?_ GE324.out) | exact HB.out)⟩⟩
  case round =>
   clear H'
   try clear c1
   try clear p2
   try clear c3
   obtain ⟨x5_1, rfl, HA, HK1, HO_0, BK324, HB⟩ := hrel
   cases gk with
   | zero => exact absurd HA.out (by simp [hypercuberef2_Put.l0])
   | succ k1 =>
    have H := HA.out
    clear HA
    simp only [hypercuberef2_Put.l0] at H
    by_cases c5 : x5_1 < (l0.length : Int)
    ·rw [if_pos c5] at H
     have c5b0 : decide (x5_1 < (l0.length : Int)) = true := decide_eq_true c5
     clear c5
     (first | rw [c5b0] | (simp only [i64_w, i32_w]; rw [c5b0]) | skip)
     by_cases c6 : 0 ≤ x5_1
     ·rw [if_pos c6] at H
      have c6b0 : decide (0 ≤ x5_1) = true := decide_eq_true c6
      clear c6
      replace H := Option.bind_eq_some_iff.mp H
      obtain ⟨t326, A70, H⟩ := H
      replace H : (if t326 < 0 then (hypercuberef2_Put.l0 k1 l0 (wrap64 (x5_1 + 1)) l1_0 a1_1 l1_2 l1_3 l1_4) else (hypercuberef2_Put.j1 k1 l0 x5_1 l1_0 a1_1 l1_2 l1_3 l1_4)) = some r := H
      have A7 := am A70
      clear A70
      by_cases c8 : t326 < 0
      ·rw [if_pos c8] at H
       have c8b0 : decide (t326 < 0) = true := decide_eq_true c8
       clear c8
       have H' := am H
       clear H
       try go_wp2
       have n0_ := am (Kd.V_drew HO_0.out)
       have n1_ := am (blk_drew BK324.out)
       have n2_ := am (below_drew1 HB.out)
       clear HO_0 BK324 HB
       revert n0_ n1_ n2_
       intro HO_0 BK324 HB
       have p325 : 0 ≤ (x5_1 : Int) := of_decide_eq_true (by first | (with_reducible assumption) | assumption)
       have q325 : x5_1 < (l0.length : Int) := of_decide_eq_true (by first | (with_reducible assumption) | assumption)
       obtain ⟨ad325, A325_0, c325_0, A325_2, c325_2, A325_3, c325_3, A325_4, c325_4, e325, hx325_0, hx325_1, hx325_2, hx325_3, hx325_4, hl325_0, hi325_0, hl325_2, hi325_2, hl325_3, hi325_3, hl325_4, hi325_4⟩ := at_T41 (Kd.V_reads' HO_0.out).2.2 x5_1 p325 q325
       cases e325
       obtain ⟨ce325, hce325, hMe325, hcc325⟩ := Kd.V_get HO_0.out z41 x5_1 p325 (by first | exact q325 | exact of_decide_eq_true (by first | (with_reducible assumption) | assumption) | (have e_ := (Kd.V_reads' HO_0.out).1; omega))
       obtain ⟨ua325_0, uc325_0, ua325_2, uc325_2, ua325_3, uc325_3, ua325_4, uc325_4, rfl, ul325_0, ge325_0, ul325_2, ge325_2, ul325_3, ge325_3, ul325_4, ge325_4⟩ := k41_openF hMe325
       have hv325_0 := hcc325 0 _ rfl
       rw [Nat.add_zero] at hv325_0
       replace hv325_0 := Option.some.inj (hv325_0.symm.trans hx325_0)
       injection hv325_0 with hva_ hvn_ hvc_
       rw [hva_] at ge325_0
       rw [hvc_] at ul325_0
       have HL325_0 := am (show Kd.V (Kd.int .i64) 3 _ w.heap.size _ _ ((rd_T41 l0 x5_1).f0) from Kd.V_mk ul325_0 ge325_0)
       clear hva_ hvn_ hvc_ ge325_0 ul325_0
       have hv325_2 := hcc325 2 _ rfl
       rw [add_field _ _ 2 (by omega)] at hv325_2
       replace hv325_2 := Option.some.inj (hv325_2.symm.trans hx325_2)
       injection hv325_2 with hva_ hvn_ hvc_
       rw [hva_] at ge325_2
       rw [hvc_] at ul325_2
       have HL325_2 := am (show Kd.V (Kd.int .i64) 3 _ w.heap.size _ _ ((rd_T41 l0 x5_1).f2) from Kd.V_mk ul325_2 ge325_2)
       clear hva_ hvn_ hvc_ ge325_2 ul325_2
       have hv325_3 := hcc325 3 _ rfl
       rw [add_field _ _ 3 (by omega)] at hv325_3
       replace hv325_3 := Option.some.inj (hv325_3.symm.trans hx325_3)
       injection hv325_3 with hva_ hvn_ hvc_
       rw [hva_] at ge325_3
       rw [hvc_] at ul325_3
       have HL325_3 := am (show Kd.V (Kd.int .i64) 3 _ w.heap.size _ _ ((rd_T41 l0 x5_1).f3) from Kd.V_mk ul325_3 ge325_3)
       clear hva_ hvn_ hvc_ ge325_3 ul325_3
       have hv325_4 := hcc325 4 _ rfl
       rw [add_field _ _ 4 (by omega)] at hv325_4
       replace hv325_4 := Option.some.inj (hv325_4.symm.trans hx325_4)
       injection hv325_4 with hva_ hvn_ hvc_
       rw [hva_] at ge325_4
       rw [hvc_] at ul325_4
       have HL325_4 := am (show Kd.V (Kd.int .i64) 3 _ w.heap.size _ _ ((rd_T41 l0 x5_1).f4) from Kd.V_mk ul325_4 ge325_4)
       clear hva_ hvn_ hvc_ ge325_4 ul325_4
       clear hcc325 hce325
       have HR325_0 := am hi325_0
       have HC325_0 := am hl325_0
       clear hi325_0 hl325_0
       have HR325_2 := am hi325_2
       have HC325_2 := am hl325_2
       clear hi325_2 hl325_2
       have HR325_3 := am hi325_3
       have HC325_3 := am hl325_3
       clear hi325_3 hl325_3
       have HR325_4 := am hi325_4
       have HC325_4 := am hl325_4
       clear hi325_4 hl325_4
       replace p325 := eq_true p325
       replace q325 := eq_true q325
       refine start_ (n := 15) (S := fun w' => w'.cell? ⟨gb324, 0, none⟩ = some (.slice A1_0 l1_0.length c1_0) ∧ w'.cell? ⟨gb324, 1, none⟩ = some (.int .i64 a1_1) ∧ w'.cell? ⟨gb324, 2, none⟩ = some (.slice A1_2 l1_2.length c1_2) ∧ w'.cell? ⟨gb324, 3, none⟩ = some (.slice A1_3 l1_3.length c1_3) ∧ w'.cell? ⟨gb324, 4, none⟩ = some (.slice A1_4 l1_4.length c1_4) ∧ w'.cell? (ad325.add ((x5_1).toNat * 5)) = some (.slice A325_0 ((rd_T41 l0 x5_1).f0).length c325_0) ∧ w'.cell? ⟨(ad325.add ((x5_1).toNat * 5)).block, (ad325.add ((x5_1).toNat * 5)).off + 1, none⟩ = some (.int .i64 ((rd_T41 l0 x5_1).f1)) ∧ w'.cell? ⟨(ad325.add ((x5_1).toNat * 5)).block, (ad325.add ((x5_1).toNat * 5)).off + 2, none⟩ = some (.slice A325_2 ((rd_T41 l0 x5_1).f2).length c325_2) ∧ w'.cell? ⟨(ad325.add ((x5_1).toNat * 5)).block, (ad325.add ((x5_1).toNat * 5)).off + 3, none⟩ = some (.slice A325_3 ((rd_T41 l0 x5_1).f3).length c325_3) ∧ w'.cell? ⟨(ad325.add ((x5_1).toNat * 5)).block, (ad325.add ((x5_1).toNat * 5)).off + 4, none⟩ = some (.slice A325_4 ((rd_T41 l0 x5_1).f4).length c325_4)) (ds := []) (bb 15 0) (by kernel_rfl) rfl rfl ⟨(blk_cell BK324.out 0).trans rfl, (blk_cell BK324.out 1).trans rfl, (blk_cell BK324.out 2).trans rfl, (blk_cell BK324.out 3).trans rfl, (blk_cell BK324.out 4).trans rfl, hx325_0, hx325_1, hx325_2, hx325_3, hx325_4⟩ (fun hHeld => ?_); refine with_tabW hypercuberef2_Put.tab2 hypercuberef2_Put.bits2 (fun HT_ HW_ => ?_)
       generalize wr.drew = w9 at HO_0 BK324 HB HL325_0 HL325_2 HL325_3 HL325_4 HR325_0 HR325_2 HR325_3 HR325_4 hx325_0 hx325_1 hx325_2 hx325_3 hx325_4 hHeld ⊢
       refine pure_ (i := 0) (N := some 7) (v := ?_) (a' := ?_) (bb 15 1) rfl rfl (any_of HT_.out (by kernel_rfl)) (fun _ _ _ h => h) (Or.inl ⟨by rfl, ?_⟩) ?_ ?_
       rotate_left
       ·intro w'
        go_simp
        with_reducible rfl
       rotate_left
       ·simp only [ps]
        rfl
       refine pure_ (i := 1) (N := some 8) (v := ?_) (a' := ?_) (bb 15 3) rfl rfl (any_of HT_.out (by kernel_rfl)) (fun _ _ _ h => h) (Or.inl ⟨by rfl, ?_⟩) ?_ ?_
       rotate_left
       ·intro w'
        go_simp
        with_reducible rfl
       rotate_left
       ·simp only [ps]
        rfl
       refine pure_ (i := 2) (N := some 9) (v := ?_) (a' := ?_) (bb 15 7) rfl rfl (any_of HT_.out (by kernel_rfl)) (fun _ _ _ h => h) (Or.inl ⟨by rfl, ?_⟩) ?_ ?_
       rotate_left
       ·intro w'
        go_simp
        with_reducible rfl
       rotate_left
       ·simp only [ps]
        rfl
       refine pure_ (i := 3) (N := some 10) (v := ?_) (a' := ?_) (bb 15 15) rfl rfl (any_of HT_.out (by kernel_rfl)) (fun _ _ _ h => h) (Or.inl ⟨by rfl, ?_⟩) ?_ ?_
       rotate_left
       ·intro w'
        go_simp
        with_reducible rfl
       rotate_left
       ·simp only [ps]
        rfl
       refine pure_ (i := 4) (N := some 11) (v := ?_) (a' := ?_) (bb 15 31) rfl rfl (any_of HT_.out (by kernel_rfl)) (fun _ _ _ h => h) (Or.inl ⟨by rfl, ?_⟩) ?_ ?_
       rotate_left
       ·intro w'
        go_simp
        with_reducible rfl
       rotate_left
       ·simp only [ps]
        rfl
       refine pure_ (i := 5) (N := some 12) (v := ?_) (a' := ?_) (bb 15 63) rfl rfl (any_of HT_.out (by kernel_rfl)) (fun _ _ _ h => h) (Or.inl ⟨by rfl, ?_⟩) ?_ ?_
       rotate_left
       ·intro w'
        go_simp
        with_reducible rfl
       rotate_left
       ·simp only [ps]
        rfl
       refine pure_ (i := 6) (N := some 13) (v := ?_) (a' := ?_) (bb 15 127) rfl rfl (any_of HT_.out (by kernel_rfl)) (fun _ _ _ h => h) (Or.inl ⟨by rfl, ?_⟩) ?_ ?_
       rotate_left
       ·intro w'
        go_simp
        with_reducible rfl
       rotate_left
       ·simp only [ps]
        rfl
       refine pure_ (i := 7) (N := some 14) (v := ?_) (a' := ?_) (bb 15 255) rfl rfl (any_of HT_.out (by kernel_rfl)) (fun _ _ _ h => h) (Or.inl ⟨by rfl, ?_⟩) ?_ ?_
       rotate_left
       ·intro w'
        go_simp
        with_reducible rfl
       rotate_left
       ·simp only [ps]
        rfl
       refine pure_ (i := 8) (N := some 15) (v := ?_) (a' := ?_) (bb 15 511) rfl rfl (any_of HT_.out (by kernel_rfl)) (fun _ _ _ h => h) (Or.inl ⟨by rfl, ?_⟩) ?_ ?_
       rotate_left
       ·intro w'
        go_simp
        with_reducible rfl
       rotate_left
       ·simp only [ps]
        rfl
       refine pure_ (i := 10) (N := some 17) (v := ?_) (a' := ?_) (bb 15 1535) rfl rfl (any_of HT_.out (by kernel_rfl)) (fun _ _ _ h => h) (Or.inl ⟨by rfl, ?_⟩) ?_ ?_
       rotate_left
       ·intro w'
        go_simp
        with_reducible rfl
       rotate_left
       ·simp only [ps]
        rfl
       refine take_ (i := 9) (N := some 16) (v := ?_) (a' := ?_) (bb 15 2047) rfl rfl (take_ofW HT_.out HW_.out (by kernel_rfl)) (fun _ _ _ h => h) (Or.inl ⟨by rfl, ?_⟩) hHeld ?_ ?_
       rotate_left
       ·rintro w' ⟨s0, s1, s2, s3, s4, s5, s6, s7, s8, s9⟩
        go_simp
        with_reducible rfl
       rotate_left
       ·simp only [ps]
        rfl
       refine take_ (i := 11) (N := some 18) (v := ?_) (a' := ?_) (bb 15 4095) rfl rfl (take_ofW HT_.out HW_.out (by kernel_rfl)) (fun _ _ _ h => h) (Or.inl ⟨by rfl, ?_⟩) hHeld ?_ ?_
       rotate_left
       ·rintro w' ⟨s0, s1, s2, s3, s4, s5, s6, s7, s8, s9⟩
        go_simp
        with_reducible rfl
       rotate_left
       ·simp only [ps]
        rfl
       refine one_ (i := 12) (N := some 19) (bb 15 8191) rfl rfl (one_of HT_.out (by kernel_rfl)) (by decide) (fun K hK => ?_)
       refine goes_ Try.func35 (by kernel_rfl) rfl #[.slice A325_0 ((rd_T41 l0 x5_1).f0).length c325_0, .slice A1_0 l1_0.length c1_0] (by rfl) rfl rfl (by (try simp only [List.map_toArray, List.map_cons, List.map_nil]); first | done | rfl | (simp only [List.length_drop, List.length_take]; rfl)) ?_
       with_reducible refine (hypercuberef2_Less.calls k1 _ _ ((rd_T41 l0 x5_1).f0) _ _ l1_0 t326 _ ?side1 ?side2 ?side3 ?side4 A7.out).mono ?_
       (case side1 => repeat (first | exact (by repeat (first | (with_reducible exact HR325_0.out) | (with_reducible refine Kd.C_alloc ?_ _) | (with_reducible refine Kd.C_drewN ?_ _) | (with_reducible refine Kd.C_drew ?_) | exact HR325_0.out)) | (with_reducible refine Kd.C_alloc ?_ _) | (with_reducible refine Kd.C_drewN ?_ _) | (with_reducible refine Kd.C_drew ?_)))
       (case side2 => exact HC325_0.out)
       (case side3 => exact Kd.Cw HR1_0.out HB.out)
       (case side4 => exact HC1_0.out)
       rintro e w' ⟨rfl, ⟨nd, rfl⟩⟩
       refine ⟨_, rfl, ?_⟩
       refine hK.out _ _ ⟨(blk_cell BK324.out 0).trans rfl, (blk_cell BK324.out 1).trans rfl, (blk_cell BK324.out 2).trans rfl, (blk_cell BK324.out 3).trans rfl, (blk_cell BK324.out 4).trans rfl, hHeld.2.2.2.2.2.1, hHeld.2.2.2.2.2.2.1, hHeld.2.2.2.2.2.2.2.1, hHeld.2.2.2.2.2.2.2.2.1, hHeld.2.2.2.2.2.2.2.2.2⟩ (fun hHeld => ?_)
       clear hK K
       refine norm_ (a' := ?_) ?_ ?_
       rotate_left
       ·show Act.put _ (some 19) _ = _
        simp only [ps]
        rfl
       refine pure_ (i := 13) (N := some 20) (v := ?_) (a' := ?_) (bb 15 16383) rfl rfl (any_of HT_.out (by kernel_rfl)) (fun _ _ _ h => h) (Or.inl ⟨by rfl, ?_⟩) ?_ ?_
       rotate_left
       ·intro w'
        go_simp
        with_reducible rfl
       rotate_left
       ·simp only [ps]
        rfl
       refine pure_ (i := 14) (N := some 21) (v := ?_) (a' := ?_) (bb 15 32767) rfl rfl (any_of HT_.out (by kernel_rfl)) (fun _ _ _ h => h) (Or.inl ⟨by rfl, ?_⟩) ?_ ?_
       rotate_left
       ·intro w'
        go_simp
        with_reducible rfl
       rotate_left
       ·simp only [ps]
        rfl
       refine done_ (done_of HT_.out (by kernel_rfl)) ?_
       try go_wp2
       go_roundg k1
       case measure => have := HK1.out; omega
       case rel => exact ⟨(wrap64 (x5_1 + 1)), (by first | rfl | (simp; done) | (simp [*]; done)), H', ⟨by have := HK1.out; omega⟩, ⟨by (with_reducible repeat (first | apply Kd.V_alloc | apply Kd.V_drewN | apply Kd.V_drew)); exact HO_0.out⟩, ⟨by (with_reducible repeat (first | refine blk_drewN ?_ _ | refine blk_drew ?_ | refine blk_alloc ?_ _)); exact BK324.out⟩, ⟨by repeat (first | (with_reducible first | exact HB.out | apply below_alloc | apply pw_below_drewN | apply below_drew1 | refine below_set ?_ GE324.out) | exact HB.out)⟩⟩
      ·rw [if_neg c8] at H
       have c8b0 : decide (t326 < 0) = false := decide_eq_false c8
       clear c8
       have H' := am H
       clear H
       try go_wp2
       have n0_ := am (Kd.V_drew HO_0.out)
       have n1_ := am (blk_drew BK324.out)
       have n2_ := am (below_drew1 HB.out)
       clear HO_0 BK324 HB
       revert n0_ n1_ n2_
       intro HO_0 BK324 HB
       have p325 : 0 ≤ (x5_1 : Int) := of_decide_eq_true (by first | (with_reducible assumption) | assumption)
       have q325 : x5_1 < (l0.length : Int) := of_decide_eq_true (by first | (with_reducible assumption) | assumption)
       obtain ⟨ad325, A325_0, c325_0, A325_2, c325_2, A325_3, c325_3, A325_4, c325_4, e325, hx325_0, hx325_1, hx325_2, hx325_3, hx325_4, hl325_0, hi325_0, hl325_2, hi325_2, hl325_3, hi325_3, hl325_4, hi325_4⟩ := at_T41 (Kd.V_reads' HO_0.out).2.2 x5_1 p325 q325
       cases e325
       obtain ⟨ce325, hce325, hMe325, hcc325⟩ := Kd.V_get HO_0.out z41 x5_1 p325 (by first | exact q325 | exact of_decide_eq_true (by first | (with_reducible assumption) | assumption) | (have e_ := (Kd.V_reads' HO_0.out).1; omega))
       obtain ⟨ua325_0, uc325_0, ua325_2, uc325_2, ua325_3, uc325_3, ua325_4, uc325_4, rfl, ul325_0, ge325_0, ul325_2, ge325_2, ul325_3, ge325_3, ul325_4, ge325_4⟩ := k41_openF hMe325
       have hv325_0 := hcc325 0 _ rfl
       rw [Nat.add_zero] at hv325_0
       replace hv325_0 := Option.some.inj (hv325_0.symm.trans hx325_0)
       injection hv325_0 with hva_ hvn_ hvc_
       rw [hva_] at ge325_0
       rw [hvc_] at ul325_0
       have HL325_0 := am (show Kd.V (Kd.int .i64) 3 _ w.heap.size _ _ ((rd_T41 l0 x5_1).f0) from Kd.V_mk ul325_0 ge325_0)
       clear hva_ hvn_ hvc_ ge325_0 ul325_0
       have hv325_2 := hcc325 2 _ rfl
       rw [add_field _ _ 2 (by omega)] at hv325_2
       replace hv325_2 := Option.some.inj (hv325_2.symm.trans hx325_2)
       injection hv325_2 with hva_ hvn_ hvc_
       rw [hva_] at ge325_2
       rw [hvc_] at ul325_2
       have HL325_2 := am (show Kd.V (Kd.int .i64) 3 _ w.heap.size _ _ ((rd_T41 l0 x5_1).f2) from Kd.V_mk ul325_2 ge325_2)
       clear hva_ hvn_ hvc_ ge325_2 ul325_2
       have hv325_3 := hcc325 3 _ rfl
       rw [add_field _ _ 3 (by omega)] at hv325_3
       replace hv325_3 := Option.some.inj (hv325_3.symm.trans hx325_3)
       injection hv325_3 with hva_ hvn_ hvc_
       rw [hva_] at ge325_3
       rw [hvc_] at ul325_3
       have HL325_3 := am (show Kd.V (Kd.int .i64) 3 _ w.heap.size _ _ ((rd_T41 l0 x5_1).f3) from Kd.V_mk ul325_3 ge325_3)
       clear hva_ hvn_ hvc_ ge325_3 ul325_3
       have hv325_4 := hcc325 4 _ rfl
       rw [add_field _ _ 4 (by omega)] at hv325_4
       replace hv325_4 := Option.some.inj (hv325_4.symm.trans hx325_4)
       injection hv325_4 with hva_ hvn_ hvc_
       rw [hva_] at ge325_4
       rw [hvc_] at ul325_4
       have HL325_4 := am (show Kd.V (Kd.int .i64) 3 _ w.heap.size _ _ ((rd_T41 l0 x5_1).f4) from Kd.V_mk ul325_4 ge325_4)
       clear hva_ hvn_ hvc_ ge325_4 ul325_4
       clear hcc325 hce325
       have HR325_0 := am hi325_0
       have HC325_0 := am hl325_0
       clear hi325_0 hl325_0
       have HR325_2 := am hi325_2
       have HC325_2 := am hl325_2
       clear hi325_2 hl325_2
       have HR325_3 := am hi325_3
       have HC325_3 := am hl325_3
       clear hi325_3 hl325_3
       have HR325_4 := am hi325_4
       have HC325_4 := am hl325_4
       clear hi325_4 hl325_4
       replace p325 := eq_true p325
       replace q325 := eq_true q325
       refine start_ (n := 15) (S := fun w' => w'.cell? ⟨gb324, 0, none⟩ = some (.slice A1_0 l1_0.length c1_0) ∧ w'.cell? ⟨gb324, 1, none⟩ = some (.int .i64 a1_1) ∧ w'.cell? ⟨gb324, 2, none⟩ = some (.slice A1_2 l1_2.length c1_2) ∧ w'.cell? ⟨gb324, 3, none⟩ = some (.slice A1_3 l1_3.length c1_3) ∧ w'.cell? ⟨gb324, 4, none⟩ = some (.slice A1_4 l1_4.length c1_4) ∧ w'.cell? (ad325.add ((x5_1).toNat * 5)) = some (.slice A325_0 ((rd_T41 l0 x5_1).f0).length c325_0) ∧ w'.cell? ⟨(ad325.add ((x5_1).toNat * 5)).block, (ad325.add ((x5_1).toNat * 5)).off + 1, none⟩ = some (.int .i64 ((rd_T41 l0 x5_1).f1)) ∧ w'.cell? ⟨(ad325.add ((x5_1).toNat * 5)).block, (ad325.add ((x5_1).toNat * 5)).off + 2, none⟩ = some (.slice A325_2 ((rd_T41 l0 x5_1).f2).length c325_2) ∧ w'.cell? ⟨(ad325.add ((x5_1).toNat * 5)).block, (ad325.add ((x5_1).toNat * 5)).off + 3, none⟩ = some (.slice A325_3 ((rd_T41 l0 x5_1).f3).length c325_3) ∧ w'.cell? ⟨(ad325.add ((x5_1).toNat * 5)).block, (ad325.add ((x5_1).toNat * 5)).off + 4, none⟩ = some (.slice A325_4 ((rd_T41 l0 x5_1).f4).length c325_4)) (ds := []) (bb 15 0) (by kernel_rfl) rfl rfl ⟨(blk_cell BK324.out 0).trans rfl, (blk_cell BK324.out 1).trans rfl, (blk_cell BK324.out 2).trans rfl, (blk_cell BK324.out 3).trans rfl, (blk_cell BK324.out 4).trans rfl, hx325_0, hx325_1, hx325_2, hx325_3, hx325_4⟩ (fun hHeld => ?_); refine with_tabW hypercuberef2_Put.tab2 hypercuberef2_Put.bits2 (fun HT_ HW_ => ?_)
       generalize wr.drew = w10 at HO_0 BK324 HB HL325_0 HL325_2 HL325_3 HL325_4 HR325_0 HR325_2 HR325_3 HR325_4 hx325_0 hx325_1 hx325_2 hx325_3 hx325_4 hHeld ⊢
       refine pure_ (i := 0) (N := some 7) (v := ?_) (a' := ?_) (bb 15 1) rfl rfl (any_of HT_.out (by kernel_rfl)) (fun _ _ _ h => h) (Or.inl ⟨by rfl, ?_⟩) ?_ ?_
       rotate_left
       ·intro w'
        go_simp
        with_reducible rfl
       rotate_left
       ·simp only [ps]
        rfl
       refine pure_ (i := 1) (N := some 8) (v := ?_) (a' := ?_) (bb 15 3) rfl rfl (any_of HT_.out (by kernel_rfl)) (fun _ _ _ h => h) (Or.inl ⟨by rfl, ?_⟩) ?_ ?_
       rotate_left
       ·intro w'
        go_simp
        with_reducible rfl
       rotate_left
       ·simp only [ps]
        rfl
       refine pure_ (i := 2) (N := some 9) (v := ?_) (a' := ?_) (bb 15 7) rfl rfl (any_of HT_.out (by kernel_rfl)) (fun _ _ _ h => h) (Or.inl ⟨by rfl, ?_⟩) ?_ ?_
       rotate_left
       ·intro w'
        go_simp
        with_reducible rfl
       rotate_left
       ·simp only [ps]
        rfl
       refine pure_ (i := 3) (N := some 10) (v := ?_) (a' := ?_) (bb 15 15) rfl rfl (any_of HT_.out (by kernel_rfl)) (fun _ _ _ h => h) (Or.inl ⟨by rfl, ?_⟩) ?_ ?_
       rotate_left
       ·intro w'
        go_simp
        with_reducible rfl
       rotate_left
       ·simp only [ps]
        rfl
       refine pure_ (i := 4) (N := some 11) (v := ?_) (a' := ?_) (bb 15 31) rfl rfl (any_of HT_.out (by kernel_rfl)) (fun _ _ _ h => h) (Or.inl ⟨by rfl, ?_⟩) ?_ ?_
       rotate_left
       ·intro w'
        go_simp
        with_reducible rfl
       rotate_left
       ·simp only [ps]
        rfl
       refine pure_ (i := 5) (N := some 12) (v := ?_) (a' := ?_) (bb 15 63) rfl rfl (any_of HT_.out (by kernel_rfl)) (fun _ _ _ h => h) (Or.inl ⟨by rfl, ?_⟩) ?_ ?_
       rotate_left
       ·intro w'
        go_simp
        with_reducible rfl
       rotate_left
       ·simp only [ps]
        rfl
       refine pure_ (i := 6) (N := some 13) (v := ?_) (a' := ?_) (bb 15 127) rfl rfl (any_of HT_.out (by kernel_rfl)) (fun _ _ _ h => h) (Or.inl ⟨by rfl, ?_⟩) ?_ ?_
       rotate_left
       ·intro w'
        go_simp
        with_reducible rfl
       rotate_left
       ·simp only [ps]
        rfl
       refine pure_ (i := 7) (N := some 14) (v := ?_) (a' := ?_) (bb 15 255) rfl rfl (any_of HT_.out (by kernel_rfl)) (fun _ _ _ h => h) (Or.inl ⟨by rfl, ?_⟩) ?_ ?_
       rotate_left
       ·intro w'
        go_simp
        with_reducible rfl
       rotate_left
       ·simp only [ps]
        rfl
       refine pure_ (i := 8) (N := some 15) (v := ?_) (a' := ?_) (bb 15 511) rfl rfl (any_of HT_.out (by kernel_rfl)) (fun _ _ _ h => h) (Or.inl ⟨by rfl, ?_⟩) ?_ ?_
       rotate_left
       ·intro w'
        go_simp
        with_reducible rfl
       rotate_left
       ·simp only [ps]
        rfl
       refine pure_ (i := 10) (N := some 17) (v := ?_) (a' := ?_) (bb 15 1535) rfl rfl (any_of HT_.out (by kernel_rfl)) (fun _ _ _ h => h) (Or.inl ⟨by rfl, ?_⟩) ?_ ?_
       rotate_left
       ·intro w'
        go_simp
        with_reducible rfl
       rotate_left
       ·simp only [ps]
        rfl
       refine take_ (i := 9) (N := some 16) (v := ?_) (a' := ?_) (bb 15 2047) rfl rfl (take_ofW HT_.out HW_.out (by kernel_rfl)) (fun _ _ _ h => h) (Or.inl ⟨by rfl, ?_⟩) hHeld ?_ ?_
       rotate_left
       ·rintro w' ⟨s0, s1, s2, s3, s4, s5, s6, s7, s8, s9⟩
        go_simp
        with_reducible rfl
       rotate_left
       ·simp only [ps]
        rfl
       refine take_ (i := 11) (N := some 18) (v := ?_) (a' := ?_) (bb 15 4095) rfl rfl (take_ofW HT_.out HW_.out (by kernel_rfl)) (fun _ _ _ h => h) (Or.inl ⟨by rfl, ?_⟩) hHeld ?_ ?_
       rotate_left
       ·rintro w' ⟨s0, s1, s2, s3, s4, s5, s6, s7, s8, s9⟩
        go_simp
        with_reducible rfl
       rotate_left
       ·simp only [ps]
        rfl
       refine one_ (i := 12) (N := some 19) (bb 15 8191) rfl rfl (one_of HT_.out (by kernel_rfl)) (by decide) (fun K hK => ?_)
       refine goes_ Try.func35 (by kernel_rfl) rfl #[.slice A325_0 ((rd_T41 l0 x5_1).f0).length c325_0, .slice A1_0 l1_0.length c1_0] (by rfl) rfl rfl (by (try simp only [List.map_toArray, List.map_cons, List.map_nil]); first | done | rfl | (simp only [List.length_drop, List.length_take]; rfl)) ?_
       with_reducible refine (hypercuberef2_Less.calls k1 _ _ ((rd_T41 l0 x5_1).f0) _ _ l1_0 t326 _ ?side1 ?side2 ?side3 ?side4 A7.out).mono ?_
       (case side1 => repeat (first | exact (by repeat (first | (with_reducible exact HR325_0.out) | (with_reducible refine Kd.C_alloc ?_ _) | (with_reducible refine Kd.C_drewN ?_ _) | (with_reducible refine Kd.C_drew ?_) | exact HR325_0.out)) | (with_reducible refine Kd.C_alloc ?_ _) | (with_reducible refine Kd.C_drewN ?_ _) | (with_reducible refine Kd.C_drew ?_)))
       (case side2 => exact HC325_0.out)
       (case side3 => exact Kd.Cw HR1_0.out HB.out)
       (case side4 => exact HC1_0.out)
       rintro e w' ⟨rfl, ⟨nd, rfl⟩⟩
       refine ⟨_, rfl, ?_⟩
       refine hK.out _ _ ⟨(blk_cell BK324.out 0).trans rfl, (blk_cell BK324.out 1).trans rfl, (blk_cell BK324.out 2).trans rfl, (blk_cell BK324.out 3).trans rfl, (blk_cell BK324.out 4).trans rfl, hHeld.2.2.2.2.2.1, hHeld.2.2.2.2.2.2.1, hHeld.2.2.2.2.2.2.2.1, hHeld.2.2.2.2.2.2.2.2.1, hHeld.2.2.2.2.2.2.2.2.2⟩ (fun hHeld => ?_)
       clear hK K
       refine norm_ (a' := ?_) ?_ ?_
       rotate_left
       ·show Act.put _ (some 19) _ = _
        simp only [ps]
        rfl
       refine pure_ (i := 13) (N := some 20) (v := ?_) (a' := ?_) (bb 15 16383) rfl rfl (any_of HT_.out (by kernel_rfl)) (fun _ _ _ h => h) (Or.inl ⟨by rfl, ?_⟩) ?_ ?_
       rotate_left
       ·intro w'
        go_simp
        with_reducible rfl
       rotate_left
       ·simp only [ps]
        rfl
       refine pure_ (i := 14) (N := some 21) (v := ?_) (a' := ?_) (bb 15 32767) rfl rfl (any_of HT_.out (by kernel_rfl)) (fun _ _ _ h => h) (Or.inl ⟨by rfl, ?_⟩) ?_ ?_
       rotate_left
       ·intro w'
        go_simp
        with_reducible rfl
       rotate_left
       ·simp only [ps]
        rfl
       refine done_ (done_of HT_.out (by kernel_rfl)) ?_
       try go_wp2
       go_meet
       case rel => exact ⟨_, (x5_1), (by first | rfl | (simp; done) | (simp [*]; done)), H', ⟨by have := HK1.out; first | omega | exact Nat.le_refl _⟩, ⟨by (with_reducible repeat (first | apply Kd.V_alloc | apply Kd.V_drewN | apply Kd.V_drew)); exact HO_0.out⟩, ⟨by (with_reducible repeat (first | refine blk_drewN ?_ _ | refine blk_drew ?_ | refine blk_alloc ?_ _)); exact BK324.out⟩, ⟨by repeat (first | (with_reducible first | exact HB.out | apply below_alloc | apply pw_below_drewN | apply below_drew1 | refine below_set ?_ GE324.out) | exact HB.out)⟩⟩
     ·rw [if_neg c6] at H
      exact absurd H (by simp)
    ·rw [if_neg c5] at H
     have c5b0 : decide (x5_1 < (l0.length : Int)) = false := decide_eq_false c5
     clear c5
     (first | rw [c5b0] | (simp only [i64_w, i32_w]; rw [c5b0]) | skip)
     have H' := am H
     clear H
     try go_wp2
     have n0_ := am (Kd.V_drew HO_0.out)
     have n1_ := am (blk_drew BK324.out)
     have n2_ := am (below_drew1 HB.out)
     clear HO_0 BK324 HB
     revert n0_ n1_ n2_
     intro HO_0 BK324 HB
     refine start_ (n := 15) (S := fun w' => True) (ds := []) (bb 15 0) (by kernel_rfl) rfl rfl trivial (fun hHeld => ?_); refine with_tabW hypercuberef2_Put.tab2 hypercuberef2_Put.bits2 (fun HT_ HW_ => ?_)
     generalize wr.drew = w11 at HO_0 BK324 HB hHeld ⊢
     refine pure_ (i := 0) (N := some 7) (v := ?_) (a' := ?_) (bb 15 1) rfl rfl (any_of HT_.out (by kernel_rfl)) (fun _ _ _ h => h) (Or.inl ⟨by rfl, ?_⟩) ?_ ?_
     rotate_left
     ·intro w'
      go_simp
      with_reducible rfl
     rotate_left
     ·simp only [ps]
      rfl
     refine pure_ (i := 1) (N := some 8) (v := ?_) (a' := ?_) (bb 15 3) rfl rfl (any_of HT_.out (by kernel_rfl)) (fun _ _ _ h => h) (Or.inl ⟨by rfl, ?_⟩) ?_ ?_
     rotate_left
     ·intro w'
      go_simp
      with_reducible rfl
     rotate_left
     ·simp only [ps]
      rfl
     refine pure_ (i := 2) (N := some 9) (v := ?_) (a' := ?_) (bb 15 7) rfl rfl (any_of HT_.out (by kernel_rfl)) (fun _ _ _ h => h) (Or.inl ⟨by rfl, ?_⟩) ?_ ?_
     rotate_left
     ·intro w'
      go_simp
      with_reducible rfl
     rotate_left
     ·simp only [ps]
      rfl
     refine pure_ (i := 3) (N := some 10) (v := ?_) (a' := ?_) (bb 15 15) rfl rfl (any_of HT_.out (by kernel_rfl)) (fun _ _ _ h => h) (Or.inl ⟨by rfl, ?_⟩) ?_ ?_
     rotate_left
     ·intro w'
      go_simp
      with_reducible rfl
     rotate_left
     ·simp only [ps]
      rfl
     refine pure_ (i := 4) (N := some 11) (v := ?_) (a' := ?_) (bb 15 31) rfl rfl (any_of HT_.out (by kernel_rfl)) (fun _ _ _ h => h) (Or.inl ⟨by rfl, ?_⟩) ?_ ?_
     rotate_left
     ·intro w'
      go_simp
      with_reducible rfl
     rotate_left
     ·simp only [ps]
      rfl
     refine pure_ (i := 5) (N := some 12) (v := undef) (a' := ?_) (bb 15 63) rfl rfl (any_of HT_.out (by kernel_rfl)) (fun _ _ _ h => h) (Or.inr ⟨by rfl, rfl⟩) ?_ ?_
     rotate_left
     ·simp only [ps]
      rfl
     refine pure_ (i := 6) (N := some 13) (v := undef) (a' := ?_) (bb 15 127) rfl rfl (any_of HT_.out (by kernel_rfl)) (fun _ _ _ h => h) (Or.inr ⟨by rfl, rfl⟩) ?_ ?_
     rotate_left
     ·simp only [ps]
      rfl
     refine pure_ (i := 7) (N := some 14) (v := undef) (a' := ?_) (bb 15 255) rfl rfl (any_of HT_.out (by kernel_rfl)) (fun _ _ _ h => h) (Or.inr ⟨by rfl, rfl⟩) ?_ ?_
     rotate_left
     ·simp only [ps]
      rfl
     refine pure_ (i := 8) (N := some 15) (v := undef) (a' := ?_) (bb 15 511) rfl rfl (any_of HT_.out (by kernel_rfl)) (fun _ _ _ h => h) (Or.inr ⟨by rfl, rfl⟩) ?_ ?_
     rotate_left
     ·simp only [ps]
      rfl
     refine pure_ (i := 9) (N := some 16) (v := undef) (a' := ?_) (bb 15 1023) rfl rfl (any_of HT_.out (by kernel_rfl)) (fun _ _ _ h => h) (Or.inr ⟨by rfl, rfl⟩) ?_ ?_
     rotate_left
     ·simp only [ps]
      rfl
     refine pure_ (i := 10) (N := some 17) (v := undef) (a' := ?_) (bb 15 2047) rfl rfl (any_of HT_.out (by kernel_rfl)) (fun _ _ _ h => h) (Or.inr ⟨by rfl, rfl⟩) ?_ ?_
     rotate_left
     ·simp only [ps]
      rfl
     refine pure_ (i := 11) (N := some 18) (v := undef) (a' := ?_) (bb 15 4095) rfl rfl (any_of HT_.out (by kernel_rfl)) (fun _ _ _ h => h) (Or.inr ⟨by rfl, rfl⟩) ?_ ?_
     rotate_left
     ·simp only [ps]
      rfl
     refine pure_ (i := 12) (N := some 19) (v := undef) (a' := ?_) (bb 15 8191) rfl rfl (any_of HT_.out (by kernel_rfl)) (fun _ _ _ h => h) (Or.inr ⟨by rfl, rfl⟩) ?_ ?_
     rotate_left
     ·simp only [ps]
      rfl
     refine pure_ (i := 13) (N := some 20) (v := undef) (a' := ?_) (bb 15 16383) rfl rfl (any_of HT_.out (by kernel_rfl)) (fun _ _ _ h => h) (Or.inr ⟨by rfl, rfl⟩) ?_ ?_
     rotate_left
     ·simp only [ps]
      rfl
     refine pure_ (i := 14) (N := some 21) (v := ?_) (a' := ?_) (bb 15 32767) rfl rfl (any_of HT_.out (by kernel_rfl)) (fun _ _ _ h => h) (Or.inl ⟨by rfl, ?_⟩) ?_ ?_
     rotate_left
     ·intro w'
      go_simp
      with_reducible rfl
     rotate_left
     ·simp only [ps]
      rfl
     refine done_ (done_of HT_.out (by kernel_rfl)) ?_
     try go_wp2
     go_meet
     case rel => exact ⟨_, (x5_1), (by first | rfl | (simp; done) | (simp [*]; done)), H', ⟨by have := HK1.out; first | omega | exact Nat.le_refl _⟩, ⟨by (with_reducible repeat (first | apply Kd.V_alloc | apply Kd.V_drewN | apply Kd.V_drew)); exact HO_0.out⟩, ⟨by (with_reducible repeat (first | refine blk_drewN ?_ _ | refine blk_drew ?_ | refine blk_alloc ?_ _)); exact BK324.out⟩, ⟨by repeat (first | (with_reducible first | exact HB.out | apply below_alloc | apply pw_below_drewN | apply below_drew1 | refine below_set ?_ GE324.out) | exact HB.out)⟩⟩
 case rest =>
  clear HC3
  try clear c1
  try clear p2
  try clear c3
  try clear p3
  try clear q3
  try clear hx3
  try clear c5
  try clear c5b0
  try clear c6
  try clear c6b0
  try clear p6
  try clear c8
  try clear c8b0
  try clear hx325_0
  try clear hx325_1
  try clear hx325_2
  try clear hx325_3
  try clear hx325_4
  try clear p2
  try clear p325
  try clear q325
  obtain ⟨kq, x5_2, rfl, HA, HJ2, HO_0, BK324, HB⟩ := hcut
  cases kq with
  | zero => exact absurd HA.out (by simp [hypercuberef2_Put.j1])
  | succ kj2 =>
   have H := HA.out
   clear HA
   simp only [hypercuberef2_Put.j1] at H
   have HC12 := am H
   clear H
   go_upto_region 4 with (fail)
   go_cut [38] (fun v38 wc => ∃ (kq : Nat) (x38_11 : Bool), v38 = .bool x38_11 ∧ Aside0 (hypercuberef2_Put.j2 kq l0 x5_2 x38_11 l1_0 a1_1 l1_2 l1_3 l1_4 = some r) ∧ Aside0 (kq ≤ kj2) ∧ Aside0 (Kd.V k41 41 wc w.heap.size (fun k_ => (P0_ k_ ∨ w.heap.size ≤ k_) ∧ k_ ≠ gb324) (.slice A0 l0.length c0) l0) ∧ Aside0 (wc.heap[gb324]? = some (.cells #[(.slice A1_0 l1_0.length c1_0), .int .i64 a1_1, (.slice A1_2 l1_2.length c1_2), (.slice A1_3 l1_3.length c1_3), (.slice A1_4 l1_4.length c1_4)] 41 (0, 0))) ∧ Aside0 (Below w.heap.size w wc))
   case first =>
    have H := HC12.out
    clear HC12
    by_cases c13 : x5_2 < (l0.length : Int)
    ·rw [if_pos c13] at H
     have c13b0 : decide (x5_2 < (l0.length : Int)) = true := decide_eq_true c13
     clear c13
     (first | rw [c13b0] | (simp only [i64_w, i32_w]; rw [c13b0]) | skip)
     by_cases c14 : 0 ≤ x5_2
     ·rw [if_pos c14] at H
      have c14b0 : decide (0 ≤ x5_2) = true := decide_eq_true c14
      clear c14
      replace H := Option.bind_eq_some_iff.mp H
      obtain ⟨t328, A150, H⟩ := H
      replace H : (hypercuberef2_Put.j2 kj2 l0 x5_2 (t328 == 0) l1_0 a1_1 l1_2 l1_3 l1_4) = some r := H
      have A15 := am A150
      clear A150
      have H' := am H
      clear H
      try go_wp2
      have n0_ := am (Kd.V_drew HO_0.out)
      have n1_ := am (blk_drew BK324.out)
      have n2_ := am (below_drew1 HB.out)
      clear HO_0 BK324 HB
      revert n0_ n1_ n2_
      intro HO_0 BK324 HB
      have p327 : 0 ≤ (x5_2 : Int) := of_decide_eq_true (by first | (with_reducible assumption) | assumption)
      have q327 : x5_2 < (l0.length : Int) := of_decide_eq_true (by first | (with_reducible assumption) | assumption)
      obtain ⟨ad327, A327_0, c327_0, A327_2, c327_2, A327_3, c327_3, A327_4, c327_4, e327, hx327_0, hx327_1, hx327_2, hx327_3, hx327_4, hl327_0, hi327_0, hl327_2, hi327_2, hl327_3, hi327_3, hl327_4, hi327_4⟩ := at_T41 (Kd.V_reads' HO_0.out).2.2 x5_2 p327 q327
      cases e327
      obtain ⟨ce327, hce327, hMe327, hcc327⟩ := Kd.V_get HO_0.out z41 x5_2 p327 (by first | exact q327 | exact of_decide_eq_true (by first | (with_reducible assumption) | assumption) | (have e_ := (Kd.V_reads' HO_0.out).1; omega))
      obtain ⟨ua327_0, uc327_0, ua327_2, uc327_2, ua327_3, uc327_3, ua327_4, uc327_4, rfl, ul327_0, ge327_0, ul327_2, ge327_2, ul327_3, ge327_3, ul327_4, ge327_4⟩ := k41_openF hMe327
      have hv327_0 := hcc327 0 _ rfl
      rw [Nat.add_zero] at hv327_0
      replace hv327_0 := Option.some.inj (hv327_0.symm.trans hx327_0)
      injection hv327_0 with hva_ hvn_ hvc_
      rw [hva_] at ge327_0
      rw [hvc_] at ul327_0
      have HL327_0 := am (show Kd.V (Kd.int .i64) 3 _ w.heap.size _ _ ((rd_T41 l0 x5_2).f0) from Kd.V_mk ul327_0 ge327_0)
      clear hva_ hvn_ hvc_ ge327_0 ul327_0
      have hv327_2 := hcc327 2 _ rfl
      rw [add_field _ _ 2 (by omega)] at hv327_2
      replace hv327_2 := Option.some.inj (hv327_2.symm.trans hx327_2)
      injection hv327_2 with hva_ hvn_ hvc_
      rw [hva_] at ge327_2
      rw [hvc_] at ul327_2
      have HL327_2 := am (show Kd.V (Kd.int .i64) 3 _ w.heap.size _ _ ((rd_T41 l0 x5_2).f2) from Kd.V_mk ul327_2 ge327_2)
      clear hva_ hvn_ hvc_ ge327_2 ul327_2
      have hv327_3 := hcc327 3 _ rfl
      rw [add_field _ _ 3 (by omega)] at hv327_3
      replace hv327_3 := Option.some.inj (hv327_3.symm.trans hx327_3)
      injection hv327_3 with hva_ hvn_ hvc_
      rw [hva_] at ge327_3
      rw [hvc_] at ul327_3
      have HL327_3 := am (show Kd.V (Kd.int .i64) 3 _ w.heap.size _ _ ((rd_T41 l0 x5_2).f3) from Kd.V_mk ul327_3 ge327_3)
      clear hva_ hvn_ hvc_ ge327_3 ul327_3
      have hv327_4 := hcc327 4 _ rfl
      rw [add_field _ _ 4 (by omega)] at hv327_4
      replace hv327_4 := Option.some.inj (hv327_4.symm.trans hx327_4)
      injection hv327_4 with hva_ hvn_ hvc_
      rw [hva_] at ge327_4
      rw [hvc_] at ul327_4
      have HL327_4 := am (show Kd.V (Kd.int .i64) 3 _ w.heap.size _ _ ((rd_T41 l0 x5_2).f4) from Kd.V_mk ul327_4 ge327_4)
      clear hva_ hvn_ hvc_ ge327_4 ul327_4
      clear hcc327 hce327
      have HR327_0 := am hi327_0
      have HC327_0 := am hl327_0
      clear hi327_0 hl327_0
      have HR327_2 := am hi327_2
      have HC327_2 := am hl327_2
      clear hi327_2 hl327_2
      have HR327_3 := am hi327_3
      have HC327_3 := am hl327_3
      clear hi327_3 hl327_3
      have HR327_4 := am hi327_4
      have HC327_4 := am hl327_4
      clear hi327_4 hl327_4
      replace p327 := eq_true p327
      replace q327 := eq_true q327
      refine start_ (n := 15) (S := fun w' => w'.cell? ⟨gb324, 0, none⟩ = some (.slice A1_0 l1_0.length c1_0) ∧ w'.cell? ⟨gb324, 1, none⟩ = some (.int .i64 a1_1) ∧ w'.cell? ⟨gb324, 2, none⟩ = some (.slice A1_2 l1_2.length c1_2) ∧ w'.cell? ⟨gb324, 3, none⟩ = some (.slice A1_3 l1_3.length c1_3) ∧ w'.cell? ⟨gb324, 4, none⟩ = some (.slice A1_4 l1_4.length c1_4) ∧ w'.cell? (ad327.add ((x5_2).toNat * 5)) = some (.slice A327_0 ((rd_T41 l0 x5_2).f0).length c327_0) ∧ w'.cell? ⟨(ad327.add ((x5_2).toNat * 5)).block, (ad327.add ((x5_2).toNat * 5)).off + 1, none⟩ = some (.int .i64 ((rd_T41 l0 x5_2).f1)) ∧ w'.cell? ⟨(ad327.add ((x5_2).toNat * 5)).block, (ad327.add ((x5_2).toNat * 5)).off + 2, none⟩ = some (.slice A327_2 ((rd_T41 l0 x5_2).f2).length c327_2) ∧ w'.cell? ⟨(ad327.add ((x5_2).toNat * 5)).block, (ad327.add ((x5_2).toNat * 5)).off + 3, none⟩ = some (.slice A327_3 ((rd_T41 l0 x5_2).f3).length c327_3) ∧ w'.cell? ⟨(ad327.add ((x5_2).toNat * 5)).block, (ad327.add ((x5_2).toNat * 5)).off + 4, none⟩ = some (.slice A327_4 ((rd_T41 l0 x5_2).f4).length c327_4)) (ds := []) (bb 15 0) (by kernel_rfl) rfl rfl ⟨(blk_cell BK324.out 0).trans rfl, (blk_cell BK324.out 1).trans rfl, (blk_cell BK324.out 2).trans rfl, (blk_cell BK324.out 3).trans rfl, (blk_cell BK324.out 4).trans rfl, hx327_0, hx327_1, hx327_2, hx327_3, hx327_4⟩ (fun hHeld => ?_); refine with_tabW hypercuberef2_Put.tab4 hypercuberef2_Put.bits4 (fun HT_ HW_ => ?_)
      generalize wc.drew = w16 at HO_0 BK324 HB HL327_0 HL327_2 HL327_3 HL327_4 HR327_0 HR327_2 HR327_3 HR327_4 hx327_0 hx327_1 hx327_2 hx327_3 hx327_4 hHeld ⊢
      refine pure_ (i := 0) (N := some 24) (v := ?_) (a' := ?_) (bb 15 1) rfl rfl (any_of HT_.out (by kernel_rfl)) (fun _ _ _ h => h) (Or.inl ⟨by rfl, ?_⟩) ?_ ?_
      rotate_left
      ·intro w'
       go_simp
       with_reducible rfl
      rotate_left
      ·simp only [ps]
       rfl
      refine pure_ (i := 1) (N := some 25) (v := ?_) (a' := ?_) (bb 15 3) rfl rfl (any_of HT_.out (by kernel_rfl)) (fun _ _ _ h => h) (Or.inl ⟨by rfl, ?_⟩) ?_ ?_
      rotate_left
      ·intro w'
       go_simp
       with_reducible rfl
      rotate_left
      ·simp only [ps]
       rfl
      refine pure_ (i := 2) (N := some 26) (v := ?_) (a' := ?_) (bb 15 7) rfl rfl (any_of HT_.out (by kernel_rfl)) (fun _ _ _ h => h) (Or.inl ⟨by rfl, ?_⟩) ?_ ?_
      rotate_left
      ·intro w'
       go_simp
       with_reducible rfl
      rotate_left
      ·simp only [ps]
       rfl
      refine pure_ (i := 3) (N := some 27) (v := ?_) (a' := ?_) (bb 15 15) rfl rfl (any_of HT_.out (by kernel_rfl)) (fun _ _ _ h => h) (Or.inl ⟨by rfl, ?_⟩) ?_ ?_
      rotate_left
      ·intro w'
       go_simp
       with_reducible rfl
      rotate_left
      ·simp only [ps]
       rfl
      refine pure_ (i := 4) (N := some 28) (v := ?_) (a' := ?_) (bb 15 31) rfl rfl (any_of HT_.out (by kernel_rfl)) (fun _ _ _ h => h) (Or.inl ⟨by rfl, ?_⟩) ?_ ?_
      rotate_left
      ·intro w'
       go_simp
       with_reducible rfl
      rotate_left
      ·simp only [ps]
       rfl
      refine pure_ (i := 5) (N := some 29) (v := ?_) (a' := ?_) (bb 15 63) rfl rfl (any_of HT_.out (by kernel_rfl)) (fun _ _ _ h => h) (Or.inl ⟨by rfl, ?_⟩) ?_ ?_
      rotate_left
      ·intro w'
       go_simp
       with_reducible rfl
      rotate_left
      ·simp only [ps]
       rfl
      refine pure_ (i := 6) (N := some 30) (v := ?_) (a' := ?_) (bb 15 127) rfl rfl (any_of HT_.out (by kernel_rfl)) (fun _ _ _ h => h) (Or.inl ⟨by rfl, ?_⟩) ?_ ?_
      rotate_left
      ·intro w'
       go_simp
       with_reducible rfl
      rotate_left
      ·simp only [ps]
       rfl
      refine pure_ (i := 7) (N := some 31) (v := ?_) (a' := ?_) (bb 15 255) rfl rfl (any_of HT_.out (by kernel_rfl)) (fun _ _ _ h => h) (Or.inl ⟨by rfl, ?_⟩) ?_ ?_
      rotate_left
      ·intro w'
       go_simp
       with_reducible rfl
      rotate_left
      ·simp only [ps]
       rfl
      refine pure_ (i := 8) (N := some 32) (v := ?_) (a' := ?_) (bb 15 511) rfl rfl (any_of HT_.out (by kernel_rfl)) (fun _ _ _ h => h) (Or.inl ⟨by rfl, ?_⟩) ?_ ?_
      rotate_left
      ·intro w'
       go_simp
       with_reducible rfl
      rotate_left
      ·simp only [ps]
       rfl
      refine pure_ (i := 10) (N := some 34) (v := ?_) (a' := ?_) (bb 15 1535) rfl rfl (any_of HT_.out (by kernel_rfl)) (fun _ _ _ h => h) (Or.inl ⟨by rfl, ?_⟩) ?_ ?_
      rotate_left
      ·intro w'
       go_simp
       with_reducible rfl
      rotate_left
      ·simp only [ps]
       rfl
      refine take_ (i := 9) (N := some 33) (v := ?_) (a' := ?_) (bb 15 2047) rfl rfl (take_ofW HT_.out HW_.out (by kernel_rfl)) (fun _ _ _ h => h) (Or.inl ⟨by rfl, ?_⟩) hHeld ?_ ?_
      rotate_left
      ·rintro w' ⟨s0, s1, s2, s3, s4, s5, s6, s7, s8, s9⟩
       go_simp
       with_reducible rfl
      rotate_left
      ·simp only [ps]
       rfl
      refine take_ (i := 11) (N := some 35) (v := ?_) (a' := ?_) (bb 15 4095) rfl rfl (take_ofW HT_.out HW_.out (by kernel_rfl)) (fun _ _ _ h => h) (Or.inl ⟨by rfl, ?_⟩) hHeld ?_ ?_
      rotate_left
      ·rintro w' ⟨s0, s1, s2, s3, s4, s5, s6, s7, s8, s9⟩
       go_simp
       with_reducible rfl
      rotate_left
      ·simp only [ps]
       rfl
      refine one_ (i := 12) (N := some 36) (bb 15 8191) rfl rfl (one_of HT_.out (by kernel_rfl)) (by decide) (fun K hK => ?_)
      refine goes_ Try.func35 (by kernel_rfl) rfl #[.slice A327_0 ((rd_T41 l0 x5_2).f0).length c327_0, .slice A1_0 l1_0.length c1_0] (by rfl) rfl rfl (by (try simp only [List.map_toArray, List.map_cons, List.map_nil]); first | done | rfl | (simp only [List.length_drop, List.length_take]; rfl)) ?_
      with_reducible refine (hypercuberef2_Less.calls kj2 _ _ ((rd_T41 l0 x5_2).f0) _ _ l1_0 t328 _ ?side1 ?side2 ?side3 ?side4 A15.out).mono ?_
      (case side1 => repeat (first | exact (by repeat (first | (with_reducible exact HR327_0.out) | (with_reducible refine Kd.C_alloc ?_ _) | (with_reducible refine Kd.C_drewN ?_ _) | (with_reducible refine Kd.C_drew ?_) | exact HR327_0.out)) | (with_reducible refine Kd.C_alloc ?_ _) | (with_reducible refine Kd.C_drewN ?_ _) | (with_reducible refine Kd.C_drew ?_)))
      (case side2 => exact HC327_0.out)
      (case side3 => exact Kd.Cw HR1_0.out HB.out)
      (case side4 => exact HC1_0.out)
      rintro e w' ⟨rfl, ⟨nd, rfl⟩⟩
      refine ⟨_, rfl, ?_⟩
      refine hK.out _ _ ⟨(blk_cell BK324.out 0).trans rfl, (blk_cell BK324.out 1).trans rfl, (blk_cell BK324.out 2).trans rfl, (blk_cell BK324.out 3).trans rfl, (blk_cell BK324.out 4).trans rfl, hHeld.2.2.2.2.2.1, hHeld.2.2.2.2.2.2.1, hHeld.2.2.2.2.2.2.2.1, hHeld.2.2.2.2.2.2.2.2.1, hHeld.2.2.2.2.2.2.2.2.2⟩ (fun hHeld => ?_)
      clear hK K
      refine norm_ (a' := ?_) ?_ ?_
      rotate_left
      ·show Act.put _ (some 36) _ = _
       simp only [ps]
       rfl
      refine pure_ (i := 13) (N := some 37) (v := ?_) (a' := ?_) (bb 15 16383) rfl rfl (any_of HT_.out (by kernel_rfl)) (fun _ _ _ h => h) (Or.inl ⟨by rfl, ?_⟩) ?_ ?_
      rotate_left
      ·intro w'
       go_simp
       with_reducible rfl
      rotate_left
      ·simp only [ps]
       rfl
      refine pure_ (i := 14) (N := some 38) (v := ?_) (a' := ?_) (bb 15 32767) rfl rfl (any_of HT_.out (by kernel_rfl)) (fun _ _ _ h => h) (Or.inl ⟨by rfl, ?_⟩) ?_ ?_
      rotate_left
      ·intro w'
       go_simp
       with_reducible rfl
      rotate_left
      ·simp only [ps]
       rfl
      refine done_ (done_of HT_.out (by kernel_rfl)) ?_
      try go_wp2
      go_meet
      case rel => exact ⟨_, ((t328 == 0)), (by first | rfl | (simp; done) | (simp [*]; done)), H', ⟨by have := HJ2.out; first | omega | exact Nat.le_refl _⟩, ⟨by (with_reducible repeat (first | apply Kd.V_alloc | apply Kd.V_drewN | apply Kd.V_drew)); exact HO_0.out⟩, ⟨by (with_reducible repeat (first | refine blk_drewN ?_ _ | refine blk_drew ?_ | refine blk_alloc ?_ _)); exact BK324.out⟩, ⟨by repeat (first | (with_reducible first | exact HB.out | apply below_alloc | apply pw_below_drewN | apply below_drew1 | refine below_set ?_ GE324.out) | exact HB.out)⟩⟩
     ·rw [if_neg c14] at H
      exact absurd H (by simp)
    ·rw [if_neg c13] at H
     have c13b0 : decide (x5_2 < (l0.length : Int)) = false := decide_eq_false c13
     clear c13
     (first | rw [c13b0] | (simp only [i64_w, i32_w]; rw [c13b0]) | skip)
     have H' := am H
     clear H
     try go_wp2
     have n0_ := am (Kd.V_drew HO_0.out)
     have n1_ := am (blk_drew BK324.out)
     have n2_ := am (below_drew1 HB.out)
     clear HO_0 BK324 HB
     revert n0_ n1_ n2_
     intro HO_0 BK324 HB
     refine start_ (n := 15) (S := fun w' => True) (ds := []) (bb 15 0) (by kernel_rfl) rfl rfl trivial (fun hHeld => ?_); refine with_tabW hypercuberef2_Put.tab4 hypercuberef2_Put.bits4 (fun HT_ HW_ => ?_)
     generalize wc.drew = w17 at HO_0 BK324 HB hHeld ⊢
     refine pure_ (i := 0) (N := some 24) (v := ?_) (a' := ?_) (bb 15 1) rfl rfl (any_of HT_.out (by kernel_rfl)) (fun _ _ _ h => h) (Or.inl ⟨by rfl, ?_⟩) ?_ ?_
     rotate_left
     ·intro w'
      go_simp
      with_reducible rfl
     rotate_left
     ·simp only [ps]
      rfl
     refine pure_ (i := 1) (N := some 25) (v := ?_) (a' := ?_) (bb 15 3) rfl rfl (any_of HT_.out (by kernel_rfl)) (fun _ _ _ h => h) (Or.inl ⟨by rfl, ?_⟩) ?_ ?_
     rotate_left
     ·intro w'
      go_simp
      with_reducible rfl
     rotate_left
     ·simp only [ps]
      rfl
     refine pure_ (i := 2) (N := some 26) (v := ?_) (a' := ?_) (bb 15 7) rfl rfl (any_of HT_.out (by kernel_rfl)) (fun _ _ _ h => h) (Or.inl ⟨by rfl, ?_⟩) ?_ ?_
     rotate_left
     ·intro w'
      go_simp
      with_reducible rfl
     rotate_left
     ·simp only [ps]
      rfl
     refine pure_ (i := 3) (N := some 27) (v := ?_) (a' := ?_) (bb 15 15) rfl rfl (any_of HT_.out (by kernel_rfl)) (fun _ _ _ h => h) (Or.inl ⟨by rfl, ?_⟩) ?_ ?_
     rotate_left
     ·intro w'
      go_simp
      with_reducible rfl
     rotate_left
     ·simp only [ps]
      rfl
     refine pure_ (i := 4) (N := some 28) (v := ?_) (a' := ?_) (bb 15 31) rfl rfl (any_of HT_.out (by kernel_rfl)) (fun _ _ _ h => h) (Or.inl ⟨by rfl, ?_⟩) ?_ ?_
     rotate_left
     ·intro w'
      go_simp
      with_reducible rfl
     rotate_left
     ·simp only [ps]
      rfl
     refine pure_ (i := 5) (N := some 29) (v := undef) (a' := ?_) (bb 15 63) rfl rfl (any_of HT_.out (by kernel_rfl)) (fun _ _ _ h => h) (Or.inr ⟨by rfl, rfl⟩) ?_ ?_
     rotate_left
     ·simp only [ps]
      rfl
     refine pure_ (i := 6) (N := some 30) (v := undef) (a' := ?_) (bb 15 127) rfl rfl (any_of HT_.out (by kernel_rfl)) (fun _ _ _ h => h) (Or.inr ⟨by rfl, rfl⟩) ?_ ?_
     rotate_left
     ·simp only [ps]
      rfl
     refine pure_ (i := 7) (N := some 31) (v := undef) (a' := ?_) (bb 15 255) rfl rfl (any_of HT_.out (by kernel_rfl)) (fun _ _ _ h => h) (Or.inr ⟨by rfl, rfl⟩) ?_ ?_
     rotate_left
     ·simp only [ps]
      rfl
     refine pure_ (i := 8) (N := some 32) (v := undef) (a' := ?_) (bb 15 511) rfl rfl (any_of HT_.out (by kernel_rfl)) (fun _ _ _ h => h) (Or.inr ⟨by rfl, rfl⟩) ?_ ?_
     rotate_left
     ·simp only [ps]
      rfl
     refine pure_ (i := 9) (N := some 33) (v := undef) (a' := ?_) (bb 15 1023) rfl rfl (any_of HT_.out (by kernel_rfl)) (fun _ _ _ h => h) (Or.inr ⟨by rfl, rfl⟩) ?_ ?_
     rotate_left
     ·simp only [ps]
      rfl
     refine pure_ (i := 10) (N := some 34) (v := undef) (a' := ?_) (bb 15 2047) rfl rfl (any_of HT_.out (by kernel_rfl)) (fun _ _ _ h => h) (Or.inr ⟨by rfl, rfl⟩) ?_ ?_
     rotate_left
     ·simp only [ps]
      rfl
     refine pure_ (i := 11) (N := some 35) (v := undef) (a' := ?_) (bb 15 4095) rfl rfl (any_of HT_.out (by kernel_rfl)) (fun _ _ _ h => h) (Or.inr ⟨by rfl, rfl⟩) ?_ ?_
     rotate_left
     ·simp only [ps]
      rfl
     refine pure_ (i := 12) (N := some 36) (v := undef) (a' := ?_) (bb 15 8191) rfl rfl (any_of HT_.out (by kernel_rfl)) (fun _ _ _ h => h) (Or.inr ⟨by rfl, rfl⟩) ?_ ?_
     rotate_left
     ·simp only [ps]
      rfl
     refine pure_ (i := 13) (N := some 37) (v := undef) (a' := ?_) (bb 15 16383) rfl rfl (any_of HT_.out (by kernel_rfl)) (fun _ _ _ h => h) (Or.inr ⟨by rfl, rfl⟩) ?_ ?_
     rotate_left
     ·simp only [ps]
      rfl
     refine pure_ (i := 14) (N := some 38) (v := ?_) (a' := ?_) (bb 15 32767) rfl rfl (any_of HT_.out (by kernel_rfl)) (fun _ _ _ h => h) (Or.inl ⟨by rfl, ?_⟩) ?_ ?_
     rotate_left
     ·intro w'
      go_simp
      with_reducible rfl
     rotate_left
     ·simp only [ps]
      rfl
     refine done_ (done_of HT_.out (by kernel_rfl)) ?_
     try go_wp2
     go_meet
     case rel => exact ⟨_, (false), (by first | rfl | (simp; done) | (simp [*]; done)), H', ⟨by have := HJ2.out; first | omega | exact Nat.le_refl _⟩, ⟨by (with_reducible repeat (first | apply Kd.V_alloc | apply Kd.V_drewN | apply Kd.V_drew)); exact HO_0.out⟩, ⟨by (with_reducible repeat (first | refine blk_drewN ?_ _ | refine blk_drew ?_ | refine blk_alloc ?_ _)); exact BK324.out⟩, ⟨by repeat (first | (with_reducible first | exact HB.out | apply below_alloc | apply pw_below_drewN | apply below_drew1 | refine below_set ?_ GE324.out) | exact HB.out)⟩⟩
   case rest =>
    clear HC12
    try clear c1
    try clear p2
    try clear c3
    try clear p3
    try clear q3
    try clear hx3
    try clear c5
    try clear c5b0
    try clear c6
    try clear c6b0
    try clear p6
    try clear c8
    try clear c8b0
    try clear c13
    try clear c13b0
    try clear c14
    try clear c14b0
    try clear hx325_0
    try clear hx325_1
    try clear hx325_2
    try clear hx325_3
    try clear hx325_4
    try clear hx327_0
    try clear hx327_1
    try clear hx327_2
    try clear hx327_3
    try clear hx327_4
    try clear p2
    try clear p3
    try clear p325
    try clear p327
    try clear p6
    try clear q3
    try clear q325
    try clear q327
    obtain ⟨kq, x38_11, rfl, HA, HJ11, HO_0, BK324, HB⟩ := hcut
    cases kq with
    | zero => exact absurd HA.out (by simp [hypercuberef2_Put.j2])
    | succ kj11 =>
     have H := HA.out
     clear HA
     simp only [hypercuberef2_Put.j2] at H
     by_cases c18 : x38_11 = true
     ·subst c18
      have H1 : ((some (([] : List (S41)) : List (S41))).bind fun y329 => (if y329.length + l0.length < 1353245080339 then ((some (y329 ++ l0 : List (S41))).bind fun y332 => (if 0 ≤ x5_2 then (if x5_2 < (l0.length : Int) then ((hypercuberef2_Join.f kj11 ((rd_T41 l0 x5_2).f0) ((rd_T41 l0 x5_2).f1) ((rd_T41 l0 x5_2).f2) ((rd_T41 l0 x5_2).f3) ((rd_T41 l0 x5_2).f4) l1_0 a1_1 l1_2 l1_3 l1_4).bind fun bt336 => (if x5_2 < (y332.length : Int) then (some (y332.set (x5_2 : Int).toNat (⟨bt336.1, bt336.2.1, bt336.2.2.1, bt336.2.2.2.1, bt336.2.2.2.2⟩ : S41))) else (none))) else (none)) else (none))) else (none))) = some r := by rw [if_pos rfl] at H; exact H
      clear H
      have H := H1
      clear H1
      obtain ⟨y329, hy329⟩ : ∃ y_ : List (S41), y_ = (([] : List (S41))) := ⟨_, rfl⟩
      replace H : (if y329.length + l0.length < 1353245080339 then ((some (y329 ++ l0 : List (S41))).bind fun y332 => (if 0 ≤ x5_2 then (if x5_2 < (l0.length : Int) then ((hypercuberef2_Join.f kj11 ((rd_T41 l0 x5_2).f0) ((rd_T41 l0 x5_2).f1) ((rd_T41 l0 x5_2).f2) ((rd_T41 l0 x5_2).f3) ((rd_T41 l0 x5_2).f4) l1_0 a1_1 l1_2 l1_3 l1_4).bind fun bt336 => (if x5_2 < (y332.length : Int) then (some (y332.set (x5_2 : Int).toNat (⟨bt336.1, bt336.2.1, bt336.2.2.1, bt336.2.2.2.1, bt336.2.2.2.2⟩ : S41))) else (none))) else (none)) else (none))) else (none)) = some r := by first | (rw [hy329]; with_reducible exact H) | (have H2_ := (Option.bind_some _ _).symm.trans H; rw [hy329]; with_reducible exact H2_) | (have H2_ := (Option.bind_some _ _).symm.trans H; with_reducible exact H2_) | with_reducible exact H | (rw [hy329]; exact H) | exact H
      have Ny329 := am hy329
      clear hy329
      by_cases c19 : y329.length + l0.length < 1353245080339
      ·rw [if_pos c19] at H
       have LMc19 := am c19
       clear c19
       obtain ⟨y332, hy332⟩ : ∃ y_ : List (S41), y_ = (y329 ++ l0) := ⟨_, rfl⟩
       replace H : (if 0 ≤ x5_2 then (if x5_2 < (l0.length : Int) then ((hypercuberef2_Join.f kj11 ((rd_T41 l0 x5_2).f0) ((rd_T41 l0 x5_2).f1) ((rd_T41 l0 x5_2).f2) ((rd_T41 l0 x5_2).f3) ((rd_T41 l0 x5_2).f4) l1_0 a1_1 l1_2 l1_3 l1_4).bind fun bt336 => (if x5_2 < (y332.length : Int) then (some (y332.set (x5_2 : Int).toNat (⟨bt336.1, bt336.2.1, bt336.2.2.1, bt336.2.2.2.1, bt336.2.2.2.2⟩ : S41))) else (none))) else (none)) else (none)) = some r := by first | (rw [hy332]; with_reducible exact H) | (have H2_ := (Option.bind_some _ _).symm.trans H; rw [hy332]; with_reducible exact H2_) | (have H2_ := (Option.bind_some _ _).symm.trans H; with_reducible exact H2_) | with_reducible exact H | (rw [hy332]; exact H) | exact H
       have Ny332 := am hy332
       clear hy332
       by_cases c20 : 0 ≤ x5_2
       ·rw [if_pos c20] at H
        have c20b0 : decide (0 ≤ x5_2) = true := decide_eq_true c20
        clear c20
        by_cases c21 : x5_2 < (l0.length : Int)
        ·rw [if_pos c21] at H
         have c21b0 : decide (x5_2 < (l0.length : Int)) = true := decide_eq_true c21
         clear c21
         replace H := Option.bind_eq_some_iff.mp H
         obtain ⟨⟨t336, t339, t340, t343, t346⟩, A220, H⟩ := H
         replace H : (if x5_2 < (y332.length : Int) then (some (y332.set (x5_2 : Int).toNat (⟨t336, t339, t340, t343, t346⟩ : S41))) else (none)) = some r := H
         have A22 := am A220
         clear A220
         by_cases c23 : x5_2 < (y332.length : Int)
         ·rw [if_pos c23] at H
          have c23b0 : decide (x5_2 < (y332.length : Int)) = true := decide_eq_true c23
          clear c23
          obtain ⟨y349, hy349⟩ : ∃ y_ : List (S41), y_ = (y332.set (x5_2 : Int).toNat (⟨t336, t339, t340, t343, t346⟩ : S41)) := ⟨_, rfl⟩
          replace H : (some y349) = some r := by rw [hy349]; with_reducible exact H
          have Ny349 := am hy349
          clear hy349
          obtain rfl := Option.some.inj H
          try go_wp2_with (first | ((with_reducible refine gate_dst (N := 39) rfl ?_); refine Kd.N_lit k41 _ 41 ?hg (N' := 39) ?hd (xs := ([] : List (S41))) (inner := []) (ok := (fun k_ => (P0_ k_ ∨ w.heap.size ≤ k_) ∧ k_ ≠ gb324)) (okp := (fun k_ => (P0_ k_ ∨ w.heap.size ≤ k_) ∧ k_ ≠ gb324)) ?hr ?hp (fun _ hk => hk) ((show ∀ k_, wc.heap.size ≤ k_ → (fun k_ => (P0_ k_ ∨ w.heap.size ≤ k_) ∧ k_ ≠ gb324) k_ from fun k_ hk => ⟨(.inr (Nat.le_trans (below_size (wmv HB.out)) hk)), Kd.freshB (bmv BK324.out) k_ hk⟩) _ (Nat.le_refl _)) (Below.refl _ _) (Nat.le_refl _) (by simp) ?_; (case hd => rfl); (case hg => rfl); (case hr => first | (go_simp; done) | (go_simp; rfl)); (case hp => exact (Reps.none _ _)); intro v330 w25 ho26 hb hg_ hnew_; clear hg_ hnew_; (first | rw [← Ny329.out] at ho26 | (simp only [Int.reduceToNat] at ho26; rw [← Ny329.out] at ho26)); have n0_ := am (Kd.V_elder' (Kd.V_mv HO_0.out) (by first | exact Kd.N_base ho26 | exact Kd.S_base ho26 | exact Kd.R_base ho26) hb); have n1_ := am (Kd.N_lower ho26 (below_size (wmv HB.out))); have n2_ := am (blk_below (bmv BK324.out) hb); have n3_ := am (below_step (wmv HB.out) hb); clear HO_0 BK324 HB; revert n0_ n1_ n2_ n3_; intro HO_0 HO331 BK324 HB; clear hb ho26) | ((with_reducible refine gate_builtin (b := .append) (xs := #[.tmp 39, .tmp 40]) rfl ?_); at_builtin; refine Kd.N_append_rows k41 (w0 := w) w.heap.size rfl (.tmp 39) (.tmp 40) 29 41 (.agg #[(.slice none 0 0), (.int .i64 0), (.slice none 0 0), (.slice none 0 0), (.slice none 0 0)]) 104 rfl Try.underlying29 info41 rfl (by decide) (by omega) v330 y329 l0 _ _ _ (fun k_ => (P0_ k_ ∨ w.heap.size ≤ k_) ∧ k_ ≠ gb324) (fun k_ => ((fun k_ => (P0_ k_ ∨ w.heap.size ≤ k_) ∧ k_ ≠ gb324)) k_ ∧ some k_ ≠ (v330 : Value).ownBlock) rfl rfl ?aO ?aR (fun _ hk => hk) ?aF ?aB ?aS ?aL ?_; (case aR => exact (by skip; exact Kd.V_F (Kd.V_mono (ok' := (fun k_ => ((fun k_ => (P0_ k_ ∨ w.heap.size ≤ k_) ∧ k_ ≠ gb324)) k_ ∧ some k_ ≠ (v330 : Value).ownBlock)) (HO_0.out) (fun k_ hk => ⟨⟨hk.1.1, hk.1.2⟩, hk.2⟩)))); (case aB => exact (wmv HB.out)); (case aF => exact (fun k_ hk => ⟨(.inr (Nat.le_trans (below_size (wmv HB.out)) hk)), Kd.freshB (bmv BK324.out) k_ hk⟩)); (case aO => exact (Kd.N_mv HO331.out)); (case aS => exact (below_size (wmv HB.out))); (case aL => have := LMc19.out; omega); intro v333 w27 ho hb hg hat; rw [← Ny332.out] at ho; have n0_ := am (Kd.V_afterv (ok := (fun k_ => (P0_ k_ ∨ w.heap.size ≤ k_) ∧ k_ ≠ gb324)) (Kd.V_mv HO_0.out) hg hat); have n1_ := am (blk_grown (bmv BK324.out) hg (Kd.N_away HO331.out (fun _ hk => hk.2))); have n2_ := am (hb); have n3_ := am (ho); clear HO_0 BK324 HB HO331; revert n0_ n1_ n2_ n3_; intro HO_0 BK324 HB HO334; clear ho hb hg hat))
          have n0_ := am (Kd.V_drew HO_0.out)
          have n1_ := am (Kd.N_drew HO334.out)
          have n2_ := am (blk_drew BK324.out)
          have n3_ := am (below_drew1 HB.out)
          clear HO_0 HO334 BK324 HB
          revert n0_ n1_ n2_ n3_
          intro HO_0 HO334 BK324 HB
          have p335 : 0 ≤ (x5_2 : Int) := of_decide_eq_true (by first | (with_reducible assumption) | assumption)
          have q335 : x5_2 < (l0.length : Int) := of_decide_eq_true (by first | (with_reducible assumption) | assumption)
          obtain ⟨ad335, A335_0, c335_0, A335_2, c335_2, A335_3, c335_3, A335_4, c335_4, e335, hx335_0, hx335_1, hx335_2, hx335_3, hx335_4, hl335_0, hi335_0, hl335_2, hi335_2, hl335_3, hi335_3, hl335_4, hi335_4⟩ := at_T41 (Kd.V_reads' HO_0.out).2.2 x5_2 p335 q335
          cases e335
          obtain ⟨ce335, hce335, hMe335, hcc335⟩ := Kd.V_get HO_0.out z41 x5_2 p335 (by first | exact q335 | exact of_decide_eq_true (by first | (with_reducible assumption) | assumption) | (have e_ := (Kd.V_reads' HO_0.out).1; omega))
          obtain ⟨ua335_0, uc335_0, ua335_2, uc335_2, ua335_3, uc335_3, ua335_4, uc335_4, rfl, ul335_0, ge335_0, ul335_2, ge335_2, ul335_3, ge335_3, ul335_4, ge335_4⟩ := k41_openF hMe335
          have hv335_0 := hcc335 0 _ rfl
          rw [Nat.add_zero] at hv335_0
          replace hv335_0 := Option.some.inj (hv335_0.symm.trans hx335_0)
          injection hv335_0 with hva_ hvn_ hvc_
          rw [hva_] at ge335_0
          rw [hvc_] at ul335_0
          have HL335_0 := am (show Kd.V (Kd.int .i64) 3 _ w.heap.size _ _ ((rd_T41 l0 x5_2).f0) from Kd.V_mk ul335_0 ge335_0)
          clear hva_ hvn_ hvc_ ge335_0 ul335_0
          have hv335_2 := hcc335 2 _ rfl
          rw [add_field _ _ 2 (by omega)] at hv335_2
          replace hv335_2 := Option.some.inj (hv335_2.symm.trans hx335_2)
          injection hv335_2 with hva_ hvn_ hvc_
          rw [hva_] at ge335_2
          rw [hvc_] at ul335_2
          have HL335_2 := am (show Kd.V (Kd.int .i64) 3 _ w.heap.size _ _ ((rd_T41 l0 x5_2).f2) from Kd.V_mk ul335_2 ge335_2)
          clear hva_ hvn_ hvc_ ge335_2 ul335_2
          have hv335_3 := hcc335 3 _ rfl
          rw [add_field _ _ 3 (by omega)] at hv335_3
          replace hv335_3 := Option.some.inj (hv335_3.symm.trans hx335_3)
          injection hv335_3 with hva_ hvn_ hvc_
          rw [hva_] at ge335_3
          rw [hvc_] at ul335_3
          have HL335_3 := am (show Kd.V (Kd.int .i64) 3 _ w.heap.size _ _ ((rd_T41 l0 x5_2).f3) from Kd.V_mk ul335_3 ge335_3)
          clear hva_ hvn_ hvc_ ge335_3 ul335_3
          have hv335_4 := hcc335 4 _ rfl
          rw [add_field _ _ 4 (by omega)] at hv335_4
          replace hv335_4 := Option.some.inj (hv335_4.symm.trans hx335_4)
          injection hv335_4 with hva_ hvn_ hvc_
          rw [hva_] at ge335_4
          rw [hvc_] at ul335_4
          have HL335_4 := am (show Kd.V (Kd.int .i64) 3 _ w.heap.size _ _ ((rd_T41 l0 x5_2).f4) from Kd.V_mk ul335_4 ge335_4)
          clear hva_ hvn_ hvc_ ge335_4 ul335_4
          clear hcc335 hce335
          have HR335_0 := am hi335_0
          have HC335_0 := am hl335_0
          clear hi335_0 hl335_0
          have HR335_2 := am hi335_2
          have HC335_2 := am hl335_2
          clear hi335_2 hl335_2
          have HR335_3 := am hi335_3
          have HC335_3 := am hl335_3
          clear hi335_3 hl335_3
          have HR335_4 := am hi335_4
          have HC335_4 := am hl335_4
          clear hi335_4 hl335_4
          replace p335 := eq_true p335
          replace q335 := eq_true q335
          refine start_ (n := 10) (S := fun w' => w'.cell? ⟨gb324, 0, none⟩ = some (.slice A1_0 l1_0.length c1_0) ∧ w'.cell? ⟨gb324, 1, none⟩ = some (.int .i64 a1_1) ∧ w'.cell? ⟨gb324, 2, none⟩ = some (.slice A1_2 l1_2.length c1_2) ∧ w'.cell? ⟨gb324, 3, none⟩ = some (.slice A1_3 l1_3.length c1_3) ∧ w'.cell? ⟨gb324, 4, none⟩ = some (.slice A1_4 l1_4.length c1_4) ∧ w'.cell? (ad335.add ((x5_2).toNat * 5)) = some (.slice A335_0 ((rd_T41 l0 x5_2).f0).length c335_0) ∧ w'.cell? ⟨(ad335.add ((x5_2).toNat * 5)).block, (ad335.add ((x5_2).toNat * 5)).off + 1, none⟩ = some (.int .i64 ((rd_T41 l0 x5_2).f1)) ∧ w'.cell? ⟨(ad335.add ((x5_2).toNat * 5)).block, (ad335.add ((x5_2).toNat * 5)).off + 2, none⟩ = some (.slice A335_2 ((rd_T41 l0 x5_2).f2).length c335_2) ∧ w'.cell? ⟨(ad335.add ((x5_2).toNat * 5)).block, (ad335.add ((x5_2).toNat * 5)).off + 3, none⟩ = some (.slice A335_3 ((rd_T41 l0 x5_2).f3).length c335_3) ∧ w'.cell? ⟨(ad335.add ((x5_2).toNat * 5)).block, (ad335.add ((x5_2).toNat * 5)).off + 4, none⟩ = some (.slice A335_4 ((rd_T41 l0 x5_2).f4).length c335_4)) (ds := [9]) (bb 10 0) (by kernel_rfl) rfl rfl ⟨(blk_cell BK324.out 0).trans rfl, (blk_cell BK324.out 1).trans rfl, (blk_cell BK324.out 2).trans rfl, (blk_cell BK324.out 3).trans rfl, (blk_cell BK324.out 4).trans rfl, hx335_0, hx335_1, hx335_2, hx335_3, hx335_4⟩ (fun hHeld => ?_); refine with_tabW hypercuberef2_Put.tab6 hypercuberef2_Put.bits6 (fun HT_ HW_ => ?_)
          generalize w27.drew = w28 at HO_0 HO334 BK324 HB HL335_0 HL335_2 HL335_3 HL335_4 HR335_0 HR335_2 HR335_3 HR335_4 hx335_0 hx335_1 hx335_2 hx335_3 hx335_4 hHeld ⊢
          refine pure_ (i := 0) (N := some 42) (v := ?_) (a' := ?_) (bb 10 1) rfl rfl (any_of HT_.out (by kernel_rfl)) (fun _ _ _ h => h) (Or.inl ⟨by rfl, ?_⟩) ?_ ?_
          rotate_left
          ·intro w'
           go_simp
           with_reducible rfl
          rotate_left
          ·simp only [ps]
           rfl
          refine pure_ (i := 1) (N := some 43) (v := ?_) (a' := ?_) (bb 10 3) rfl rfl (any_of HT_.out (by kernel_rfl)) (fun _ _ _ h => h) (Or.inl ⟨by rfl, ?_⟩) ?_ ?_
          rotate_left
          ·intro w'
           go_simp
           with_reducible rfl
          rotate_left
          ·simp only [ps]
           rfl
          refine pure_ (i := 2) (N := some 44) (v := ?_) (a' := ?_) (bb 10 7) rfl rfl (any_of HT_.out (by kernel_rfl)) (fun _ _ _ h => h) (Or.inl ⟨by rfl, ?_⟩) ?_ ?_
          rotate_left
          ·intro w'
           go_simp
           with_reducible rfl
          rotate_left
          ·simp only [ps]
           rfl
          refine pure_ (i := 3) (N := some 45) (v := ?_) (a' := ?_) (bb 10 15) rfl rfl (any_of HT_.out (by kernel_rfl)) (fun _ _ _ h => h) (Or.inl ⟨by rfl, ?_⟩) ?_ ?_
          rotate_left
          ·intro w'
           go_simp
           with_reducible rfl
          rotate_left
          ·simp only [ps]
           rfl
          refine pure_ (i := 4) (N := some 46) (v := ?_) (a' := ?_) (bb 10 31) rfl rfl (any_of HT_.out (by kernel_rfl)) (fun _ _ _ h => h) (Or.inl ⟨by rfl, ?_⟩) ?_ ?_
          rotate_left
          ·intro w'
           go_simp
           with_reducible rfl
          rotate_left
          ·simp only [ps]
           rfl
          refine take_ (i := 5) (N := some 47) (v := ?_) (a' := ?_) (bb 10 63) rfl rfl (take_ofW HT_.out HW_.out (by kernel_rfl)) (fun _ _ _ h => h) (Or.inl ⟨by rfl, ?_⟩) hHeld ?_ ?_
          rotate_left
          ·rintro w' ⟨s0, s1, s2, s3, s4, s5, s6, s7, s8, s9⟩
           go_simp
           with_reducible rfl
          rotate_left
          ·simp only [ps]
           rfl
          refine take_ (i := 6) (N := some 48) (v := ?_) (a' := ?_) (bb 10 127) rfl rfl (take_ofW HT_.out HW_.out (by kernel_rfl)) (fun _ _ _ h => h) (Or.inl ⟨by rfl, ?_⟩) hHeld ?_ ?_
          rotate_left
          ·rintro w' ⟨s0, s1, s2, s3, s4, s5, s6, s7, s8, s9⟩
           go_simp
           with_reducible rfl
          rotate_left
          ·simp only [ps]
           rfl
          refine one_ (i := 7) (N := some 49) (bb 10 255) rfl rfl (one_of HT_.out (by kernel_rfl)) (by decide) (fun K hK => ?_)
          refine goes_ Try.func41 (by kernel_rfl) rfl #[.agg #[.slice A335_0 ((rd_T41 l0 x5_2).f0).length c335_0, .int .i64 ((rd_T41 l0 x5_2).f1), .slice A335_2 ((rd_T41 l0 x5_2).f2).length c335_2, .slice A335_3 ((rd_T41 l0 x5_2).f3).length c335_3, .slice A335_4 ((rd_T41 l0 x5_2).f4).length c335_4], .agg #[.slice A1_0 l1_0.length c1_0, .int .i64 a1_1, .slice A1_2 l1_2.length c1_2, .slice A1_3 l1_3.length c1_3, .slice A1_4 l1_4.length c1_4]] (by rfl) rfl rfl (by (try simp only [List.map_toArray, List.map_cons, List.map_nil]); first | done | rfl | (simp only [List.length_drop, List.length_take]; rfl)) ?_
          with_reducible refine (hypercuberef2_Join.calls kj11 _ _ ((rd_T41 l0 x5_2).f0) ((rd_T41 l0 x5_2).f1) _ _ ((rd_T41 l0 x5_2).f2) _ _ ((rd_T41 l0 x5_2).f3) _ _ ((rd_T41 l0 x5_2).f4) _ _ l1_0 a1_1 _ _ l1_2 _ _ l1_3 _ _ l1_4 t336 t339 t340 t343 t346 _ ?side1 ?side2 ?side3 ?side4 ?side5 ?side6 ?side7 ?side8 ?side9 ?side10 ?side11 ?side12 ?side13 ?side14 ?side15 ?side16 A22.out).mono ?_
          (case side1 => repeat (first | exact (by repeat (first | (with_reducible exact HR335_0.out) | (with_reducible refine Kd.C_alloc ?_ _) | (with_reducible refine Kd.C_drewN ?_ _) | (with_reducible refine Kd.C_drew ?_) | exact HR335_0.out)) | (with_reducible refine Kd.C_alloc ?_ _) | (with_reducible refine Kd.C_drewN ?_ _) | (with_reducible refine Kd.C_drew ?_)))
          (case side2 => exact HC335_0.out)
          (case side3 => repeat (first | exact (by repeat (first | (with_reducible exact HR335_2.out) | (with_reducible refine Kd.C_alloc ?_ _) | (with_reducible refine Kd.C_drewN ?_ _) | (with_reducible refine Kd.C_drew ?_) | exact HR335_2.out)) | (with_reducible refine Kd.C_alloc ?_ _) | (with_reducible refine Kd.C_drewN ?_ _) | (with_reducible refine Kd.C_drew ?_)))
          (case side4 => exact HC335_2.out)
          (case side5 => repeat (first | exact (by repeat (first | (with_reducible exact HR335_3.out) | (with_reducible refine Kd.C_alloc ?_ _) | (with_reducible refine Kd.C_drewN ?_ _) | (with_reducible refine Kd.C_drew ?_) | exact HR335_3.out)) | (with_reducible refine Kd.C_alloc ?_ _) | (with_reducible refine Kd.C_drewN ?_ _) | (with_reducible refine Kd.C_drew ?_)))
          (case side6 => exact HC335_3.out)
          (case side7 => repeat (first | exact (by repeat (first | (with_reducible exact HR335_4.out) | (with_reducible refine Kd.C_alloc ?_ _) | (with_reducible refine Kd.C_drewN ?_ _) | (with_reducible refine Kd.C_drew ?_) | exact HR335_4.out)) | (with_reducible refine Kd.C_alloc ?_ _) | (with_reducible refine Kd.C_drewN ?_ _) | (with_reducible refine Kd.C_drew ?_)))
          (case side8 => exact HC335_4.out)
          (case side9 => exact Kd.Cw HR1_0.out HB.out)
          (case side10 => exact HC1_0.out)
          (case side11 => exact Kd.Cw HR1_2.out HB.out)
          (case side12 => exact HC1_2.out)
          (case side13 => exact Kd.Cw HR1_3.out HB.out)
          (case side14 => exact HC1_3.out)
          (case side15 => exact Kd.Cw HR1_4.out HB.out)
          (case side16 => exact HC1_4.out)
          rintro e w29 ⟨v337, v341, v344, v347, rfl, ho0, ho1, ho2, ho3, hb⟩
          have HS5_ := (hb.cell (World.block_lt_of_cell? _ _ (hHeld.2.2.2.2.2.1))).trans (hHeld.2.2.2.2.2.1)
          have HS6_ := (hb.cell (World.block_lt_of_cell? _ _ (hHeld.2.2.2.2.2.2.1))).trans (hHeld.2.2.2.2.2.2.1)
          have HS7_ := (hb.cell (World.block_lt_of_cell? _ _ (hHeld.2.2.2.2.2.2.2.1))).trans (hHeld.2.2.2.2.2.2.2.1)
          have HS8_ := (hb.cell (World.block_lt_of_cell? _ _ (hHeld.2.2.2.2.2.2.2.2.1))).trans (hHeld.2.2.2.2.2.2.2.2.1)
          have HS9_ := (hb.cell (World.block_lt_of_cell? _ _ (hHeld.2.2.2.2.2.2.2.2.2))).trans (hHeld.2.2.2.2.2.2.2.2.2)
          refine ⟨_, rfl, ?_⟩
          have n0_ := am (Kd.V_mono (Kd.V_told (Kd.V_told (Kd.V_told (Kd.V_told (Kd.V_old (Kd.V_mv HO_0.out) hb) (Kd.R_base ho0)) (Kd.R_base ho1)) (Kd.R_base ho2)) (Kd.R_base ho3)) (fun _ h_ => h_.1))
          have n1_ := am (Kd.N_mono (Kd.N_told (Kd.N_told (Kd.N_told (Kd.N_told (Kd.N_old (Kd.N_mv HO334.out) hb) (Kd.R_base ho0)) (Kd.R_base ho1)) (Kd.R_base ho2)) (Kd.R_base ho3)) (fun _ h_ => h_.1))
          have n2_ := am (Kd.V_mono (Kd.V_told (Kd.V_told (Kd.V_told (Kd.V_told (Kd.V_old (Kd.V_mv HL335_0.out) hb) (Kd.R_base ho0)) (Kd.R_base ho1)) (Kd.R_base ho2)) (Kd.R_base ho3)) (fun _ h_ => h_.1))
          have n3_ := am (Kd.V_mono (Kd.V_told (Kd.V_told (Kd.V_told (Kd.V_told (Kd.V_old (Kd.V_mv HL335_2.out) hb) (Kd.R_base ho0)) (Kd.R_base ho1)) (Kd.R_base ho2)) (Kd.R_base ho3)) (fun _ h_ => h_.1))
          have n4_ := am (Kd.V_mono (Kd.V_told (Kd.V_told (Kd.V_told (Kd.V_told (Kd.V_old (Kd.V_mv HL335_3.out) hb) (Kd.R_base ho0)) (Kd.R_base ho1)) (Kd.R_base ho2)) (Kd.R_base ho3)) (fun _ h_ => h_.1))
          have n5_ := am (Kd.V_mono (Kd.V_told (Kd.V_told (Kd.V_told (Kd.V_told (Kd.V_old (Kd.V_mv HL335_4.out) hb) (Kd.R_base ho0)) (Kd.R_base ho1)) (Kd.R_base ho2)) (Kd.R_base ho3)) (fun _ h_ => h_.1))
          have n6_ := am (Kd.R_lower (Kd.R_newM (M := fun k_ => (w.heap.size ≤ k_)) ho0 (below_size (wmv HB.out)) (fun k_ h_ => h_)) (below_size (wmv HB.out)))
          have n7_ := am (Kd.R_lower (Kd.R_newM (M := fun k_ => (w.heap.size ≤ k_)) ho1 (below_size (wmv HB.out)) (fun k_ h_ => h_)) (below_size (wmv HB.out)))
          have n8_ := am (Kd.R_lower (Kd.R_newM (M := fun k_ => (w.heap.size ≤ k_)) ho2 (below_size (wmv HB.out)) (fun k_ h_ => h_)) (below_size (wmv HB.out)))
          have n9_ := am (Kd.R_lower (Kd.R_newM (M := fun k_ => (w.heap.size ≤ k_)) ho3 (below_size (wmv HB.out)) (fun k_ h_ => h_)) (below_size (wmv HB.out)))
          have n10_ := am (blk_below (bmv BK324.out) hb)
          have n11_ := am (Kd.C_below (by repeat (first | (with_reducible exact HR335_0.out) | (with_reducible refine Kd.C_alloc ?_ _) | (with_reducible refine Kd.C_drewN ?_ _) | (with_reducible refine Kd.C_drew ?_) | exact HR335_0.out)) hb)
          have n12_ := am (Kd.C_below (by repeat (first | (with_reducible exact HR335_2.out) | (with_reducible refine Kd.C_alloc ?_ _) | (with_reducible refine Kd.C_drewN ?_ _) | (with_reducible refine Kd.C_drew ?_) | exact HR335_2.out)) hb)
          have n13_ := am (Kd.C_below (by repeat (first | (with_reducible exact HR335_3.out) | (with_reducible refine Kd.C_alloc ?_ _) | (with_reducible refine Kd.C_drewN ?_ _) | (with_reducible refine Kd.C_drew ?_) | exact HR335_3.out)) hb)
          have n14_ := am (Kd.C_below (by repeat (first | (with_reducible exact HR335_4.out) | (with_reducible refine Kd.C_alloc ?_ _) | (with_reducible refine Kd.C_drewN ?_ _) | (with_reducible refine Kd.C_drew ?_) | exact HR335_4.out)) hb)
          have n15_ := am (below_step (wmv HB.out) hb)
          clear HO_0 HO334 HL335_0 HL335_2 HL335_3 HL335_4 BK324 HR335_0 HR335_2 HR335_3 HR335_4 HB
          revert n0_ n1_ n2_ n3_ n4_ n5_ n6_ n7_ n8_ n9_ n10_ n11_ n12_ n13_ n14_ n15_
          intro HO_0 HO334 HL335_0 HL335_2 HL335_3 HL335_4 HO338 HO342 HO345 HO348 BK324 HR335_0 HR335_2 HR335_3 HR335_4 HB
          (try clear hb)
          (try clear hb2)
          (try clear hk)
          (try clear hi)
          (try clear ho0)
          (try clear ho1)
          (try clear ho2)
          (try clear ho3)
          have p24 : 0 ≤ (x5_2 : Int) := of_decide_eq_true (by first | (with_reducible assumption) | assumption)
          have q24 : (x5_2 : Int) < ((y332.length : Int) : Int) := of_decide_eq_true (by first | (with_reducible assumption) | assumption)
          obtain ⟨go24, co24, eo24, gb24, gl24, cl24, HG24⟩ := Kd.N_form HO334.out (by omega)
          (first | cases eo24 | (injection eo24 with ea_ en_ ec_; (first | subst ea_ | (injection ea_ with ea_; subst ea_)); subst ec_; clear en_))
          have GB24 := am gb24
          have GG24 := am HG24
          clear gb24 gl24 HG24
          obtain ⟨ce24, hcl24, hM24, hcc24, hfr24⟩ := Kd.N_elem HO334.out z41 (x5_2 : Int) p24 q24
          obtain ⟨ua24_0, uc24_0, ua24_2, uc24_2, ua24_3, uc24_3, ua24_4, uc24_4, rfl, ul24_0, ge24_0, ul24_2, ge24_2, ul24_3, ge24_3, ul24_4, ge24_4⟩ := k41_openF hM24
          have hx24_0 : World.cell? _ ⟨go24, (x5_2 : Int).toNat * 5, none⟩ = some (.slice ua24_0 ((rd_T41 y332 x5_2).f0).length uc24_0) := hcc24 0 _ rfl
          have hx24_1 : World.cell? _ ⟨go24, (x5_2 : Int).toNat * 5 + 1, none⟩ = some (.int .i64 ((rd_T41 y332 x5_2).f1)) := hcc24 1 _ rfl
          have hx24_2 : World.cell? _ ⟨go24, (x5_2 : Int).toNat * 5 + 2, none⟩ = some (.slice ua24_2 ((rd_T41 y332 x5_2).f2).length uc24_2) := hcc24 2 _ rfl
          have hx24_3 : World.cell? _ ⟨go24, (x5_2 : Int).toNat * 5 + 3, none⟩ = some (.slice ua24_3 ((rd_T41 y332 x5_2).f3).length uc24_3) := hcc24 3 _ rfl
          have hx24_4 : World.cell? _ ⟨go24, (x5_2 : Int).toNat * 5 + 4, none⟩ = some (.slice ua24_4 ((rd_T41 y332 x5_2).f4).length uc24_4) := hcc24 4 _ rfl
          have hf24_0 : World.frozen? _ ⟨go24, (x5_2 : Int).toNat * 5, none⟩ = false := hfr24 0
          have hf24_1 : World.frozen? _ ⟨go24, (x5_2 : Int).toNat * 5 + 1, none⟩ = false := hfr24 1
          have hf24_2 : World.frozen? _ ⟨go24, (x5_2 : Int).toNat * 5 + 2, none⟩ = false := hfr24 2
          have hf24_3 : World.frozen? _ ⟨go24, (x5_2 : Int).toNat * 5 + 3, none⟩ = false := hfr24 3
          have hf24_4 : World.frozen? _ ⟨go24, (x5_2 : Int).toNat * 5 + 4, none⟩ = false := hfr24 4
          clear hcl24 hcc24 hfr24 hM24
          replace p24 := eq_true p24
          replace q24 := eq_true q24
          obtain ⟨Bv337, bv337, ev_⟩ := Kd.R_slice HO338.out
          subst ev_
          obtain ⟨Bv341, bv341, ev_⟩ := Kd.R_slice HO342.out
          subst ev_
          obtain ⟨Bv344, bv344, ev_⟩ := Kd.R_slice HO345.out
          subst ev_
          obtain ⟨Bv347, bv347, ev_⟩ := Kd.R_slice HO348.out
          subst ev_
          have HX30 := am (show Kd.N k41 41 _ w.heap.size (fun k_ => (P0_ k_ ∨ w.heap.size ≤ k_) ∧ some k_ ≠ ((.slice Bv337 t336.length bv337) : Value).ownBlock ∧ some k_ ≠ ((.slice Bv341 t340.length bv341) : Value).ownBlock ∧ some k_ ≠ ((.slice Bv344 t343.length bv344) : Value).ownBlock ∧ some k_ ≠ ((.slice Bv347 t346.length bv347) : Value).ownBlock ∧ k_ ≠ gb324) (.slice (some ⟨go24, 0, none⟩) y332.length co24) y332 from (Kd.N_mono (HO334.out) (fun k_ hk => ⟨hk.1.1.1.1.1, ⟨hk.1.1.1.2, ⟨hk.1.1.2, ⟨hk.1.2, ⟨hk.2, hk.1.1.1.1.2⟩⟩⟩⟩⟩)))
          replace HX30 := am (show Kd.N k41 41 _ w.heap.size (fun k_ => (P0_ k_ ∨ w.heap.size ≤ k_) ∧ k_ ≠ gb324) (.slice (some ⟨go24, 0, none⟩) y332.length co24) y332 from Kd.N_mono HX30.out (fun k_ hk => ⟨hk.1, hk.2.2.2.2.2⟩))
          obtain ⟨ce30, hcl30, hM30, hcc30, hfr30⟩ := Kd.N_elem HX30.out z41 (x5_2 : Int) (of_decide_eq_true (by first | (with_reducible assumption) | assumption)) (by have h_ : (x5_2 : Int) < ((y332.length : Int) : Int) := of_decide_eq_true (by first | (with_reducible assumption) | assumption); first | exact h_ | (have e_ := (Kd.N_reads' HO334.out).1; omega) | simpa using h_)
          obtain ⟨ua30_0, uc30_0, ua30_2, uc30_2, ua30_3, uc30_3, ua30_4, uc30_4, rfl, ul30_0, ge30_0, ul30_2, ge30_2, ul30_3, ge30_3, ul30_4, ge30_4⟩ := k41_openF hM30
          have HP30 := (Kd.N_seg HX30.out (x5_2 : Int) (of_decide_eq_true (by first | (with_reducible assumption) | assumption)) (by have h_ : (x5_2 : Int) < ((y332.length : Int) : Int) := of_decide_eq_true (by first | (with_reducible assumption) | assumption); first | exact h_ | (have e_ := (Kd.N_reads' HO334.out).1; omega) | simpa using h_) (seg := [(.slice Bv337 t336.length bv337), .int .i64 t339, (.slice Bv341 t340.length bv341), (.slice Bv344 t343.length bv344), (.slice Bv347 t346.length bv347)]) (j := 0) hcl30 hcc30 (show 5 ≤ 5 from by decide) (x' := (⟨t336, t339, t340, t343, t346⟩ : S41)) (k41_mkF _ _ (⟨t336, t339, t340, t343, t346⟩ : S41) (Kd.R_reads' (Kd.R_mono (ok' := (fun k_ => ((fun k_ => (P0_ k_ ∨ w.heap.size ≤ k_) ∧ k_ ≠ gb324)) k_ ∧ k_ ≠ go24)) (Kd.R_types (Kd.R_apart' (HO338.out) (Kd.N_typed HO334.out) (by decide)) BK324.out (by decide)) (fun k_ hk => ⟨⟨(.inr (hk.1.1.1)), hk.2⟩, fun e_ => (hk.1.2) (by rw [e_]; rfl)⟩))).2.1 (Kd.R_F (Kd.R_mono (ok' := (fun k_ => ((fun k_ => (P0_ k_ ∨ w.heap.size ≤ k_) ∧ k_ ≠ gb324)) k_ ∧ k_ ≠ go24)) (Kd.R_types (Kd.R_apart' (HO338.out) (Kd.N_typed HO334.out) (by decide)) BK324.out (by decide)) (fun k_ hk => ⟨⟨(.inr (hk.1.1.1)), hk.2⟩, fun e_ => (hk.1.2) (by rw [e_]; rfl)⟩))) (Kd.R_reads' (Kd.R_mono (ok' := (fun k_ => ((fun k_ => (P0_ k_ ∨ w.heap.size ≤ k_) ∧ k_ ≠ gb324)) k_ ∧ k_ ≠ go24)) (Kd.R_types (Kd.R_apart' (HO342.out) (Kd.N_typed HO334.out) (by decide)) BK324.out (by decide)) (fun k_ hk => ⟨⟨(.inr (hk.1.1.1)), hk.2⟩, fun e_ => (hk.1.2) (by rw [e_]; rfl)⟩))).2.1 (Kd.R_F (Kd.R_mono (ok' := (fun k_ => ((fun k_ => (P0_ k_ ∨ w.heap.size ≤ k_) ∧ k_ ≠ gb324)) k_ ∧ k_ ≠ go24)) (Kd.R_types (Kd.R_apart' (HO342.out) (Kd.N_typed HO334.out) (by decide)) BK324.out (by decide)) (fun k_ hk => ⟨⟨(.inr (hk.1.1.1)), hk.2⟩, fun e_ => (hk.1.2) (by rw [e_]; rfl)⟩))) (Kd.R_reads' (Kd.R_mono (ok' := (fun k_ => ((fun k_ => (P0_ k_ ∨ w.heap.size ≤ k_) ∧ k_ ≠ gb324)) k_ ∧ k_ ≠ go24)) (Kd.R_types (Kd.R_apart' (HO345.out) (Kd.N_typed HO334.out) (by decide)) BK324.out (by decide)) (fun k_ hk => ⟨⟨(.inr (hk.1.1.1)), hk.2⟩, fun e_ => (hk.1.2) (by rw [e_]; rfl)⟩))).2.1 (Kd.R_F (Kd.R_mono (ok' := (fun k_ => ((fun k_ => (P0_ k_ ∨ w.heap.size ≤ k_) ∧ k_ ≠ gb324)) k_ ∧ k_ ≠ go24)) (Kd.R_types (Kd.R_apart' (HO345.out) (Kd.N_typed HO334.out) (by decide)) BK324.out (by decide)) (fun k_ hk => ⟨⟨(.inr (hk.1.1.1)), hk.2⟩, fun e_ => (hk.1.2) (by rw [e_]; rfl)⟩))) (Kd.R_reads' (Kd.R_mono (ok' := (fun k_ => ((fun k_ => (P0_ k_ ∨ w.heap.size ≤ k_) ∧ k_ ≠ gb324)) k_ ∧ k_ ≠ go24)) (Kd.R_types (Kd.R_apart' (HO348.out) (Kd.N_typed HO334.out) (by decide)) BK324.out (by decide)) (fun k_ hk => ⟨⟨(.inr (hk.1.1.1)), hk.2⟩, fun e_ => (hk.1.2) (by rw [e_]; rfl)⟩))).2.1 (Kd.R_F (Kd.R_mono (ok' := (fun k_ => ((fun k_ => (P0_ k_ ∨ w.heap.size ≤ k_) ∧ k_ ≠ gb324)) k_ ∧ k_ ≠ go24)) (Kd.R_types (Kd.R_apart' (HO348.out) (Kd.N_typed HO334.out) (by decide)) BK324.out (by decide)) (fun k_ hk => ⟨⟨(.inr (hk.1.1.1)), hk.2⟩, fun e_ => (hk.1.2) (by rw [e_]; rfl)⟩)))) (fun _ hk => hk)).1
          rw [← Ny349.out] at HP30
          have HQ30 := am HP30
          clear hcl30 hcc30 hfr30 hM30 HP30
          refine hK.out _ _ ⟨(blk_cell BK324.out 0).trans rfl, (blk_cell BK324.out 1).trans rfl, (blk_cell BK324.out 2).trans rfl, (blk_cell BK324.out 3).trans rfl, (blk_cell BK324.out 4).trans rfl, HS5_, HS6_, HS7_, HS8_, HS9_⟩ (fun hHeld => ?_)
          clear hK K
          refine norm_ (a' := ?_) ?_ ?_
          rotate_left
          ·show Act.put _ (some 49) _ = _
           simp only [ps]
           rfl
          refine pure_ (i := 8) (N := some 50) (v := ?_) (a' := ?_) (bb 10 511) rfl rfl (any_of HT_.out (by kernel_rfl)) (fun _ _ _ h => h) (Or.inl ⟨by rfl, ?_⟩) ?_ ?_
          rotate_left
          ·intro w'
           go_simp
           with_reducible rfl
          rotate_left
          ·simp only [ps]
           rfl
          refine last_ (i := 9) (N := none) (bb 10 1023) rfl rfl (one_of HT_.out (by kernel_rfl)) (by decide) (fun K hK => ?_)
          refine skip_ (w1 := ?_) (by rfl) rfl ?_ ?_
          rotate_left
          ·go_simp
           rfl
          refine hK.out _ _ ?_
          clear hK K
          refine done_ (done_of HT_.out (by kernel_rfl)) ?_
          try go_wp2
          go_ret
          exact ⟨_, by first | rfl | (simp [errW_none, errW_some] <;> rfl) | (simp [*, errW_none, errW_some] <;> rfl), by (with_reducible repeat (first | apply Kd.N_alloc | apply Kd.N_drewN | apply Kd.N_drew)); exact Kd.N_mono HQ30.out (fun _ hk => hk.1), by repeat (first | (with_reducible first | exact HB.out | apply below_alloc | apply pw_below_drewN | apply below_drew1 | refine below_set ?_ GB24.out | refine below_set ?_ GB24.out | refine below_set ?_ GB24.out | refine below_set ?_ GB24.out | refine below_set ?_ GB24.out | refine below_set ?_ GE324.out) | exact HB.out)⟩
         ·rw [if_neg c23] at H
          exact absurd H (by simp)
        ·rw [if_neg c21] at H
         exact absurd H (by simp)
       ·rw [if_neg c20] at H
        exact absurd H (by simp)
      ·rw [if_neg c19] at H
       exact absurd H (by simp)
     ·replace c18 := Bool.eq_false_iff.mpr c18
      subst c18
      have H1 : ((some (([] : List (S41)) : List (S41))).bind fun y350 => (if 0 ≤ x5_2 then (if x5_2 ≤ (l0.length : Int) then ((some (l0.take (x5_2 : Int).toNat : List (S41))).bind fun y353 => (if y350.length + y353.length < 1353245080339 then ((some (y350 ++ y353 : List (S41))).bind fun y358 => ((hypercuberef2_Copy.f l1_0 a1_1 l1_2 l1_3 l1_4).bind fun bt361 => (if y358.length < 1353245080339 then ((some (y358 ++ [(⟨bt361.1, bt361.2.1, bt361.2.2.1, bt361.2.2.2.1, bt361.2.2.2.2⟩ : S41)] : List (S41))).bind fun y374 => ((some (l0.drop (x5_2 : Int).toNat : List (S41))).bind fun y377 => (if y374.length + y377.length < 1353245080339 then (some (y374 ++ y377)) else (none)))) else (none)))) else (none))) else (none)) else (none))) = some r := by rw [if_neg (show ¬ (false = true) by decide)] at H; exact H
      clear H
      have H := H1
      clear H1
      obtain ⟨y350, hy350⟩ : ∃ y_ : List (S41), y_ = (([] : List (S41))) := ⟨_, rfl⟩
      replace H : (if 0 ≤ x5_2 then (if x5_2 ≤ (l0.length : Int) then ((some (l0.take (x5_2 : Int).toNat : List (S41))).bind fun y353 => (if y350.length + y353.length < 1353245080339 then ((some (y350 ++ y353 : List (S41))).bind fun y358 => ((hypercuberef2_Copy.f l1_0 a1_1 l1_2 l1_3 l1_4).bind fun bt361 => (if y358.length < 1353245080339 then ((some (y358 ++ [(⟨bt361.1, bt361.2.1, bt361.2.2.1, bt361.2.2.2.1, bt361.2.2.2.2⟩ : S41)] : List (S41))).bind fun y374 => ((some (l0.drop (x5_2 : Int).toNat : List (S41))).bind fun y377 => (if y374.length + y377.length < 1353245080339 then (some (y374 ++ y377)) else (none)))) else (none)))) else (none))) else (none)) else (none)) = some r := by first | (rw [hy350]; with_reducible exact H) | (have H2_ := (Option.bind_some _ _).symm.trans H; rw [hy350]; with_reducible exact H2_) | (have H2_ := (Option.bind_some _ _).symm.trans H; with_reducible exact H2_) | with_reducible exact H | (rw [hy350]; exact H) | exact H
      have Ny350 := am hy350
      clear hy350
      by_cases c31 : 0 ≤ x5_2
      ·rw [if_pos c31] at H
       have c31b0 := eq_true c31
       have c31b1 : decide (0 ≤ x5_2) = true := decide_eq_true c31
       clear c31
       by_cases c32 : x5_2 ≤ (l0.length : Int)
       ·rw [if_pos c32] at H
        have c32b0 := eq_true c32
        have c32b1 : decide (x5_2 ≤ (l0.length : Int)) = true := decide_eq_true c32
        clear c32
        obtain ⟨y353, hy353⟩ : ∃ y_ : List (S41), y_ = (l0.take (x5_2 : Int).toNat) := ⟨_, rfl⟩
        replace H : (if y350.length + y353.length < 1353245080339 then ((some (y350 ++ y353 : List (S41))).bind fun y358 => ((hypercuberef2_Copy.f l1_0 a1_1 l1_2 l1_3 l1_4).bind fun bt361 => (if y358.length < 1353245080339 then ((some (y358 ++ [(⟨bt361.1, bt361.2.1, bt361.2.2.1, bt361.2.2.2.1, bt361.2.2.2.2⟩ : S41)] : List (S41))).bind fun y374 => ((some (l0.drop (x5_2 : Int).toNat : List (S41))).bind fun y377 => (if y374.length + y377.length < 1353245080339 then (some (y374 ++ y377)) else (none)))) else (none)))) else (none)) = some r := by first | (rw [hy353]; with_reducible exact H) | (have H2_ := (Option.bind_some _ _).symm.trans H; rw [hy353]; with_reducible exact H2_) | (have H2_ := (Option.bind_some _ _).symm.trans H; with_reducible exact H2_) | with_reducible exact H | (rw [hy353]; exact H) | exact H
        have Ny353 := am hy353
        clear hy353
        by_cases c33 : y350.length + y353.length < 1353245080339
        ·rw [if_pos c33] at H
         have LMc33 := am c33
         clear c33
         obtain ⟨y358, hy358⟩ : ∃ y_ : List (S41), y_ = (y350 ++ y353) := ⟨_, rfl⟩
         replace H : ((hypercuberef2_Copy.f l1_0 a1_1 l1_2 l1_3 l1_4).bind fun bt361 => (if y358.length < 1353245080339 then ((some (y358 ++ [(⟨bt361.1, bt361.2.1, bt361.2.2.1, bt361.2.2.2.1, bt361.2.2.2.2⟩ : S41)] : List (S41))).bind fun y374 => ((some (l0.drop (x5_2 : Int).toNat : List (S41))).bind fun y377 => (if y374.length + y377.length < 1353245080339 then (some (y374 ++ y377)) else (none)))) else (none))) = some r := by first | (rw [hy358]; with_reducible exact H) | (have H2_ := (Option.bind_some _ _).symm.trans H; rw [hy358]; with_reducible exact H2_) | (have H2_ := (Option.bind_some _ _).symm.trans H; with_reducible exact H2_) | with_reducible exact H | (rw [hy358]; exact H) | exact H
         have Ny358 := am hy358
         clear hy358
         replace H := Option.bind_eq_some_iff.mp H
         obtain ⟨⟨t361, t364, t365, t368, t371⟩, A340, H⟩ := H
         replace H : (if y358.length < 1353245080339 then ((some (y358 ++ [(⟨t361, t364, t365, t368, t371⟩ : S41)] : List (S41))).bind fun y374 => ((some (l0.drop (x5_2 : Int).toNat : List (S41))).bind fun y377 => (if y374.length + y377.length < 1353245080339 then (some (y374 ++ y377)) else (none)))) else (none)) = some r := H
         have A34 := am A340
         clear A340
         by_cases c35 : y358.length < 1353245080339
         ·rw [if_pos c35] at H
          have LMc35 := am c35
          clear c35
          obtain ⟨y374, hy374⟩ : ∃ y_ : List (S41), y_ = (y358 ++ [(⟨t361, t364, t365, t368, t371⟩ : S41)]) := ⟨_, rfl⟩
          replace H : ((some (l0.drop (x5_2 : Int).toNat : List (S41))).bind fun y377 => (if y374.length + y377.length < 1353245080339 then (some (y374 ++ y377)) else (none))) = some r := by first | (rw [hy374]; with_reducible exact H) | (have H2_ := (Option.bind_some _ _).symm.trans H; rw [hy374]; with_reducible exact H2_) | (have H2_ := (Option.bind_some _ _).symm.trans H; with_reducible exact H2_) | with_reducible exact H | (rw [hy374]; exact H) | exact H
          have Ny374 := am hy374
          clear hy374
          have c36b0 := eq_true (of_decide_eq_true (by first | (with_reducible assumption) | assumption) : 0 ≤ x5_2)
          have c37b0 := eq_true (of_decide_eq_true (by first | (with_reducible assumption) | assumption) : x5_2 ≤ (l0.length : Int))
          obtain ⟨y377, hy377⟩ : ∃ y_ : List (S41), y_ = (l0.drop (x5_2 : Int).toNat) := ⟨_, rfl⟩
          replace H : (if y374.length + y377.length < 1353245080339 then (some (y374 ++ y377)) else (none)) = some r := by first | (rw [hy377]; with_reducible exact H) | (have H2_ := (Option.bind_some _ _).symm.trans H; rw [hy377]; with_reducible exact H2_) | (have H2_ := (Option.bind_some _ _).symm.trans H; with_reducible exact H2_) | with_reducible exact H | (rw [hy377]; exact H) | exact H
          have Ny377 := am hy377
          clear hy377
          by_cases c38 : y374.length + y377.length < 1353245080339
          ·rw [if_pos c38] at H
           have LMc38 := am c38
           clear c38
           obtain ⟨y382, hy382⟩ : ∃ y_ : List (S41), y_ = (y374 ++ y377) := ⟨_, rfl⟩
           replace H : (some y382) = some r := by rw [hy382]; with_reducible exact H
           have Ny382 := am hy382
           clear hy382
           obtain rfl := Option.some.inj H
           try go_wp2
           have n0_ := am (Kd.V_drew HO_0.out)
           have n1_ := am (blk_drew BK324.out)
           have n2_ := am (below_drew1 HB.out)
           clear HO_0 BK324 HB
           revert n0_ n1_ n2_
           intro HO_0 BK324 HB
           have q40 : (x5_2 : Int) ≤ ((l0.length : Int) : Int) := of_decide_eq_true (by first | (with_reducible assumption) | assumption)
           obtain ⟨i040, hi040, _, hsz40, _⟩ := info_parts info41
           have hroom40 : l0.length ≤ c0 := (Kd.V_reads' HO_0.out).2.1
           have hC40 : Kd.F k41 _ _ A0 l0.length l0 := (Kd.V_at (base := w.heap.size) HO_0.out).2.2
           have hcut40 := cut_to (P := Try.prog) 29 41 .i64 Try.underlying29 hi040 A0 l0.length c0 x5_2 (of_decide_eq_true (by first | (with_reducible assumption) | assumption)) q40 hroom40
           have hr40 := Kd.F_take (m := (x5_2 : Int).toNat) hC40 (by omega)
           have hy40 : y353.length = (x5_2 : Int).toNat := (by rw [Ny353.out, List.length_take]; omega)
           rw [← Ny353.out] at hr40
           rw [← hy40] at hcut40
           have HO357 := am (show Kd.V k41 41 _ w.heap.size _ (.slice A0 y353.length c0) y353 from Kd.V_mk (by omega) hr40)
           have HC357 := am (show y353.length ≤ c0 from by omega)
           clear hr40 hC40 hroom40 hi040 hsz40
           have KY40 := am hy40
           clear hy40
           replace q40 := eq_true q40
           have q41 : (x5_2 : Int) ≤ ((l0.length : Int) : Int) := of_decide_eq_true (by first | (with_reducible assumption) | assumption)
           obtain ⟨i041, hi041, _, hsz41, _⟩ := info_parts info41
           have hroom41 : l0.length ≤ c0 := (Kd.V_reads' HO_0.out).2.1
           have hC41 : Kd.F k41 _ _ A0 l0.length l0 := (Kd.V_at (base := w.heap.size) HO_0.out).2.2
           have q041 : (0 : Int) ≤ (x5_2 : Int) := of_decide_eq_true (by first | (with_reducible assumption) | assumption)
           have hcut41 := cut_from (P := Try.prog) 29 41 .i64 Try.underlying29 hi041 5 hsz41 A0 l0.length c0 x5_2 q041 q41
           have hr41 := Kd.F_cut (m := (x5_2 : Int).toNat) (c := c0) hC41 (by omega) hroom41
           obtain ⟨A41, hA41⟩ : ∃ A1, A1 = (if c0 = (x5_2 : Int).toNat then A0 else (A0 : Option Addr).map (·.add ((x5_2 : Int).toNat * 5))) := ⟨_, rfl⟩
           obtain ⟨c41, hc41⟩ : ∃ c1, c1 = c0 - (x5_2 : Int).toNat := ⟨_, rfl⟩
           have hy41 : y377.length = l0.length - (x5_2 : Int).toNat := (by rw [Ny377.out, List.length_drop] <;> omega)
           rw [show (l0).drop (x5_2 : Int).toNat = y377 from Ny377.out.symm] at hr41
           replace hr41 : Kd.F k41 _ _ A41 y377.length y377 := (by rw [hA41]; exact hr41)
           rw [← hy41, ← hA41, ← hc41] at hcut41
           have HO381 := am (show Kd.V k41 41 _ w.heap.size _ (.slice A41 y377.length c41) y377 from Kd.V_mk (by rw [hy41, hc41]; exact Nat.sub_le_sub_right hroom41 _) hr41)
           have HC381 := am (show y377.length ≤ c41 from by rw [hy41, hc41]; exact Nat.sub_le_sub_right hroom41 _)
           clear hr41 hC41 hroom41 hi041 hsz41 hc41
           have KY41 := am hy41
           have KA41 := am hA41
           clear hy41 hA41
           replace q41 := eq_true q41
           refine start_ (n := 14) (S := fun w' => w'.cell? ⟨gb324, 0, none⟩ = some (.slice A1_0 l1_0.length c1_0) ∧ w'.cell? ⟨gb324, 1, none⟩ = some (.int .i64 a1_1) ∧ w'.cell? ⟨gb324, 2, none⟩ = some (.slice A1_2 l1_2.length c1_2) ∧ w'.cell? ⟨gb324, 3, none⟩ = some (.slice A1_3 l1_3.length c1_3) ∧ w'.cell? ⟨gb324, 4, none⟩ = some (.slice A1_4 l1_4.length c1_4)) (ds := []) (bb 14 0) (by kernel_rfl) rfl rfl ⟨(blk_cell BK324.out 0).trans rfl, (blk_cell BK324.out 1).trans rfl, (blk_cell BK324.out 2).trans rfl, (blk_cell BK324.out 3).trans rfl, (blk_cell BK324.out 4).trans rfl⟩ (fun hHeld => ?_); refine with_tabW hypercuberef2_Put.tab8 hypercuberef2_Put.bits8 (fun HT_ HW_ => ?_)
           generalize wc.drew = w39 at HO_0 BK324 HB HO357 HO381 hHeld ⊢
           refine pure_ (i := 1) (N := some 53) (v := ?_) (a' := ?_) (bb 14 2) rfl rfl (any_of HT_.out (by kernel_rfl)) (fun _ _ _ h => h) (Or.inl ⟨by rfl, ?_⟩) ?_ ?_
           rotate_left
           ·intro w'
            go_simp
            with_reducible rfl
           rotate_left
           ·simp only [ps]
            rfl
           refine pure_ (i := 2) (N := some 54) (v := ?_) (a' := ?_) (bb 14 6) rfl rfl (any_of HT_.out (by kernel_rfl)) (fun _ _ _ h => h) (Or.inl ⟨by rfl, ?_⟩) ?_ ?_
           rotate_left
           ·intro w'
            go_simp
            with_reducible rfl
           rotate_left
           ·simp only [ps]
            rfl
           refine pure_ (i := 3) (N := some 55) (v := ?_) (a' := ?_) (bb 14 14) rfl rfl (any_of HT_.out (by kernel_rfl)) (fun _ _ _ h => h) (Or.inl ⟨by rfl, ?_⟩) ?_ ?_
           rotate_left
           ·intro w'
            go_simp
            with_reducible rfl
           rotate_left
           ·simp only [ps]
            rfl
           refine pure_ (i := 9) (N := some 61) (v := ?_) (a' := ?_) (bb 14 526) rfl rfl (any_of HT_.out (by kernel_rfl)) (fun _ _ _ h => h) (Or.inl ⟨by rfl, ?_⟩) ?_ ?_
           rotate_left
           ·intro w'
            go_simp
            with_reducible rfl
           rotate_left
           ·simp only [ps]
            rfl
           refine pure_ (i := 10) (N := some 62) (v := ?_) (a' := ?_) (bb 14 1550) rfl rfl (any_of HT_.out (by kernel_rfl)) (fun _ _ _ h => h) (Or.inl ⟨by rfl, ?_⟩) ?_ ?_
           rotate_left
           ·intro w'
            go_simp
            with_reducible rfl
           rotate_left
           ·simp only [ps]
            rfl
           refine pure_ (i := 11) (N := some 63) (v := ?_) (a' := ?_) (bb 14 3598) rfl rfl (any_of HT_.out (by kernel_rfl)) (fun _ _ _ h => h) (Or.inl ⟨by rfl, ?_⟩) ?_ ?_
           rotate_left
           ·intro w'
            go_simp
            with_reducible rfl
           rotate_left
           ·simp only [ps]
            rfl
           refine take_ (i := 5) (N := some 57) (v := ?_) (a' := ?_) (bb 14 3630) rfl rfl (take_ofW HT_.out HW_.out (by kernel_rfl)) (fun _ _ _ h => h) (Or.inl ⟨by rfl, ?_⟩) hHeld ?_ ?_
           rotate_left
           ·rintro w' ⟨s0, s1, s2, s3, s4⟩
            go_simp
            with_reducible rfl
           rotate_left
           ·simp only [ps]
            rfl
           refine one_ (i := 0) (N := some 52) (bb 14 3631) rfl rfl (one_of HT_.out (by kernel_rfl)) (by decide) (fun K hK => ?_)
           refine Kd.N_lit_step k41 _ 41 ?hg (N' := 52) ?hd (xs := ([] : List (S41))) (inner := []) (ok := (fun k_ => (P0_ k_ ∨ w.heap.size ≤ k_) ∧ k_ ≠ gb324)) (okp := (fun k_ => (P0_ k_ ∨ w.heap.size ≤ k_) ∧ k_ ≠ gb324)) ?hr ?hp (fun _ hk => hk) ((show ∀ k_, w39.heap.size ≤ k_ → (fun k_ => (P0_ k_ ∨ w.heap.size ≤ k_) ∧ k_ ≠ gb324) k_ from fun k_ hk => ⟨(.inr (Nat.le_trans (below_size (wmv HB.out)) hk)), Kd.freshB (bmv BK324.out) k_ hk⟩) _ (Nat.le_refl _)) (Below.refl _ _) (Nat.le_refl _) (by simp) ?_; (case hd => rfl); (case hg => rfl); (case hr => first | (go_simp; done) | (go_simp; rfl)); (case hp => exact (Reps.none _ _))
           intro v351 w42 ho43 hb hg_ hnew_
           clear hg_ hnew_
           (first | rw [← Ny350.out] at ho43 | (simp only [Int.reduceToNat] at ho43; rw [← Ny350.out] at ho43))
           have n0_ := am (Kd.V_elder' (Kd.V_mv HO_0.out) (by first | exact Kd.N_base ho43 | exact Kd.S_base ho43 | exact Kd.R_base ho43) hb)
           have n1_ := am (Kd.V_elder' (Kd.V_mv HO357.out) (by first | exact Kd.N_base ho43 | exact Kd.S_base ho43 | exact Kd.R_base ho43) hb)
           have n2_ := am (Kd.V_elder' (Kd.V_mv HO381.out) (by first | exact Kd.N_base ho43 | exact Kd.S_base ho43 | exact Kd.R_base ho43) hb)
           have n3_ := am (Kd.N_lower ho43 (below_size (wmv HB.out)))
           have n4_ := am (blk_below (bmv BK324.out) hb)
           have n5_ := am (below_step (wmv HB.out) hb)
           clear HO_0 HO357 HO381 BK324 HB
           revert n0_ n1_ n2_ n3_ n4_ n5_
           intro HO_0 HO357 HO381 HO352 BK324 HB
           clear hb ho43
           refine hK.out _ _ ⟨(blk_cell BK324.out 0).trans rfl, (blk_cell BK324.out 1).trans rfl, (blk_cell BK324.out 2).trans rfl, (blk_cell BK324.out 3).trans rfl, (blk_cell BK324.out 4).trans rfl⟩ (fun hHeld => ?_)
           clear hK K
           refine norm_ (a' := ?_) ?_ ?_
           rotate_left
           ·show Act.put _ (some 52) _ = _
            simp only [ps]
            rfl
           refine one_ (i := 4) (N := some 56) (bb 14 3647) rfl rfl (one_of HT_.out (by kernel_rfl)) (by decide) (fun K hK => ?_)
           refine Kd.N_append_rows_step k41 (w0 := w) w.heap.size (by rfl) (.tmp 52) (.tmp 55) 29 41 (.agg #[(.slice none 0 0), (.int .i64 0), (.slice none 0 0), (.slice none 0 0), (.slice none 0 0)]) 104 rfl Try.underlying29 info41 rfl (by decide) (by omega) v351 y350 y353 _ _ _ (fun k_ => (P0_ k_ ∨ w.heap.size ≤ k_) ∧ k_ ≠ gb324) (fun k_ => ((fun k_ => (P0_ k_ ∨ w.heap.size ≤ k_) ∧ k_ ≠ gb324)) k_ ∧ some k_ ≠ (v351 : Value).ownBlock) rfl rfl ?aO ?aR (fun _ hk => hk) ?aF ?aB ?aS ?aL ?_
           (case aR => exact (by skip; exact Kd.V_F (Kd.V_mono (ok' := (fun k_ => ((fun k_ => (P0_ k_ ∨ w.heap.size ≤ k_) ∧ k_ ≠ gb324)) k_ ∧ some k_ ≠ (v351 : Value).ownBlock)) (HO357.out) (fun k_ hk => ⟨⟨hk.1.1, hk.1.2⟩, hk.2⟩))))
           (case aB => exact (wmv HB.out))
           (case aF => exact (fun k_ hk => ⟨(.inr (Nat.le_trans (below_size (wmv HB.out)) hk)), Kd.freshB (bmv BK324.out) k_ hk⟩))
           (case aO => exact (Kd.N_mv HO352.out))
           (case aS => exact (below_size (wmv HB.out)))
           (case aL => have := LMc33.out; omega)
           intro v359 w44 ho hb hg hat
           rw [← Ny358.out] at ho
           have n0_ := am (Kd.V_afterv (ok := (fun k_ => (P0_ k_ ∨ w.heap.size ≤ k_) ∧ k_ ≠ gb324)) (Kd.V_mv HO_0.out) hg hat)
           have n1_ := am (blk_grown (bmv BK324.out) hg (Kd.N_away HO352.out (fun _ hk => hk.2)))
           have n2_ := am (Kd.V_afterv (ok := (fun k_ => (P0_ k_ ∨ w.heap.size ≤ k_) ∧ k_ ≠ gb324)) (Kd.V_mv HO357.out) hg hat)
           have n3_ := am (Kd.V_afterv (ok := (fun k_ => (P0_ k_ ∨ w.heap.size ≤ k_) ∧ k_ ≠ gb324)) (Kd.V_mv HO381.out) hg hat)
           have n4_ := am (hb)
           have n5_ := am (ho)
           clear HO_0 BK324 HO357 HO381 HB HO352
           revert n0_ n1_ n2_ n3_ n4_ n5_
           intro HO_0 BK324 HO357 HO381 HB HO360
           clear ho hb hg hat
           refine hK.out _ _ ⟨(blk_cell BK324.out 0).trans rfl, (blk_cell BK324.out 1).trans rfl, (blk_cell BK324.out 2).trans rfl, (blk_cell BK324.out 3).trans rfl, (blk_cell BK324.out 4).trans rfl⟩ (fun hHeld => ?_)
           clear hK K
           refine norm_ (a' := ?_) ?_ ?_
           rotate_left
           ·show Act.put _ (some 56) _ = _
            simp only [ps]
            rfl
           refine one_ (i := 6) (N := some 58) (bb 14 3711) rfl rfl (one_of HT_.out (by kernel_rfl)) (by decide) (fun K hK => ?_)
           refine goes_ Try.func42 (by kernel_rfl) rfl #[.agg #[.slice A1_0 l1_0.length c1_0, .int .i64 a1_1, .slice A1_2 l1_2.length c1_2, .slice A1_3 l1_3.length c1_3, .slice A1_4 l1_4.length c1_4]] (by rfl) rfl rfl (by (try simp only [List.map_toArray, List.map_cons, List.map_nil]); first | done | rfl | (simp only [List.length_drop, List.length_take]; rfl)) ?_
           with_reducible refine (hypercuberef2_Copy.calls _ _ l1_0 a1_1 _ _ l1_2 _ _ l1_3 _ _ l1_4 t361 t364 t365 t368 t371 _ ?side1 ?side2 ?side3 ?side4 ?side5 ?side6 ?side7 ?side8 A34.out).mono ?_
           (case side1 => exact Kd.Cw HR1_0.out HB.out)
           (case side2 => exact HC1_0.out)
           (case side3 => exact Kd.Cw HR1_2.out HB.out)
           (case side4 => exact HC1_2.out)
           (case side5 => exact Kd.Cw HR1_3.out HB.out)
           (case side6 => exact HC1_3.out)
           (case side7 => exact Kd.Cw HR1_4.out HB.out)
           (case side8 => exact HC1_4.out)
           rintro e w45 ⟨v362, v366, v369, v372, rfl, ho0, ho1, ho2, ho3, hb⟩
           refine ⟨_, rfl, ?_⟩
           have n0_ := am (Kd.V_mono (Kd.V_told (Kd.V_told (Kd.V_told (Kd.V_told (Kd.V_old (Kd.V_mv HO_0.out) hb) (Kd.R_base ho0)) (Kd.R_base ho1)) (Kd.R_base ho2)) (Kd.R_base ho3)) (fun _ h_ => h_.1))
           have n1_ := am (Kd.V_mono (Kd.V_told (Kd.V_told (Kd.V_told (Kd.V_told (Kd.V_old (Kd.V_mv HO357.out) hb) (Kd.R_base ho0)) (Kd.R_base ho1)) (Kd.R_base ho2)) (Kd.R_base ho3)) (fun _ h_ => h_.1))
           have n2_ := am (Kd.V_mono (Kd.V_told (Kd.V_told (Kd.V_told (Kd.V_told (Kd.V_old (Kd.V_mv HO381.out) hb) (Kd.R_base ho0)) (Kd.R_base ho1)) (Kd.R_base ho2)) (Kd.R_base ho3)) (fun _ h_ => h_.1))
           have n3_ := am (Kd.N_mono (Kd.N_told (Kd.N_told (Kd.N_told (Kd.N_told (Kd.N_old (Kd.N_mv HO360.out) hb) (Kd.R_base ho0)) (Kd.R_base ho1)) (Kd.R_base ho2)) (Kd.R_base ho3)) (fun _ h_ => h_.1))
           have n4_ := am (Kd.R_lower (Kd.R_newM (M := fun k_ => (w.heap.size ≤ k_)) ho0 (below_size (wmv HB.out)) (fun k_ h_ => h_)) (below_size (wmv HB.out)))
           have n5_ := am (Kd.R_lower (Kd.R_newM (M := fun k_ => (w.heap.size ≤ k_)) ho1 (below_size (wmv HB.out)) (fun k_ h_ => h_)) (below_size (wmv HB.out)))
           have n6_ := am (Kd.R_lower (Kd.R_newM (M := fun k_ => (w.heap.size ≤ k_)) ho2 (below_size (wmv HB.out)) (fun k_ h_ => h_)) (below_size (wmv HB.out)))
           have n7_ := am (Kd.R_lower (Kd.R_newM (M := fun k_ => (w.heap.size ≤ k_)) ho3 (below_size (wmv HB.out)) (fun k_ h_ => h_)) (below_size (wmv HB.out)))
           have n8_ := am (blk_below (bmv BK324.out) hb)
           have n9_ := am (below_step (wmv HB.out) hb)
           clear HO_0 HO357 HO381 HO360 BK324 HB
           revert n0_ n1_ n2_ n3_ n4_ n5_ n6_ n7_ n8_ n9_
           intro HO_0 HO357 HO381 HO360 HO363 HO367 HO370 HO373 BK324 HB
           (try clear hb)
           (try clear hb2)
           (try clear hk)
           (try clear hi)
           (try clear ho0)
           (try clear ho1)
           (try clear ho2)
           (try clear ho3)
           obtain ⟨Ao47, co47, eo47⟩ := Kd.R_slice HO363.out
           (first | subst eo47 | (injection eo47 with f1_ f2_ f3_; have f4_ := f1_.symm; have f5_ := f3_.symm; clear f1_ f2_ f3_; subst f4_; subst f5_))
           obtain ⟨Ao48, co48, eo48⟩ := Kd.R_slice HO367.out
           (first | subst eo48 | (injection eo48 with f1_ f2_ f3_; have f4_ := f1_.symm; have f5_ := f3_.symm; clear f1_ f2_ f3_; subst f4_; subst f5_))
           obtain ⟨Ao49, co49, eo49⟩ := Kd.R_slice HO370.out
           (first | subst eo49 | (injection eo49 with f1_ f2_ f3_; have f4_ := f1_.symm; have f5_ := f3_.symm; clear f1_ f2_ f3_; subst f4_; subst f5_))
           obtain ⟨Ao50, co50, eo50⟩ := Kd.R_slice HO373.out
           (first | subst eo50 | (injection eo50 with f1_ f2_ f3_; have f4_ := f1_.symm; have f5_ := f3_.symm; clear f1_ f2_ f3_; subst f4_; subst f5_))
           refine hK.out _ _ ⟨(blk_cell BK324.out 0).trans rfl, (blk_cell BK324.out 1).trans rfl, (blk_cell BK324.out 2).trans rfl, (blk_cell BK324.out 3).trans rfl, (blk_cell BK324.out 4).trans rfl⟩ (fun hHeld => ?_)
           clear hK K
           refine norm_ (a' := ?_) ?_ ?_
           rotate_left
           ·show Act.put _ (some 58) _ = _
            simp only [ps]
            rfl
           refine one_ (i := 7) (N := some 59) (bb 14 3839) rfl rfl (one_of HT_.out (by kernel_rfl)) (by decide) (fun K hK => ?_)
           refine value_ (w1 := ?_) (v := ?_) (by rfl) rfl ?_ ?_
           rotate_left 2
           ·go_simp
            constructor
            ·rfl
            ·rfl
           refine hK.out _ _ ⟨(blk_cell (blk_alloc BK324.out _) 0).trans rfl, (blk_cell (blk_alloc BK324.out _) 1).trans rfl, (blk_cell (blk_alloc BK324.out _) 2).trans rfl, (blk_cell (blk_alloc BK324.out _) 3).trans rfl, (blk_cell (blk_alloc BK324.out _) 4).trans rfl⟩ (fun hHeld => ?_)
           clear hK K
           refine norm_ (a' := ?_) ?_ ?_
           rotate_left
           ·show Act.put _ (some 59) _ = _
            simp only [ps]
            rfl
           refine one_ (i := 8) (N := some 60) (bb 14 4095) rfl rfl (one_of HT_.out (by kernel_rfl)) (by decide) (fun K hK => ?_)
           refine Kd.N_append_step k41 (w0 := w) w.heap.size (by rfl) (.tmp 56) (.tmp 59) 29 41 (.agg #[(.slice none 0 0), (.int .i64 0), (.slice none 0 0), (.slice none 0 0), (.slice none 0 0)]) 104 rfl Try.underlying29 info41 rfl (by decide) (by omega) v359 y358 (⟨t361, t364, t365, t368, t371⟩ : S41) [.slice Ao47 t361.length co47, .int .i64 t364, .slice Ao48 t365.length co48, .slice Ao49 t368.length co49, .slice Ao50 t371.length co50] (fun k_ => (P0_ k_ ∨ w.heap.size ≤ k_) ∧ k_ ≠ gb324) (fun k_ => ((fun k_ => (P0_ k_ ∨ w.heap.size ≤ k_) ∧ k_ ≠ gb324)) k_ ∧ some k_ ≠ (v359 : Value).ownBlock) rfl rfl ?aP (fun _ hk => hk) ?aF ?aO ?aB ?aS ?aL ?_
           (case aP => exact (k41_mkF _ _ (⟨t361, t364, t365, t368, t371⟩ : S41) (Kd.R_reads' (Kd.R_mono (ok' := (fun k_ => ((fun k_ => (P0_ k_ ∨ w.heap.size ≤ k_) ∧ k_ ≠ gb324)) k_ ∧ some k_ ≠ (v359 : Value).ownBlock)) (Kd.R_types (Kd.R_apart' (HO363.out) (Kd.N_typed HO360.out) (by decide)) BK324.out (by decide)) (fun k_ hk => ⟨⟨(.inr (hk.1.1.1)), hk.2⟩, hk.1.2⟩))).2.1 (Kd.R_F (Kd.R_mono (ok' := (fun k_ => ((fun k_ => (P0_ k_ ∨ w.heap.size ≤ k_) ∧ k_ ≠ gb324)) k_ ∧ some k_ ≠ (v359 : Value).ownBlock)) (Kd.R_types (Kd.R_apart' (HO363.out) (Kd.N_typed HO360.out) (by decide)) BK324.out (by decide)) (fun k_ hk => ⟨⟨(.inr (hk.1.1.1)), hk.2⟩, hk.1.2⟩))) (Kd.R_reads' (Kd.R_mono (ok' := (fun k_ => ((fun k_ => (P0_ k_ ∨ w.heap.size ≤ k_) ∧ k_ ≠ gb324)) k_ ∧ some k_ ≠ (v359 : Value).ownBlock)) (Kd.R_types (Kd.R_apart' (HO367.out) (Kd.N_typed HO360.out) (by decide)) BK324.out (by decide)) (fun k_ hk => ⟨⟨(.inr (hk.1.1.1)), hk.2⟩, hk.1.2⟩))).2.1 (Kd.R_F (Kd.R_mono (ok' := (fun k_ => ((fun k_ => (P0_ k_ ∨ w.heap.size ≤ k_) ∧ k_ ≠ gb324)) k_ ∧ some k_ ≠ (v359 : Value).ownBlock)) (Kd.R_types (Kd.R_apart' (HO367.out) (Kd.N_typed HO360.out) (by decide)) BK324.out (by decide)) (fun k_ hk => ⟨⟨(.inr (hk.1.1.1)), hk.2⟩, hk.1.2⟩))) (Kd.R_reads' (Kd.R_mono (ok' := (fun k_ => ((fun k_ => (P0_ k_ ∨ w.heap.size ≤ k_) ∧ k_ ≠ gb324)) k_ ∧ some k_ ≠ (v359 : Value).ownBlock)) (Kd.R_types (Kd.R_apart' (HO370.out) (Kd.N_typed HO360.out) (by decide)) BK324.out (by decide)) (fun k_ hk => ⟨⟨(.inr (hk.1.1.1)), hk.2⟩, hk.1.2⟩))).2.1 (Kd.R_F (Kd.R_mono (ok' := (fun k_ => ((fun k_ => (P0_ k_ ∨ w.heap.size ≤ k_) ∧ k_ ≠ gb324)) k_ ∧ some k_ ≠ (v359 : Value).ownBlock)) (Kd.R_types (Kd.R_apart' (HO370.out) (Kd.N_typed HO360.out) (by decide)) BK324.out (by decide)) (fun k_ hk => ⟨⟨(.inr (hk.1.1.1)), hk.2⟩, hk.1.2⟩))) (Kd.R_reads' (Kd.R_mono (ok' := (fun k_ => ((fun k_ => (P0_ k_ ∨ w.heap.size ≤ k_) ∧ k_ ≠ gb324)) k_ ∧ some k_ ≠ (v359 : Value).ownBlock)) (Kd.R_types (Kd.R_apart' (HO373.out) (Kd.N_typed HO360.out) (by decide)) BK324.out (by decide)) (fun k_ hk => ⟨⟨(.inr (hk.1.1.1)), hk.2⟩, hk.1.2⟩))).2.1 (Kd.R_F (Kd.R_mono (ok' := (fun k_ => ((fun k_ => (P0_ k_ ∨ w.heap.size ≤ k_) ∧ k_ ≠ gb324)) k_ ∧ some k_ ≠ (v359 : Value).ownBlock)) (Kd.R_types (Kd.R_apart' (HO373.out) (Kd.N_typed HO360.out) (by decide)) BK324.out (by decide)) (fun k_ hk => ⟨⟨(.inr (hk.1.1.1)), hk.2⟩, hk.1.2⟩)))))
           (case aB => exact (wmv HB.out))
           (case aF => exact (fun k_ hk => ⟨(.inr (Nat.le_trans (below_size (wmv HB.out)) hk)), Kd.freshB (bmv BK324.out) k_ hk⟩))
           (case aO => exact (Kd.N_mv (Kd.N_mono HO360.out (fun _ hk => ⟨hk.1.1.1.1.1, hk.1.1.1.1.2⟩))))
           (case aS => exact (below_size (wmv HB.out)))
           (case aL => have := LMc35.out; omega)
           intro v375 w46 ho hb hg hat
           rw [← Ny374.out] at ho
           have n0_ := am (Kd.V_afterv (ok := (fun k_ => (P0_ k_ ∨ w.heap.size ≤ k_) ∧ some k_ ≠ (.slice Ao47 t361.length co47 : Value).ownBlock ∧ some k_ ≠ (.slice Ao48 t365.length co48 : Value).ownBlock ∧ some k_ ≠ (.slice Ao49 t368.length co49 : Value).ownBlock ∧ some k_ ≠ (.slice Ao50 t371.length co50 : Value).ownBlock ∧ k_ ≠ gb324)) (Kd.V_mv (Kd.V_mono HO_0.out (fun _ hk => ⟨⟨hk.1.1.1.1.1.1, ⟨hk.1.1.1.2, ⟨hk.1.1.2, ⟨hk.1.2, ⟨hk.2, hk.1.1.1.1.1.2⟩⟩⟩⟩⟩, hk.1.1.1.1.2⟩))) hg hat)
           have n1_ := am (blk_grown (bmv BK324.out) hg (Kd.N_away HO360.out (fun _ hk => hk.1.1.1.1.2)))
           have n2_ := am (Kd.V_afterv (ok := (fun k_ => (P0_ k_ ∨ w.heap.size ≤ k_) ∧ some k_ ≠ (.slice Ao47 t361.length co47 : Value).ownBlock ∧ some k_ ≠ (.slice Ao48 t365.length co48 : Value).ownBlock ∧ some k_ ≠ (.slice Ao49 t368.length co49 : Value).ownBlock ∧ some k_ ≠ (.slice Ao50 t371.length co50 : Value).ownBlock ∧ k_ ≠ gb324)) (Kd.V_mv (Kd.V_mono HO357.out (fun _ hk => ⟨⟨hk.1.1.1.1.1.1, ⟨hk.1.1.1.2, ⟨hk.1.1.2, ⟨hk.1.2, ⟨hk.2, hk.1.1.1.1.1.2⟩⟩⟩⟩⟩, hk.1.1.1.1.2⟩))) hg hat)
           have n3_ := am (Kd.V_afterv (ok := (fun k_ => (P0_ k_ ∨ w.heap.size ≤ k_) ∧ some k_ ≠ (.slice Ao47 t361.length co47 : Value).ownBlock ∧ some k_ ≠ (.slice Ao48 t365.length co48 : Value).ownBlock ∧ some k_ ≠ (.slice Ao49 t368.length co49 : Value).ownBlock ∧ some k_ ≠ (.slice Ao50 t371.length co50 : Value).ownBlock ∧ k_ ≠ gb324)) (Kd.V_mv (Kd.V_mono HO381.out (fun _ hk => ⟨⟨hk.1.1.1.1.1.1, ⟨hk.1.1.1.2, ⟨hk.1.1.2, ⟨hk.1.2, ⟨hk.2, hk.1.1.1.1.1.2⟩⟩⟩⟩⟩, hk.1.1.1.1.2⟩))) hg hat)
           have n4_ := am (hb)
           have n5_ := am (ho)
           clear HO_0 BK324 HO357 HO381 HB HO360 HO363 HO367 HO370 HO373
           revert n0_ n1_ n2_ n3_ n4_ n5_
           intro HO_0 BK324 HO357 HO381 HB HO376
           clear ho hb hg hat
           refine hK.out _ _ ⟨(blk_cell BK324.out 0).trans rfl, (blk_cell BK324.out 1).trans rfl, (blk_cell BK324.out 2).trans rfl, (blk_cell BK324.out 3).trans rfl, (blk_cell BK324.out 4).trans rfl⟩ (fun hHeld => ?_)
           clear hK K
           refine norm_ (a' := ?_) ?_ ?_
           rotate_left
           ·show Act.put _ (some 60) _ = _
            simp only [ps]
            rfl
           refine one_ (i := 12) (N := some 64) (bb 14 8191) rfl rfl (one_of HT_.out (by kernel_rfl)) (by decide) (fun K hK => ?_)
           refine Kd.N_append_rows_step k41 (w0 := w) w.heap.size (by rfl) (.tmp 60) (.tmp 63) 29 41 (.agg #[(.slice none 0 0), (.int .i64 0), (.slice none 0 0), (.slice none 0 0), (.slice none 0 0)]) 104 rfl Try.underlying29 info41 rfl (by decide) (by omega) v375 y374 y377 _ _ _ (fun k_ => (P0_ k_ ∨ w.heap.size ≤ k_) ∧ k_ ≠ gb324) (fun k_ => ((fun k_ => (P0_ k_ ∨ w.heap.size ≤ k_) ∧ k_ ≠ gb324)) k_ ∧ some k_ ≠ (v375 : Value).ownBlock) rfl rfl ?aO ?aR (fun _ hk => hk) ?aF ?aB ?aS ?aL ?_
           (case aR => exact (by skip; exact Kd.V_F (Kd.V_mono (ok' := (fun k_ => ((fun k_ => (P0_ k_ ∨ w.heap.size ≤ k_) ∧ k_ ≠ gb324)) k_ ∧ some k_ ≠ (v375 : Value).ownBlock)) (HO381.out) (fun k_ hk => ⟨⟨hk.1.1, hk.1.2.2.2.2.2⟩, hk.2⟩))))
           (case aB => exact (wmv HB.out))
           (case aF => exact (fun k_ hk => ⟨(.inr (Nat.le_trans (below_size (wmv HB.out)) hk)), Kd.freshB (bmv BK324.out) k_ hk⟩))
           (case aO => exact (Kd.N_mv HO376.out))
           (case aS => exact (below_size (wmv HB.out)))
           (case aL => have := LMc38.out; omega)
           intro v383 w51 ho hb hg hat
           rw [← Ny382.out] at ho
           have n0_ := am (Kd.V_afterv (ok := (fun k_ => (P0_ k_ ∨ w.heap.size ≤ k_) ∧ k_ ≠ gb324)) (Kd.V_mv (Kd.V_mono HO_0.out (fun _ hk => ⟨⟨hk.1.1, hk.1.2.2.2.2.2⟩, hk.2⟩))) hg hat)
           have n1_ := am (blk_grown (bmv BK324.out) hg (Kd.N_away HO376.out (fun _ hk => hk.2)))
           have n2_ := am (Kd.V_afterv (ok := (fun k_ => (P0_ k_ ∨ w.heap.size ≤ k_) ∧ k_ ≠ gb324)) (Kd.V_mv (Kd.V_mono HO357.out (fun _ hk => ⟨⟨hk.1.1, hk.1.2.2.2.2.2⟩, hk.2⟩))) hg hat)
           have n3_ := am (Kd.V_afterv (ok := (fun k_ => (P0_ k_ ∨ w.heap.size ≤ k_) ∧ k_ ≠ gb324)) (Kd.V_mv (Kd.V_mono HO381.out (fun _ hk => ⟨⟨hk.1.1, hk.1.2.2.2.2.2⟩, hk.2⟩))) hg hat)
           have n4_ := am (hb)
           have n5_ := am (ho)
           clear HO_0 BK324 HO357 HO381 HB HO376
           revert n0_ n1_ n2_ n3_ n4_ n5_
           intro HO_0 BK324 HO357 HO381 HB HO384
           clear ho hb hg hat
           refine hK.out _ _ ⟨(blk_cell BK324.out 0).trans rfl, (blk_cell BK324.out 1).trans rfl, (blk_cell BK324.out 2).trans rfl, (blk_cell BK324.out 3).trans rfl, (blk_cell BK324.out 4).trans rfl⟩ (fun hHeld => ?_)
           clear hK K
           refine norm_ (a' := ?_) ?_ ?_
           rotate_left
           ·show Act.put _ (some 64) _ = _
            simp only [ps]
            rfl
           refine pure_ (i := 13) (N := some 4) (v := ?_) (a' := ?_) (bb 14 16383) rfl rfl (any_of HT_.out (by kernel_rfl)) (fun _ _ _ h => h) (Or.inl ⟨by rfl, ?_⟩) ?_ ?_
           rotate_left
           ·intro w'
            go_simp
            with_reducible rfl
           rotate_left
           ·simp only [ps]
            rfl
           refine done_ (done_of HT_.out (by kernel_rfl)) ?_
           try go_wp2
           go_ret
           exact ⟨_, by first | rfl | (simp [errW_none, errW_some] <;> rfl) | (simp [*, errW_none, errW_some] <;> rfl), by (with_reducible repeat (first | apply Kd.N_alloc | apply Kd.N_drewN | apply Kd.N_drew)); exact Kd.N_mono HO384.out (fun _ hk => hk.1), by repeat (first | (with_reducible first | exact HB.out | apply below_alloc | apply pw_below_drewN | apply below_drew1 | refine below_set ?_ GE324.out) | exact HB.out)⟩
          ·rw [if_neg c38] at H
           exact absurd H (by simp)
         ·rw [if_neg c35] at H
          exact absurd H (by simp)
        ·rw [if_neg c33] at H
         exact absurd H (by simp)
       ·rw [if_neg c32] at H
        exact absurd H (by simp)
      ·rw [if_neg c31] at H
       exact absurd H (by simp)
end Go.Proofs.Ytmnepkbmcnpjlaa.Q
