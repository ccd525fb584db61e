-- packed by wip/tools/pack.py (a program of this session) out of its own texts
import Derived.Test.YtmkjkkmilopcpaaPCellBack0
import Derived.ArgAppend
import Derived.Below
import Derived.BigQuiet
import Derived.Deep.AppendLies
import Derived.Deep.CutBlock
import Derived.Deep.DeepCutAuto
import Derived.Deep.Draws
import Derived.Deep.LoopGhost
import Derived.Deep.OwnRows
import Derived.Deep.QuietTactic
import Derived.Deep.RegionHeld3
import Derived.KernelRfl
import Derived.Laws.BitsLemmas
import Derived.Laws.BytesArg
import Derived.Laws.IdiomCopy
import Derived.Laws.MakeOwn
import Derived.Laws.OwnMore
import Derived.Laws.Rows
import Derived.Laws.Slices
import Derived.Lib.AppendStr
import Derived.Lib.ConvBytes
import Derived.LoopIn
import Derived.LoopNIn
import Derived.Maps.AppendAt
import Derived.OrdersHeld
import Derived.OwnWalk
import Derived.OwnWalkIn
import Derived.RangeFuncBound
import Derived.RangeFuncBox
import Derived.RangeFuncCalls
import Derived.RangeFuncLeaves
import Derived.RangeFuncNested
import Derived.RowKit
import Derived.RowKit3
import Derived.Shelf.Abstract
import Derived.Shelf.RegionOpen
import Derived.Tactics
import Derived.TacticsInMore
import Derived.Test.YtmkjkkmilopcpaaProg
import Derived.WalkKit
import Derived.WideLaws
import Derived.Test.YtmkjkkmilopcpaaPCellBack1
import Derived.Test.YtmkjkkmilopcpaaPCellBack3
import Derived.Test.YtmkjkkmilopcpaaPCellBack4
import Derived.Test.YtmkjkkmilopcpaaPCellBack5
namespace Go.Proofs.Ytmkjkkmilopcpaa.Q
open Go.RowKit Go.Shelf Go.Proofs.YtmkjkkmilopcpaaW.PrintWords Go.Proofs.YtmkjkkmilopcpaaW.PrintLast Go.Proofs.YtmkjkkmilopcpaaW.PrintMore
set_option linter.unusedVariables false
set_option linter.unusedSimpArgs false
attribute [local go_sem] Oper.semAt_some
def bitOn (s : Int) (i : Nat) : Bool := decide (Go.bits .and .i64 (s / 2 ^ i) 1 = 1)
def dimsTo (s : Int) (j : Nat) : List Nat := (List.range j).filter (bitOn s)
abbrev dimsL (s : Int) : List Nat := dimsTo s 4
theorem dimsTo_succ (s : Int) (j : Nat) : dimsTo s (j + 1) = dimsTo s j ++ (if bitOn s j = true then [j] else []) := by
 unfold dimsTo
 rw [List.range_succ, List.filter_append]
 by_cases h : bitOn s j = true
 ·simp [h]
 ·simp [h]
theorem dimsTo_le (s : Int) {i j : Nat} (h : i ≤ j) : dimsTo s i <+: dimsTo s j := by
 induction j with
 | zero =>
  have : i = 0 := by omega
  subst this; exact List.prefix_refl _
 | succ j ih =>
  rcases Nat.lt_or_ge i (j + 1) with hlt | hge
  ·exact (ih (by omega)).trans ⟨_, (dimsTo_succ s j).symm⟩
  ·have : i = j + 1 := by omega
   subst this; exact List.prefix_refl _
theorem dimsTo_length (s : Int) (j : Nat) : (dimsTo s j).length ≤ j := by
 unfold dimsTo
 exact Nat.le_trans (List.length_filter_le _ _) (by simp)
def KeepsBox (B : Nat) (W W' : World) : Prop := ∀ v, W.cell? ⟨B, 0, none⟩ = some v → W'.cell? ⟨B, 0, none⟩ = some v
theorem keepsBox_t {B : Nat} {W1 W2 W3 : World} (h : KeepsBox B W1 W2) (k : KeepsBox B W2 W3) : KeepsBox B W1 W3 := fun v hv => k v (h v hv)
theorem keepsBox_b {B : Nat} {w : World} (W : World) (l : Nat) (o o' : Obj) (hl : w.heap.size ≤ l) (h : W.heap[l]? = some o) (ho : o.isCells = false) (_ : o.isWalk = false) : KeepsBox B W (W.putObj l o') := by
 intro v hv
 exact cell_kept hv (grownBy_putObj' W l o') (fun r e => by cases e; exact ⟨_, h, ho⟩)
set_option maxRecDepth 100000 in
set_option maxHeartbeats 1000000 in
theorem dims1_in (F : Fence) (n : Nat) (h6 : F.fn 66) (hro : F.round = none) (hn : 1 ≤ n) (l Bn : Nat) (s : Int) (J Jx : List Nat → World → Prop)
  (hY : ∀ pre (x : Nat) W, J pre W → pre.length < 4 → YieldAt F (n - 1) Try.prog l #[.int .i64 (x : Int)] W fun e W' =>
   (e = .returned (.bool true) ∧ J (pre ++ [x]) W' ∧ KeepsBox Bn W W') ∨ (e = .returned (.bool false) ∧ Jx (pre ++ [x]) W'))
  (W : World) (hBn : W.cell? ⟨Bn, 0, none⟩ = some (.int .i64 s)) (h0 : J [] W) :
  CallsIn F n Try.prog 66 #[.func (.yield l) #[] #[], .pointer (some ⟨Bn, 0, none⟩)] W fun e W' => (∃ v, e = .returned v) ∧
   ((∃ ys, ys = dimsL s ∧ J ys W') ∨ (∃ pre, pre <+: dimsL s ∧ Jx pre W')) := by
 refine callsIn_of_wp Try.func66 rfl h6 ?_ hro
 simp only [Try.ntmps66, List.size_toArray, List.length_cons, List.length_nil, Nat.reduceAdd, Nat.reduceSub, Array.replicate_succ, Array.replicate_zero, List.push_toArray, List.append_toArray, List.nil_append, List.cons_append]
 gi_wp2
 gi_loopw [4] (fun p wr => ∃ j : Nat, p = .int .i64 (j : Int) ∧ j ≤ 4 ∧ wr.cell? ⟨Bn, 0, none⟩ = some (.int .i64 s) ∧ J (dimsTo s j) wr)
  (fun p wr => 4 - (intOf p).toNat)
 case atStart =>
  exact ⟨0, rfl, by omega, hBn, h0⟩
 case round =>
  obtain ⟨j, rfl, hj, hc, hJs⟩ := hrel
  have hw : wrap64 ((j : Int) + 1) = ((j + 1 : Nat) : Int) := by unfold wrap64; omega
  rcases Nat.lt_or_ge j 4 with hlt | hge
  ·have h1 : (j : Int) < 4 := by omega
   have hsh : (0 : Int) ≤ (j : Int) := by omega
   obtain ⟨fn, tmps, assign, body, hy, hR⟩ := hY (dimsTo s j) j wr hJs (by have := dimsTo_length s j; omega)
   by_cases hon : Go.bits .and .i64 (s / 2 ^ j) 1 = 1
   ·have hb : Aside0 (bitOn s j = true) := ⟨by unfold bitOn; exact decide_eq_true hon⟩
    have hnext : Aside0 (dimsTo s (j + 1) = dimsTo s j ++ [j]) := ⟨by rw [dimsTo_succ, if_pos hb.out]⟩
    gi_wp2
    ·refine hR.mono ?_
     rintro e W3 (⟨rfl, hJ3, hk3⟩ | ⟨rfl, hJx3⟩)
     ·have hc3 := hk3 _ hc
      gi_wp2
      go_roundw
      case rel => exact ⟨j + 1, by simp, by omega, hc3, by rw [hnext.out]; exact hJ3⟩
      case measure => simp [intOf]; omega
     ·gi_wp2
      refine bodyPost_ret (results_none rfl _ _ _) rfl ?_
      exact ⟨⟨_, rfl⟩, .inr ⟨dimsTo s j ++ [j], hnext.out ▸ dimsTo_le s hlt, hJx3⟩⟩
   ·have hb : Aside0 (¬ bitOn s j = true) := ⟨by unfold bitOn; simpa using hon⟩
    have hnext : Aside0 (dimsTo s (j + 1) = dimsTo s j) := ⟨by rw [dimsTo_succ, if_neg hb.out, List.append_nil]⟩
    gi_wp2
    refine ⟨fun _ h => (by cases h), ?_⟩
    gi_wp2
    go_roundw
    case rel => exact ⟨j + 1, by simp, by omega, hc, by rw [hnext.out]; exact hJs⟩
    case measure => simp [intOf]; omega
  ·obtain rfl : j = 4 := by omega
   gi_wp2
   go_end0
   exact ⟨⟨_, rfl⟩, .inl ⟨_, rfl, hJs⟩⟩
set_option maxHeartbeats 1000000 in
theorem dims_in (F : Fence) (n : Nat) (h5 : F.fn 50) (hro : F.round = none) (s : Int) (w : World) :
  CallsIn F n Try.prog 50 #[.int .i64 s] w fun e w' => e = .returned (.func (.func 66) #[] #[.pointer (some ⟨w.heap.size, 0, none⟩)]) ∧ w' = w.alloc (.cells #[.int .i64 s] 3) := by
 refine callsIn_of_wp Try.func50 rfl h5 ?_ hro
 simp only [Try.ntmps50, List.size_toArray, List.length_cons, List.length_nil, Nat.reduceAdd, Nat.reduceSub, Array.replicate_succ, Array.replicate_zero, List.push_toArray, List.append_toArray, List.nil_append, List.cons_append]
 gi_wp2
 go_ret
 exact ⟨rfl, rfl⟩
theorem dims_stops (F : Fence) (n : Nat) (h6 : F.fn 66) (hro : F.round = none) (hn : 1 ≤ n) (Bn : Nat) (s : Int) (w : World) (hBn : Bn < w.heap.size)
  (hc : w.cell? ⟨Bn, 0, none⟩ = some (.int .i64 s)) :
  SeqStopsK F n Try.prog 66 #[.pointer (some ⟨Bn, 0, none⟩)] (fun x : Nat => #[Value.int .i64 (x : Int)]) (KeepsBox Bn) (fun ys => ys = dimsL s) (fun pre => pre <+: dimsL s) 4 w := fun l J Jx W hW _ _ hY h0 =>
 dims1_in F n h6 hro hn l Bn s J Jx hY W ((hW.cell (p := ⟨Bn, 0, none⟩) hBn).trans hc) h0
def retPost (Q : Exit → Act → World → Prop) : Exit → Act → World → Prop
 | .normal, a, w => Q .normal a w
 | .ret, a, w => Q .ret a w
 | _, _, _ => False
theorem calls_marks {P : Program} {f : FuncId} {fn : Func} {c : Code} {args : Array Value} {w : World} {R : Ending → World → Prop} (hf : P.funcs[f]? = some fn) (hb : fn.body = some c)
  (h : c.wp P (retPost (bodyPostM Fence.wide 6 P fn R)) { tmps := args ++ Array.replicate (fn.ntmps - args.size) undef, defers := [] } w) : Calls P f args w R :=
 (callsIn_wide (n := 6)).1 (callsIn_of_wp_marks hf hb trivial (wpIn_wide.2 (wp_mono h (fun e a w hq => by
  cases e <;> first | exact hq | exact hq.elim))) rfl)
theorem ret_marks {P : Program} {fn : Func} {R : Ending → World → Prop} {a : Act} {w : World} {v : Value} {D : Nat} (hd : a.defers = [{ target := .collected D, args := #[] }]) (hK : w.heap[D]? = some (.deferred (some [])))
  (hr : (results fn a.tmps).run P (w.putObj D (.deferred none)) = .ok v (w.putObj D (.deferred none))) (hst : R (.returned v) w → R (.returned v) (w.putObj D (.deferred none))) (hR : R (.returned v) w) : retPost (bodyPostM Fence.wide 6 P fn R) .ret a w := by
 show LeavesInM Fence.wide 6 P fn a.tmps R a.defers .returning w
 rw [hd]
 exact ⟨by simp, .inl ⟨_, _, rfl, run_takeDeferred hK, ⟨_, hr, hst hR⟩⟩⟩
theorem R_mark {α : Type} {d : Kd α} {e base D : Nat} {ok : Nat → Prop} {w : World} {v : Value} {xs : List α} {ds : Option (List Deferred)} (h : d.R e w base ok v xs) (hE : d.E = []) (hK : w.heap[D]? = some (.deferred ds)) : d.R e (w.putObj D (.deferred none)) base ok v xs :=
 Kd.R_grown2 h hE (grownBy_putObj' w D _) (fun k hk he => by
  injection hk with hk
  subst hk
  obtain ⟨cells, hc⟩ := Kd.R_typed h _ he.symm
  rw [hK] at hc
  cases hc)
theorem below_mark {w0 w : World} {D : Nat} (h : Below w0.heap.size w0 w) (hD : w0.heap.size ≤ D) : Below w0.heap.size w0 (w.putObj D (.deferred none)) :=
 h.grown (grownBy_putObj' w D _) h.size (fun k e => by injection e with e; omega)
theorem below_of_eq {W w' : World} (h : w' = W) : Below W.heap.size W w' := by rw [h]; exact Below.refl _ _
theorem nil_of_eq {W w' : World} (e : Nat) (h : w' = W) : Kd.R (Kd.int .i64) e w' W.heap.size (fun _ => True) (.slice none 0 0) ([] : List Int) := Kd.R_nil _ _ _ _ _
theorem name_world {P : Program} {f : FuncId} {args : Array Value} {W : World} {R : Ending → World → Prop} (h : ∀ w', w' = W → Calls P f args w' R) : Calls P f args W R := h W rfl
theorem setCell_back {W : World} {g : Nat} {cs : Array Value} {t : TypeId} (h : W.heap[g]? = some (.cells cs t (0, 0))) {i : Nat} {v : Value} (hv : cs[i]? = some v) (u : Value) : (W.setCell ⟨g, i, none⟩ u).setCell ⟨g, i, none⟩ v = W := by
 obtain ⟨hp, tp, dr, os, ou⟩ := W
 simp only [World.setCell] at h ⊢
 congr 1
 apply Array.ext_getElem?
 intro k
 rw [Array.getElem?_modify, Array.getElem?_modify]
 by_cases hk : g = k
 ·subst hk
  rw [if_pos rfl, if_pos rfl, h]
  simp
  apply Array.ext_getElem?
  intro j
  by_cases hj : i = j
  ·subst hj
   have := (Array.getElem?_eq_some_iff.1 hv).1
   simp [this, hv]
   exact ((Array.getElem?_eq_some_iff.1 hv).2).symm
  ·simp [Array.getElem?_setIfInBounds_ne hj]
 ·rw [if_neg hk, if_neg hk]
def KeysI {α : Type} (w0 wl : World) (gc t : Nat) (cs : Value → Array Value) (ks : List α → List Int) (pre : List α) (W : World) : Prop :=
 ∃ v, Kd.R (Kd.int .i64) 3 W w0.heap.size (fun k => wl.heap.size ≤ k) v (ks pre) ∧ W.heap[gc]? = some (.cells (cs v) t (0, 0)) ∧ Kept wl W (fun k => k = gc) ∧ Below w0.heap.size w0 W
theorem blk_not_row {W : World} {g t : Nat} {cs : Array Value} {z : Nat × Nat} (h : W.heap[g]? = some (.cells cs t z)) {row : Option Nat} (hrow : ∀ r, row = some r → ∃ o : Obj, W.heap[r]? = some o ∧ o.isCells = false) : some g ≠ row := by
 intro e
 obtain ⟨o, ho, hc⟩ := hrow g e.symm
 rw [h] at ho
 cases ho
 cases hc
theorem keysI_own {α : Type} {w0 wl : World} {gc t : Nat} {cs : Value → Array Value} {ks : List α → List Int} (hle : w0.heap.size ≤ wl.heap.size) : OwnFrom wl.heap.size (KeysI w0 wl gc t cs ks) := by
 rintro pre W W' row ⟨v, hR, hc, hk, hB⟩ hg hrow
 have hrow' : ∀ r, row = some r → ∃ o : Obj, W.heap[r]? = some o ∧ o.isCells = false := fun r e => (hrow r e).2
 refine ⟨v, Kd.R_grown2 hR rfl hg (fun k e he => ?_), blk_grown hc hg (blk_not_row hc hrow'), ?_, hB.grown hg hB.size (fun k e => Nat.le_trans hle (hrow k e).1)⟩
 ·rcases Kd.own_of_R hR with ⟨_, hn | ⟨g, cap, cur, rfl, hb, hh, _⟩⟩
  ·rw [hn.1] at he; cases he
  ·subst e
   exact blk_not_row hh hrow' (by simpa [Value.ownBlock] using he.symm)
 ·refine ⟨Nat.le_trans hk.1 hg.size, fun k hlt hne => ?_⟩
  rw [← hk.2 k hlt hne]
  exact hg.block k (by have := hk.1; omega) (fun e => by have := (hrow k e.symm).1; omega)
theorem keysI_step {α : Type} {w0 wl W W1 W2 : World} {gc t Bn : Nat} {cs : Value → Array Value} {ks : List α → List Int} {pre pre' : List α} {v v1 : Value} {l1 : List Int}
  (hR : Kd.R (Kd.int .i64) 3 W w0.heap.size (fun k => wl.heap.size ≤ k) v (ks pre)) (hc : W.heap[gc]? = some (.cells (cs v) t (0, 0))) (hk : Kept wl W (fun k => k = gc))
  (hsz : W.heap.size ≤ W1.heap.size) (hsame : ∀ k, W1.heap[k]? = W.heap[k]? ∨ W.heap.size ≤ k) (hg : W1.grownBy W2 v.ownBlock) (hR2 : Kd.R (Kd.int .i64) 3 W2 w0.heap.size (fun k => wl.heap.size ≤ k) v1 l1) (hB2 : Below w0.heap.size w0 W2)
  (hl : l1 = ks pre') (ht : 3 ≠ t) (hgc : gc < wl.heap.size) (hgw : w0.heap.size ≤ gc) (hBn : Bn < wl.heap.size) (hBc : Bn ≠ gc) (hcs : (cs v).setIfInBounds 0 v1 = cs v1) :
  KeepsFrom wl.heap.size W (W2.setCell ⟨gc, 0, none⟩ v1) ∧ KeepsBox Bn W (W2.setCell ⟨gc, 0, none⟩ v1) ∧ KeysI w0 wl gc t cs ks pre' (W2.setCell ⟨gc, 0, none⟩ v1) := by
 have hty : ∀ k, v.ownBlock = some k → ∃ cells, W.heap[k]? = some (.cells cells 3 (0, 0)) := fun k hk => Kd.R_typed hR k hk
 have hgcW : gc < W.heap.size := Nat.lt_of_lt_of_le hgc hk.1
 have h2 : ∀ k, k < W.heap.size → some k ≠ v.ownBlock → W2.heap[k]? = W.heap[k]? := fun k hlt hne =>
  (hg.block k (by omega) hne).trans ((hsame k).resolve_right (by omega))
 have h3 : ∀ k, k < W.heap.size → some k ≠ v.ownBlock → k ≠ gc → (W2.setCell ⟨gc, 0, none⟩ v1).heap[k]? = W.heap[k]? := fun k hlt hne hgne =>
  (Below.heap_setCell W2 ⟨gc, 0, none⟩ v1 k hgne).trans (h2 k hlt hne)
 have hsz2 : W.heap.size ≤ (W2.setCell ⟨gc, 0, none⟩ v1).heap.size := by
  have := hg.size
  simp only [World.setCell] at *
  simp
  omega
 have hgv : some gc ≠ v.ownBlock := fun e => by
  obtain ⟨cells, h⟩ := hty gc e.symm
  rw [hc] at h
  injection h with h
  injection h with _ h
  exact ht h.symm
 have hc2 : W2.heap[gc]? = some (.cells (cs v) t (0, 0)) := (h2 gc hgcW hgv).trans hc
 refine ⟨⟨hsz2, fun k o hB ho hcell => ?_⟩, fun u hu => ?_, v1, ?_, ?_, ⟨Nat.le_trans hk.1 hsz2, fun k hlt hne => ?_⟩, ?_⟩
 ·have hlt := blk_lt ho
  refine (h3 k hlt (fun e => ?_) (fun e => ?_)).trans ho
  ·obtain ⟨cells, h⟩ := hty k e.symm
   rw [ho] at h
   cases h
   cases hcell
  ·subst e
   rw [hc] at ho
   cases ho
   cases hcell
 ·have hlt := World.block_lt_of_cell? W _ hu
  rw [← hu]
  refine World.cell?_of_block (h3 Bn hlt (fun e => ?_) hBc)
  have := hR.1 Bn e.symm
  omega
 ·rw [← hl]
  exact Kd.R_far hR2 (fun k hk => by simp only []; omega) v1
 ·have := blk_put hc2 0 v1 (cs' := (cs v).setIfInBounds 0 v1) rfl
  rw [hcs] at this
  exact this
 ·exact (h3 k (Nat.lt_of_lt_of_le hlt hk.1) (fun e => by have := hR.1 k e.symm; omega) hne).trans (hk.2 k hlt hne)
 ·exact below_set hB2 hgw
theorem keysI_skip {α : Type} {w0 wl W : World} {gc t Bn : Nat} {cs : Value → Array Value} {ks : List α → List Int} {pre pre' : List α} (h : KeysI w0 wl gc t cs ks pre W) (hl : ks pre = ks pre') :
  KeepsFrom wl.heap.size W W ∧ KeepsBox Bn W W ∧ KeysI w0 wl gc t cs ks pre' W := by
 refine ⟨KeepsFrom.refl _ _, fun _ hv => hv, ?_⟩
 unfold KeysI at h ⊢
 rw [← hl]
 exact h
def cell_dims.f (l : List Int) (s : Int) : Option (List Int) := some (((dimsL s).filter fun i => decide (i < l.length)).map fun i : Nat => rd l (i : Int))
abbrev DimOf (s : Int) : Type := {x : Nat // bitOn s x = true ∧ x < 4}
def dimsMTo (s : Int) (j : Nat) : List (DimOf s) := (List.range j).filterMap fun i => if h : bitOn s i = true ∧ i < 4 then some ⟨i, h⟩ else none
abbrev dimsM (s : Int) : List (DimOf s) := dimsMTo s 4
theorem dimsMTo_succ (s : Int) (j : Nat) : dimsMTo s (j + 1) = dimsMTo s j ++ (if h : bitOn s j = true ∧ j < 4 then [⟨j, h⟩] else []) := by
 unfold dimsMTo
 rw [List.range_succ, List.filterMap_append]
 by_cases h : bitOn s j = true ∧ j < 4
 ·simp [h]
 ·simp [h]
theorem dimsMTo_le (s : Int) {i j : Nat} (h : i ≤ j) : dimsMTo s i <+: dimsMTo s j := by
 induction j with
 | zero =>
  have : i = 0 := by omega
  subst this; exact List.prefix_refl _
 | succ j ih =>
  rcases Nat.lt_or_ge i (j + 1) with hlt | hge
  ·exact (ih (by omega)).trans ⟨_, (dimsMTo_succ s j).symm⟩
  ·have : i = j + 1 := by omega
   subst this; exact List.prefix_refl _
theorem dimsMTo_val (s : Int) : ∀ j, j ≤ 4 → (dimsMTo s j).map (·.1) = dimsTo s j
 | 0, _ => rfl
 | j + 1, h => by
  rw [dimsMTo_succ, dimsTo_succ, List.map_append, dimsMTo_val s j (by omega)]
  by_cases c : bitOn s j = true
  ·rw [dif_pos ⟨c, by omega⟩, if_pos c]; rfl
  ·rw [dif_neg (fun h => c h.1), if_neg c]; rfl
set_option maxRecDepth 100000 in
set_option maxHeartbeats 1000000 in
theorem dims1_inM (F : Fence) (n : Nat) (h6 : F.fn 66) (hro : F.round = none) (hn : 1 ≤ n) (l Bn : Nat) (s : Int) (J Jx : List (DimOf s) → World → Prop)
  (hY : ∀ pre (x : DimOf s) W, J pre W → pre.length < (dimsM s).length → YieldAt F (n - 1) Try.prog l #[.int .i64 (x.1 : Int)] W fun e W' =>
   (e = .returned (.bool true) ∧ J (pre ++ [x]) W' ∧ KeepsBox Bn W W') ∨ (e = .returned (.bool false) ∧ Jx (pre ++ [x]) W'))
  (W : World) (hBn : W.cell? ⟨Bn, 0, none⟩ = some (.int .i64 s)) (h0 : J [] W) :
  CallsIn F n Try.prog 66 #[.func (.yield l) #[] #[], .pointer (some ⟨Bn, 0, none⟩)] W fun e W' => (∃ v, e = .returned v) ∧
   ((∃ ys, ys = dimsM s ∧ J ys W') ∨ (∃ pre, pre <+: dimsM s ∧ Jx pre W')) := by
 refine callsIn_of_wp Try.func66 rfl h6 ?_ hro
 simp only [Try.ntmps66, List.size_toArray, List.length_cons, List.length_nil, Nat.reduceAdd, Nat.reduceSub, Array.replicate_succ, Array.replicate_zero, List.push_toArray, List.append_toArray, List.nil_append, List.cons_append]
 gi_wp2
 gi_loopw [4] (fun p wr => ∃ j : Nat, p = .int .i64 (j : Int) ∧ j ≤ 4 ∧ wr.cell? ⟨Bn, 0, none⟩ = some (.int .i64 s) ∧ J (dimsMTo s j) wr)
  (fun p wr => 4 - (intOf p).toNat)
 case atStart =>
  exact ⟨0, rfl, by omega, hBn, h0⟩
 case round =>
  obtain ⟨j, rfl, hj, hc, hJs⟩ := hrel
  have hw : wrap64 ((j : Int) + 1) = ((j + 1 : Nat) : Int) := by unfold wrap64; omega
  rcases Nat.lt_or_ge j 4 with hlt | hge
  ·have h1 : (j : Int) < 4 := by omega
   have hsh : (0 : Int) ≤ (j : Int) := by omega
   by_cases hon : Go.bits .and .i64 (s / 2 ^ j) 1 = 1
   ·have hb : bitOn s j = true ∧ j < 4 := ⟨by unfold bitOn; exact decide_eq_true hon, hlt⟩
    obtain ⟨xj, hxj, hnx⟩ : ∃ x : DimOf s, x.1 = j ∧ dimsMTo s (j + 1) = dimsMTo s j ++ [x] := ⟨⟨j, hb⟩, rfl, by rw [dimsMTo_succ, dif_pos hb]⟩
    obtain ⟨fn, tmps, assign, body, hy, hR⟩ := hY (dimsMTo s j) xj wr hJs (by
     show (dimsMTo s j).length < (dimsMTo s 4).length
     have h2 := (dimsMTo_le s (show j + 1 ≤ 4 by omega)).length_le
     rw [hnx, List.length_append, List.length_singleton] at h2
     omega)
    rw [hxj] at hy
    have hnext := am hnx
    clear hb hnx hxj
    gi_wp2
    ·refine hR.mono ?_
     rintro e W3 (⟨rfl, hJ3, hk3⟩ | ⟨rfl, hJx3⟩)
     ·have hc3 := hk3 _ hc
      gi_wp2
      go_roundw
      case rel => exact ⟨j + 1, by simp, by omega, hc3, by rw [hnext.out]; exact hJ3⟩
      case measure => simp [intOf]; omega
     ·gi_wp2
      refine bodyPost_ret (results_none rfl _ _ _) rfl ?_
      exact ⟨⟨_, rfl⟩, .inr ⟨dimsMTo s j ++ [xj], hnext.out ▸ dimsMTo_le s hlt, hJx3⟩⟩
   ·have hb : Aside0 (¬ bitOn s j = true) := ⟨by unfold bitOn; simpa using hon⟩
    have hnext : Aside0 (dimsMTo s (j + 1) = dimsMTo s j) := ⟨by rw [dimsMTo_succ, dif_neg (fun h => hb.out h.1), List.append_nil]⟩
    gi_wp2
    refine ⟨fun _ h => (by cases h), ?_⟩
    gi_wp2
    go_roundw
    case rel => exact ⟨j + 1, by simp, by omega, hc, by rw [hnext.out]; exact hJs⟩
    case measure => simp [intOf]; omega
  ·obtain rfl : j = 4 := by omega
   gi_wp2
   go_end0
   exact ⟨⟨_, rfl⟩, .inl ⟨_, rfl, hJs⟩⟩
theorem dims_stopsM (F : Fence) (n : Nat) (h6 : F.fn 66) (hro : F.round = none) (hn : 1 ≤ n) (Bn : Nat) (s : Int) (w : World) (hBn : Bn < w.heap.size)
  (hc : w.cell? ⟨Bn, 0, none⟩ = some (.int .i64 s)) :
  SeqStopsK F n Try.prog 66 #[.pointer (some ⟨Bn, 0, none⟩)] (fun x : DimOf s => #[Value.int .i64 (x.1 : Int)]) (KeepsBox Bn) (fun ys => ys = dimsM s) (fun pre => pre <+: dimsM s) (dimsM s).length w := fun l J Jx W hW _ _ hY h0 =>
 dims1_inM F n h6 hro hn l Bn s J Jx hY W ((hW.cell (p := ⟨Bn, 0, none⟩) hBn).trans hc) h0
end Go.Proofs.Ytmkjkkmilopcpaa.Q
