-- packed by wip/tools/pack.py (a program of this session) out of its own texts
import Derived.Test.YtmkjkkmilopcpaaPCellBack0
import Derived.ArgAppend
import Derived.Below
import Derived.BigQuiet
import Derived.Deep.AppendLies
import Derived.Deep.CutBlock
import Derived.Deep.DeepCutAuto
import Derived.Deep.Draws
import Derived.Deep.LoopGhost
import Derived.Deep.OwnRows
import Derived.Deep.QuietTactic
import Derived.Deep.RegionHeld3
import Derived.KernelRfl
import Derived.Laws.BitsLemmas
import Derived.Laws.BytesArg
import Derived.Laws.IdiomCopy
import Derived.Laws.MakeOwn
import Derived.Laws.OwnMore
import Derived.Laws.Rows
import Derived.Laws.Slices
import Derived.Lib.AppendStr
import Derived.Lib.ConvBytes
import Derived.LoopIn
import Derived.LoopNIn
import Derived.Maps.AppendAt
import Derived.OrdersHeld
import Derived.OrdersIn
import Derived.OwnWalk
import Derived.OwnWalkIn
import Derived.RangeFuncBound
import Derived.RangeFuncBox
import Derived.RangeFuncCalls
import Derived.RangeFuncLeaves
import Derived.RangeFuncNested
import Derived.RangeFuncOwn
import Derived.RowKit
import Derived.RowKit3
import Derived.Shelf.Abstract
import Derived.Shelf.RegionOpen
import Derived.Tactics
import Derived.TacticsInMore
import Derived.Test.YtmkjkkmilopcpaaProg
import Derived.WalkKit
import Derived.WideLaws
import Derived.Test.YtmkjkkmilopcpaaPCellBack1
import Derived.Test.YtmkjkkmilopcpaaPCellBack3
import Derived.Test.YtmkjkkmilopcpaaPCellBack4
import Derived.Test.YtmkjkkmilopcpaaPCellBack5
import Derived.Test.YtmkjkkmilopcpaaPCellBack6
import Derived.Test.YtmkjkkmilopcpaaPCellBack8
import Derived.Test.YtmkjkkmilopcpaaPCellBack12
namespace Go.Proofs.Ytmkjkkmilopcpaa.Q
open Go.RowKit Go.Shelf Go.Proofs.YtmkjkkmilopcpaaW.PrintWords Go.Proofs.YtmkjkkmilopcpaaW.PrintLast Go.Proofs.YtmkjkkmilopcpaaW.PrintMore
set_option linter.unusedVariables false
set_option linter.unusedSimpArgs false
def byN (b : List Int) (p n : Nat) : Int := gv ((b.drop p).take n) 0
def keysOf (b : List Int) (j : Nat) : List Int := (List.range j).map fun i => byN b i 1
theorem keysOf_succ (b : List Int) (j : Nat) : keysOf b (j + 1) = keysOf b j ++ [byN b j 1] := by
 unfold keysOf
 rw [List.range_succ, List.map_append]
 rfl
theorem keysOf_length (b : List Int) (j : Nat) : (keysOf b j).length = j := by simp [keysOf]
def KeysOk (cards b : List Int) {s : Int} (pre : List (DimOf s)) : Prop := ∀ (j : Nat) (h : j < pre.length), byN b j 1 < rd cards ((pre[j]).1 : Int)
theorem KeysOk.snoc {cards b : List Int} {s : Int} {pre : List (DimOf s)} {x : DimOf s} (h : KeysOk cards b pre) (hx : byN b pre.length 1 < rd cards (x.1 : Int)) : KeysOk cards b (pre ++ [x]) := by
 intro j hj
 rw [List.length_append, List.length_singleton] at hj
 by_cases c : j < pre.length
 ·rw [List.getElem_append_left c]; exact h j c
 ·have e : j = pre.length := by omega
  subst e
  simpa using hx
def OnI (w0 wb wl : World) (g5 g6 : Nat) (cards b : List Int) {s : Int} (pre : List (DimOf s)) (W : World) : Prop :=
 ∃ (v : Value) (A : Option Addr) (c : Nat), Kd.R (Kd.int .i64) 3 W w0.heap.size (fun k => wl.heap.size ≤ k) v (keysOf b pre.length) ∧ W.heap[g6]? = some (.cells #[v, .int .i64 0, .slice none 0 0, .slice none 0 0, .slice none 0 0] 30 (0, 0)) ∧
  W.heap[g5]? = some (.cells #[.slice A (b.drop pre.length).length c] 51 (0, 0)) ∧ ((b.drop pre.length).length ≤ c ∧ Kd.C (Kd.int .u8) wb A (b.drop pre.length).length (b.drop pre.length)) ∧ KeysOk cards b pre ∧ Kept wl W (fun k => k = g5 ∨ k = g6) ∧ Below w0.heap.size w0 W
def OnX (w0 : World) (g6 g7 g8 : Nat) (cards b : List Int) {s : Int} (c : Code) (pre : List (DimOf s)) (W : World) : Prop :=
 c = .ret ∧ (∃ (p : List (DimOf s)) (x : DimOf s), pre = p ++ [x] ∧ rd cards (x.1 : Int) ≤ byN b p.length 1) ∧ W.heap[g6]? = some (.cells #[.slice none 0 0, .int .i64 0, .slice none 0 0, .slice none 0 0, .slice none 0 0] 30 (0, 0)) ∧
  W.heap[g7]? = some (.cells #[.slice none 0 0] 51 (0, 0)) ∧ W.heap[g8]? = some (.cells #[.bool false] 4 (0, 0)) ∧ Below w0.heap.size w0 W
theorem onI_own {w0 wb wl : World} {g5 g6 : Nat} {cards b : List Int} {s : Int} (hle : w0.heap.size ≤ wl.heap.size) : OwnFrom wl.heap.size (OnI w0 wb wl g5 g6 cards b (s := s)) := by
 rintro pre W W' row ⟨v, A, c, hR, hc, h5, hb, ho, hk, hB⟩ hg hrow
 have hrow' : ∀ r, row = some r → ∃ o : Obj, W.heap[r]? = some o ∧ o.isCells = false := fun r e => (hrow r e).2
 refine ⟨v, A, c, Kd.R_grown2 hR rfl hg (fun k e he => ?_), blk_grown hc hg (blk_not_row hc hrow'), blk_grown h5 hg (blk_not_row h5 hrow'), hb, ho, ?_, hB.grown hg hB.size (fun k e => Nat.le_trans hle (hrow k e).1)⟩
 ·rcases Kd.own_of_R hR with ⟨_, hn | ⟨g, cap, cur, rfl, hb, hh, _⟩⟩
  ·rw [hn.1] at he; cases he
  ·subst e
   exact blk_not_row hh hrow' (by simpa [Value.ownBlock] using he.symm)
 ·refine ⟨Nat.le_trans hk.1 hg.size, fun k hlt hne => ?_⟩
  rw [← hk.2 k hlt hne]
  exact hg.block k (by have := hk.1; omega) (fun e => by have := (hrow k e.symm).1; omega)
theorem onX_own {w0 wl : World} {g6 g7 g8 : Nat} {cards b : List Int} {s : Int} (hle : w0.heap.size ≤ wl.heap.size) (c : Code) : OwnFrom wl.heap.size (OnX w0 g6 g7 g8 cards b (s := s) c) := by
 rintro pre W W' row ⟨rfl, hp, h6, h7, h8, hB⟩ hg hrow
 have hrow' : ∀ r, row = some r → ∃ o : Obj, W.heap[r]? = some o ∧ o.isCells = false := fun r e => (hrow r e).2
 exact ⟨rfl, hp, blk_grown h6 hg (blk_not_row h6 hrow'), blk_grown h7 hg (blk_not_row h7 hrow'), blk_grown h8 hg (blk_not_row h8 hrow'), hB.grown hg hB.size (fun k e => Nat.le_trans hle (hrow k e).1)⟩
theorem on_keeps {w0 wl W W3 : World} {g5 g6 Bn : Nat} {v : Value} {xs : List Int} {q5 q6 : Array Value} {t5 t6 : TypeId} (hR : Kd.R (Kd.int .i64) 3 W w0.heap.size (fun k => wl.heap.size ≤ k) v xs) (h6 : W.heap[g6]? = some (.cells q6 t6 (0, 0))) (h5 : W.heap[g5]? = some (.cells q5 t5 (0, 0)))
  (hsz : W.heap.size ≤ W3.heap.size) (h3 : ∀ k, k < W.heap.size → some k ≠ v.ownBlock → k ≠ g5 → k ≠ g6 → W3.heap[k]? = W.heap[k]?) (hBn : Bn < wl.heap.size) (hB5 : Bn ≠ g5) (hB6 : Bn ≠ g6) : KeepsFrom wl.heap.size W W3 ∧ KeepsBox Bn W W3 := by
 refine ⟨⟨hsz, fun k o hB ho hcell => ?_⟩, fun u hu => ?_⟩
 ·have hlt := blk_lt ho
  refine (h3 k hlt (fun e => ?_) (fun e => ?_) (fun e => ?_)).trans ho
  ·obtain ⟨cells, h⟩ := Kd.R_typed hR k e.symm
   rw [ho] at h
   cases h
   cases hcell
  ·subst e
   rw [h5] at ho
   cases ho
   cases hcell
  ·subst e
   rw [h6] at ho
   cases ho
   cases hcell
 ·have hlt := World.block_lt_of_cell? W _ hu
  rw [← hu]
  refine World.cell?_of_block (h3 Bn hlt (fun e => ?_) hB5 hB6)
  have := hR.1 Bn e.symm
  omega
theorem onX_keeps {B : Nat} {W W3 : World} {g5 g6 g7 g8 : Nat} {q5 q6 q7 q8 : Array Value} {t5 t6 t7 t8 : TypeId} (h5 : W.heap[g5]? = some (.cells q5 t5 (0, 0))) (h6 : W.heap[g6]? = some (.cells q6 t6 (0, 0))) (h7 : W.heap[g7]? = some (.cells q7 t7 (0, 0))) (h8 : W.heap[g8]? = some (.cells q8 t8 (0, 0)))
  (hsz : W.heap.size ≤ W3.heap.size) (h3 : ∀ k, k < W.heap.size → k ≠ g5 → k ≠ g6 → k ≠ g7 → k ≠ g8 → W3.heap[k]? = W.heap[k]?) : KeepsFrom B W W3 := by
 refine ⟨hsz, fun k o hB ho hcell => ?_⟩
 have key : ∀ {g : Nat} {q : Array Value} {t : TypeId}, W.heap[g]? = some (.cells q t (0, 0)) → k ≠ g := by
  intro g q t h e
  subst e
  rw [h] at ho
  cases ho
  cases hcell
 exact (h3 k (blk_lt ho) (key h5) (key h6) (key h7) (key h8)).trans ho
theorem onI_step {w0 wb wl W W2 w1 : World} {g5 g6 Bn : Nat} {cards b : List Int} {s : Int} {pre : List (DimOf s)} {x : DimOf s} {v v1 : Value} {A A' : Option Addr} {c c' : Nat}
  (hR : Kd.R (Kd.int .i64) 3 W w0.heap.size (fun k => wl.heap.size ≤ k) v (keysOf b pre.length)) (h6 : W.heap[g6]? = some (.cells #[v, .int .i64 0, .slice none 0 0, .slice none 0 0, .slice none 0 0] 30 (0, 0)))
  (h5 : W.heap[g5]? = some (.cells #[.slice A (b.drop pre.length).length c] 51 (0, 0))) (ho : KeysOk cards b pre) (hk : Kept wl W (fun k => k = g5 ∨ k = g6)) (hD : Below W.heap.size W W2)
  (hle : (b.drop (pre ++ [x]).length).length ≤ c') (hC : Kd.C (Kd.int .u8) wb A' (b.drop (pre ++ [x]).length).length (b.drop (pre ++ [x]).length))
  (hg : (W2.setCell ⟨g5, 0, none⟩ (.slice A' (b.drop (pre ++ [x]).length).length c')).grownBy w1 v.ownBlock) (hR2 : Kd.R (Kd.int .i64) 3 w1 w0.heap.size (fun k => wl.heap.size ≤ k) v1 (keysOf b (pre ++ [x]).length)) (hB2 : Below w0.heap.size w0 w1)
  (hx : byN b pre.length 1 < rd cards (x.1 : Int)) (hn : g5 ≠ g6) (h5w : g5 < wl.heap.size) (h6w : g6 < wl.heap.size) (h60 : w0.heap.size ≤ g6) (hBn : Bn < wl.heap.size) (hB5 : Bn ≠ g5) (hB6 : Bn ≠ g6) :
  KeepsFrom wl.heap.size W (w1.setCell ⟨g6, 0, none⟩ v1) ∧ KeepsBox Bn W (w1.setCell ⟨g6, 0, none⟩ v1) ∧ OnI w0 wb wl g5 g6 cards b (pre ++ [x]) (w1.setCell ⟨g6, 0, none⟩ v1) := by
 have hs2 : (W2.setCell ⟨g5, 0, none⟩ (.slice A' (b.drop (pre ++ [x]).length).length c')).heap.size = W2.heap.size := by simp [World.setCell]
 have hsz2 := hg.size
 have hsD := hD.size
 have hwl := hk.1
 have h1 : ∀ k, k < W.heap.size → some k ≠ v.ownBlock → k ≠ g5 → w1.heap[k]? = W.heap[k]? := fun k hlt hne h5 => (hg.block k (by omega) hne).trans ((Below.heap_setCell _ _ _ k h5).trans (hD.block k hlt))
 have h3 : ∀ k, k ≠ g6 → (w1.setCell ⟨g6, 0, none⟩ v1).heap[k]? = w1.heap[k]? := fun k e => Below.heap_setCell _ _ _ k e
 have hgv : ∀ {g : Nat}, g < wl.heap.size → some g ≠ v.ownBlock := fun {g} hlt e => by have := hR.1 g e.symm; omega
 have c6 : w1.heap[g6]? = some (.cells #[v, .int .i64 0, .slice none 0 0, .slice none 0 0, .slice none 0 0] 30 (0, 0)) := (h1 g6 (by omega) (hgv h6w) hn.symm).trans h6
 have c5 : w1.heap[g5]? = some (.cells #[.slice A' (b.drop (pre ++ [x]).length).length c'] 51 (0, 0)) := (hg.block g5 (by omega) (hgv h5w)).trans (blk_put ((hD.block g5 (by omega)).trans h5) 0 _ rfl)
 obtain ⟨k1, k2⟩ := on_keeps (W3 := w1.setCell ⟨g6, 0, none⟩ v1) hR h6 h5 (by simp [World.setCell]; omega) (fun k hlt hne e5 e6 => (h3 k e6).trans (h1 k hlt hne e5)) hBn hB5 hB6
 refine ⟨k1, k2, v1, A', c', Kd.R_far hR2 (fun k hk => by simp only []; omega) _, blk_put c6 0 _ rfl, (h3 g5 hn).trans c5, ⟨hle, hC⟩, ho.snoc hx, ⟨by simp [World.setCell]; omega, fun k hlt hne => ?_⟩, below_set hB2 h60⟩
 exact ((h3 k (fun e => hne (.inr e))).trans (h1 k (by omega) (fun e => by have := hR.1 k e.symm; omega) (fun e => hne (.inl e)))).trans (hk.2 k hlt hne)
theorem run_loadVar_one {P : Program} {w : World} {g : Nat} {ty : TypeId} {v : Value} {d : TypeDesc} (hc : w.cell? ⟨g, 0, none⟩ = some v) (hu : P.underlying ty = some d) (hd : (match d with | .struct _ | .array _ _ => true | _ => false) = false) : (loadVar ty ⟨g, 0, none⟩).run P w = .ok v w := by
 have hagg : (isAgg ty).run P w = .ok false w := by
  unfold isAgg
  rw [Sem.run_bind, run_underlying hu w]
  cases d <;> simp_all
 unfold loadVar
 simp [hagg, hc]
theorem results_ccc {P : Program} {fn : Func} {p p' p'' : Tmp} {ty ty' ty'' : TypeId} (h : fn.results = #[.cell p ty, .cell p' ty', .cell p'' ty'']) (tmps : Array Value) (w : World) (g g' g'' : Nat) (t : TypeId) (cs : Array Value) (v' v'' : Value) (d d' d'' : TypeDesc)
  (hp : tmps.getD p undef = .pointer (some ⟨g, 0, none⟩)) (hg : w.heap[g]? = some (.cells cs t (0, 0))) (hu : P.underlying ty = some d) (hd : (match d with | .struct _ | .array _ _ => true | _ => false) = true) (hi : (P.info? ty).map (·.size) = some cs.size)
  (hp' : tmps.getD p' undef = .pointer (some ⟨g', 0, none⟩)) (hg' : w.cell? ⟨g', 0, none⟩ = some v') (hu' : P.underlying ty' = some d') (hd' : (match d' with | .struct _ | .array _ _ => true | _ => false) = false)
  (hp'' : tmps.getD p'' undef = .pointer (some ⟨g'', 0, none⟩)) (hg'' : w.cell? ⟨g'', 0, none⟩ = some v'') (hu'' : P.underlying ty'' = some d'') (hd'' : (match d'' with | .struct _ | .array _ _ => true | _ => false) = false) :
  (results fn tmps).run P w = .ok (.tuple #[.agg cs, v', v'']) w := by
 have h1 : tmps[p]?.getD undef = .pointer (some ⟨g, 0, none⟩) := by simpa using hp
 have h2 : tmps[p']?.getD undef = .pointer (some ⟨g', 0, none⟩) := by simpa using hp'
 have h3 : tmps[p'']?.getD undef = .pointer (some ⟨g'', 0, none⟩) := by simpa using hp''
 simp [results, h, h1, h2, h3, asAddr, run_loadVar_row w g t ty cs (0, 0) d hg hu hd hi, run_loadVar_one hg' hu' hd', run_loadVar_one hg'' hu'' hd'']
theorem wpListIn_round {n : Nat} {P : Program} {ops : Array Oper} {Q : Exit → Act → World → Prop} (l : Nat) (hQ : ¬ LetsOut Q) : ∀ (os : List Oper), (∀ o ∈ os, ∀ c, o.op ≠ .defer c) → ∀ (a : Act) (w : World), wpList P ops Q os a w → wpListIn (Fence.wide.inRound l) n P ops Q os a w
 | [], _, _, _, h => h
 | o :: os, hn, a, w, h => by
  unfold wpList at h
  unfold wpListIn
  have ih := wpListIn_round (n := n) (P := P) (ops := ops) (Q := Q) l hQ os (fun o ho => hn o (List.mem_cons_of_mem _ ho))
  split
  ·rename_i hw
   rw [if_pos hw] at h
   have h1 := h.resolve_right (fun q => hQ q.2)
   exact oper_round l (hn o (List.mem_cons_self ..)) (Oper.wp_mono (fun a w => ih a w) h1)
  ·rename_i hw
   rw [if_neg hw] at h
   exact ⟨fun _ _ => trivial, ih _ _ h⟩
def SpreadOk (b : List Int) (p : Nat) (m : Nat) : Prop := ∀ i, i < m → byN b (p + 24 * i + 8) 8 ≤ byN b (p + 24 * i + 16) 8
instance (b : List Int) (p m : Nat) : Decidable (SpreadOk b p m) := inferInstanceAs (Decidable (∀ i, i < m → byN b (p + 24 * i + 8) 8 ≤ byN b (p + 24 * i + 16) 8))
instance (cards b : List Int) {s : Int} (pre : List (DimOf s)) : Decidable (KeysOk cards b pre) := inferInstanceAs (Decidable (∀ (j : Nat) (h : j < pre.length), byN b j 1 < rd cards ((pre[j]).1 : Int)))
def eightsOf (b : List Int) (p m : Nat) : List Int := (List.range m).map fun i => byN b (p + 24 * i) 8
theorem eightsOf_succ (b : List Int) (p m : Nat) : eightsOf b p (m + 1) = eightsOf b p m ++ [byN b (p + 24 * m) 8] := by
 unfold eightsOf
 rw [List.range_succ, List.map_append]; rfl
theorem eightsOf_length (b : List Int) (p m : Nat) : (eightsOf b p m).length = m := by simp [eightsOf]
theorem SpreadOk.snoc {b : List Int} {p m : Nat} (h : SpreadOk b p m) (hx : byN b (p + 24 * m + 8) 8 ≤ byN b (p + 24 * m + 16) 8) : SpreadOk b p (m + 1) := by
 intro i hi
 by_cases c : i < m
 ·exact h i c
 ·obtain rfl : i = m := by omega
  exact hx
theorem below_mix {a c : Nat} {w0 w1 w2 : World} (h1 : Below a w0 w1) (h2 : Below c w1 w2) (hle : a ≤ c) : Below a w0 w2 :=
 ⟨h2.os.trans h1.os, h2.tape.trans h1.tape, h2.output.trans h1.output, Nat.le_trans h1.size h2.size, fun k hk => (h2.block k (by omega)).trans (h1.block k hk)⟩
def LeftAt (w : World) (b : List Int) (g5 n : Nat) (W : World) : Prop :=
 ∃ (A : Option Addr) (c : Nat), W.heap[g5]? = some (.cells #[.slice A (b.drop n).length c] 51 (0, 0)) ∧ (b.drop n).length ≤ c ∧ Kd.C (Kd.int .u8) w A (b.drop n).length (b.drop n)
structure InnO (w wb wz : World) (g5 g6 : Nat) (kv : Value) (cnt : Int) (b : List Int) (p : Nat) (f : Nat → Nat) (v2 v3 v4 : Value) (j : Nat) (W : World) : Prop where
 kept : Kept wz W (fun k => k = g5 ∨ k = g6)
 bel : Below w.heap.size w W
 b6 : W.heap[g6]? = some (.cells #[kv, .int .i64 cnt, v2, v3, v4] 30 (0, 0))
 left : LeftAt wb b g5 (p + 24 * j) W
 hf : ∀ k, k < wz.heap.size → f k = 9
 r2 : Kd.R (Kd.int .i64) 3 W wz.heap.size (fun k => f k = 2) v2 (eightsOf b p j)
 r3 : Kd.R (Kd.int .i64) 3 W wz.heap.size (fun k => f k = 3) v3 (eightsOf b (p + 8) j)
 r4 : Kd.R (Kd.int .i64) 3 W wz.heap.size (fun k => f k = 4) v4 (eightsOf b (p + 16) j)
 ok : SpreadOk b p j
def arrV (b : List Int) (p : Nat) : Nat → Array Value
 | 0 => #[.int .i64 0, .int .i64 0, .int .i64 0]
 | 1 => #[.int .i64 (byN b p 8), .int .i64 0, .int .i64 0]
 | 2 => #[.int .i64 (byN b p 8), .int .i64 (byN b (p + 8) 8), .int .i64 0]
 | _ => #[.int .i64 (byN b p 8), .int .i64 (byN b (p + 8) 8), .int .i64 (byN b (p + 16) 8)]
structure InnA (w wb wa : World) (g5 ga : Nat) (b : List Int) (p i : Nat) (W : World) : Prop where
 kept : Kept wa W (fun k => k = g5 ∨ k = ga)
 bel : Below w.heap.size w W
 arr : W.heap[ga]? = some (.cells (arrV b p i) 93 (0, 0))
 left : LeftAt wb b g5 (p + 8 * i) W
end Go.Proofs.Ytmkjkkmilopcpaa.Q
