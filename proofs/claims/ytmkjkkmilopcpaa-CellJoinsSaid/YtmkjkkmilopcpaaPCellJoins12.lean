-- packed by wip/tools/pack.py (a program of this session) out of its own texts
import Derived.Test.YtmkjkkmilopcpaaPCellJoins0
import Derived.ArgAppend
import Derived.Below
import Derived.BigQuiet
import Derived.Deep.AppendLies
import Derived.Deep.CutBlock
import Derived.Deep.DeepCutAuto
import Derived.Deep.Draws
import Derived.Deep.LoopGhost
import Derived.Deep.OwnRows
import Derived.Deep.QuietTactic
import Derived.Deep.RegionHeld3
import Derived.KernelRfl
import Derived.Laws.BitsLemmas
import Derived.Laws.BytesArg
import Derived.Laws.IdiomCopy
import Derived.Laws.MakeOwn
import Derived.Laws.OwnMore
import Derived.Laws.Rows
import Derived.Laws.Slices
import Derived.Lib.AppendStr
import Derived.Lib.ConvBytes
import Derived.Lib.SliceRun
import Derived.LoopIn
import Derived.LoopNIn
import Derived.Maps.AppendAt
import Derived.OrdersHeld
import Derived.OrdersIn
import Derived.OwnWalk
import Derived.OwnWalkIn
import Derived.RangeFuncBound
import Derived.RangeFuncBox
import Derived.RangeFuncCalls
import Derived.RangeFuncLeaves
import Derived.RangeFuncNested
import Derived.RangeFuncOwn
import Derived.RowKit
import Derived.RowKit3
import Derived.Shelf.Abstract
import Derived.Shelf.RegionOpen
import Derived.Tactics
import Derived.TacticsInMore
import Derived.Test.YtmkjkkmilopcpaaProg
import Derived.WalkKit
import Derived.WalkSpells
import Derived.WideLaws
import Derived.Test.YtmkjkkmilopcpaaPCellJoins1
import Derived.Test.YtmkjkkmilopcpaaPCellJoins3
import Derived.Test.YtmkjkkmilopcpaaPCellJoins4
import Derived.Test.YtmkjkkmilopcpaaPCellJoins5
import Derived.Test.YtmkjkkmilopcpaaPCellJoins6
import Derived.Test.YtmkjkkmilopcpaaPCellJoins7
import Derived.Test.YtmkjkkmilopcpaaPCellJoins11
namespace Go.Proofs.Ytmkjkkmilopcpaa.Q
open Go.RowKit Go.Shelf Go.Proofs.YtmkjkkmilopcpaaW.PrintWords Go.Proofs.YtmkjkkmilopcpaaW.PrintLast Go.Proofs.YtmkjkkmilopcpaaW.PrintMore
set_option linter.unusedVariables false
set_option linter.unusedSimpArgs false
attribute [local go_sem] Oper.semAt_some
def nar.T7 : Bool × List (List Nat × List Nat) := (true, [([], []), ([0], [0]), ([], []), ([2], [2]), ([], []), ([3, 4], [3, 4]), ([5], [5]), ([6], [6]), ([1, 7], [1, 7]), ([0, 1, 2, 3, 4, 5, 6, 7, 8], []), ([9, 8, 8, 0, 1, 2, 3, 4, 5, 6, 7, 8], [8, 9])])
def nar.B7 : List Nat := [0, 1, 0, 4, 0, 28, 60, 124, 255, 511, 1023]
theorem nar.tab7 : rtab .any (opsOf Try.f31 7) = nar.T7 := by kernel_rfl
theorem nar.bits7 : waitsOk nar.T7.2 nar.B7 = true := by kernel_rfl
def bitN (t : Int) (i : Nat) : Bool := decide (Go.bits .and .i64 (t / 2 ^ min i 64) 1 = 1)
def narK (key : List Int) (t : Int) : Nat → List Nat → List Int
 | _, [] => []
 | a, i :: is => if bitN t i = true ∧ a < key.length then rd key (a : Int) :: narK key t (a + 1) is else narK key t (a + 1) is
theorem narK_snoc (key : List Int) (t : Int) (x : Nat) : ∀ (is : List Nat) (a : Nat), narK key t a (is ++ [x]) = narK key t a is ++ (if bitN t x = true ∧ a + is.length < key.length then [rd key ((a + is.length : Nat) : Int)] else [])
 | [], a => by
  simp only [List.nil_append, narK, List.length_nil, Nat.add_zero]
 | i :: is, a => by
  have h := narK_snoc key t x is (a + 1)
  rw [show a + 1 + is.length = a + (is.length + 1) by omega] at h
  simp only [List.cons_append, narK, List.length_cons]
  by_cases c : bitN t i = true ∧ a < key.length
  ·rw [if_pos c, if_pos c, h]; rfl
  ·rw [if_neg c, if_neg c, h]
theorem narK_length (key : List Int) (t : Int) : ∀ (is : List Nat) (a : Nat), (narK key t a is).length ≤ is.length
 | [], _ => Nat.le_refl _
 | i :: is, a => by
  have h := narK_length key t is (a + 1)
  simp only [narK]
  split <;> (simp; omega)
def NarI (w0 wl : World) (g7 g8 t : Nat) (cs : Value → Array Value) (key : List Int) (a2 : Int) (pre : List Nat) (W : World) : Prop :=
 ∃ v, Kd.R (Kd.int .i64) 3 W w0.heap.size (fun k => wl.heap.size ≤ k) v (narK key a2 0 pre) ∧ W.heap[g7]? = some (.cells (cs v) t (0, 0)) ∧ W.heap[g8]? = some (.cells #[.int .i64 (pre.length : Int)] 3 (0, 0)) ∧ Kept wl W (fun k => k = g7 ∨ k = g8) ∧ Below w0.heap.size w0 W
theorem narI_own {w0 wl : World} {g7 g8 t : Nat} {cs : Value → Array Value} {key : List Int} {a2 : Int} (hle : w0.heap.size ≤ wl.heap.size) : OwnFrom wl.heap.size (NarI w0 wl g7 g8 t cs key a2) := by
 rintro pre W W' row ⟨v, hR, hc, hc8, hk, hB⟩ hg hrow
 have hrow' : ∀ r, row = some r → ∃ o : Obj, W.heap[r]? = some o ∧ o.isCells = false := fun r e => (hrow r e).2
 refine ⟨v, Kd.R_grown2 hR rfl hg (fun k e he => ?_), blk_grown hc hg (blk_not_row hc hrow'), blk_grown hc8 hg (blk_not_row hc8 hrow'), ?_, hB.grown hg hB.size (fun k e => Nat.le_trans hle (hrow k e).1)⟩
 ·rcases Kd.own_of_R hR with ⟨_, hn | ⟨g, cap, cur, rfl, hb, hh, _⟩⟩
  ·rw [hn.1] at he; cases he
  ·subst e
   exact blk_not_row hh hrow' (by simpa [Value.ownBlock] using he.symm)
 ·refine ⟨Nat.le_trans hk.1 hg.size, fun k hlt hne => ?_⟩
  rw [← hk.2 k hlt hne]
  exact hg.block k (by have := hk.1; omega) (fun e => by have := (hrow k e.symm).1; omega)
theorem narI_mk {w0 wl W W3 : World} {g7 g8 t Bn x : Nat} {cs : Value → Array Value} {key : List Int} {a2 : Int} {pre : List Nat} {v v1 : Value}
  (hR : Kd.R (Kd.int .i64) 3 W w0.heap.size (fun k => wl.heap.size ≤ k) v (narK key a2 0 pre)) (hc : W.heap[g7]? = some (.cells (cs v) t (0, 0))) (hc8 : W.heap[g8]? = some (.cells #[.int .i64 (pre.length : Int)] 3 (0, 0))) (hk : Kept wl W (fun k => k = g7 ∨ k = g8))
  (hsz : W.heap.size ≤ W3.heap.size) (h3 : ∀ k, k < W.heap.size → some k ≠ v.ownBlock → k ≠ g7 → k ≠ g8 → W3.heap[k]? = W.heap[k]?)
  (hR2 : Kd.R (Kd.int .i64) 3 W3 w0.heap.size (fun k => wl.heap.size ≤ k) v1 (narK key a2 0 (pre ++ [x]))) (hc2 : W3.heap[g7]? = some (.cells (cs v1) t (0, 0))) (hc28 : W3.heap[g8]? = some (.cells #[.int .i64 ((pre.length + 1 : Nat) : Int)] 3 (0, 0))) (hB2 : Below w0.heap.size w0 W3)
  (hBn : Bn < wl.heap.size) (hB7 : Bn ≠ g7) (hB8 : Bn ≠ g8) :
  KeepsFrom wl.heap.size W W3 ∧ KeepsBox Bn W W3 ∧ NarI w0 wl g7 g8 t cs key a2 (pre ++ [x]) W3 := by
 refine ⟨⟨hsz, fun k o hB ho hcell => ?_⟩, fun u hu => ?_, v1, hR2, hc2, by rw [List.length_append, List.length_singleton]; exact hc28, ⟨Nat.le_trans hk.1 hsz, fun k hlt hne => ?_⟩, hB2⟩
 ·have hlt := blk_lt ho
  refine (h3 k hlt (fun e => ?_) (fun e => ?_) (fun e => ?_)).trans ho
  ·obtain ⟨cells, h⟩ := Kd.R_typed hR k e.symm
   rw [ho] at h
   cases h
   cases hcell
  ·subst e
   rw [hc] at ho
   cases ho
   cases hcell
  ·subst e
   rw [hc8] at ho
   cases ho
   cases hcell
 ·have hlt := World.block_lt_of_cell? W _ hu
  rw [← hu]
  refine World.cell?_of_block (h3 Bn hlt (fun e => ?_) hB7 hB8)
  have := hR.1 Bn e.symm
  omega
 ·exact (h3 k (Nat.lt_of_lt_of_le hlt hk.1) (fun e => by have := hR.1 k e.symm; omega) (fun e => hne (.inl e)) (fun e => hne (.inr e))).trans (hk.2 k hlt hne)
theorem narI_skip {w0 wl W : World} {g7 g8 t Bn x : Nat} {cs : Value → Array Value} {key : List Int} {a2 : Int} {pre : List Nat} {v : Value}
  (hR : Kd.R (Kd.int .i64) 3 W w0.heap.size (fun k => wl.heap.size ≤ k) v (narK key a2 0 pre)) (hc : W.heap[g7]? = some (.cells (cs v) t (0, 0))) (hc8 : W.heap[g8]? = some (.cells #[.int .i64 (pre.length : Int)] 3 (0, 0))) (hk : Kept wl W (fun k => k = g7 ∨ k = g8)) (hB : Below w0.heap.size w0 W)
  (hl : narK key a2 0 pre = narK key a2 0 (pre ++ [x])) (hn : g7 ≠ g8) (h8 : g8 < wl.heap.size) (h8w : w0.heap.size ≤ g8) (hBn : Bn < wl.heap.size) (hB7 : Bn ≠ g7) (hB8 : Bn ≠ g8) :
  KeepsFrom wl.heap.size W (W.setCell ⟨g8, 0, none⟩ (.int .i64 ((pre.length + 1 : Nat) : Int))) ∧ KeepsBox Bn W (W.setCell ⟨g8, 0, none⟩ (.int .i64 ((pre.length + 1 : Nat) : Int))) ∧ NarI w0 wl g7 g8 t cs key a2 (pre ++ [x]) (W.setCell ⟨g8, 0, none⟩ (.int .i64 ((pre.length + 1 : Nat) : Int))) := by
 have h3 : ∀ k, k ≠ g8 → (W.setCell ⟨g8, 0, none⟩ (.int .i64 ((pre.length + 1 : Nat) : Int))).heap[k]? = W.heap[k]? := fun k he => Below.heap_setCell W ⟨g8, 0, none⟩ _ k he
 refine narI_mk hR hc hc8 hk (by simp [World.setCell]) (fun k _ _ _ he => h3 k he) ?_ ((h3 g7 hn).trans hc) (blk_put hc8 0 _ rfl) (below_set hB h8w) hBn hB7 hB8
 rw [← hl]
 exact Kd.R_far hR (fun k hk => by simp only []; omega) _
theorem narI_step {w0 wl W W1 W2 : World} {g7 g8 t Bn x : Nat} {cs : Value → Array Value} {key : List Int} {a2 : Int} {pre : List Nat} {v v1 : Value} {l1 : List Int}
  (hR : Kd.R (Kd.int .i64) 3 W w0.heap.size (fun k => wl.heap.size ≤ k) v (narK key a2 0 pre)) (hc : W.heap[g7]? = some (.cells (cs v) t (0, 0))) (hc8 : W.heap[g8]? = some (.cells #[.int .i64 (pre.length : Int)] 3 (0, 0))) (hk : Kept wl W (fun k => k = g7 ∨ k = g8))
  (hsz : W.heap.size ≤ W1.heap.size) (hsame : ∀ k, W1.heap[k]? = W.heap[k]? ∨ W.heap.size ≤ k) (hg : W1.grownBy W2 v.ownBlock) (hR2 : Kd.R (Kd.int .i64) 3 W2 w0.heap.size (fun k => wl.heap.size ≤ k) v1 l1) (hB2 : Below w0.heap.size w0 W2)
  (hl : l1 = narK key a2 0 (pre ++ [x])) (hn : g7 ≠ g8) (ht : 3 ≠ t) (h7 : g7 < wl.heap.size) (h7w : w0.heap.size ≤ g7) (h8 : g8 < wl.heap.size) (h8w : w0.heap.size ≤ g8) (hBn : Bn < wl.heap.size) (hB7 : Bn ≠ g7) (hB8 : Bn ≠ g8) (hcs : (cs v).setIfInBounds 0 v1 = cs v1) :
  KeepsFrom wl.heap.size W ((W2.setCell ⟨g7, 0, none⟩ v1).setCell ⟨g8, 0, none⟩ (.int .i64 ((pre.length + 1 : Nat) : Int))) ∧ KeepsBox Bn W ((W2.setCell ⟨g7, 0, none⟩ v1).setCell ⟨g8, 0, none⟩ (.int .i64 ((pre.length + 1 : Nat) : Int))) ∧ NarI w0 wl g7 g8 t cs key a2 (pre ++ [x]) ((W2.setCell ⟨g7, 0, none⟩ v1).setCell ⟨g8, 0, none⟩ (.int .i64 ((pre.length + 1 : Nat) : Int))) := by
 have hgv : ∀ {g : Nat}, g < wl.heap.size → some g ≠ v.ownBlock := fun {g} hlt e => by have := hR.1 g e.symm; omega
 have h2 : ∀ k, k < W.heap.size → some k ≠ v.ownBlock → W2.heap[k]? = W.heap[k]? := fun k hlt hne => (hg.block k (by omega) hne).trans ((hsame k).resolve_right (by omega))
 have h4 : ∀ k, k ≠ g7 → k ≠ g8 → ((W2.setCell ⟨g7, 0, none⟩ v1).setCell ⟨g8, 0, none⟩ (.int .i64 ((pre.length + 1 : Nat) : Int))).heap[k]? = W2.heap[k]? := fun k e7 e8 => (Below.heap_setCell _ ⟨g8, 0, none⟩ _ k e8).trans (Below.heap_setCell W2 ⟨g7, 0, none⟩ _ k e7)
 have hwl := hk.1
 have c7 : W2.heap[g7]? = some (.cells (cs v) t (0, 0)) := (h2 g7 (by omega) (hgv h7)).trans hc
 have c8 : W2.heap[g8]? = some (.cells #[.int .i64 (pre.length : Int)] 3 (0, 0)) := (h2 g8 (by omega) (hgv h8)).trans hc8
 have hsz2 := hg.size
 refine narI_mk (v1 := v1) hR hc hc8 hk (by simp [World.setCell]; omega) (fun k hlt hne e7 e8 => (h4 k e7 e8).trans (h2 k hlt hne)) ?_ ?_ ?_ (below_set (below_set hB2 h7w) h8w) hBn hB7 hB8
 ·rw [← hl]
  exact Kd.R_far (Kd.R_far hR2 (fun k hk => by simp only []; omega) _) (fun k hk => by simp only []; omega) _
 ·refine (Below.heap_setCell _ ⟨g8, 0, none⟩ _ g7 hn).trans ?_
  have := blk_put c7 0 v1 (cs' := (cs v).setIfInBounds 0 v1) rfl
  rw [hcs] at this
  exact this
 ·exact blk_put (cs := #[.int .i64 (pre.length : Int)]) ((Below.heap_setCell W2 ⟨g7, 0, none⟩ _ g8 (fun e => hn e.symm)).trans c8) 0 _ rfl
def cell_Narrow.f (l0_0 : List Int) (a0_1 : Int) (l0_2 l0_3 l0_4 : List Int) (a1 a2 : Int) : Option (List Int × Int × List Int × List Int × List Int) :=
 (cell_own.f l0_0 a0_1 l0_2 l0_3 l0_4).bind fun c => (slices_Clone_int_int.f (narK l0_0 a2 0 (dimsL a1))).bind fun k => some (k, c.2.1, c.2.2.1, c.2.2.2.1, c.2.2.2.2)
set_option maxHeartbeats 8000000 in
set_option maxRecDepth 100000 in
theorem cell_Narrow.calls (A0_0 : Option Addr) (c0_0 : Nat) (l0_0 : List Int) (a0_1 : Int) (A0_2 : Option Addr) (c0_2 : Nat) (l0_2 : List Int) (A0_3 : Option Addr) (c0_3 : Nat) (l0_3 : List Int) (A0_4 : Option Addr) (c0_4 : Nat) (l0_4 : List Int) (a1 a2 : Int) (r1 : List Int) (r2 : Int) (r3 : List Int) (r4 : List Int) (r5 : List Int) (w : World) (hr0_0 : Kd.C (Kd.int .i64) w A0_0 l0_0.length l0_0) (hc0_0 : l0_0.length ≤ c0_0) (hr0_2 : Kd.C (Kd.int .i64) w A0_2 l0_2.length l0_2) (hc0_2 : l0_2.length ≤ c0_2) (hr0_3 : Kd.C (Kd.int .i64) w A0_3 l0_3.length l0_3) (hc0_3 : l0_3.length ≤ c0_3) (hr0_4 : Kd.C (Kd.int .i64) w A0_4 l0_4.length l0_4) (hc0_4 : l0_4.length ≤ c0_4) (h : cell_Narrow.f l0_0 a0_1 l0_2 l0_3 l0_4 a1 a2 = some (r1, r2, r3, r4, r5)) :
  Calls Try.prog 31 #[.agg #[.slice A0_0 l0_0.length c0_0, .int .i64 a0_1, .slice A0_2 l0_2.length c0_2, .slice A0_3 l0_3.length c0_3, .slice A0_4 l0_4.length c0_4], .int .i64 a1, .int .i64 a2] w fun e w' => ∃ v0_ v2_ v3_ v4_ : Value, e = .returned (.agg #[v0_, .int .i64 r2, v2_, v3_, v4_]) ∧ Kd.R (Kd.int .i64) 3 w' w.heap.size (fun k_ => some k_ ≠ (v2_ : Value).ownBlock ∧ some k_ ≠ (v3_ : Value).ownBlock ∧ some k_ ≠ (v4_ : Value).ownBlock) v0_ r1 ∧ Kd.R (Kd.int .i64) 3 w' w.heap.size (fun k_ => some k_ ≠ (v0_ : Value).ownBlock ∧ some k_ ≠ (v3_ : Value).ownBlock ∧ some k_ ≠ (v4_ : Value).ownBlock) v2_ r3 ∧ Kd.R (Kd.int .i64) 3 w' w.heap.size (fun k_ => some k_ ≠ (v0_ : Value).ownBlock ∧ some k_ ≠ (v2_ : Value).ownBlock ∧ some k_ ≠ (v4_ : Value).ownBlock) v3_ r4 ∧ Kd.R (Kd.int .i64) 3 w' w.heap.size (fun k_ => some k_ ≠ (v0_ : Value).ownBlock ∧ some k_ ≠ (v2_ : Value).ownBlock ∧ some k_ ≠ (v3_ : Value).ownBlock) v4_ r5 ∧ Below w.heap.size w w' := by
 have hu30 := Try.underlying30
 unfold cell_Narrow.f at h
 obtain ⟨⟨o1, o2, o3, o4, o5⟩, hown, h⟩ := Option.bind_eq_some_iff.1 h
 obtain ⟨kk, hkk, h⟩ := Option.bind_eq_some_iff.1 h
 dsimp only at h
 have HOW := am hown
 have HKK := am hkk
 have HE := am (Option.some.inj h)
 have K0 := am (And.intro hr0_0 hc0_0)
 have K2 := am (And.intro hr0_2 hc0_2)
 have K3 := am (And.intro hr0_3 hc0_3)
 have K4 := am (And.intro hr0_4 hc0_4)
 clear h hown hkk hr0_0 hc0_0 hr0_2 hc0_2 hr0_3 hc0_3 hr0_4 hc0_4
 refine calls_marks Try.func31 rfl ?_
 simp only [Try.ntmps31, List.size_toArray, List.length_cons, List.length_nil, Nat.reduceAdd, Nat.reduceSub, Array.replicate_succ, Array.replicate_zero, List.push_toArray, List.append_toArray, List.nil_append, List.cons_append]
 go_wp2_with (first
 | ((with_reducible refine gate_dst (N := 3) rfl ?_); (try (refine gate_guard (by rfl) ?_; dsimp only)); refine box_event ?hg (N := 3) ?hd (cs := #[.slice A0_0 l0_0.length c0_0, .int .i64 a0_1, .slice A0_2 l0_2.length c0_2, .slice A0_3 l0_3.length c0_3, .slice A0_4 l0_4.length c0_4]) (t := 30) ?hr ?_; (case hd => rfl); (case hg => rfl); (case hr => first | (go_simp; done) | (go_simp; rfl)); intro g3 hg w3 hbox hbw; have HB3 := am hbw; have HK3 := am hbox; have HG3 := am hg; clear hg hbox hbw)
 | ((with_reducible refine gate_dst (N := 5) rfl ?_); (try (refine gate_guard (by rfl) ?_; dsimp only)); refine box_event ?hg (N := 5) ?hd (cs := #[.int .i64 a2]) (t := 3) ?hr ?_; (case hd => rfl); (case hg => rfl); (case hr => first | (go_simp; done) | (go_simp; rfl)); intro g5 hg w5 hbox hbw; have HB5 := am (below_step HB3.out hbw); have HK35 := am (blk_below HK3.out hbw); have HK5 := am hbox; have HG5 := am hg; clear hg hbox hbw)
 | ((with_reducible refine gate_dst (N := 6) rfl ?_); (try (refine gate_guard (by rfl) ?_; dsimp only)); refine box_event ?hg (N := 6) ?hd (cs := #[.slice none 0 0, .int .i64 0, .slice none 0 0, .slice none 0 0, .slice none 0 0]) (t := 30) ?hr ?_; (case hd => rfl); (case hg => rfl); (case hr => first | (go_simp; done) | (go_simp; rfl)); intro g6 hg w6 hbox hbw; have HB6 := am (below_step HB5.out hbw); have HK36 := am (blk_below HK35.out hbw); have HK56 := am (blk_below HK5.out hbw); have HK6 := am hbox; have HG6 := am hg; have q30 : w6.cell? ⟨g3, 0, none⟩ = some (.slice A0_0 l0_0.length c0_0) := (blk_cell HK36.out 0).trans rfl; have q31 : w6.cell? ⟨g3, 1, none⟩ = some (.int .i64 a0_1) := (blk_cell HK36.out 1).trans rfl; have q32 : w6.cell? ⟨g3, 2, none⟩ = some (.slice A0_2 l0_2.length c0_2) := (blk_cell HK36.out 2).trans rfl; have q33 : w6.cell? ⟨g3, 3, none⟩ = some (.slice A0_3 l0_3.length c0_3) := (blk_cell HK36.out 3).trans rfl; have q34 : w6.cell? ⟨g3, 4, none⟩ = some (.slice A0_4 l0_4.length c0_4) := (blk_cell HK36.out 4).trans rfl; clear hg hbox hbw))
 refine (cell_own.calls A0_0 c0_0 l0_0 a0_1 A0_2 c0_2 l0_2 A0_3 c0_3 l0_3 A0_4 c0_4 l0_4 o1 o2 o3 o4 o5 w6 (Kd.C_below K0.out.1 HB6.out) K0.out.2 (Kd.C_below K2.out.1 HB6.out) K2.out.2 (Kd.C_below K3.out.1 HB6.out) K3.out.2 (Kd.C_below K4.out.1 HB6.out) K4.out.2 HOW.out).mono ?_
 rintro e w7 ⟨v0, v2, v3, v4, rfl, p0, p2, p3, p4, hb7⟩
 obtain ⟨B0, b0, rfl⟩ := Kd.R_slice p0
 obtain ⟨B2, b2, rfl⟩ := Kd.R_slice p2
 obtain ⟨B3, b3, rfl⟩ := Kd.R_slice p3
 obtain ⟨B4, b4, rfl⟩ := Kd.R_slice p4
 have P2 := am (Kd.R_mono (Kd.R_lower (Kd.R_bound p2) HB6.out.size) (ok' := fun k => _ ∧ k < w7.heap.size) (fun k hk => ⟨hk.1, hk.2.2.1⟩))
 have P3 := am (Kd.R_mono (Kd.R_lower (Kd.R_bound p3) HB6.out.size) (ok' := fun k => _ ∧ k < w7.heap.size) (fun k hk => ⟨hk.1, hk.2.2.1⟩))
 have P4 := am (Kd.R_mono (Kd.R_lower (Kd.R_bound p4) HB6.out.size) (ok' := fun k => _ ∧ k < w7.heap.size) (fun k hk => ⟨hk.1, hk.2.2.1⟩))
 have HB7 := am (below_step HB6.out hb7)
 have hb67 := am hb7.size
 have HK37 := am (blk_below HK36.out hb7)
 have HK57 := am (blk_below HK56.out hb7)
 have HK67 := am (blk_below HK6.out hb7)
 clear p0 p2 p3 p4 hb7 HK36 HK35 HK56 HK3 HK5 HK6 q30 q31 q32 q33 q34
 dsimp only
 go_wp2_with (first
 | ((with_reducible refine gate_dst (N := 7) rfl ?_); (try (refine gate_guard (by rfl) ?_; dsimp only)); refine box_event ?hg (N := 7) ?hd (cs := #[.slice none 0 0, .int .i64 0, .slice none 0 0, .slice none 0 0, .slice none 0 0]) (t := 30) ?hr ?_; (case hd => rfl); (case hg => rfl); (case hr => first | (go_simp; done) | (go_simp; rfl)); intro g7 hg w8 hbox hbw; have HB8 := am hbw; have HK7 := am hbox; have HG7 := am hg; have z70 : w8.cell? ⟨g7, 0, none⟩ = some (.slice none 0 0) := (blk_cell hbox 0).trans rfl; have zf0 := blk_frozen hbox 0; have z71 : w8.cell? ⟨g7, 1, none⟩ = some (.int .i64 0) := (blk_cell hbox 1).trans rfl; have zf1 := blk_frozen hbox 1; have z72 : w8.cell? ⟨g7, 2, none⟩ = some (.slice none 0 0) := (blk_cell hbox 2).trans rfl; have zf2 := blk_frozen hbox 2; have z73 : w8.cell? ⟨g7, 3, none⟩ = some (.slice none 0 0) := (blk_cell hbox 3).trans rfl; have zf3 := blk_frozen hbox 3; have z74 : w8.cell? ⟨g7, 4, none⟩ = some (.slice none 0 0) := (blk_cell hbox 4).trans rfl; have zf4 := blk_frozen hbox 4; clear hg hbox hbw)
 | ((with_reducible refine gate_dst (N := 8) rfl ?_); (try (refine gate_guard (by rfl) ?_; dsimp only)); refine box_event ?hg (N := 8) ?hd (cs := #[.int .i64 0]) (t := 3) ?hr ?_; (case hd => rfl); (case hg => rfl); (case hr => first | (go_simp; done) | (go_simp; rfl)); intro g8 hg w9 hbox hbw; have HB9 := am (below_step (below_set (below_set (below_set (below_set (below_set (below_set HB8.out (Nat.le_of_eq HG7.out.symm)) (Nat.le_of_eq HG7.out.symm)) (Nat.le_of_eq HG7.out.symm)) (Nat.le_of_eq HG7.out.symm)) (Nat.le_of_eq HG7.out.symm)) (Nat.le_of_eq HG7.out.symm)) hbw); have HK79 := am (blk_below (blk_put (cs := #[.slice B0 o1.length b0, .int .i64 o2, .slice B2 o3.length b2, .slice B3 o4.length b3, .slice B4 o5.length b4]) (cs' := #[.slice none 0 0, .int .i64 o2, .slice B2 o3.length b2, .slice B3 o4.length b3, .slice B4 o5.length b4]) (blk_put (cs := #[.slice B0 o1.length b0, .int .i64 o2, .slice B2 o3.length b2, .slice B3 o4.length b3, .slice none 0 0]) (cs' := #[.slice B0 o1.length b0, .int .i64 o2, .slice B2 o3.length b2, .slice B3 o4.length b3, .slice B4 o5.length b4]) (blk_put (cs := #[.slice B0 o1.length b0, .int .i64 o2, .slice B2 o3.length b2, .slice none 0 0, .slice none 0 0]) (cs' := #[.slice B0 o1.length b0, .int .i64 o2, .slice B2 o3.length b2, .slice B3 o4.length b3, .slice none 0 0]) (blk_put (cs := #[.slice B0 o1.length b0, .int .i64 o2, .slice none 0 0, .slice none 0 0, .slice none 0 0]) (cs' := #[.slice B0 o1.length b0, .int .i64 o2, .slice B2 o3.length b2, .slice none 0 0, .slice none 0 0]) (blk_put (cs := #[.slice B0 o1.length b0, .int .i64 0, .slice none 0 0, .slice none 0 0, .slice none 0 0]) (cs' := #[.slice B0 o1.length b0, .int .i64 o2, .slice none 0 0, .slice none 0 0, .slice none 0 0]) (blk_put (cs := #[.slice none 0 0, .int .i64 0, .slice none 0 0, .slice none 0 0, .slice none 0 0]) (cs' := #[.slice B0 o1.length b0, .int .i64 0, .slice none 0 0, .slice none 0 0, .slice none 0 0]) HK7.out 0 (.slice B0 o1.length b0) rfl) 1 (.int .i64 o2) rfl) 2 (.slice B2 o3.length b2) rfl) 3 (.slice B3 o4.length b3) rfl) 4 (.slice B4 o5.length b4) rfl) 0 (.slice none 0 0) rfl) hbw); have HK8 := am hbox; have HG8 := am (show w7.heap.size ≤ g8 by rw [hg]; exact ((below_set (below_set (below_set (below_set (below_set (below_set HB8.out (Nat.le_of_eq HG7.out.symm)) (Nat.le_of_eq HG7.out.symm)) (Nat.le_of_eq HG7.out.symm)) (Nat.le_of_eq HG7.out.symm)) (Nat.le_of_eq HG7.out.symm)) (Nat.le_of_eq HG7.out.symm))).size); clear z70 zf0 z71 zf1 z72 zf2 z73 zf3 z74 zf4; have z80 : w9.cell? ⟨g8, 0, none⟩ = some (.int .i64 0) := (blk_cell hbox 0).trans rfl; have zf8 := blk_frozen hbox 0; clear hg hbox hbw))
 refine name_world ?_
 intro wn hwn
 have hbn : Below w7.heap.size w7 wn := by rw [hwn]; exact below_set HB9.out (by have := HG8.out; have := HB9.out.size; omega)
 have hk8 : wn.heap[g8]? = some (.cells #[.int .i64 0] 3 (0, 0)) := by rw [hwn]; exact blk_put HK8.out 0 _ rfl
 have hk7 : wn.heap[g7]? = some (.cells #[.slice none 0 0, .int .i64 o2, .slice B2 o3.length b2, .slice B3 o4.length b3, .slice B4 o5.length b4] 30 (0, 0)) := by rw [hwn, Below.heap_setCell _ _ _ _ (by have := HG8.out; have := blk_lt HK79.out; intro e; subst e; exact absurd HK8.out (by rw [HK79.out]; simp))]; exact HK79.out
 clear hwn
 refine ((callsIn_wide (n := 3)).1 (dims_in Fence.wide 3 trivial rfl a1 _)).mono ?_
 rintro e W1 ⟨rfl, rfl⟩
 go_wp2_with (fail)
 obtain ⟨wl, hwl⟩ : ∃ wl, wl = wn.alloc (.cells #[.int .i64 a1] 3) := ⟨_, rfl⟩
 have hcl : wl.cell? ⟨wn.heap.size, 0, none⟩ = some (.int .i64 a1) := by rw [hwl]; simp
 have hsl : wl.heap.size = wn.heap.size + 1 := by rw [hwl]; simp
 have hBl : Below wn.heap.size wn wl := by rw [hwl]; exact below_alloc (Below.refl _ _) _
 rw [← hwl]
 have hsz := And.intro hbn.size (And.intro (blk_lt hk7) (blk_lt hk8))
 have HBn := am (below_step HB7.out hbn)
 have HK3n := am (blk_below HK37.out hbn)
 have HK5n := am (blk_below HK57.out hbn)
 have HK6n := am (blk_below HK67.out hbn)
 have HK7n := am hk7
 have HK8n := am hk8
 have P2n := am (Kd.R_types (Kd.R_below P2.out hbn) HK6n.out (by decide))
 have P3n := am (Kd.R_types (Kd.R_below P3.out hbn) HK6n.out (by decide))
 have P4n := am (Kd.R_types (Kd.R_below P4.out hbn) HK6n.out (by decide))
 have n35 := am (show g3 < w7.heap.size ∧ g5 < w7.heap.size ∧ g6 < w7.heap.size from ⟨blk_lt HK37.out, blk_lt HK57.out, blk_lt HK67.out⟩)
 have n78 := am (show g7 ≠ g8 ∧ w7.heap.size ≤ g7 ∧ w7.heap.size ≤ g8 from ⟨fun e => by have h1 := HK7n.out; rw [e, HK8n.out] at h1; simp at h1, by rw [HG7.out]; omega, HG8.out⟩)
 have HSZ := am hsz
 have HBL := am hBl
 clear hbn hk7 hk8 hsz HB7 HK37 HK57 HK67 P2 P3 P4 HB8 HB9 HK7 HK8 HK79 z80 zf8
 refine (wpIn_wide (n := 6)).1 ?_
 refine wpIn_rangeFunc_ownH rfl (by omega) (gf := 66) (lb := #[.pointer (some ⟨wn.heap.size, 0, none⟩)]) rfl trivial (enters_of Try.func66 (by kernel_rfl) rfl)
  (dims_stops Fence.wide 5 trivial rfl (by omega) wn.heap.size a1 wl (by omega) hcl) keepsBox_t keepsBox_b (Below.refl _ _) (fun _ => rfl)
  (NarI w wl g7 g8 30 (fun v => #[v, .int .i64 o2, .slice B2 o3.length b2, .slice B3 o4.length b3, .slice B4 o5.length b4]) l0_0 a2) (fun _ _ _ => False) (narI_own (by have := HBn.out.size; omega)) (fun _ _ _ _ _ h => h.elim) ?init
  (fun x a' W => a' = { tmps := #[.agg #[.slice A0_0 l0_0.length c0_0, .int .i64 a0_1, .slice A0_2 l0_2.length c0_2, .slice A0_3 l0_3.length c0_3, .slice A0_4 l0_4.length c0_4], .int .i64 a1, .int .i64 a2, .pointer (some ⟨g3, 0, none⟩), undef, .pointer (some ⟨g5, 0, none⟩), .pointer (some ⟨g6, 0, none⟩), .pointer (some ⟨g7, 0, none⟩), .pointer (some ⟨g8, 0, none⟩), .int .i64 (x : Int), .agg #[.slice A0_0 l0_0.length c0_0, .int .i64 a0_1, .slice A0_2 l0_2.length c0_2, .slice A0_3 l0_3.length c0_3, .slice A0_4 l0_4.length c0_4], .agg #[.slice B0 o1.length b0, .int .i64 o2, .slice B2 o3.length b2, .slice B3 o4.length b3, .slice B4 o5.length b4], .pointer (some ⟨g7, 0, none⟩), .int .i64 a1, .func (.func 66) #[] #[.pointer (some ⟨wn.heap.size, 0, none⟩)], .int .i64 (x : Int), undef, undef, undef, undef, undef, undef, undef, undef, undef, undef, undef, undef, undef, undef, undef, undef, undef, undef, undef, undef, undef, undef, undef, undef, undef, undef, undef, undef, undef], defers := [] }) (fun _ _ _ _ _ _ h _ _ => h) ?assign ?body ?done ?stop
 case init => exact ⟨.slice none 0 0, Kd.R_nil _ _ _ _ _, blk_below HK7n.out hBl, blk_below HK8n.out hBl, Kept.refl _ _, below_step HBn.out hBl⟩
 case assign =>
  rintro l pre x W K hi hK
  gi_wp2
  exact hK _ _ (KeepsFrom.refl _ _) (fun _ h => h) hi rfl
 case stop => exact fun _ _ _ _ _ _ h _ => h.elim
 case body =>
  rintro l pre x a' W hl hr ⟨v, hR, hc, hc8, hk, hB0⟩ rfl hpre
  have b3' : W.heap[g3]? = _ := (hk.2 g3 (by have := n35.out; have := HSZ.out; omega) (by have := n35.out; have := n78.out; omega)).trans (blk_below HK3n.out HBL.out)
  have b5' : W.heap[g5]? = _ := (hk.2 g5 (by have := n35.out; have := HSZ.out; omega) (by have := n35.out; have := n78.out; omega)).trans (blk_below HK5n.out HBL.out)
  have q30 : W.cell? ⟨g3, 0, none⟩ = some (.slice A0_0 l0_0.length c0_0) := (blk_cell b3' 0).trans rfl
  have q50 : W.cell? ⟨g5, 0, none⟩ = some (.int .i64 a2) := (blk_cell b5' 0).trans rfl
  have q80 : W.cell? ⟨g8, 0, none⟩ = some (.int .i64 (pre.length : Int)) := (blk_cell hc8 0).trans rfl
  have f80 := blk_frozen hc8 0
  have hx0 : (0 : Int) ≤ (x : Int) := by omega
  have hw1 : wrap64 ((pre.length : Int) + 1) = ((pre.length + 1 : Nat) : Int) := by unfold wrap64; omega
  have HX := am (And.intro hR (And.intro hc (And.intro hc8 (And.intro hk hB0))))
  have HP := am hpre
  clear hR hc hc8 hk hB0 hpre b3' b5' hwl
  have h35 := am (show wn.heap.size < wl.heap.size ∧ wn.heap.size ≠ g7 ∧ wn.heap.size ≠ g8 ∧ g7 < wl.heap.size ∧ g8 < wl.heap.size ∧ w.heap.size ≤ g7 ∧ w.heap.size ≤ g8 from by have := HSZ.out; have := n78.out; have := HBn.out.size; have := HB6.out.size; have := hb67.out; omega)
  have hsn := narK_snoc l0_0 a2 x pre 0
  rw [Nat.zero_add] at hsn
  have HSN := am hsn
  clear hsn
  gi_wp2
  ·have hb : bitN a2 x = true := by unfold bitN; exact decide_eq_true (by assumption)
   have hlt : pre.length < l0_0.length := by assumption
   have hs := HSN.out
   rw [if_pos ⟨hb, hlt⟩] at hs
   obtain ⟨adr, eadr, hw⟩ := Kd.at_int K0.out.1 (pre.length : Int) (by omega) (by omega)
   subst eadr
   obtain ⟨hR, hc, hc8, hk, hB0⟩ := HX.out
   obtain ⟨xs, hxs⟩ : ∃ xs : List Int, xs = narK l0_0 a2 0 pre := ⟨_, rfl⟩
   have hlen : xs.length < 4 := by rw [hxs]; exact Nat.lt_of_le_of_lt (narK_length l0_0 a2 pre 0) HP.out
   have HL := am hlen
   have HSQ := am (show xs ++ [rd l0_0 (pre.length : Int)] = narK l0_0 a2 0 (pre ++ [x]) by rw [hxs]; exact hs.symm)
   have b3' : W.heap[g3]? = _ := (hk.2 g3 (by have := n35.out; have := HSZ.out; omega) (by have := n35.out; have := n78.out; omega)).trans (blk_below HK3n.out HBL.out)
   have HOv := am (show Kd.R (Kd.int .i64) 3 W w.heap.size (fun k => wl.heap.size ≤ k) v xs by rw [hxs]; exact hR)
   have BK7 := am hc
   have BK8 := am hc8
   have BK3 := am b3'
   have HB := am hB0
   have HKv := am hk
   have HWA := am hw
   have j0 : ((0 : Int) ≤ (pre.length : Int)) = True := eq_true (by omega)
   have j1 : ((pre.length : Int) < (l0_0.length : Int)) = True := eq_true (by omega)
   have j2 : (pre.length < l0_0.length) = True := eq_true hlt
   clear hR hc hc8 hk hB0 b3' hs hxs hlen hb hlt hw q30 q50 q80 f80
   refine start_round (n := 11) (S := fun w' => w'.cell? ⟨g7, 0, none⟩ = some v ∧ w'.cell? ⟨g3, 0, none⟩ = some (.slice (some adr) l0_0.length c0_0) ∧ w'.cell? ⟨g8, 0, none⟩ = some (.int .i64 (pre.length : Int)) ∧ w'.cell? (adr.add pre.length) = some (.int .i64 (rd l0_0 (pre.length : Int)))) (ds := [10]) (bb 11 0) (by kernel_rfl) (by kernel_rfl) (by rintro ⟨a, w, h⟩; exact h) rfl rfl ⟨(blk_cell BK7.out 0).trans rfl, (blk_cell BK3.out 0).trans rfl, (blk_cell BK8.out 0).trans rfl, (HB.out.cell (World.block_lt_of_cell? w _ HWA.out)).trans HWA.out⟩ (fun hHeld => ?_)
   refine with_tabW nar.tab7 nar.bits7 (fun HT_ HW_ => ?_)
   have n0_ := am (Kd.R_drew HOv.out)
   have n1_ := am (blk_drew BK7.out)
   have n2_ := am (blk_drew BK8.out)
   have n3_ := am (blk_drew BK3.out)
   have n4_ := am (below_drew1 HB.out)
   have n5_ : Aside0 (W.drew.heap.size = W.heap.size ∧ ∀ k : Nat, W.drew.heap[k]? = W.heap[k]?) := am ⟨rfl, fun _ => rfl⟩
   clear HOv BK7 BK8 BK3 HB
   have HOv := n0_
   have BK7 := n1_
   have BK8 := n2_
   have BK3 := n3_
   have HB := n4_
   have HF5 := n5_
   clear n0_ n1_ n2_ n3_ n4_ n5_
   generalize W.drew = w19 at HOv BK7 BK8 BK3 HB HF5 hHeld ⊢
   refine pu (i := 0) (N := some 28) (bb 11 1) HT_ ?_
   refine pu (i := 2) (N := some 30) (bb 11 5) HT_ ?_
   refine tk (i := 1) (N := some 29) (bb 11 7) HT_ HW_ hHeld ?_
   refine tk (i := 3) (N := some 31) (bb 11 15) HT_ HW_ hHeld ?_
   refine tk (i := 4) (N := some 32) (bb 11 31) HT_ HW_ hHeld ?_
   refine pu (i := 5) (N := some 33) (bb 11 63) HT_ ?_
   refine tk (i := 6) (N := some 34) (bb 11 127) HT_ HW_ hHeld ?_
   refine one_ (i := 7) (N := some 35) (bb 11 255) rfl rfl (one_of HT_.out (by kernel_rfl)) (by decide) (fun K hK => ?_)
   refine value_ (w1 := ?_) (v := ?_) (by rfl) rfl ?_ ?_
   rotate_left 2
   ·go_simp
    constructor
    ·rfl
    ·rfl
   refine hK.out _ _ ⟨(blk_cell (blk_alloc BK7.out _) 0).trans rfl, (blk_cell (blk_alloc BK3.out _) 0).trans rfl, (blk_cell (blk_alloc BK8.out _) 0).trans rfl, (World.cell?_alloc_lt _ _ _ (World.block_lt_of_cell? _ _ ((HB.out.cell (World.block_lt_of_cell? w _ HWA.out)).trans HWA.out))).trans ((HB.out.cell (World.block_lt_of_cell? w _ HWA.out)).trans HWA.out)⟩ (fun hHeld => ?_)
   clear hK K
   refine nm ?_
   refine one_ (i := 8) (N := some 36) (bb 11 511) rfl rfl (one_of HT_.out (by kernel_rfl)) (by decide) (fun K hK => ?_)
   refine Kd.R_append_step (Kd.int .i64) (w0 := w) w.heap.size (by rfl) (.tmp 29) (.tmp 35) 22 3 (.int .i64 0) 8 rfl Try.underlying22 info3 rfl (by decide) (by omega) v xs (rd l0_0 (pre.length : Int)) [.int .i64 (rd l0_0 (pre.length : Int))] (fun k => wl.heap.size ≤ k) (fun _ => False) rfl rfl ?aP (fun _ hk => hk.elim) ?aF ?aO ?aB ?aS ?aL ?_
   case aP => exact rfl
   case aB => exact HB.out
   case aF => exact (fun k hk => by have := HKv.out.1; have := HF5.out.1; omega)
   case aO => exact HOv.out
   case aS => exact below_size HB.out
   case aL => have := HL.out; omega
   intro v241 w20 ho hb hg hat
   obtain ⟨ys, hys⟩ : ∃ ys : List Int, ys = xs ++ [rd l0_0 (pre.length : Int)] := ⟨_, rfl⟩
   rw [← hys] at ho
   obtain ⟨Ao22, co22, eo22⟩ := Kd.R_slice ho
   subst eo22
   have hkeep := narI_step (x := x) (Bn := wn.heap.size) (cs := fun v => #[v, .int .i64 o2, .slice B2 o3.length b2, .slice B3 o4.length b3, .slice B4 o5.length b4]) HX.out.1 HX.out.2.1 HX.out.2.2.1 HX.out.2.2.2.1 (by have := HF5.out.1; omega) (fun k => by
    by_cases hkk : k < w19.heap.size
    ·exact .inl (HF5.out.2 k)
    ·exact .inr (by have := HF5.out.1; omega)) hg ho hb (hys.trans HSQ.out) n78.out.1 (by decide) h35.out.2.2.2.1 h35.out.2.2.2.2.2.1 h35.out.2.2.2.2.1 h35.out.2.2.2.2.2.2 h35.out.1 h35.out.2.1 h35.out.2.2.1 rfl
   have HKeep := am hkeep
   clear hkeep
   have BK37 := am (blk_grown BK3.out hg (Kd.R_ne HOv.out BK3.out (by decide)))
   have BK77 := am (blk_grown BK7.out hg (Kd.R_ne HOv.out BK7.out (by decide)))
   have BK87 := am (blk_grown BK8.out hg (fun e => by have := (Kd.R_mono HOv.out (fun _ h => h)).1 g8 e.symm; have := h35.out; omega))
   have HB2 := am hb
   clear ho hb hg hat hys
   refine hK.out _ _ ⟨(blk_cell BK77.out 0).trans rfl, (blk_cell BK37.out 0).trans rfl, (blk_cell BK87.out 0).trans rfl, ((HB2.out.cell (World.block_lt_of_cell? w _ HWA.out)).trans HWA.out)⟩ (fun hHeld => ?_)
   clear hK K
   refine nm ?_
   refine pu (i := 9) (N := some 37) (bb 11 1023) HT_ ?_
   refine last_ (i := 10) (N := none) (bb 11 2047) rfl rfl (one_of HT_.out (by kernel_rfl)) (by decide) (fun K hK => ?_)
   have hs22 : w20.cell? ⟨g7, 0, none⟩ = some (v) := (blk_cell BK77.out 0).trans rfl
   have hfs22 := blk_frozen BK77.out 0
   refine skip_ (w1 := ?_) (by rfl) rfl ?_ ?_
   rotate_left
   ·go_simp
    rfl
   refine hK.out _ _ ?_
   clear hK K hs22 hfs22
   refine done_ (done_of HT_.out (by kernel_rfl)) ?_
   have q8 : (w20.setCell ⟨g7, 0, none⟩ (.slice Ao22 ys.length co22)).cell? ⟨g8, 0, none⟩ = some (.int .i64 (pre.length : Int)) := (blk_cell ((Below.heap_setCell w20 ⟨g7, 0, none⟩ _ g8 (fun e => n78.out.1 e.symm)).trans BK87.out) 0).trans rfl
   have q8f : (w20.setCell ⟨g7, 0, none⟩ (.slice Ao22 ys.length co22)).frozen? ⟨g8, 0, none⟩ = false := blk_frozen ((Below.heap_setCell w20 ⟨g7, 0, none⟩ _ g8 (fun e => n78.out.1 e.symm)).trans BK87.out) 0
   gi_wp2
   have hI := HKeep.out
   rw [show ((pre.length + 1 : Nat) : Int) = (pre.length : Int) + 1 from by omega] at hI
   exact hI
  ·have hb : bitN a2 x = true := by unfold bitN; exact decide_eq_true (by assumption)
   have hs := HSN.out
   rw [if_neg (fun h => by rename_i h1; exact h1 h.2), List.append_nil] at hs
   have hI := narI_skip (Bn := wn.heap.size) (cs := fun v => #[v, .int .i64 o2, .slice B2 o3.length b2, .slice B3 o4.length b3, .slice B4 o5.length b4]) HX.out.1 HX.out.2.1 HX.out.2.2.1 HX.out.2.2.2.1 HX.out.2.2.2.2 hs.symm n78.out.1 h35.out.2.2.2.2.1 h35.out.2.2.2.2.2.2 h35.out.1 h35.out.2.1 h35.out.2.2.1
   rw [show ((pre.length + 1 : Nat) : Int) = (pre.length : Int) + 1 from by omega, hsl] at hI
   exact hI
  ·have hs := HSN.out
   rw [if_neg (fun h => by rename_i h1; exact h1 (of_decide_eq_true h.1)), List.append_nil] at hs
   have hI := narI_skip (Bn := wn.heap.size) (cs := fun v => #[v, .int .i64 o2, .slice B2 o3.length b2, .slice B3 o4.length b3, .slice B4 o5.length b4]) HX.out.1 HX.out.2.1 HX.out.2.2.1 HX.out.2.2.2.1 HX.out.2.2.2.2 hs.symm n78.out.1 h35.out.2.2.2.2.1 h35.out.2.2.2.2.2.2 h35.out.1 h35.out.2.1 h35.out.2.2.1
   rw [show ((pre.length + 1 : Nat) : Int) = (pre.length : Int) + 1 from by omega, hsl] at hI
   exact hI
 case done =>
  rintro D ys W hD rfl ⟨v, hR, hc, hc8, hk, hB0⟩ hK
  obtain ⟨A9, c9, rfl⟩ := Kd.R_slice hR
  obtain ⟨_, hl9, hC9⟩ := Kd.R_reads' hR
  have hlow : ∀ k, k < w7.heap.size → W.heap[k]? = wn.heap[k]? := fun k hlt => (hk.2 k (by have := HSZ.out; omega) (by have := n78.out; omega)).trans (HBL.out.block k (by have := HSZ.out; omega))
  have b6 : W.heap[g6]? = _ := (hlow g6 n35.out.2.2).trans HK6n.out
  have hDs := blk_lt hK
  have h7s := blk_lt hc
  have hz := am (show w7.heap.size ≤ W.heap.size ∧ g7 < W.heap.size ∧ D < W.heap.size ∧ w7.heap.size ≤ D ∧ g7 ≠ D ∧ w.heap.size ≤ D ∧ w.heap.size ≤ g6 ∧ w.heap.size ≤ g7 from by have := HSZ.out; have := hk.1; have := n35.out; have := HB6.out.size; have := hb67.out; have := n78.out; have := HG6.out; have := HB5.out.size; omega)
  have B7 := am hc
  have B6 := am b6
  have HC9 := am (And.intro hC9 hl9)
  have LOW := am hlow
  have HB0 := am hB0
  have HKD := am hK
  have q70 : W.cell? ⟨g7, 0, none⟩ = some (.slice A9 (narK l0_0 a2 0 (dimsL a1)).length c9) := (blk_cell hc 0).trans rfl
  clear hR hc hc8 hk hB0 hK b6 hDs h7s hlow hC9 hl9 hsl hcl hwl hBl
  go_wp2_with (fail)
  refine (slices_Clone_int_int.calls A9 c9 _ kk W HC9.out.1 HC9.out.2 HKK.out).mono ?_
  rintro e w2 ⟨v0, rfl, hR2, hb2⟩
  obtain ⟨A10, c10, rfl⟩ := Kd.R_slice hR2
  have B72 := am (blk_below B7.out hb2)
  have B62 := am (blk_below B6.out hb2)
  have HKD2 := am (blk_below HKD.out hb2)
  have HBB := am hb2
  have HRR := am hR2
  clear hb2 hR2 q70
  have z70 : w2.cell? ⟨g7, 0, none⟩ = some (.slice A9 (narK l0_0 a2 0 (dimsL a1)).length c9) := (blk_cell B72.out 0).trans rfl
  have zf70 := blk_frozen B72.out 0
  have z60 : w2.cell? ⟨g6, 0, none⟩ = some (.slice none 0 0) := (blk_cell B62.out 0).trans rfl
  have zf60 := blk_frozen B62.out 0
  have z71 : w2.cell? ⟨g7, 1, none⟩ = some (.int .i64 o2) := (blk_cell B72.out 1).trans rfl
  have zf71 := blk_frozen B72.out 1
  have z61 : w2.cell? ⟨g6, 1, none⟩ = some (.int .i64 0) := (blk_cell B62.out 1).trans rfl
  have zf61 := blk_frozen B62.out 1
  have z72 : w2.cell? ⟨g7, 2, none⟩ = some (.slice B2 o3.length b2) := (blk_cell B72.out 2).trans rfl
  have zf72 := blk_frozen B72.out 2
  have z62 : w2.cell? ⟨g6, 2, none⟩ = some (.slice none 0 0) := (blk_cell B62.out 2).trans rfl
  have zf62 := blk_frozen B62.out 2
  have z73 : w2.cell? ⟨g7, 3, none⟩ = some (.slice B3 o4.length b3) := (blk_cell B72.out 3).trans rfl
  have zf73 := blk_frozen B72.out 3
  have z63 : w2.cell? ⟨g6, 3, none⟩ = some (.slice none 0 0) := (blk_cell B62.out 3).trans rfl
  have zf63 := blk_frozen B62.out 3
  have z74 : w2.cell? ⟨g7, 4, none⟩ = some (.slice B4 o5.length b4) := (blk_cell B72.out 4).trans rfl
  have zf74 := blk_frozen B72.out 4
  have z64 : w2.cell? ⟨g6, 4, none⟩ = some (.slice none 0 0) := (blk_cell B62.out 4).trans rfl
  have zf64 := blk_frozen B62.out 4
  have hn67 : g6 ≠ g7 := by have := n35.out; have := n78.out; omega
  have hn76 : g7 ≠ g6 := fun e => hn67 e.symm
  dsimp only
  go_wp2_with (fail)
  obtain ⟨F, hF⟩ : ∃ F, F = (((((w2.setCell ⟨g7, 0, none⟩ (.slice A10 kk.length c10)).setCell ⟨g6, 0, none⟩ (.slice A10 kk.length c10)).setCell ⟨g6, 1, none⟩ (.int .i64 o2)).setCell ⟨g6, 2, none⟩ (.slice B2 o3.length b2)).setCell ⟨g6, 3, none⟩ (.slice B3 o4.length b3)).setCell ⟨g6, 4, none⟩ (.slice B4 o5.length b4) := ⟨_, rfl⟩
  rw [← hF]
  have hFo : ∀ k, k ≠ g7 → k ≠ g6 → F.heap[k]? = w2.heap[k]? := by
   intro k e7 e6
   rw [hF, Below.heap_setCell _ _ _ _ e6, Below.heap_setCell _ _ _ _ e6, Below.heap_setCell _ _ _ _ e6, Below.heap_setCell _ _ _ _ e6, Below.heap_setCell _ _ _ _ e6, Below.heap_setCell _ _ _ _ e7]
  have hF6 : F.heap[g6]? = some (.cells #[.slice A10 kk.length c10, .int .i64 o2, .slice B2 o3.length b2, .slice B3 o4.length b3, .slice B4 o5.length b4] 30 (0, 0)) := by rw [hF]; exact (blk_put (cs := #[.slice A10 kk.length c10, .int .i64 o2, .slice B2 o3.length b2, .slice B3 o4.length b3, .slice none 0 0]) (cs' := #[.slice A10 kk.length c10, .int .i64 o2, .slice B2 o3.length b2, .slice B3 o4.length b3, .slice B4 o5.length b4]) (blk_put (cs := #[.slice A10 kk.length c10, .int .i64 o2, .slice B2 o3.length b2, .slice none 0 0, .slice none 0 0]) (cs' := #[.slice A10 kk.length c10, .int .i64 o2, .slice B2 o3.length b2, .slice B3 o4.length b3, .slice none 0 0]) (blk_put (cs := #[.slice A10 kk.length c10, .int .i64 o2, .slice none 0 0, .slice none 0 0, .slice none 0 0]) (cs' := #[.slice A10 kk.length c10, .int .i64 o2, .slice B2 o3.length b2, .slice none 0 0, .slice none 0 0]) (blk_put (cs := #[.slice A10 kk.length c10, .int .i64 0, .slice none 0 0, .slice none 0 0, .slice none 0 0]) (cs' := #[.slice A10 kk.length c10, .int .i64 o2, .slice none 0 0, .slice none 0 0, .slice none 0 0]) (blk_put (cs := #[.slice none 0 0, .int .i64 0, .slice none 0 0, .slice none 0 0, .slice none 0 0]) (cs' := #[.slice A10 kk.length c10, .int .i64 0, .slice none 0 0, .slice none 0 0, .slice none 0 0]) ((Below.heap_setCell w2 ⟨g7, 0, none⟩ _ g6 hn67).trans B62.out) 0 (.slice A10 kk.length c10) rfl) 1 (.int .i64 o2) rfl) 2 (.slice B2 o3.length b2) rfl) 3 (.slice B3 o4.length b3) rfl) 4 (.slice B4 o5.length b4) rfl)
  have hFB : Below w.heap.size w F := by rw [hF]; exact (below_set (below_set (below_set (below_set (below_set (below_set (below_step HB0.out HBB.out) hz.out.2.2.2.2.2.2.2) hz.out.2.2.2.2.2.2.1) hz.out.2.2.2.2.2.2.1) hz.out.2.2.2.2.2.2.1) hz.out.2.2.2.2.2.2.1) hz.out.2.2.2.2.2.2.1)
  clear hF
  have hz' := hz.out
  have hD6 : D ≠ g6 := by have := n35.out; omega
  have hDf : F.heap[D]? = some (.deferred (some [])) := (hFo D (fun e => hz'.2.2.2.2.1 e.symm) hD6).trans HKD2.out
  have hlow : ∀ k, k < w7.heap.size → k ≠ g6 → F.heap[k]? = wn.heap[k]? := fun k hlt e6 => (hFo k (by have := n78.out; omega) e6).trans ((HBB.out.block k (by omega)).trans (LOW.out k hlt))
  have hold : ∀ {ok : Nat → Prop} {v : Value} {xs : List Int}, Kd.R (Kd.int .i64) 3 wn w.heap.size (fun k => (ok k ∧ k < w7.heap.size) ∧ k ≠ g6) v xs → Kd.R (Kd.int .i64) 3 F w.heap.size (fun k => ok k ∧ k < w7.heap.size) v xs := fun h => Kd.R_mono (Kd.R_step h (fun k hk _ => hlow k hk.1.2 hk.2)) (fun _ hk => hk.1)
  have hnew : Kd.R (Kd.int .i64) 3 F w.heap.size (fun k => w7.heap.size ≤ k) (.slice A10 kk.length c10) kk := Kd.R_mono (Kd.R_lower (Kd.R_step (Kd.R_bound HRR.out) (fun k hk _ => hFo k (by have := hk.2.1; omega) (by have := hk.2.1; have := n35.out; omega))) HB0.out.size) (fun _ hk => Nat.le_trans hz'.1 hk.2.1)
  have q2 := hold P2n.out
  have q3 := hold P3n.out
  have q4 := hold P4n.out
  have hnb := hnew.1
  cases HE.out
  refine ret_marks rfl hDf (results_cell_row rfl _ _ g6 30 #[.slice A10 r1.length c10, .int .i64 r2, .slice B2 r3.length b2, .slice B3 r4.length b3, .slice B4 r5.length b4] (0, 0) _ rfl ((World.putObj_heap_other (fun e => hD6 e.symm)).trans hF6) Try.underlying30 rfl (by kernel_rfl)) ?hst ?hR
  case hst =>
   rintro ⟨v0, v2, v3, v4, e, h0, h2, h3, h4, hb⟩
   exact ⟨v0, v2, v3, v4, e, R_mark h0 rfl hDf, R_mark h2 rfl hDf, R_mark h3 rfl hDf, R_mark h4 rfl hDf, below_mark hb hz'.2.2.2.2.2.1⟩
  case hR =>
   have n2 := q2.1
   have n3 := q3.1
   have n4 := q4.1
   exact ⟨_, _, _, _, rfl, Kd.R_mono hnew (fun k hk => ⟨fun e => absurd (n2 k e.symm).2 (by omega), fun e => absurd (n3 k e.symm).2 (by omega), fun e => absurd (n4 k e.symm).2 (by omega)⟩),
    Kd.R_mono q2 (fun k hk => ⟨fun e => absurd (hnb k e.symm) (by have := hk.2; omega), hk.1.2.1, hk.1.2.2⟩), Kd.R_mono q3 (fun k hk => ⟨fun e => absurd (hnb k e.symm) (by have := hk.2; omega), hk.1.2.1, hk.1.2.2⟩), Kd.R_mono q4 (fun k hk => ⟨fun e => absurd (hnb k e.symm) (by have := hk.2; omega), hk.1.2.1, hk.1.2.2⟩), hFB⟩
end Go.Proofs.Ytmkjkkmilopcpaa.Q
namespace Go.Proofs.Ytmkjkkmilopcpaa.Q
open Go.RowKit Go.Proofs.YtmkjkkmilopcpaaW.PrintWords Go.Proofs.YtmkjkkmilopcpaaW.PrintLast Go.Proofs.YtmkjkkmilopcpaaW.PrintMore
attribute [local go_sem] max2_int min2_int max_two min_two max_three min_three max_four min_four
set_option linter.unusedVariables false
attribute [local go_sem] Oper.semAt_some
set_option linter.unusedSimpArgs false
def cell_Of.f (l0_0 : List Int) (l0_1 : List Int) (a1 : Int) : Option (List Int × Int × List Int × List Int × List Int) := (slices_Clone_int_int.f l0_1).bind fun t139 => ((slices_Clone_int_int.f l0_1).bind fun t142 => ((slices_Clone_int_int.f l0_1).bind fun t145 => ((cell_dims.f l0_0 a1).bind fun t149 => ((slices_Clone_int_int.f t149).bind fun t152 => (some (t152, 1, t139, t142, t145))))))
def cell_Of.T5 : Bool × List (List Nat × List Nat) := (true, [([], []), ([0], [0]), ([], []), ([2], [2]), ([], []), ([3, 4], [3, 4]), ([5], [5]), ([6], [6]), ([1, 7], [1, 7]), ([0, 1, 2, 3, 4, 5, 6, 7, 8], []), ([9, 8, 8, 0, 1, 2, 3, 4, 5, 6, 7, 8], [8, 9])])
def cell_Of.B5 : List Nat := [0, 1, 0, 4, 0, 28, 60, 124, 255, 511, 1023]
theorem cell_Of.tab5 : rtab .any (opsOf Try.f28 5) = cell_Of.T5 := by kernel_rfl
theorem cell_Of.bits5 : waitsOk cell_Of.T5.2 cell_Of.B5 = true := by kernel_rfl
def cell_Of.T1 : Bool × List (List Nat × List Nat) := (true, [([], []), ([0], [0]), ([1], [1]), ([], []), ([3], [3]), ([4, 2], [4]), ([], []), ([6], [6]), ([7, 5], [7]), ([2, 5, 8], [2, 5, 8]), ([], []), ([10, 9, 8, 0, 1, 2, 3, 4, 5, 6, 7, 8, 9, 10], [9, 10])])
def cell_Of.B1 : List Nat := [0, 1, 3, 0, 8, 31, 0, 64, 255, 511, 0, 2047]
theorem cell_Of.tab1 : rtab .any (opsOf Try.f28 1) = cell_Of.T1 := by kernel_rfl
theorem cell_Of.bits1 : waitsOk cell_Of.T1.2 cell_Of.B1 = true := by kernel_rfl
set_option maxHeartbeats 8000000 in
set_option maxRecDepth 100000 in
theorem cell_Of.calls (A0_0 : Option Addr) (c0_0 : Nat) (l0_0 : List Int) (A0_1 : Option Addr) (c0_1 : Nat) (l0_1 : List Int) (a1 : Int) (r1 : List Int) (r2 : Int) (r3 : List Int) (r4 : List Int) (r5 : List Int) (w : World) (hr0_0 : Kd.C (Kd.int .i64) w A0_0 l0_0.length l0_0) (hc0_0 : l0_0.length ≤ c0_0) (hr0_1 : Kd.C (Kd.int .i64) w A0_1 l0_1.length l0_1) (hc0_1 : l0_1.length ≤ c0_1) (h : cell_Of.f l0_0 l0_1 a1 = some (r1, r2, r3, r4, r5)) :
  Calls Try.prog 28 #[.agg #[.slice A0_0 l0_0.length c0_0, .slice A0_1 l0_1.length c0_1], .int .i64 a1] w fun e w' => ∃ v0_ v2_ v3_ v4_ : Value, e = .returned (.agg #[v0_, .int .i64 r2, v2_, v3_, v4_]) ∧ Kd.R (Kd.int .i64) 3 w' w.heap.size (fun k_ => some k_ ≠ (v2_ : Value).ownBlock ∧ some k_ ≠ (v3_ : Value).ownBlock ∧ some k_ ≠ (v4_ : Value).ownBlock) v0_ r1 ∧ Kd.R (Kd.int .i64) 3 w' w.heap.size (fun k_ => some k_ ≠ (v0_ : Value).ownBlock ∧ some k_ ≠ (v3_ : Value).ownBlock ∧ some k_ ≠ (v4_ : Value).ownBlock) v2_ r3 ∧ Kd.R (Kd.int .i64) 3 w' w.heap.size (fun k_ => some k_ ≠ (v0_ : Value).ownBlock ∧ some k_ ≠ (v2_ : Value).ownBlock ∧ some k_ ≠ (v4_ : Value).ownBlock) v3_ r4 ∧ Kd.R (Kd.int .i64) 3 w' w.heap.size (fun k_ => some k_ ≠ (v0_ : Value).ownBlock ∧ some k_ ≠ (v2_ : Value).ownBlock ∧ some k_ ≠ (v3_ : Value).ownBlock) v4_ r5 ∧ Below w.heap.size w w' := by
 have hu45 := Try.underlying45
 have hu30 := Try.underlying30
 have HR0_0 := am hr0_0
 have HC0_0 := am hc0_0
 clear hr0_0 hc0_0
 have HR0_1 := am hr0_1
 have HC0_1 := am hc0_1
 clear hr0_1 hc0_1
 have HB := am (Below.refl w.heap.size w)
 have H : ((slices_Clone_int_int.f l0_1).bind fun t139 => ((slices_Clone_int_int.f l0_1).bind fun t142 => ((slices_Clone_int_int.f l0_1).bind fun t145 => ((cell_dims.f l0_0 a1).bind fun t149 => ((slices_Clone_int_int.f t149).bind fun t152 => (some (t152, 1, t139, t142, t145))))))) = some (r1, r2, r3, r4, r5) := h
 clear h
 replace H := Option.bind_eq_some_iff.mp H
 obtain ⟨t139, A30, H⟩ := H
 replace H : ((slices_Clone_int_int.f l0_1).bind fun t142 => ((slices_Clone_int_int.f l0_1).bind fun t145 => ((cell_dims.f l0_0 a1).bind fun t149 => ((slices_Clone_int_int.f t149).bind fun t152 => (some (t152, 1, t139, t142, t145)))))) = some (r1, r2, r3, r4, r5) := H
 have A3 := am A30
 clear A30
 replace H := Option.bind_eq_some_iff.mp H
 obtain ⟨t142, A40, H⟩ := H
 replace H : ((slices_Clone_int_int.f l0_1).bind fun t145 => ((cell_dims.f l0_0 a1).bind fun t149 => ((slices_Clone_int_int.f t149).bind fun t152 => (some (t152, 1, t139, t142, t145))))) = some (r1, r2, r3, r4, r5) := H
 have A4 := am A40
 clear A40
 replace H := Option.bind_eq_some_iff.mp H
 obtain ⟨t145, A50, H⟩ := H
 replace H : ((cell_dims.f l0_0 a1).bind fun t149 => ((slices_Clone_int_int.f t149).bind fun t152 => (some (t152, 1, t139, t142, t145)))) = some (r1, r2, r3, r4, r5) := H
 have A5 := am A50
 clear A50
 replace H := Option.bind_eq_some_iff.mp H
 obtain ⟨t149, A60, H⟩ := H
 replace H : ((slices_Clone_int_int.f t149).bind fun t152 => (some (t152, 1, t139, t142, t145))) = some (r1, r2, r3, r4, r5) := H
 have A6 := am A60
 clear A60
 replace H := Option.bind_eq_some_iff.mp H
 obtain ⟨t152, A70, H⟩ := H
 replace H : (some (t152, 1, t139, t142, t145)) = some (r1, r2, r3, r4, r5) := H
 have A7 := am A70
 clear A70
 simp only [Option.some.injEq, Prod.mk.injEq] at H
 obtain ⟨rfl, rfl, rfl, rfl, rfl⟩ := H
 refine calls_marks Try.func28 rfl ?_
 simp only [Try.ntmps28, List.size_toArray, List.length_cons, List.length_nil, Nat.reduceAdd, Nat.reduceSub, Array.replicate_succ, Array.replicate_zero, List.push_toArray, List.append_toArray, List.nil_append, List.cons_append]
 try go_wp2_with (first | ((with_reducible refine gate_dst (N := 2) rfl ?_); refine box_event ?hg (N := 2) ?hd (cs := #[.slice A0_0 l0_0.length c0_0, .slice A0_1 l0_1.length c0_1]) (t := 45) ?hr ?_; (case hd => rfl); (case hg => rfl); (case hr => first | (go_simp; done) | (go_simp; rfl)); intro gb137 hg w8 hbox hb; have n0_ := am (below_step (by repeat (first | (with_reducible first | exact HB.out | apply below_alloc | apply pw_below_drewN | apply below_drew1) | exact HB.out)) hb); have n1_ := am (hbox); have n2_ := am ((by rw [hg]; exact (below_size (by repeat (first | (with_reducible first | exact HB.out | apply below_alloc | apply pw_below_drewN | apply below_drew1) | exact HB.out))) : w.heap.size ≤ gb137)); have n3_ := am ((by rw [hg]; exact (below_size (by repeat (first | (with_reducible first | exact HB.out | apply below_alloc | apply pw_below_drewN | apply below_drew1) | exact HB.out))) : w.heap.size ≤ gb137)); clear HB; have HB := n0_; have BK137 := n1_; have GW137 := n2_; have GE137 := n3_; clear n0_ n1_ n2_ n3_; clear hb hbox hg) | ((with_reducible refine gate_dst (N := 4) rfl ?_); refine box_event ?hg (N := 4) ?hd (cs := #[.slice none 0 0, .int .i64 0, .slice none 0 0, .slice none 0 0, .slice none 0 0]) (t := 30) ?hr ?_; (case hd => rfl); (case hg => rfl); (case hr => first | (go_simp; done) | (go_simp; rfl)); intro gb138 hg w9 hbox hb; have n0_ := am (blk_below (g := gb137) (o := .cells #[.slice A0_0 l0_0.length c0_0, .slice A0_1 l0_1.length c0_1] 45 (0, 0)) (by (with_reducible repeat (first | refine blk_drewN ?_ _ | refine blk_drew ?_ | refine blk_alloc ?_ _)); exact BK137.out) hb); have n1_ := am (below_step (by repeat (first | (with_reducible first | exact HB.out | apply below_alloc | apply pw_below_drewN | apply below_drew1 | refine below_set ?_ GE137.out) | exact HB.out)) hb); have n2_ := am (hbox); have n3_ := am ((by rw [hg]; exact (below_size (by repeat (first | (with_reducible first | exact HB.out | apply below_alloc | apply pw_below_drewN | apply below_drew1 | refine below_set ?_ GE137.out) | exact HB.out))) : w.heap.size ≤ gb138)); have n4_ := am ((by rw [hg]; exact (below_size (by repeat (first | (with_reducible first | exact HB.out | apply below_alloc | apply pw_below_drewN | apply below_drew1 | refine below_set ?_ GE137.out) | exact HB.out))) : w.heap.size ≤ gb138)); have n5_ := am ((by rw [hg]; exact Nat.ne_of_lt (blk_lt (g := gb137) (o := .cells #[.slice A0_0 l0_0.length c0_0, .slice A0_1 l0_1.length c0_1] 45 (0, 0)) (by (with_reducible repeat (first | refine blk_drewN ?_ _ | refine blk_drew ?_ | refine blk_alloc ?_ _)); exact BK137.out)) : gb137 ≠ gb138)); have n6_ := am ((by rw [hg]; exact Nat.ne_of_gt (blk_lt (g := gb137) (o := .cells #[.slice A0_0 l0_0.length c0_0, .slice A0_1 l0_1.length c0_1] 45 (0, 0)) (by (with_reducible repeat (first | refine blk_drewN ?_ _ | refine blk_drew ?_ | refine blk_alloc ?_ _)); exact BK137.out)) : gb138 ≠ gb137)); clear BK137; clear HB; have BK137 := n0_; have HB := n1_; have BK138 := n2_; have GW138 := n3_; have GE138 := n4_; have NB137_138 := n5_; have NB138_137 := n6_; clear n0_ n1_ n2_ n3_ n4_ n5_ n6_; clear hb hbox hg))
 have n0_ := am (blk_drew BK137.out)
 have n1_ := am (blk_drew BK138.out)
 have n2_ := am (below_drew1 HB.out)
 clear BK137
 clear BK138
 clear HB
 have BK137 := n0_
 have BK138 := n1_
 have HB := n2_
 clear n0_ n1_ n2_
 refine start_ (n := 12) (S := fun w' => w'.cell? ⟨gb137, 0, none⟩ = some (.slice A0_0 l0_0.length c0_0) ∧ w'.cell? ⟨gb137, 1, none⟩ = some (.slice A0_1 l0_1.length c0_1)) (ds := []) (bb 12 0) (by kernel_rfl) rfl rfl ⟨(blk_cell BK137.out 0).trans rfl, (blk_cell BK137.out 1).trans rfl⟩ (fun hHeld => ?_); refine with_tabW cell_Of.tab1 cell_Of.bits1 (fun HT_ HW_ => ?_)
 generalize w9.drew = w10 at BK137 BK138 HB hHeld ⊢
 refine pure_ (i := 0) (N := some 7) (v := ?_) (a' := ?_) (bb 12 1) rfl rfl (any_of HT_.out (by kernel_rfl)) (fun _ _ _ h => h) (Or.inl ⟨by rfl, ?_⟩) ?_ ?_
 rotate_left
 ·intro w'
  go_simp
  with_reducible rfl
 rotate_left
 ·simp only [Act.put, List.setIfInBounds_toArray, List.set_cons_zero, List.set_cons_succ, i64_w, i32_w]
  rfl
 refine pure_ (i := 3) (N := some 10) (v := ?_) (a' := ?_) (bb 12 9) rfl rfl (any_of HT_.out (by kernel_rfl)) (fun _ _ _ h => h) (Or.inl ⟨by rfl, ?_⟩) ?_ ?_
 rotate_left
 ·intro w'
  go_simp
  with_reducible rfl
 rotate_left
 ·simp only [Act.put, List.setIfInBounds_toArray, List.set_cons_zero, List.set_cons_succ, i64_w, i32_w]
  rfl
 refine pure_ (i := 6) (N := some 13) (v := ?_) (a' := ?_) (bb 12 73) rfl rfl (any_of HT_.out (by kernel_rfl)) (fun _ _ _ h => h) (Or.inl ⟨by rfl, ?_⟩) ?_ ?_
 rotate_left
 ·intro w'
  go_simp
  with_reducible rfl
 rotate_left
 ·simp only [Act.put, List.setIfInBounds_toArray, List.set_cons_zero, List.set_cons_succ, i64_w, i32_w]
  rfl
 refine take_ (i := 1) (N := some 8) (v := ?_) (a' := ?_) (bb 12 75) rfl rfl (take_ofW HT_.out HW_.out (by kernel_rfl)) (fun _ _ _ h => h) (Or.inl ⟨by rfl, ?_⟩) hHeld ?_ ?_
 rotate_left
 ·rintro w' ⟨s0, s1⟩
  go_simp
  with_reducible rfl
 rotate_left
 ·simp only [Act.put, List.setIfInBounds_toArray, List.set_cons_zero, List.set_cons_succ, i64_w, i32_w]
  rfl
 refine take_ (i := 4) (N := some 11) (v := ?_) (a' := ?_) (bb 12 91) rfl rfl (take_ofW HT_.out HW_.out (by kernel_rfl)) (fun _ _ _ h => h) (Or.inl ⟨by rfl, ?_⟩) hHeld ?_ ?_
 rotate_left
 ·rintro w' ⟨s0, s1⟩
  go_simp
  with_reducible rfl
 rotate_left
 ·simp only [Act.put, List.setIfInBounds_toArray, List.set_cons_zero, List.set_cons_succ, i64_w, i32_w]
  rfl
 refine take_ (i := 7) (N := some 14) (v := ?_) (a' := ?_) (bb 12 219) rfl rfl (take_ofW HT_.out HW_.out (by kernel_rfl)) (fun _ _ _ h => h) (Or.inl ⟨by rfl, ?_⟩) hHeld ?_ ?_
 rotate_left
 ·rintro w' ⟨s0, s1⟩
  go_simp
  with_reducible rfl
 rotate_left
 ·simp only [Act.put, List.setIfInBounds_toArray, List.set_cons_zero, List.set_cons_succ, i64_w, i32_w]
  rfl
 refine join_ (σ := Value × Value × Value × Nat) 1 (bb 12 2047) (fun s_ => [(9, s_.1), (12, s_.2.1), (15, s_.2.2.1), (5, .pointer (some ⟨s_.2.2.2, 0, none⟩)), (16, .agg #[.slice none 0 0, .int .i64 1, s_.1, s_.2.1, s_.2.2.1])]) (fun s_ w' => (w'.cell? ⟨gb137, 0, none⟩ = some (.slice A0_0 l0_0.length c0_0) ∧ w'.cell? ⟨gb137, 1, none⟩ = some (.slice A0_1 l0_1.length c0_1)) ∧ (Kd.R (Kd.int .i64) 3 w' w.heap.size (fun k_ => some k_ ≠ (s_.2.1 : Value).ownBlock ∧ some k_ ≠ (s_.2.2.1 : Value).ownBlock) s_.1 t139) ∧ (Kd.R (Kd.int .i64) 3 w' w.heap.size (fun k_ => some k_ ≠ (s_.1 : Value).ownBlock ∧ some k_ ≠ (s_.2.2.1 : Value).ownBlock) s_.2.1 t142) ∧ (Kd.R (Kd.int .i64) 3 w' w.heap.size (fun k_ => some k_ ≠ (s_.1 : Value).ownBlock ∧ some k_ ≠ (s_.2.1 : Value).ownBlock) s_.2.2.1 t145) ∧ (w'.heap[gb137]? = some (.cells #[.slice A0_0 l0_0.length c0_0, .slice A0_1 l0_1.length c0_1] 45 (0, 0))) ∧ (w'.heap[gb138]? = some (.cells #[.slice none 0 0, .int .i64 0, .slice none 0 0, .slice none 0 0, .slice none 0 0] 30 (0, 0))) ∧ (w'.heap[s_.2.2.2]? = some (.cells #[.slice none 0 0, .int .i64 0, .slice none 0 0, .slice none 0 0, .slice none 0 0] 30 (0, 0))) ∧ (w.heap.size ≤ s_.2.2.2) ∧ (w.heap.size ≤ s_.2.2.2) ∧ (gb137 ≠ s_.2.2.2) ∧ (s_.2.2.2 ≠ gb137) ∧ (gb138 ≠ s_.2.2.2) ∧ (s_.2.2.2 ≠ gb138) ∧ (Below w.heap.size w w')) ?_ ?_
 rotate_left
 ·intro hCont
  refine two_ (i := 2) (j := 10) (Ni := some 9) (Nj := some 5) (bb 12 223) (bb 12 1243) rfl rfl rfl rfl (two_of HT_.out (by kernel_rfl)) (by decide) (by decide) (fun K hK => ?_) (fun K hK => ?_)
  ·skip
   refine goes_ Try.func40 (by kernel_rfl) rfl #[.slice A0_1 l0_1.length c0_1] (by rfl) rfl rfl (by (try simp only [List.map_toArray, List.map_cons, List.map_nil]); first | done | rfl | (simp only [List.length_drop, List.length_take]; rfl)) ?_
   with_reducible refine (slices_Clone_int_int.calls _ _ l0_1 t139 _ ?side1 ?side2 A3.out).mono ?_
   (case side1 => repeat (first | exact (Kd.C_below HR0_1.out HB.out) | (with_reducible refine Kd.C_alloc ?_ _) | (with_reducible refine Kd.C_drewN ?_ _) | (with_reducible refine Kd.C_drew ?_)))
   (case side2 => exact HC0_1.out)
   rintro e w11 ⟨v140, rfl, ho0, hb⟩
   refine ⟨_, rfl, ?_⟩
   have n0_ := am (Kd.R_lower ho0 (below_size (by repeat (first | (with_reducible first | exact HB.out | apply below_alloc | apply pw_below_drewN | apply below_drew1 | refine below_set ?_ GE137.out | refine below_set ?_ GE138.out) | exact HB.out))))
   have n1_ := am (blk_below (g := gb137) (o := .cells #[.slice A0_0 l0_0.length c0_0, .slice A0_1 l0_1.length c0_1] 45 (0, 0)) (by (with_reducible repeat (first | refine blk_drewN ?_ _ | refine blk_drew ?_ | refine blk_alloc ?_ _)); exact BK137.out) hb)
   have n2_ := am (blk_below (g := gb138) (o := .cells #[.slice none 0 0, .int .i64 0, .slice none 0 0, .slice none 0 0, .slice none 0 0] 30 (0, 0)) (by (with_reducible repeat (first | refine blk_drewN ?_ _ | refine blk_drew ?_ | refine blk_alloc ?_ _)); exact BK138.out) hb)
   have n3_ := am (below_step (by repeat (first | (with_reducible first | exact HB.out | apply below_alloc | apply pw_below_drewN | apply below_drew1 | refine below_set ?_ GE137.out | refine below_set ?_ GE138.out) | exact HB.out)) hb)
   clear BK137
   clear BK138
   clear HB
   have HO141 := n0_
   have BK137 := n1_
   have BK138 := n2_
   have HB := n3_
   clear n0_ n1_ n2_ n3_
   (try clear hb)
   (try clear hb2)
   (try clear hk)
   (try clear hi)
   (try clear ho0)
   refine hK.out _ _ ⟨(blk_cell BK137.out 0).trans rfl, (blk_cell BK137.out 1).trans rfl⟩ (fun hHeld => ?_)
   clear hK K
   refine norm_ (a' := ?_) ?_ ?_
   rotate_left
   ·show Act.put _ (some 9) _ = _
    simp only [Act.put, List.setIfInBounds_toArray, List.set_cons_zero, List.set_cons_succ, i64_w, i32_w]
    rfl
   refine two_ (i := 5) (j := 10) (Ni := some 12) (Nj := some 5) (bb 12 255) (bb 12 1247) rfl rfl rfl rfl (two_of HT_.out (by kernel_rfl)) (by decide) (by decide) (fun K hK => ?_) (fun K hK => ?_)
   ·skip
    refine goes_ Try.func40 (by kernel_rfl) rfl #[.slice A0_1 l0_1.length c0_1] (by rfl) rfl rfl (by (try simp only [List.map_toArray, List.map_cons, List.map_nil]); first | done | rfl | (simp only [List.length_drop, List.length_take]; rfl)) ?_
    with_reducible refine (slices_Clone_int_int.calls _ _ l0_1 t142 _ ?side1 ?side2 A4.out).mono ?_
    (case side1 => repeat (first | exact (Kd.C_below HR0_1.out HB.out) | (with_reducible refine Kd.C_alloc ?_ _) | (with_reducible refine Kd.C_drewN ?_ _) | (with_reducible refine Kd.C_drew ?_)))
    (case side2 => exact HC0_1.out)
    rintro e w12 ⟨v143, rfl, ho0, hb⟩
    refine ⟨_, rfl, ?_⟩
    have n0_ := am (Kd.R_elder' (by (with_reducible repeat (first | apply Kd.R_alloc | apply Kd.R_drewN | apply Kd.R_drew)); exact HO141.out) (Kd.R_base ho0) hb)
    have n1_ := am (Kd.R_lower (Kd.R_new' ho0 (Kd.R_lt (by (with_reducible repeat (first | apply Kd.R_alloc | apply Kd.R_drewN | apply Kd.R_drew)); exact HO141.out))) (below_size (by repeat (first | (with_reducible first | exact HB.out | apply below_alloc | apply pw_below_drewN | apply below_drew1 | refine below_set ?_ GE137.out | refine below_set ?_ GE138.out) | exact HB.out))))
    have n2_ := am (blk_below (g := gb137) (o := .cells #[.slice A0_0 l0_0.length c0_0, .slice A0_1 l0_1.length c0_1] 45 (0, 0)) (by (with_reducible repeat (first | refine blk_drewN ?_ _ | refine blk_drew ?_ | refine blk_alloc ?_ _)); exact BK137.out) hb)
    have n3_ := am (blk_below (g := gb138) (o := .cells #[.slice none 0 0, .int .i64 0, .slice none 0 0, .slice none 0 0, .slice none 0 0] 30 (0, 0)) (by (with_reducible repeat (first | refine blk_drewN ?_ _ | refine blk_drew ?_ | refine blk_alloc ?_ _)); exact BK138.out) hb)
    have n4_ := am (below_step (by repeat (first | (with_reducible first | exact HB.out | apply below_alloc | apply pw_below_drewN | apply below_drew1 | refine below_set ?_ GE137.out | refine below_set ?_ GE138.out) | exact HB.out)) hb)
    clear HO141
    clear BK137
    clear BK138
    clear HB
    have HO141 := n0_
    have HO144 := n1_
    have BK137 := n2_
    have BK138 := n3_
    have HB := n4_
    clear n0_ n1_ n2_ n3_ n4_
    (try clear hb)
    (try clear hb2)
    (try clear hk)
    (try clear hi)
    (try clear ho0)
    refine hK.out _ _ ⟨(blk_cell BK137.out 0).trans rfl, (blk_cell BK137.out 1).trans rfl⟩ (fun hHeld => ?_)
    clear hK K
    refine norm_ (a' := ?_) ?_ ?_
    rotate_left
    ·show Act.put _ (some 12) _ = _
     simp only [Act.put, List.setIfInBounds_toArray, List.set_cons_zero, List.set_cons_succ, i64_w, i32_w]
     rfl
    refine two_ (i := 8) (j := 10) (Ni := some 15) (Nj := some 5) (bb 12 511) (bb 12 1279) rfl rfl rfl rfl (two_of HT_.out (by kernel_rfl)) (by decide) (by decide) (fun K hK => ?_) (fun K hK => ?_)
    ·skip
     refine goes_ Try.func40 (by kernel_rfl) rfl #[.slice A0_1 l0_1.length c0_1] (by rfl) rfl rfl (by (try simp only [List.map_toArray, List.map_cons, List.map_nil]); first | done | rfl | (simp only [List.length_drop, List.length_take]; rfl)) ?_
     with_reducible refine (slices_Clone_int_int.calls _ _ l0_1 t145 _ ?side1 ?side2 A5.out).mono ?_
     (case side1 => repeat (first | exact (Kd.C_below HR0_1.out HB.out) | (with_reducible refine Kd.C_alloc ?_ _) | (with_reducible refine Kd.C_drewN ?_ _) | (with_reducible refine Kd.C_drew ?_)))
     (case side2 => exact HC0_1.out)
     rintro e w13 ⟨v146, rfl, ho0, hb⟩
     refine ⟨_, rfl, ?_⟩
     have n0_ := am (Kd.R_elder' (by (with_reducible repeat (first | apply Kd.R_alloc | apply Kd.R_drewN | apply Kd.R_drew)); exact HO141.out) (Kd.R_base ho0) hb)
     have n1_ := am (Kd.R_elder' (by (with_reducible repeat (first | apply Kd.R_alloc | apply Kd.R_drewN | apply Kd.R_drew)); exact HO144.out) (Kd.R_base ho0) hb)
     have n2_ := am (Kd.R_lower (Kd.R_new' (Kd.R_new' ho0 (Kd.R_lt (by (with_reducible repeat (first | apply Kd.R_alloc | apply Kd.R_drewN | apply Kd.R_drew)); exact HO141.out))) (Kd.R_lt (by (with_reducible repeat (first | apply Kd.R_alloc | apply Kd.R_drewN | apply Kd.R_drew)); exact HO144.out))) (below_size (by repeat (first | (with_reducible first | exact HB.out | apply below_alloc | apply pw_below_drewN | apply below_drew1 | refine below_set ?_ GE137.out | refine below_set ?_ GE138.out) | exact HB.out))))
     have n3_ := am (blk_below (g := gb137) (o := .cells #[.slice A0_0 l0_0.length c0_0, .slice A0_1 l0_1.length c0_1] 45 (0, 0)) (by (with_reducible repeat (first | refine blk_drewN ?_ _ | refine blk_drew ?_ | refine blk_alloc ?_ _)); exact BK137.out) hb)
     have n4_ := am (blk_below (g := gb138) (o := .cells #[.slice none 0 0, .int .i64 0, .slice none 0 0, .slice none 0 0, .slice none 0 0] 30 (0, 0)) (by (with_reducible repeat (first | refine blk_drewN ?_ _ | refine blk_drew ?_ | refine blk_alloc ?_ _)); exact BK138.out) hb)
     have n5_ := am (below_step (by repeat (first | (with_reducible first | exact HB.out | apply below_alloc | apply pw_below_drewN | apply below_drew1 | refine below_set ?_ GE137.out | refine below_set ?_ GE138.out) | exact HB.out)) hb)
     clear HO141
     clear HO144
     clear BK137
     clear BK138
     clear HB
     have HO141 := n0_
     have HO144 := n1_
     have HO147 := n2_
     have BK137 := n3_
     have BK138 := n4_
     have HB := n5_
     clear n0_ n1_ n2_ n3_ n4_ n5_
     (try clear hb)
     (try clear hb2)
     (try clear hk)
     (try clear hi)
     (try clear ho0)
     obtain ⟨Ao14, co14, eo14⟩ := Kd.R_slice HO147.out
     (first | subst eo14 | (injection eo14 with f1_ f2_ f3_; have f4_ := f1_.symm; have f5_ := f3_.symm; clear f1_ f2_ f3_; subst f4_; subst f5_))
     obtain ⟨Ao15, co15, eo15⟩ := Kd.R_slice HO144.out
     (first | subst eo15 | (injection eo15 with f1_ f2_ f3_; have f4_ := f1_.symm; have f5_ := f3_.symm; clear f1_ f2_ f3_; subst f4_; subst f5_))
     obtain ⟨Ao16, co16, eo16⟩ := Kd.R_slice HO141.out
     (first | subst eo16 | (injection eo16 with f1_ f2_ f3_; have f4_ := f1_.symm; have f5_ := f3_.symm; clear f1_ f2_ f3_; subst f4_; subst f5_))
     refine hK.out _ _ ⟨(blk_cell BK137.out 0).trans rfl, (blk_cell BK137.out 1).trans rfl⟩ (fun hHeld => ?_)
     clear hK K
     refine norm_ (a' := ?_) ?_ ?_
     rotate_left
     ·show Act.put _ (some 15) _ = _
      simp only [Act.put, List.setIfInBounds_toArray, List.set_cons_zero, List.set_cons_succ, i64_w, i32_w]
      rfl
     refine pure_ (i := 9) (N := some 16) (v := ?_) (a' := ?_) (bb 12 1023) rfl rfl (any_of HT_.out (by kernel_rfl)) (fun _ _ _ h => h) (Or.inl ⟨by rfl, ?_⟩) ?_ ?_
     rotate_left
     ·intro w'
      go_simp
      with_reducible rfl
     rotate_left
     ·simp only [Act.put, List.setIfInBounds_toArray, List.set_cons_zero, List.set_cons_succ, i64_w, i32_w]
      rfl
     refine one_ (i := 10) (N := some 5) (bb 12 2047) rfl rfl (one_of HT_.out (by kernel_rfl)) (by decide) (fun K hK => ?_)
     refine box_step ?hg (N := 5) ?hd (cs := #[.slice none 0 0, .int .i64 0, .slice none 0 0, .slice none 0 0, .slice none 0 0]) (t := 30) ?hr ?_; (case hd => rfl); (case hg => rfl); (case hr => first | (go_simp; done) | (go_simp; rfl))
     intro gb148 hg w17 hbox hb
     have n0_ := am (Kd.R_below (by (with_reducible repeat (first | apply Kd.R_alloc | apply Kd.R_drewN | apply Kd.R_drew)); exact HO141.out) hb)
     have n1_ := am (Kd.R_below (by (with_reducible repeat (first | apply Kd.R_alloc | apply Kd.R_drewN | apply Kd.R_drew)); exact HO144.out) hb)
     have n2_ := am (Kd.R_below (by (with_reducible repeat (first | apply Kd.R_alloc | apply Kd.R_drewN | apply Kd.R_drew)); exact HO147.out) hb)
     have n3_ := am (blk_below (g := gb137) (o := .cells #[.slice A0_0 l0_0.length c0_0, .slice A0_1 l0_1.length c0_1] 45 (0, 0)) (by (with_reducible repeat (first | refine blk_drewN ?_ _ | refine blk_drew ?_ | refine blk_alloc ?_ _)); exact BK137.out) hb)
     have n4_ := am (blk_below (g := gb138) (o := .cells #[.slice none 0 0, .int .i64 0, .slice none 0 0, .slice none 0 0, .slice none 0 0] 30 (0, 0)) (by (with_reducible repeat (first | refine blk_drewN ?_ _ | refine blk_drew ?_ | refine blk_alloc ?_ _)); exact BK138.out) hb)
     have n5_ := am (below_step (by repeat (first | (with_reducible first | exact HB.out | apply below_alloc | apply pw_below_drewN | apply below_drew1 | refine below_set ?_ GE137.out | refine below_set ?_ GE138.out) | exact HB.out)) hb)
     have n6_ := am (hbox)
     have n7_ := am ((by rw [hg]; exact (below_size (by repeat (first | (with_reducible first | exact HB.out | apply below_alloc | apply pw_below_drewN | apply below_drew1 | refine below_set ?_ GE137.out | refine below_set ?_ GE138.out) | exact HB.out))) : w.heap.size ≤ gb148))
     have n8_ := am ((by rw [hg]; exact (below_size (by repeat (first | (with_reducible first | exact HB.out | apply below_alloc | apply pw_below_drewN | apply below_drew1 | refine below_set ?_ GE137.out | refine below_set ?_ GE138.out) | exact HB.out))) : w.heap.size ≤ gb148))
     have n9_ := am ((by rw [hg]; exact Nat.ne_of_lt (blk_lt (g := gb137) (o := .cells #[.slice A0_0 l0_0.length c0_0, .slice A0_1 l0_1.length c0_1] 45 (0, 0)) (by (with_reducible repeat (first | refine blk_drewN ?_ _ | refine blk_drew ?_ | refine blk_alloc ?_ _)); exact BK137.out)) : gb137 ≠ gb148))
     have n10_ := am ((by rw [hg]; exact Nat.ne_of_gt (blk_lt (g := gb137) (o := .cells #[.slice A0_0 l0_0.length c0_0, .slice A0_1 l0_1.length c0_1] 45 (0, 0)) (by (with_reducible repeat (first | refine blk_drewN ?_ _ | refine blk_drew ?_ | refine blk_alloc ?_ _)); exact BK137.out)) : gb148 ≠ gb137))
     have n11_ := am ((by rw [hg]; exact Nat.ne_of_lt (blk_lt (g := gb138) (o := .cells #[.slice none 0 0, .int .i64 0, .slice none 0 0, .slice none 0 0, .slice none 0 0] 30 (0, 0)) (by (with_reducible repeat (first | refine blk_drewN ?_ _ | refine blk_drew ?_ | refine blk_alloc ?_ _)); exact BK138.out)) : gb138 ≠ gb148))
     have n12_ := am ((by rw [hg]; exact Nat.ne_of_gt (blk_lt (g := gb138) (o := .cells #[.slice none 0 0, .int .i64 0, .slice none 0 0, .slice none 0 0, .slice none 0 0] 30 (0, 0)) (by (with_reducible repeat (first | refine blk_drewN ?_ _ | refine blk_drew ?_ | refine blk_alloc ?_ _)); exact BK138.out)) : gb148 ≠ gb138))
     clear HO141
     clear HO144
     clear HO147
     clear BK137
     clear BK138
     clear HB
     have HO141 := n0_
     have HO144 := n1_
     have HO147 := n2_
     have BK137 := n3_
     have BK138 := n4_
     have HB := n5_
     have BK148 := n6_
     have GW148 := n7_
     have GE148 := n8_
     have NB137_148 := n9_
     have NB148_137 := n10_
     have NB138_148 := n11_
     have NB148_138 := n12_
     clear n0_ n1_ n2_ n3_ n4_ n5_ n6_ n7_ n8_ n9_ n10_ n11_ n12_
     clear hb hbox hg
     refine hK.out _ _ ⟨(blk_cell BK137.out 0).trans rfl, (blk_cell BK137.out 1).trans rfl⟩ (fun hHeld => ?_)
     clear hK K
     refine norm_ (a' := ?_) ?_ ?_
     rotate_left
     ·show Act.put _ (some 5) _ = _
      simp only [Act.put, List.setIfInBounds_toArray, List.set_cons_zero, List.set_cons_succ, i64_w, i32_w]
      rfl
     exact norm_ (by simp only [putAll, Act.put, List.setIfInBounds_toArray, List.set_cons_zero, List.set_cons_succ]) (hCont (.slice Ao16 t139.length co16, .slice Ao15 t142.length co15, .slice Ao14 t145.length co14, gb148) _ ⟨hHeld, (by (with_reducible repeat (first | apply Kd.R_alloc | apply Kd.R_drewN | apply Kd.R_drew)); exact Kd.R_mono HO141.out (fun _ hk => ⟨hk.1.2, hk.2⟩)), (by (with_reducible repeat (first | apply Kd.R_alloc | apply Kd.R_drewN | apply Kd.R_drew)); exact Kd.R_mono HO144.out (fun _ hk => ⟨hk.1.2, hk.2⟩)), (by (with_reducible repeat (first | apply Kd.R_alloc | apply Kd.R_drewN | apply Kd.R_drew)); exact Kd.R_mono HO147.out (fun _ hk => ⟨hk.1.2, hk.2⟩)), (by (with_reducible repeat (first | refine blk_drewN ?_ _ | refine blk_drew ?_ | refine blk_alloc ?_ _)); exact BK137.out), (by (with_reducible repeat (first | refine blk_drewN ?_ _ | refine blk_drew ?_ | refine blk_alloc ?_ _)); exact BK138.out), (by (with_reducible repeat (first | refine blk_drewN ?_ _ | refine blk_drew ?_ | refine blk_alloc ?_ _)); exact BK148.out), GW148.out, GE148.out, NB137_148.out, NB148_137.out, NB138_148.out, NB148_138.out, (by repeat (first | (with_reducible first | exact HB.out | apply below_alloc | apply pw_below_drewN | apply below_drew1 | refine below_set ?_ GE137.out | refine below_set ?_ GE138.out | refine below_set ?_ GE148.out) | exact HB.out))⟩)
    ·skip
     refine box_step ?hg (N := 5) ?hd (cs := #[.slice none 0 0, .int .i64 0, .slice none 0 0, .slice none 0 0, .slice none 0 0]) (t := 30) ?hr ?_; (case hd => rfl); (case hg => rfl); (case hr => first | (go_simp; done) | (go_simp; rfl))
     intro gb148 hg w13 hbox hb
     have n0_ := am (Kd.R_below (by (with_reducible repeat (first | apply Kd.R_alloc | apply Kd.R_drewN | apply Kd.R_drew)); exact HO141.out) hb)
     have n1_ := am (Kd.R_below (by (with_reducible repeat (first | apply Kd.R_alloc | apply Kd.R_drewN | apply Kd.R_drew)); exact HO144.out) hb)
     have n2_ := am (blk_below (g := gb137) (o := .cells #[.slice A0_0 l0_0.length c0_0, .slice A0_1 l0_1.length c0_1] 45 (0, 0)) (by (with_reducible repeat (first | refine blk_drewN ?_ _ | refine blk_drew ?_ | refine blk_alloc ?_ _)); exact BK137.out) hb)
     have n3_ := am (blk_below (g := gb138) (o := .cells #[.slice none 0 0, .int .i64 0, .slice none 0 0, .slice none 0 0, .slice none 0 0] 30 (0, 0)) (by (with_reducible repeat (first | refine blk_drewN ?_ _ | refine blk_drew ?_ | refine blk_alloc ?_ _)); exact BK138.out) hb)
     have n4_ := am (below_step (by repeat (first | (with_reducible first | exact HB.out | apply below_alloc | apply pw_below_drewN | apply below_drew1 | refine below_set ?_ GE137.out | refine below_set ?_ GE138.out) | exact HB.out)) hb)
     have n5_ := am (hbox)
     have n6_ := am ((by rw [hg]; exact (below_size (by repeat (first | (with_reducible first | exact HB.out | apply below_alloc | apply pw_below_drewN | apply below_drew1 | refine below_set ?_ GE137.out | refine below_set ?_ GE138.out) | exact HB.out))) : w.heap.size ≤ gb148))
     have n7_ := am ((by rw [hg]; exact (below_size (by repeat (first | (with_reducible first | exact HB.out | apply below_alloc | apply pw_below_drewN | apply below_drew1 | refine below_set ?_ GE137.out | refine below_set ?_ GE138.out) | exact HB.out))) : w.heap.size ≤ gb148))
     have n8_ := am ((by rw [hg]; exact Nat.ne_of_lt (blk_lt (g := gb137) (o := .cells #[.slice A0_0 l0_0.length c0_0, .slice A0_1 l0_1.length c0_1] 45 (0, 0)) (by (with_reducible repeat (first | refine blk_drewN ?_ _ | refine blk_drew ?_ | refine blk_alloc ?_ _)); exact BK137.out)) : gb137 ≠ gb148))
     have n9_ := am ((by rw [hg]; exact Nat.ne_of_gt (blk_lt (g := gb137) (o := .cells #[.slice A0_0 l0_0.length c0_0, .slice A0_1 l0_1.length c0_1] 45 (0, 0)) (by (with_reducible repeat (first | refine blk_drewN ?_ _ | refine blk_drew ?_ | refine blk_alloc ?_ _)); exact BK137.out)) : gb148 ≠ gb137))
     have n10_ := am ((by rw [hg]; exact Nat.ne_of_lt (blk_lt (g := gb138) (o := .cells #[.slice none 0 0, .int .i64 0, .slice none 0 0, .slice none 0 0, .slice none 0 0] 30 (0, 0)) (by (with_reducible repeat (first | refine blk_drewN ?_ _ | refine blk_drew ?_ | refine blk_alloc ?_ _)); exact BK138.out)) : gb138 ≠ gb148))
     have n11_ := am ((by rw [hg]; exact Nat.ne_of_gt (blk_lt (g := gb138) (o := .cells #[.slice none 0 0, .int .i64 0, .slice none 0 0, .slice none 0 0, .slice none 0 0] 30 (0, 0)) (by (with_reducible repeat (first | refine blk_drewN ?_ _ | refine blk_drew ?_ | refine blk_alloc ?_ _)); exact BK138.out)) : gb148 ≠ gb138))
     clear HO141
     clear HO144
     clear BK137
     clear BK138
     clear HB
     have HO141 := n0_
     have HO144 := n1_
     have BK137 := n2_
     have BK138 := n3_
     have HB := n4_
     have BK148 := n5_
     have GW148 := n6_
     have GE148 := n7_
     have NB137_148 := n8_
     have NB148_137 := n9_
     have NB138_148 := n10_
     have NB148_138 := n11_
     clear n0_ n1_ n2_ n3_ n4_ n5_ n6_ n7_ n8_ n9_ n10_ n11_
     clear hb hbox hg
     refine hK.out _ _ ⟨(blk_cell BK137.out 0).trans rfl, (blk_cell BK137.out 1).trans rfl⟩ (fun hHeld => ?_)
     clear hK K
     refine norm_ (a' := ?_) ?_ ?_
     rotate_left
     ·show Act.put _ (some 5) _ = _
      simp only [Act.put, List.setIfInBounds_toArray, List.set_cons_zero, List.set_cons_succ, i64_w, i32_w]
      rfl
     refine one_ (i := 8) (N := some 15) (bb 12 1535) rfl rfl (one_of HT_.out (by kernel_rfl)) (by decide) (fun K hK => ?_)
     refine goes_ Try.func40 (by kernel_rfl) rfl #[.slice A0_1 l0_1.length c0_1] (by rfl) rfl rfl (by (try simp only [List.map_toArray, List.map_cons, List.map_nil]); first | done | rfl | (simp only [List.length_drop, List.length_take]; rfl)) ?_
     with_reducible refine (slices_Clone_int_int.calls _ _ l0_1 t145 _ ?side1 ?side2 A5.out).mono ?_
     (case side1 => repeat (first | exact (Kd.C_below HR0_1.out HB.out) | (with_reducible refine Kd.C_alloc ?_ _) | (with_reducible refine Kd.C_drewN ?_ _) | (with_reducible refine Kd.C_drew ?_)))
     (case side2 => exact HC0_1.out)
     rintro e w14 ⟨v146, rfl, ho0, hb⟩
     refine ⟨_, rfl, ?_⟩
     have n0_ := am (Kd.R_elder' (by (with_reducible repeat (first | apply Kd.R_alloc | apply Kd.R_drewN | apply Kd.R_drew)); exact HO141.out) (Kd.R_base ho0) hb)
     have n1_ := am (Kd.R_elder' (by (with_reducible repeat (first | apply Kd.R_alloc | apply Kd.R_drewN | apply Kd.R_drew)); exact HO144.out) (Kd.R_base ho0) hb)
     have n2_ := am (Kd.R_lower (Kd.R_new' (Kd.R_new' ho0 (Kd.R_lt (by (with_reducible repeat (first | apply Kd.R_alloc | apply Kd.R_drewN | apply Kd.R_drew)); exact HO141.out))) (Kd.R_lt (by (with_reducible repeat (first | apply Kd.R_alloc | apply Kd.R_drewN | apply Kd.R_drew)); exact HO144.out))) (below_size (by repeat (first | (with_reducible first | exact HB.out | apply below_alloc | apply pw_below_drewN | apply below_drew1 | refine below_set ?_ GE137.out | refine below_set ?_ GE138.out | refine below_set ?_ GE148.out) | exact HB.out))))
     have n3_ := am (blk_below (g := gb137) (o := .cells #[.slice A0_0 l0_0.length c0_0, .slice A0_1 l0_1.length c0_1] 45 (0, 0)) (by (with_reducible repeat (first | refine blk_drewN ?_ _ | refine blk_drew ?_ | refine blk_alloc ?_ _)); exact BK137.out) hb)
     have n4_ := am (blk_below (g := gb138) (o := .cells #[.slice none 0 0, .int .i64 0, .slice none 0 0, .slice none 0 0, .slice none 0 0] 30 (0, 0)) (by (with_reducible repeat (first | refine blk_drewN ?_ _ | refine blk_drew ?_ | refine blk_alloc ?_ _)); exact BK138.out) hb)
     have n5_ := am (blk_below (g := gb148) (o := .cells #[.slice none 0 0, .int .i64 0, .slice none 0 0, .slice none 0 0, .slice none 0 0] 30 (0, 0)) (by (with_reducible repeat (first | refine blk_drewN ?_ _ | refine blk_drew ?_ | refine blk_alloc ?_ _)); exact BK148.out) hb)
     have n6_ := am (below_step (by repeat (first | (with_reducible first | exact HB.out | apply below_alloc | apply pw_below_drewN | apply below_drew1 | refine below_set ?_ GE137.out | refine below_set ?_ GE138.out | refine below_set ?_ GE148.out) | exact HB.out)) hb)
     clear HO141
     clear HO144
     clear BK137
     clear BK138
     clear BK148
     clear HB
     have HO141 := n0_
     have HO144 := n1_
     have HO147 := n2_
     have BK137 := n3_
     have BK138 := n4_
     have BK148 := n5_
     have HB := n6_
     clear n0_ n1_ n2_ n3_ n4_ n5_ n6_
     (try clear hb)
     (try clear hb2)
     (try clear hk)
     (try clear hi)
     (try clear ho0)
     obtain ⟨Ao15, co15, eo15⟩ := Kd.R_slice HO147.out
     (first | subst eo15 | (injection eo15 with f1_ f2_ f3_; have f4_ := f1_.symm; have f5_ := f3_.symm; clear f1_ f2_ f3_; subst f4_; subst f5_))
     obtain ⟨Ao16, co16, eo16⟩ := Kd.R_slice HO144.out
     (first | subst eo16 | (injection eo16 with f1_ f2_ f3_; have f4_ := f1_.symm; have f5_ := f3_.symm; clear f1_ f2_ f3_; subst f4_; subst f5_))
     obtain ⟨Ao17, co17, eo17⟩ := Kd.R_slice HO141.out
     (first | subst eo17 | (injection eo17 with f1_ f2_ f3_; have f4_ := f1_.symm; have f5_ := f3_.symm; clear f1_ f2_ f3_; subst f4_; subst f5_))
     refine hK.out _ _ ⟨(blk_cell BK137.out 0).trans rfl, (blk_cell BK137.out 1).trans rfl⟩ (fun hHeld => ?_)
     clear hK K
     refine norm_ (a' := ?_) ?_ ?_
     rotate_left
     ·show Act.put _ (some 15) _ = _
      simp only [Act.put, List.setIfInBounds_toArray, List.set_cons_zero, List.set_cons_succ, i64_w, i32_w]
      rfl
     refine pure_ (i := 9) (N := some 16) (v := ?_) (a' := ?_) (bb 12 2047) rfl rfl (any_of HT_.out (by kernel_rfl)) (fun _ _ _ h => h) (Or.inl ⟨by rfl, ?_⟩) ?_ ?_
     rotate_left
     ·intro w'
      go_simp
      with_reducible rfl
     rotate_left
     ·simp only [Act.put, List.setIfInBounds_toArray, List.set_cons_zero, List.set_cons_succ, i64_w, i32_w]
      rfl
     exact norm_ (by simp only [putAll, Act.put, List.setIfInBounds_toArray, List.set_cons_zero, List.set_cons_succ]) (hCont (.slice Ao17 t139.length co17, .slice Ao16 t142.length co16, .slice Ao15 t145.length co15, gb148) _ ⟨hHeld, (by (with_reducible repeat (first | apply Kd.R_alloc | apply Kd.R_drewN | apply Kd.R_drew)); exact Kd.R_mono HO141.out (fun _ hk => ⟨hk.1.2, hk.2⟩)), (by (with_reducible repeat (first | apply Kd.R_alloc | apply Kd.R_drewN | apply Kd.R_drew)); exact Kd.R_mono HO144.out (fun _ hk => ⟨hk.1.2, hk.2⟩)), (by (with_reducible repeat (first | apply Kd.R_alloc | apply Kd.R_drewN | apply Kd.R_drew)); exact Kd.R_mono HO147.out (fun _ hk => ⟨hk.1.2, hk.2⟩)), (by (with_reducible repeat (first | refine blk_drewN ?_ _ | refine blk_drew ?_ | refine blk_alloc ?_ _)); exact BK137.out), (by (with_reducible repeat (first | refine blk_drewN ?_ _ | refine blk_drew ?_ | refine blk_alloc ?_ _)); exact BK138.out), (by (with_reducible repeat (first | refine blk_drewN ?_ _ | refine blk_drew ?_ | refine blk_alloc ?_ _)); exact BK148.out), GW148.out, GE148.out, NB137_148.out, NB148_137.out, NB138_148.out, NB148_138.out, (by repeat (first | (with_reducible first | exact HB.out | apply below_alloc | apply pw_below_drewN | apply below_drew1 | refine below_set ?_ GE137.out | refine below_set ?_ GE138.out | refine below_set ?_ GE148.out) | exact HB.out))⟩)
   ·skip
    refine box_step ?hg (N := 5) ?hd (cs := #[.slice none 0 0, .int .i64 0, .slice none 0 0, .slice none 0 0, .slice none 0 0]) (t := 30) ?hr ?_; (case hd => rfl); (case hg => rfl); (case hr => first | (go_simp; done) | (go_simp; rfl))
    intro gb148 hg w12 hbox hb
    have n0_ := am (Kd.R_below (by (with_reducible repeat (first | apply Kd.R_alloc | apply Kd.R_drewN | apply Kd.R_drew)); exact HO141.out) hb)
    have n1_ := am (blk_below (g := gb137) (o := .cells #[.slice A0_0 l0_0.length c0_0, .slice A0_1 l0_1.length c0_1] 45 (0, 0)) (by (with_reducible repeat (first | refine blk_drewN ?_ _ | refine blk_drew ?_ | refine blk_alloc ?_ _)); exact BK137.out) hb)
    have n2_ := am (blk_below (g := gb138) (o := .cells #[.slice none 0 0, .int .i64 0, .slice none 0 0, .slice none 0 0, .slice none 0 0] 30 (0, 0)) (by (with_reducible repeat (first | refine blk_drewN ?_ _ | refine blk_drew ?_ | refine blk_alloc ?_ _)); exact BK138.out) hb)
    have n3_ := am (below_step (by repeat (first | (with_reducible first | exact HB.out | apply below_alloc | apply pw_below_drewN | apply below_drew1 | refine below_set ?_ GE137.out | refine below_set ?_ GE138.out) | exact HB.out)) hb)
    have n4_ := am (hbox)
    have n5_ := am ((by rw [hg]; exact (below_size (by repeat (first | (with_reducible first | exact HB.out | apply below_alloc | apply pw_below_drewN | apply below_drew1 | refine below_set ?_ GE137.out | refine below_set ?_ GE138.out) | exact HB.out))) : w.heap.size ≤ gb148))
    have n6_ := am ((by rw [hg]; exact (below_size (by repeat (first | (with_reducible first | exact HB.out | apply below_alloc | apply pw_below_drewN | apply below_drew1 | refine below_set ?_ GE137.out | refine below_set ?_ GE138.out) | exact HB.out))) : w.heap.size ≤ gb148))
    have n7_ := am ((by rw [hg]; exact Nat.ne_of_lt (blk_lt (g := gb137) (o := .cells #[.slice A0_0 l0_0.length c0_0, .slice A0_1 l0_1.length c0_1] 45 (0, 0)) (by (with_reducible repeat (first | refine blk_drewN ?_ _ | refine blk_drew ?_ | refine blk_alloc ?_ _)); exact BK137.out)) : gb137 ≠ gb148))
    have n8_ := am ((by rw [hg]; exact Nat.ne_of_gt (blk_lt (g := gb137) (o := .cells #[.slice A0_0 l0_0.length c0_0, .slice A0_1 l0_1.length c0_1] 45 (0, 0)) (by (with_reducible repeat (first | refine blk_drewN ?_ _ | refine blk_drew ?_ | refine blk_alloc ?_ _)); exact BK137.out)) : gb148 ≠ gb137))
    have n9_ := am ((by rw [hg]; exact Nat.ne_of_lt (blk_lt (g := gb138) (o := .cells #[.slice none 0 0, .int .i64 0, .slice none 0 0, .slice none 0 0, .slice none 0 0] 30 (0, 0)) (by (with_reducible repeat (first | refine blk_drewN ?_ _ | refine blk_drew ?_ | refine blk_alloc ?_ _)); exact BK138.out)) : gb138 ≠ gb148))
    have n10_ := am ((by rw [hg]; exact Nat.ne_of_gt (blk_lt (g := gb138) (o := .cells #[.slice none 0 0, .int .i64 0, .slice none 0 0, .slice none 0 0, .slice none 0 0] 30 (0, 0)) (by (with_reducible repeat (first | refine blk_drewN ?_ _ | refine blk_drew ?_ | refine blk_alloc ?_ _)); exact BK138.out)) : gb148 ≠ gb138))
    clear HO141
    clear BK137
    clear BK138
    clear HB
    have HO141 := n0_
    have BK137 := n1_
    have BK138 := n2_
    have HB := n3_
    have BK148 := n4_
    have GW148 := n5_
    have GE148 := n6_
    have NB137_148 := n7_
    have NB148_137 := n8_
    have NB138_148 := n9_
    have NB148_138 := n10_
    clear n0_ n1_ n2_ n3_ n4_ n5_ n6_ n7_ n8_ n9_ n10_
    clear hb hbox hg
    refine hK.out _ _ ⟨(blk_cell BK137.out 0).trans rfl, (blk_cell BK137.out 1).trans rfl⟩ (fun hHeld => ?_)
    clear hK K
    refine norm_ (a' := ?_) ?_ ?_
    rotate_left
    ·show Act.put _ (some 5) _ = _
     simp only [Act.put, List.setIfInBounds_toArray, List.set_cons_zero, List.set_cons_succ, i64_w, i32_w]
     rfl
    refine one_ (i := 5) (N := some 12) (bb 12 1279) rfl rfl (one_of HT_.out (by kernel_rfl)) (by decide) (fun K hK => ?_)
    refine goes_ Try.func40 (by kernel_rfl) rfl #[.slice A0_1 l0_1.length c0_1] (by rfl) rfl rfl (by (try simp only [List.map_toArray, List.map_cons, List.map_nil]); first | done | rfl | (simp only [List.length_drop, List.length_take]; rfl)) ?_
    with_reducible refine (slices_Clone_int_int.calls _ _ l0_1 t142 _ ?side1 ?side2 A4.out).mono ?_
    (case side1 => repeat (first | exact (Kd.C_below HR0_1.out HB.out) | (with_reducible refine Kd.C_alloc ?_ _) | (with_reducible refine Kd.C_drewN ?_ _) | (with_reducible refine Kd.C_drew ?_)))
    (case side2 => exact HC0_1.out)
    rintro e w13 ⟨v143, rfl, ho0, hb⟩
    refine ⟨_, rfl, ?_⟩
    have n0_ := am (Kd.R_elder' (by (with_reducible repeat (first | apply Kd.R_alloc | apply Kd.R_drewN | apply Kd.R_drew)); exact HO141.out) (Kd.R_base ho0) hb)
    have n1_ := am (Kd.R_lower (Kd.R_new' ho0 (Kd.R_lt (by (with_reducible repeat (first | apply Kd.R_alloc | apply Kd.R_drewN | apply Kd.R_drew)); exact HO141.out))) (below_size (by repeat (first | (with_reducible first | exact HB.out | apply below_alloc | apply pw_below_drewN | apply below_drew1 | refine below_set ?_ GE137.out | refine below_set ?_ GE138.out | refine below_set ?_ GE148.out) | exact HB.out))))
    have n2_ := am (blk_below (g := gb137) (o := .cells #[.slice A0_0 l0_0.length c0_0, .slice A0_1 l0_1.length c0_1] 45 (0, 0)) (by (with_reducible repeat (first | refine blk_drewN ?_ _ | refine blk_drew ?_ | refine blk_alloc ?_ _)); exact BK137.out) hb)
    have n3_ := am (blk_below (g := gb138) (o := .cells #[.slice none 0 0, .int .i64 0, .slice none 0 0, .slice none 0 0, .slice none 0 0] 30 (0, 0)) (by (with_reducible repeat (first | refine blk_drewN ?_ _ | refine blk_drew ?_ | refine blk_alloc ?_ _)); exact BK138.out) hb)
    have n4_ := am (blk_below (g := gb148) (o := .cells #[.slice none 0 0, .int .i64 0, .slice none 0 0, .slice none 0 0, .slice none 0 0] 30 (0, 0)) (by (with_reducible repeat (first | refine blk_drewN ?_ _ | refine blk_drew ?_ | refine blk_alloc ?_ _)); exact BK148.out) hb)
    have n5_ := am (below_step (by repeat (first | (with_reducible first | exact HB.out | apply below_alloc | apply pw_below_drewN | apply below_drew1 | refine below_set ?_ GE137.out | refine below_set ?_ GE138.out | refine below_set ?_ GE148.out) | exact HB.out)) hb)
    clear HO141
    clear BK137
    clear BK138
    clear BK148
    clear HB
    have HO141 := n0_
    have HO144 := n1_
    have BK137 := n2_
    have BK138 := n3_
    have BK148 := n4_
    have HB := n5_
    clear n0_ n1_ n2_ n3_ n4_ n5_
    (try clear hb)
    (try clear hb2)
    (try clear hk)
    (try clear hi)
    (try clear ho0)
    refine hK.out _ _ ⟨(blk_cell BK137.out 0).trans rfl, (blk_cell BK137.out 1).trans rfl⟩ (fun hHeld => ?_)
    clear hK K
    refine norm_ (a' := ?_) ?_ ?_
    rotate_left
    ·show Act.put _ (some 12) _ = _
     simp only [Act.put, List.setIfInBounds_toArray, List.set_cons_zero, List.set_cons_succ, i64_w, i32_w]
     rfl
    refine one_ (i := 8) (N := some 15) (bb 12 1535) rfl rfl (one_of HT_.out (by kernel_rfl)) (by decide) (fun K hK => ?_)
    refine goes_ Try.func40 (by kernel_rfl) rfl #[.slice A0_1 l0_1.length c0_1] (by rfl) rfl rfl (by (try simp only [List.map_toArray, List.map_cons, List.map_nil]); first | done | rfl | (simp only [List.length_drop, List.length_take]; rfl)) ?_
    with_reducible refine (slices_Clone_int_int.calls _ _ l0_1 t145 _ ?side1 ?side2 A5.out).mono ?_
    (case side1 => repeat (first | exact (Kd.C_below HR0_1.out HB.out) | (with_reducible refine Kd.C_alloc ?_ _) | (with_reducible refine Kd.C_drewN ?_ _) | (with_reducible refine Kd.C_drew ?_)))
    (case side2 => exact HC0_1.out)
    rintro e w14 ⟨v146, rfl, ho0, hb⟩
    refine ⟨_, rfl, ?_⟩
    have n0_ := am (Kd.R_elder' (by (with_reducible repeat (first | apply Kd.R_alloc | apply Kd.R_drewN | apply Kd.R_drew)); exact HO141.out) (Kd.R_base ho0) hb)
    have n1_ := am (Kd.R_elder' (by (with_reducible repeat (first | apply Kd.R_alloc | apply Kd.R_drewN | apply Kd.R_drew)); exact HO144.out) (Kd.R_base ho0) hb)
    have n2_ := am (Kd.R_lower (Kd.R_new' (Kd.R_new' ho0 (Kd.R_lt (by (with_reducible repeat (first | apply Kd.R_alloc | apply Kd.R_drewN | apply Kd.R_drew)); exact HO141.out))) (Kd.R_lt (by (with_reducible repeat (first | apply Kd.R_alloc | apply Kd.R_drewN | apply Kd.R_drew)); exact HO144.out))) (below_size (by repeat (first | (with_reducible first | exact HB.out | apply below_alloc | apply pw_below_drewN | apply below_drew1 | refine below_set ?_ GE137.out | refine below_set ?_ GE138.out | refine below_set ?_ GE148.out) | exact HB.out))))
    have n3_ := am (blk_below (g := gb137) (o := .cells #[.slice A0_0 l0_0.length c0_0, .slice A0_1 l0_1.length c0_1] 45 (0, 0)) (by (with_reducible repeat (first | refine blk_drewN ?_ _ | refine blk_drew ?_ | refine blk_alloc ?_ _)); exact BK137.out) hb)
    have n4_ := am (blk_below (g := gb138) (o := .cells #[.slice none 0 0, .int .i64 0, .slice none 0 0, .slice none 0 0, .slice none 0 0] 30 (0, 0)) (by (with_reducible repeat (first | refine blk_drewN ?_ _ | refine blk_drew ?_ | refine blk_alloc ?_ _)); exact BK138.out) hb)
    have n5_ := am (blk_below (g := gb148) (o := .cells #[.slice none 0 0, .int .i64 0, .slice none 0 0, .slice none 0 0, .slice none 0 0] 30 (0, 0)) (by (with_reducible repeat (first | refine blk_drewN ?_ _ | refine blk_drew ?_ | refine blk_alloc ?_ _)); exact BK148.out) hb)
    have n6_ := am (below_step (by repeat (first | (with_reducible first | exact HB.out | apply below_alloc | apply pw_below_drewN | apply below_drew1 | refine below_set ?_ GE137.out | refine below_set ?_ GE138.out | refine below_set ?_ GE148.out) | exact HB.out)) hb)
    clear HO141
    clear HO144
    clear BK137
    clear BK138
    clear BK148
    clear HB
    have HO141 := n0_
    have HO144 := n1_
    have HO147 := n2_
    have BK137 := n3_
    have BK138 := n4_
    have BK148 := n5_
    have HB := n6_
    clear n0_ n1_ n2_ n3_ n4_ n5_ n6_
    (try clear hb)
    (try clear hb2)
    (try clear hk)
    (try clear hi)
    (try clear ho0)
    obtain ⟨Ao15, co15, eo15⟩ := Kd.R_slice HO147.out
    (first | subst eo15 | (injection eo15 with f1_ f2_ f3_; have f4_ := f1_.symm; have f5_ := f3_.symm; clear f1_ f2_ f3_; subst f4_; subst f5_))
    obtain ⟨Ao16, co16, eo16⟩ := Kd.R_slice HO144.out
    (first | subst eo16 | (injection eo16 with f1_ f2_ f3_; have f4_ := f1_.symm; have f5_ := f3_.symm; clear f1_ f2_ f3_; subst f4_; subst f5_))
    obtain ⟨Ao17, co17, eo17⟩ := Kd.R_slice HO141.out
    (first | subst eo17 | (injection eo17 with f1_ f2_ f3_; have f4_ := f1_.symm; have f5_ := f3_.symm; clear f1_ f2_ f3_; subst f4_; subst f5_))
    refine hK.out _ _ ⟨(blk_cell BK137.out 0).trans rfl, (blk_cell BK137.out 1).trans rfl⟩ (fun hHeld => ?_)
    clear hK K
    refine norm_ (a' := ?_) ?_ ?_
    rotate_left
    ·show Act.put _ (some 15) _ = _
     simp only [Act.put, List.setIfInBounds_toArray, List.set_cons_zero, List.set_cons_succ, i64_w, i32_w]
     rfl
    refine pure_ (i := 9) (N := some 16) (v := ?_) (a' := ?_) (bb 12 2047) rfl rfl (any_of HT_.out (by kernel_rfl)) (fun _ _ _ h => h) (Or.inl ⟨by rfl, ?_⟩) ?_ ?_
    rotate_left
    ·intro w'
     go_simp
     with_reducible rfl
    rotate_left
    ·simp only [Act.put, List.setIfInBounds_toArray, List.set_cons_zero, List.set_cons_succ, i64_w, i32_w]
     rfl
    exact norm_ (by simp only [putAll, Act.put, List.setIfInBounds_toArray, List.set_cons_zero, List.set_cons_succ]) (hCont (.slice Ao17 t139.length co17, .slice Ao16 t142.length co16, .slice Ao15 t145.length co15, gb148) _ ⟨hHeld, (by (with_reducible repeat (first | apply Kd.R_alloc | apply Kd.R_drewN | apply Kd.R_drew)); exact Kd.R_mono HO141.out (fun _ hk => ⟨hk.1.2, hk.2⟩)), (by (with_reducible repeat (first | apply Kd.R_alloc | apply Kd.R_drewN | apply Kd.R_drew)); exact Kd.R_mono HO144.out (fun _ hk => ⟨hk.1.2, hk.2⟩)), (by (with_reducible repeat (first | apply Kd.R_alloc | apply Kd.R_drewN | apply Kd.R_drew)); exact Kd.R_mono HO147.out (fun _ hk => ⟨hk.1.2, hk.2⟩)), (by (with_reducible repeat (first | refine blk_drewN ?_ _ | refine blk_drew ?_ | refine blk_alloc ?_ _)); exact BK137.out), (by (with_reducible repeat (first | refine blk_drewN ?_ _ | refine blk_drew ?_ | refine blk_alloc ?_ _)); exact BK138.out), (by (with_reducible repeat (first | refine blk_drewN ?_ _ | refine blk_drew ?_ | refine blk_alloc ?_ _)); exact BK148.out), GW148.out, GE148.out, NB137_148.out, NB148_137.out, NB138_148.out, NB148_138.out, (by repeat (first | (with_reducible first | exact HB.out | apply below_alloc | apply pw_below_drewN | apply below_drew1 | refine below_set ?_ GE137.out | refine below_set ?_ GE138.out | refine below_set ?_ GE148.out) | exact HB.out))⟩)
  ·skip
   refine box_step ?hg (N := 5) ?hd (cs := #[.slice none 0 0, .int .i64 0, .slice none 0 0, .slice none 0 0, .slice none 0 0]) (t := 30) ?hr ?_; (case hd => rfl); (case hg => rfl); (case hr => first | (go_simp; done) | (go_simp; rfl))
   intro gb148 hg w11 hbox hb
   have n0_ := am (blk_below (g := gb137) (o := .cells #[.slice A0_0 l0_0.length c0_0, .slice A0_1 l0_1.length c0_1] 45 (0, 0)) (by (with_reducible repeat (first | refine blk_drewN ?_ _ | refine blk_drew ?_ | refine blk_alloc ?_ _)); exact BK137.out) hb)
   have n1_ := am (blk_below (g := gb138) (o := .cells #[.slice none 0 0, .int .i64 0, .slice none 0 0, .slice none 0 0, .slice none 0 0] 30 (0, 0)) (by (with_reducible repeat (first | refine blk_drewN ?_ _ | refine blk_drew ?_ | refine blk_alloc ?_ _)); exact BK138.out) hb)
   have n2_ := am (below_step (by repeat (first | (with_reducible first | exact HB.out | apply below_alloc | apply pw_below_drewN | apply below_drew1 | refine below_set ?_ GE137.out | refine below_set ?_ GE138.out) | exact HB.out)) hb)
   have n3_ := am (hbox)
   have n4_ := am ((by rw [hg]; exact (below_size (by repeat (first | (with_reducible first | exact HB.out | apply below_alloc | apply pw_below_drewN | apply below_drew1 | refine below_set ?_ GE137.out | refine below_set ?_ GE138.out) | exact HB.out))) : w.heap.size ≤ gb148))
   have n5_ := am ((by rw [hg]; exact (below_size (by repeat (first | (with_reducible first | exact HB.out | apply below_alloc | apply pw_below_drewN | apply below_drew1 | refine below_set ?_ GE137.out | refine below_set ?_ GE138.out) | exact HB.out))) : w.heap.size ≤ gb148))
   have n6_ := am ((by rw [hg]; exact Nat.ne_of_lt (blk_lt (g := gb137) (o := .cells #[.slice A0_0 l0_0.length c0_0, .slice A0_1 l0_1.length c0_1] 45 (0, 0)) (by (with_reducible repeat (first | refine blk_drewN ?_ _ | refine blk_drew ?_ | refine blk_alloc ?_ _)); exact BK137.out)) : gb137 ≠ gb148))
   have n7_ := am ((by rw [hg]; exact Nat.ne_of_gt (blk_lt (g := gb137) (o := .cells #[.slice A0_0 l0_0.length c0_0, .slice A0_1 l0_1.length c0_1] 45 (0, 0)) (by (with_reducible repeat (first | refine blk_drewN ?_ _ | refine blk_drew ?_ | refine blk_alloc ?_ _)); exact BK137.out)) : gb148 ≠ gb137))
   have n8_ := am ((by rw [hg]; exact Nat.ne_of_lt (blk_lt (g := gb138) (o := .cells #[.slice none 0 0, .int .i64 0, .slice none 0 0, .slice none 0 0, .slice none 0 0] 30 (0, 0)) (by (with_reducible repeat (first | refine blk_drewN ?_ _ | refine blk_drew ?_ | refine blk_alloc ?_ _)); exact BK138.out)) : gb138 ≠ gb148))
   have n9_ := am ((by rw [hg]; exact Nat.ne_of_gt (blk_lt (g := gb138) (o := .cells #[.slice none 0 0, .int .i64 0, .slice none 0 0, .slice none 0 0, .slice none 0 0] 30 (0, 0)) (by (with_reducible repeat (first | refine blk_drewN ?_ _ | refine blk_drew ?_ | refine blk_alloc ?_ _)); exact BK138.out)) : gb148 ≠ gb138))
   clear BK137
   clear BK138
   clear HB
   have BK137 := n0_
   have BK138 := n1_
   have HB := n2_
   have BK148 := n3_
   have GW148 := n4_
   have GE148 := n5_
   have NB137_148 := n6_
   have NB148_137 := n7_
   have NB138_148 := n8_
   have NB148_138 := n9_
   clear n0_ n1_ n2_ n3_ n4_ n5_ n6_ n7_ n8_ n9_
   clear hb hbox hg
   refine hK.out _ _ ⟨(blk_cell BK137.out 0).trans rfl, (blk_cell BK137.out 1).trans rfl⟩ (fun hHeld => ?_)
   clear hK K
   refine norm_ (a' := ?_) ?_ ?_
   rotate_left
   ·show Act.put _ (some 5) _ = _
    simp only [Act.put, List.setIfInBounds_toArray, List.set_cons_zero, List.set_cons_succ, i64_w, i32_w]
    rfl
   refine one_ (i := 2) (N := some 9) (bb 12 1247) rfl rfl (one_of HT_.out (by kernel_rfl)) (by decide) (fun K hK => ?_)
   refine goes_ Try.func40 (by kernel_rfl) rfl #[.slice A0_1 l0_1.length c0_1] (by rfl) rfl rfl (by (try simp only [List.map_toArray, List.map_cons, List.map_nil]); first | done | rfl | (simp only [List.length_drop, List.length_take]; rfl)) ?_
   with_reducible refine (slices_Clone_int_int.calls _ _ l0_1 t139 _ ?side1 ?side2 A3.out).mono ?_
   (case side1 => repeat (first | exact (Kd.C_below HR0_1.out HB.out) | (with_reducible refine Kd.C_alloc ?_ _) | (with_reducible refine Kd.C_drewN ?_ _) | (with_reducible refine Kd.C_drew ?_)))
   (case side2 => exact HC0_1.out)
   rintro e w12 ⟨v140, rfl, ho0, hb⟩
   refine ⟨_, rfl, ?_⟩
   have n0_ := am (Kd.R_lower ho0 (below_size (by repeat (first | (with_reducible first | exact HB.out | apply below_alloc | apply pw_below_drewN | apply below_drew1 | refine below_set ?_ GE137.out | refine below_set ?_ GE138.out | refine below_set ?_ GE148.out) | exact HB.out))))
   have n1_ := am (blk_below (g := gb137) (o := .cells #[.slice A0_0 l0_0.length c0_0, .slice A0_1 l0_1.length c0_1] 45 (0, 0)) (by (with_reducible repeat (first | refine blk_drewN ?_ _ | refine blk_drew ?_ | refine blk_alloc ?_ _)); exact BK137.out) hb)
   have n2_ := am (blk_below (g := gb138) (o := .cells #[.slice none 0 0, .int .i64 0, .slice none 0 0, .slice none 0 0, .slice none 0 0] 30 (0, 0)) (by (with_reducible repeat (first | refine blk_drewN ?_ _ | refine blk_drew ?_ | refine blk_alloc ?_ _)); exact BK138.out) hb)
   have n3_ := am (blk_below (g := gb148) (o := .cells #[.slice none 0 0, .int .i64 0, .slice none 0 0, .slice none 0 0, .slice none 0 0] 30 (0, 0)) (by (with_reducible repeat (first | refine blk_drewN ?_ _ | refine blk_drew ?_ | refine blk_alloc ?_ _)); exact BK148.out) hb)
   have n4_ := am (below_step (by repeat (first | (with_reducible first | exact HB.out | apply below_alloc | apply pw_below_drewN | apply below_drew1 | refine below_set ?_ GE137.out | refine below_set ?_ GE138.out | refine below_set ?_ GE148.out) | exact HB.out)) hb)
   clear BK137
   clear BK138
   clear BK148
   clear HB
   have HO141 := n0_
   have BK137 := n1_
   have BK138 := n2_
   have BK148 := n3_
   have HB := n4_
   clear n0_ n1_ n2_ n3_ n4_
   (try clear hb)
   (try clear hb2)
   (try clear hk)
   (try clear hi)
   (try clear ho0)
   refine hK.out _ _ ⟨(blk_cell BK137.out 0).trans rfl, (blk_cell BK137.out 1).trans rfl⟩ (fun hHeld => ?_)
   clear hK K
   refine norm_ (a' := ?_) ?_ ?_
   rotate_left
   ·show Act.put _ (some 9) _ = _
    simp only [Act.put, List.setIfInBounds_toArray, List.set_cons_zero, List.set_cons_succ, i64_w, i32_w]
    rfl
   refine one_ (i := 5) (N := some 12) (bb 12 1279) rfl rfl (one_of HT_.out (by kernel_rfl)) (by decide) (fun K hK => ?_)
   refine goes_ Try.func40 (by kernel_rfl) rfl #[.slice A0_1 l0_1.length c0_1] (by rfl) rfl rfl (by (try simp only [List.map_toArray, List.map_cons, List.map_nil]); first | done | rfl | (simp only [List.length_drop, List.length_take]; rfl)) ?_
   with_reducible refine (slices_Clone_int_int.calls _ _ l0_1 t142 _ ?side1 ?side2 A4.out).mono ?_
   (case side1 => repeat (first | exact (Kd.C_below HR0_1.out HB.out) | (with_reducible refine Kd.C_alloc ?_ _) | (with_reducible refine Kd.C_drewN ?_ _) | (with_reducible refine Kd.C_drew ?_)))
   (case side2 => exact HC0_1.out)
   rintro e w13 ⟨v143, rfl, ho0, hb⟩
   refine ⟨_, rfl, ?_⟩
   have n0_ := am (Kd.R_elder' (by (with_reducible repeat (first | apply Kd.R_alloc | apply Kd.R_drewN | apply Kd.R_drew)); exact HO141.out) (Kd.R_base ho0) hb)
   have n1_ := am (Kd.R_lower (Kd.R_new' ho0 (Kd.R_lt (by (with_reducible repeat (first | apply Kd.R_alloc | apply Kd.R_drewN | apply Kd.R_drew)); exact HO141.out))) (below_size (by repeat (first | (with_reducible first | exact HB.out | apply below_alloc | apply pw_below_drewN | apply below_drew1 | refine below_set ?_ GE137.out | refine below_set ?_ GE138.out | refine below_set ?_ GE148.out) | exact HB.out))))
   have n2_ := am (blk_below (g := gb137) (o := .cells #[.slice A0_0 l0_0.length c0_0, .slice A0_1 l0_1.length c0_1] 45 (0, 0)) (by (with_reducible repeat (first | refine blk_drewN ?_ _ | refine blk_drew ?_ | refine blk_alloc ?_ _)); exact BK137.out) hb)
   have n3_ := am (blk_below (g := gb138) (o := .cells #[.slice none 0 0, .int .i64 0, .slice none 0 0, .slice none 0 0, .slice none 0 0] 30 (0, 0)) (by (with_reducible repeat (first | refine blk_drewN ?_ _ | refine blk_drew ?_ | refine blk_alloc ?_ _)); exact BK138.out) hb)
   have n4_ := am (blk_below (g := gb148) (o := .cells #[.slice none 0 0, .int .i64 0, .slice none 0 0, .slice none 0 0, .slice none 0 0] 30 (0, 0)) (by (with_reducible repeat (first | refine blk_drewN ?_ _ | refine blk_drew ?_ | refine blk_alloc ?_ _)); exact BK148.out) hb)
   have n5_ := am (below_step (by repeat (first | (with_reducible first | exact HB.out | apply below_alloc | apply pw_below_drewN | apply below_drew1 | refine below_set ?_ GE137.out | refine below_set ?_ GE138.out | refine below_set ?_ GE148.out) | exact HB.out)) hb)
   clear HO141
   clear BK137
   clear BK138
   clear BK148
   clear HB
   have HO141 := n0_
   have HO144 := n1_
   have BK137 := n2_
   have BK138 := n3_
   have BK148 := n4_
   have HB := n5_
   clear n0_ n1_ n2_ n3_ n4_ n5_
   (try clear hb)
   (try clear hb2)
   (try clear hk)
   (try clear hi)
   (try clear ho0)
   refine hK.out _ _ ⟨(blk_cell BK137.out 0).trans rfl, (blk_cell BK137.out 1).trans rfl⟩ (fun hHeld => ?_)
   clear hK K
   refine norm_ (a' := ?_) ?_ ?_
   rotate_left
   ·show Act.put _ (some 12) _ = _
    simp only [Act.put, List.setIfInBounds_toArray, List.set_cons_zero, List.set_cons_succ, i64_w, i32_w]
    rfl
   refine one_ (i := 8) (N := some 15) (bb 12 1535) rfl rfl (one_of HT_.out (by kernel_rfl)) (by decide) (fun K hK => ?_)
   refine goes_ Try.func40 (by kernel_rfl) rfl #[.slice A0_1 l0_1.length c0_1] (by rfl) rfl rfl (by (try simp only [List.map_toArray, List.map_cons, List.map_nil]); first | done | rfl | (simp only [List.length_drop, List.length_take]; rfl)) ?_
   with_reducible refine (slices_Clone_int_int.calls _ _ l0_1 t145 _ ?side1 ?side2 A5.out).mono ?_
   (case side1 => repeat (first | exact (Kd.C_below HR0_1.out HB.out) | (with_reducible refine Kd.C_alloc ?_ _) | (with_reducible refine Kd.C_drewN ?_ _) | (with_reducible refine Kd.C_drew ?_)))
   (case side2 => exact HC0_1.out)
   rintro e w14 ⟨v146, rfl, ho0, hb⟩
   refine ⟨_, rfl, ?_⟩
   have n0_ := am (Kd.R_elder' (by (with_reducible repeat (first | apply Kd.R_alloc | apply Kd.R_drewN | apply Kd.R_drew)); exact HO141.out) (Kd.R_base ho0) hb)
   have n1_ := am (Kd.R_elder' (by (with_reducible repeat (first | apply Kd.R_alloc | apply Kd.R_drewN | apply Kd.R_drew)); exact HO144.out) (Kd.R_base ho0) hb)
   have n2_ := am (Kd.R_lower (Kd.R_new' (Kd.R_new' ho0 (Kd.R_lt (by (with_reducible repeat (first | apply Kd.R_alloc | apply Kd.R_drewN | apply Kd.R_drew)); exact HO141.out))) (Kd.R_lt (by (with_reducible repeat (first | apply Kd.R_alloc | apply Kd.R_drewN | apply Kd.R_drew)); exact HO144.out))) (below_size (by repeat (first | (with_reducible first | exact HB.out | apply below_alloc | apply pw_below_drewN | apply below_drew1 | refine below_set ?_ GE137.out | refine below_set ?_ GE138.out | refine below_set ?_ GE148.out) | exact HB.out))))
   have n3_ := am (blk_below (g := gb137) (o := .cells #[.slice A0_0 l0_0.length c0_0, .slice A0_1 l0_1.length c0_1] 45 (0, 0)) (by (with_reducible repeat (first | refine blk_drewN ?_ _ | refine blk_drew ?_ | refine blk_alloc ?_ _)); exact BK137.out) hb)
   have n4_ := am (blk_below (g := gb138) (o := .cells #[.slice none 0 0, .int .i64 0, .slice none 0 0, .slice none 0 0, .slice none 0 0] 30 (0, 0)) (by (with_reducible repeat (first | refine blk_drewN ?_ _ | refine blk_drew ?_ | refine blk_alloc ?_ _)); exact BK138.out) hb)
   have n5_ := am (blk_below (g := gb148) (o := .cells #[.slice none 0 0, .int .i64 0, .slice none 0 0, .slice none 0 0, .slice none 0 0] 30 (0, 0)) (by (with_reducible repeat (first | refine blk_drewN ?_ _ | refine blk_drew ?_ | refine blk_alloc ?_ _)); exact BK148.out) hb)
   have n6_ := am (below_step (by repeat (first | (with_reducible first | exact HB.out | apply below_alloc | apply pw_below_drewN | apply below_drew1 | refine below_set ?_ GE137.out | refine below_set ?_ GE138.out | refine below_set ?_ GE148.out) | exact HB.out)) hb)
   clear HO141
   clear HO144
   clear BK137
   clear BK138
   clear BK148
   clear HB
   have HO141 := n0_
   have HO144 := n1_
   have HO147 := n2_
   have BK137 := n3_
   have BK138 := n4_
   have BK148 := n5_
   have HB := n6_
   clear n0_ n1_ n2_ n3_ n4_ n5_ n6_
   (try clear hb)
   (try clear hb2)
   (try clear hk)
   (try clear hi)
   (try clear ho0)
   obtain ⟨Ao15, co15, eo15⟩ := Kd.R_slice HO147.out
   (first | subst eo15 | (injection eo15 with f1_ f2_ f3_; have f4_ := f1_.symm; have f5_ := f3_.symm; clear f1_ f2_ f3_; subst f4_; subst f5_))
   obtain ⟨Ao16, co16, eo16⟩ := Kd.R_slice HO144.out
   (first | subst eo16 | (injection eo16 with f1_ f2_ f3_; have f4_ := f1_.symm; have f5_ := f3_.symm; clear f1_ f2_ f3_; subst f4_; subst f5_))
   obtain ⟨Ao17, co17, eo17⟩ := Kd.R_slice HO141.out
   (first | subst eo17 | (injection eo17 with f1_ f2_ f3_; have f4_ := f1_.symm; have f5_ := f3_.symm; clear f1_ f2_ f3_; subst f4_; subst f5_))
   refine hK.out _ _ ⟨(blk_cell BK137.out 0).trans rfl, (blk_cell BK137.out 1).trans rfl⟩ (fun hHeld => ?_)
   clear hK K
   refine norm_ (a' := ?_) ?_ ?_
   rotate_left
   ·show Act.put _ (some 15) _ = _
    simp only [Act.put, List.setIfInBounds_toArray, List.set_cons_zero, List.set_cons_succ, i64_w, i32_w]
    rfl
   refine pure_ (i := 9) (N := some 16) (v := ?_) (a' := ?_) (bb 12 2047) rfl rfl (any_of HT_.out (by kernel_rfl)) (fun _ _ _ h => h) (Or.inl ⟨by rfl, ?_⟩) ?_ ?_
   rotate_left
   ·intro w'
    go_simp
    with_reducible rfl
   rotate_left
   ·simp only [Act.put, List.setIfInBounds_toArray, List.set_cons_zero, List.set_cons_succ, i64_w, i32_w]
    rfl
   exact norm_ (by simp only [putAll, Act.put, List.setIfInBounds_toArray, List.set_cons_zero, List.set_cons_succ]) (hCont (.slice Ao17 t139.length co17, .slice Ao16 t142.length co16, .slice Ao15 t145.length co15, gb148) _ ⟨hHeld, (by (with_reducible repeat (first | apply Kd.R_alloc | apply Kd.R_drewN | apply Kd.R_drew)); exact Kd.R_mono HO141.out (fun _ hk => ⟨hk.1.2, hk.2⟩)), (by (with_reducible repeat (first | apply Kd.R_alloc | apply Kd.R_drewN | apply Kd.R_drew)); exact Kd.R_mono HO144.out (fun _ hk => ⟨hk.1.2, hk.2⟩)), (by (with_reducible repeat (first | apply Kd.R_alloc | apply Kd.R_drewN | apply Kd.R_drew)); exact Kd.R_mono HO147.out (fun _ hk => ⟨hk.1.2, hk.2⟩)), (by (with_reducible repeat (first | refine blk_drewN ?_ _ | refine blk_drew ?_ | refine blk_alloc ?_ _)); exact BK137.out), (by (with_reducible repeat (first | refine blk_drewN ?_ _ | refine blk_drew ?_ | refine blk_alloc ?_ _)); exact BK138.out), (by (with_reducible repeat (first | refine blk_drewN ?_ _ | refine blk_drew ?_ | refine blk_alloc ?_ _)); exact BK148.out), GW148.out, GE148.out, NB137_148.out, NB148_137.out, NB138_148.out, NB148_138.out, (by repeat (first | (with_reducible first | exact HB.out | apply below_alloc | apply pw_below_drewN | apply below_drew1 | refine below_set ?_ GE137.out | refine below_set ?_ GE138.out | refine below_set ?_ GE148.out) | exact HB.out))⟩)
 rintro ⟨v140, v143, v146, gb148⟩ w18 ⟨hS_, h0_, h1_, h2_, h3_, h4_, h5_, h6_, h7_, h8_, h9_, h10_, h11_, h12_⟩
 have n0_ : Aside0 (Kd.R (Kd.int .i64) 3 w18 w.heap.size (fun k_ => some k_ ≠ (v143 : Value).ownBlock ∧ some k_ ≠ (v146 : Value).ownBlock) v140 t139) := ⟨h0_⟩
 have n1_ : Aside0 (Kd.R (Kd.int .i64) 3 w18 w.heap.size (fun k_ => some k_ ≠ (v140 : Value).ownBlock ∧ some k_ ≠ (v146 : Value).ownBlock) v143 t142) := ⟨h1_⟩
 have n2_ : Aside0 (Kd.R (Kd.int .i64) 3 w18 w.heap.size (fun k_ => some k_ ≠ (v140 : Value).ownBlock ∧ some k_ ≠ (v143 : Value).ownBlock) v146 t145) := ⟨h2_⟩
 have n3_ : Aside0 (w18.heap[gb137]? = some (.cells #[.slice A0_0 l0_0.length c0_0, .slice A0_1 l0_1.length c0_1] 45 (0, 0))) := ⟨h3_⟩
 have n4_ : Aside0 (w18.heap[gb138]? = some (.cells #[.slice none 0 0, .int .i64 0, .slice none 0 0, .slice none 0 0, .slice none 0 0] 30 (0, 0))) := ⟨h4_⟩
 have n5_ : Aside0 (w18.heap[gb148]? = some (.cells #[.slice none 0 0, .int .i64 0, .slice none 0 0, .slice none 0 0, .slice none 0 0] 30 (0, 0))) := ⟨h5_⟩
 have n6_ : Aside0 (w.heap.size ≤ gb148) := ⟨h6_⟩
 have n7_ : Aside0 (w.heap.size ≤ gb148) := ⟨h7_⟩
 have n8_ : Aside0 (gb137 ≠ gb148) := ⟨h8_⟩
 have n9_ : Aside0 (gb148 ≠ gb137) := ⟨h9_⟩
 have n10_ : Aside0 (gb138 ≠ gb148) := ⟨h10_⟩
 have n11_ : Aside0 (gb148 ≠ gb138) := ⟨h11_⟩
 have n12_ : Aside0 (Below w.heap.size w w18) := ⟨h12_⟩
 clear BK137
 clear BK138
 clear HB
 clear h0_ h1_ h2_ h3_ h4_ h5_ h6_ h7_ h8_ h9_ h10_ h11_ h12_
 have HO141 := n0_
 have HO144 := n1_
 have HO147 := n2_
 have BK137 := n3_
 have BK138 := n4_
 have BK148 := n5_
 have GW148 := n6_
 have GE148 := n7_
 have NB137_148 := n8_
 have NB148_137 := n9_
 have NB138_148 := n10_
 have NB148_138 := n11_
 have HB := n12_
 clear n0_ n1_ n2_ n3_ n4_ n5_ n6_ n7_ n8_ n9_ n10_ n11_ n12_
 have hHeld : w18.cell? ⟨gb137, 0, none⟩ = some (.slice A0_0 l0_0.length c0_0) ∧ w18.cell? ⟨gb137, 1, none⟩ = some (.slice A0_1 l0_1.length c0_1) := hS_
 obtain ⟨Ao19, co19, eo19⟩ := Kd.R_slice HO147.out
 (first | subst eo19 | (injection eo19 with f1_ f2_ f3_; have f4_ := f1_.symm; have f5_ := f3_.symm; clear f1_ f2_ f3_; subst f4_; subst f5_))
 obtain ⟨Ao20, co20, eo20⟩ := Kd.R_slice HO144.out
 (first | subst eo20 | (injection eo20 with f1_ f2_ f3_; have f4_ := f1_.symm; have f5_ := f3_.symm; clear f1_ f2_ f3_; subst f4_; subst f5_))
 obtain ⟨Ao21, co21, eo21⟩ := Kd.R_slice HO141.out
 (first | subst eo21 | (injection eo21 with f1_ f2_ f3_; have f4_ := f1_.symm; have f5_ := f3_.symm; clear f1_ f2_ f3_; subst f4_; subst f5_))
 refine norm_ (a' := ?_) ?_ ?_
 rotate_left
 ·simp only [putAll, Act.put, List.setIfInBounds_toArray, List.set_cons_zero, List.set_cons_succ]
  rfl
 refine one_ (i := 11) (N := none) (bb 12 4095) rfl rfl (one_of HT_.out (by kernel_rfl)) (by decide) (fun K hK => ?_)
 have hs22 : w18.cell? ⟨gb148, 0, none⟩ = some (.slice none 0 0) := (blk_cell BK148.out 0).trans rfl
 have hfs22 := blk_frozen BK148.out 0
 have hns22_0 := NB137_148.out
 have hns22_1 := NB138_148.out
 have hms22_0 := NB148_137.out
 have hms22_1 := NB148_138.out
 have hs23 : w18.cell? ⟨gb148, 1, none⟩ = some (.int .i64 0) := (blk_cell BK148.out 1).trans rfl
 have hfs23 := blk_frozen BK148.out 1
 have hns23_0 := NB137_148.out
 have hns23_1 := NB138_148.out
 have hms23_0 := NB148_137.out
 have hms23_1 := NB148_138.out
 have hs24 : w18.cell? ⟨gb148, 2, none⟩ = some (.slice none 0 0) := (blk_cell BK148.out 2).trans rfl
 have hfs24 := blk_frozen BK148.out 2
 have hns24_0 := NB137_148.out
 have hns24_1 := NB138_148.out
 have hms24_0 := NB148_137.out
 have hms24_1 := NB148_138.out
 have hs25 : w18.cell? ⟨gb148, 3, none⟩ = some (.slice none 0 0) := (blk_cell BK148.out 3).trans rfl
 have hfs25 := blk_frozen BK148.out 3
 have hns25_0 := NB137_148.out
 have hns25_1 := NB138_148.out
 have hms25_0 := NB148_137.out
 have hms25_1 := NB148_138.out
 have hs26 : w18.cell? ⟨gb148, 4, none⟩ = some (.slice none 0 0) := (blk_cell BK148.out 4).trans rfl
 have hfs26 := blk_frozen BK148.out 4
 have hns26_0 := NB137_148.out
 have hns26_1 := NB138_148.out
 have hms26_0 := NB148_137.out
 have hms26_1 := NB148_138.out
 refine skip_ (w1 := ?_) (by rfl) rfl ?_ ?_
 rotate_left
 ·go_simp
  rfl
 refine hK.out _ _ ⟨((cell_far (p := ⟨gb148, _, none⟩) NB137_148.out _).trans (((cell_far (p := ⟨gb148, _, none⟩) NB137_148.out _).trans (((cell_far (p := ⟨gb148, _, none⟩) NB137_148.out _).trans (((cell_far (p := ⟨gb148, _, none⟩) NB137_148.out _).trans (((cell_far (p := ⟨gb148, _, none⟩) NB137_148.out _).trans (hHeld.1)))))))))), ((cell_far (p := ⟨gb148, _, none⟩) NB137_148.out _).trans (((cell_far (p := ⟨gb148, _, none⟩) NB137_148.out _).trans (((cell_far (p := ⟨gb148, _, none⟩) NB137_148.out _).trans (((cell_far (p := ⟨gb148, _, none⟩) NB137_148.out _).trans (((cell_far (p := ⟨gb148, _, none⟩) NB137_148.out _).trans (hHeld.2))))))))))⟩ (fun hHeld => ?_)
 clear hK K
 refine done_ (done_of HT_.out (by kernel_rfl)) ?_
 have hnb27 := NB137_138.out
 have hnc27 := NB138_137.out
 have hnb28 := NB137_148.out
 have hnc28 := NB148_137.out
 have hcz29_0 : w18.cell? ⟨gb137, 0, none⟩ = some (.slice A0_0 l0_0.length c0_0) := (blk_cell BK137.out 0).trans rfl
 have hcz29_1 : w18.cell? ⟨gb137, 1, none⟩ = some (.slice A0_1 l0_1.length c0_1) := (blk_cell BK137.out 1).trans rfl
 have hfz29_0 := blk_frozen BK137.out 0
 have hfz29_1 := blk_frozen BK137.out 1
 go_wp2_with (fail)
 refine name_world ?_
 intro w30 hw30
 have hb := below_of_eq hw30
 have ho0 := nil_of_eq 3 hw30
 have n0_ := am (Kd.R_elder' (by (with_reducible repeat (first | apply Kd.R_alloc | apply Kd.R_drewN | apply Kd.R_drew)); exact (Kd.R_mono (Kd.R_far (p := ⟨gb148, 4, none⟩) (Kd.R_far (p := ⟨gb148, 3, none⟩) (Kd.R_far (p := ⟨gb148, 2, none⟩) (Kd.R_far (p := ⟨gb148, 1, none⟩) (Kd.R_far (p := ⟨gb148, 0, none⟩) (Kd.R_types HO141.out BK148.out (by decide)) (fun _ hk => hk.2) (.slice none 0 0)) (fun _ hk => hk.2) (.int .i64 1)) (fun _ hk => hk.2) (.slice Ao21 t139.length co21)) (fun _ hk => hk.2) (.slice Ao20 t142.length co20)) (fun _ hk => hk.2) (.slice Ao19 t145.length co19)) (fun _ h_ => h_.1))) (Kd.R_base ho0) hb)
 have n1_ := am (Kd.R_elder' (by (with_reducible repeat (first | apply Kd.R_alloc | apply Kd.R_drewN | apply Kd.R_drew)); exact (Kd.R_mono (Kd.R_far (p := ⟨gb148, 4, none⟩) (Kd.R_far (p := ⟨gb148, 3, none⟩) (Kd.R_far (p := ⟨gb148, 2, none⟩) (Kd.R_far (p := ⟨gb148, 1, none⟩) (Kd.R_far (p := ⟨gb148, 0, none⟩) (Kd.R_types HO144.out BK148.out (by decide)) (fun _ hk => hk.2) (.slice none 0 0)) (fun _ hk => hk.2) (.int .i64 1)) (fun _ hk => hk.2) (.slice Ao21 t139.length co21)) (fun _ hk => hk.2) (.slice Ao20 t142.length co20)) (fun _ hk => hk.2) (.slice Ao19 t145.length co19)) (fun _ h_ => h_.1))) (Kd.R_base ho0) hb)
 have n2_ := am (Kd.R_elder' (by (with_reducible repeat (first | apply Kd.R_alloc | apply Kd.R_drewN | apply Kd.R_drew)); exact (Kd.R_mono (Kd.R_far (p := ⟨gb148, 4, none⟩) (Kd.R_far (p := ⟨gb148, 3, none⟩) (Kd.R_far (p := ⟨gb148, 2, none⟩) (Kd.R_far (p := ⟨gb148, 1, none⟩) (Kd.R_far (p := ⟨gb148, 0, none⟩) (Kd.R_types HO147.out BK148.out (by decide)) (fun _ hk => hk.2) (.slice none 0 0)) (fun _ hk => hk.2) (.int .i64 1)) (fun _ hk => hk.2) (.slice Ao21 t139.length co21)) (fun _ hk => hk.2) (.slice Ao20 t142.length co20)) (fun _ hk => hk.2) (.slice Ao19 t145.length co19)) (fun _ h_ => h_.1))) (Kd.R_base ho0) hb)
 have n3_ := am (Kd.R_lower (Kd.R_new' (Kd.R_new' (Kd.R_new' ho0 (Kd.R_lt (by (with_reducible repeat (first | apply Kd.R_alloc | apply Kd.R_drewN | apply Kd.R_drew)); exact (Kd.R_mono (Kd.R_far (p := ⟨gb148, 4, none⟩) (Kd.R_far (p := ⟨gb148, 3, none⟩) (Kd.R_far (p := ⟨gb148, 2, none⟩) (Kd.R_far (p := ⟨gb148, 1, none⟩) (Kd.R_far (p := ⟨gb148, 0, none⟩) (Kd.R_types HO141.out BK148.out (by decide)) (fun _ hk => hk.2) (.slice none 0 0)) (fun _ hk => hk.2) (.int .i64 1)) (fun _ hk => hk.2) (.slice Ao21 t139.length co21)) (fun _ hk => hk.2) (.slice Ao20 t142.length co20)) (fun _ hk => hk.2) (.slice Ao19 t145.length co19)) (fun _ h_ => h_.1))))) (Kd.R_lt (by (with_reducible repeat (first | apply Kd.R_alloc | apply Kd.R_drewN | apply Kd.R_drew)); exact (Kd.R_mono (Kd.R_far (p := ⟨gb148, 4, none⟩) (Kd.R_far (p := ⟨gb148, 3, none⟩) (Kd.R_far (p := ⟨gb148, 2, none⟩) (Kd.R_far (p := ⟨gb148, 1, none⟩) (Kd.R_far (p := ⟨gb148, 0, none⟩) (Kd.R_types HO144.out BK148.out (by decide)) (fun _ hk => hk.2) (.slice none 0 0)) (fun _ hk => hk.2) (.int .i64 1)) (fun _ hk => hk.2) (.slice Ao21 t139.length co21)) (fun _ hk => hk.2) (.slice Ao20 t142.length co20)) (fun _ hk => hk.2) (.slice Ao19 t145.length co19)) (fun _ h_ => h_.1))))) (Kd.R_lt (by (with_reducible repeat (first | apply Kd.R_alloc | apply Kd.R_drewN | apply Kd.R_drew)); exact (Kd.R_mono (Kd.R_far (p := ⟨gb148, 4, none⟩) (Kd.R_far (p := ⟨gb148, 3, none⟩) (Kd.R_far (p := ⟨gb148, 2, none⟩) (Kd.R_far (p := ⟨gb148, 1, none⟩) (Kd.R_far (p := ⟨gb148, 0, none⟩) (Kd.R_types HO147.out BK148.out (by decide)) (fun _ hk => hk.2) (.slice none 0 0)) (fun _ hk => hk.2) (.int .i64 1)) (fun _ hk => hk.2) (.slice Ao21 t139.length co21)) (fun _ hk => hk.2) (.slice Ao20 t142.length co20)) (fun _ hk => hk.2) (.slice Ao19 t145.length co19)) (fun _ h_ => h_.1))))) (below_size (by repeat (first | (with_reducible first | exact HB.out | apply below_alloc | apply pw_below_drewN | apply below_drew1 | refine below_set ?_ GE137.out | refine below_set ?_ GE138.out | refine below_set ?_ GE148.out) | exact HB.out))))
 have n4_ := am (blk_below (g := gb137) (o := .cells #[.slice A0_0 l0_0.length c0_0, .slice A0_1 l0_1.length c0_1] 45 (0, 0)) (by (with_reducible repeat (first | refine blk_drewN ?_ _ | refine blk_drew ?_ | refine blk_alloc ?_ _)); refine blk_far ?_ NB137_148.out _; (with_reducible repeat (first | refine blk_drewN ?_ _ | refine blk_drew ?_ | refine blk_alloc ?_ _)); refine blk_far ?_ NB137_148.out _; (with_reducible repeat (first | refine blk_drewN ?_ _ | refine blk_drew ?_ | refine blk_alloc ?_ _)); refine blk_far ?_ NB137_148.out _; (with_reducible repeat (first | refine blk_drewN ?_ _ | refine blk_drew ?_ | refine blk_alloc ?_ _)); refine blk_far ?_ NB137_148.out _; (with_reducible repeat (first | refine blk_drewN ?_ _ | refine blk_drew ?_ | refine blk_alloc ?_ _)); refine blk_far ?_ NB137_148.out _; (with_reducible repeat (first | refine blk_drewN ?_ _ | refine blk_drew ?_ | refine blk_alloc ?_ _)); exact BK137.out) hb)
 have n5_ := am (blk_below (g := gb138) (o := .cells #[.slice none 0 0, .int .i64 0, .slice none 0 0, .slice none 0 0, .slice none 0 0] 30 (0, 0)) (by (with_reducible repeat (first | refine blk_drewN ?_ _ | refine blk_drew ?_ | refine blk_alloc ?_ _)); refine blk_far ?_ NB138_148.out _; (with_reducible repeat (first | refine blk_drewN ?_ _ | refine blk_drew ?_ | refine blk_alloc ?_ _)); refine blk_far ?_ NB138_148.out _; (with_reducible repeat (first | refine blk_drewN ?_ _ | refine blk_drew ?_ | refine blk_alloc ?_ _)); refine blk_far ?_ NB138_148.out _; (with_reducible repeat (first | refine blk_drewN ?_ _ | refine blk_drew ?_ | refine blk_alloc ?_ _)); refine blk_far ?_ NB138_148.out _; (with_reducible repeat (first | refine blk_drewN ?_ _ | refine blk_drew ?_ | refine blk_alloc ?_ _)); refine blk_far ?_ NB138_148.out _; (with_reducible repeat (first | refine blk_drewN ?_ _ | refine blk_drew ?_ | refine blk_alloc ?_ _)); exact BK138.out) hb)
 have n6_ := am (blk_below (g := gb148) (o := .cells #[.slice none 0 0, .int .i64 1, .slice Ao21 t139.length co21, .slice Ao20 t142.length co20, .slice Ao19 t145.length co19] 30 (0, 0)) (by (with_reducible repeat (first | refine blk_drewN ?_ _ | refine blk_drew ?_ | refine blk_alloc ?_ _)); refine blk_put (cs := #[.slice none 0 0, .int .i64 1, .slice Ao21 t139.length co21, .slice Ao20 t142.length co20, .slice none 0 0]) ?_ 4 _ rfl; (with_reducible repeat (first | refine blk_drewN ?_ _ | refine blk_drew ?_ | refine blk_alloc ?_ _)); refine blk_put (cs := #[.slice none 0 0, .int .i64 1, .slice Ao21 t139.length co21, .slice none 0 0, .slice none 0 0]) ?_ 3 _ rfl; (with_reducible repeat (first | refine blk_drewN ?_ _ | refine blk_drew ?_ | refine blk_alloc ?_ _)); refine blk_put (cs := #[.slice none 0 0, .int .i64 1, .slice none 0 0, .slice none 0 0, .slice none 0 0]) ?_ 2 _ rfl; (with_reducible repeat (first | refine blk_drewN ?_ _ | refine blk_drew ?_ | refine blk_alloc ?_ _)); refine blk_put (cs := #[.slice none 0 0, .int .i64 0, .slice none 0 0, .slice none 0 0, .slice none 0 0]) ?_ 1 _ rfl; (with_reducible repeat (first | refine blk_drewN ?_ _ | refine blk_drew ?_ | refine blk_alloc ?_ _)); refine blk_put (cs := #[.slice none 0 0, .int .i64 0, .slice none 0 0, .slice none 0 0, .slice none 0 0]) ?_ 0 _ rfl; (with_reducible repeat (first | refine blk_drewN ?_ _ | refine blk_drew ?_ | refine blk_alloc ?_ _)); exact BK148.out) hb)
 have n7_ := am (below_step (by repeat (first | (with_reducible first | exact HB.out | apply below_alloc | apply pw_below_drewN | apply below_drew1 | refine below_set ?_ GE137.out | refine below_set ?_ GE138.out | refine below_set ?_ GE148.out) | exact HB.out)) hb)
 clear HO141
 clear HO144
 clear HO147
 clear BK137
 clear BK138
 clear BK148
 clear HB
 have HO141 := n0_
 have HO144 := n1_
 have HO147 := n2_
 have HO151 := n3_
 have BK137 := n4_
 have BK138 := n5_
 have BK148 := n6_
 have HB := n7_
 clear n0_ n1_ n2_ n3_ n4_ n5_ n6_ n7_
 (try clear hb)
 (try clear hb2)
 (try clear hk)
 (try clear hi)
 (try clear ho0)
 clear hw30
 refine ((callsIn_wide (n := 3)).1 (dims_in Fence.wide 3 trivial rfl a1 _)).mono ?_
 rintro e W1 ⟨rfl, rfl⟩
 go_wp2_with (fail)
 obtain ⟨wl, hwl⟩ : ∃ wl, wl = w30.alloc (.cells #[.int .i64 a1] 3) := ⟨_, rfl⟩
 have hcl : wl.cell? ⟨w30.heap.size, 0, none⟩ = some (.int .i64 a1) := by rw [hwl]; simp
 have hsl : wl.heap.size = w30.heap.size + 1 := by rw [hwl]; simp
 have hBl : Below w30.heap.size w30 wl := by rw [hwl]; exact below_alloc (Below.refl _ _) _
 rw [← hwl]
 refine (wpIn_wide (n := 6)).1 ?_
 refine wpIn_rangeFunc_ownG rfl (by omega) (gf := 66) (lb := #[.pointer (some ⟨w30.heap.size, 0, none⟩)]) rfl trivial (enters_of Try.func66 (by kernel_rfl) rfl) (dims_stops Fence.wide 5 trivial rfl (by omega) w30.heap.size a1 wl (by omega) hcl) keepsBox_t keepsBox_b (Below.refl _ _) (fun _ => rfl) (KeysI w wl gb148 30 (fun v => #[v, .int .i64 1, .slice Ao21 t139.length co21, .slice Ao20 t142.length co20, .slice Ao19 t145.length co19]) (fun pre => (pre.filter fun i => decide (i < l0_0.length)).map fun i : Nat => rd l0_0 (i : Int))) (fun _ _ _ => False) (keysI_own (by have := below_size HB.out; omega)) (fun _ _ _ _ _ hs _ _ => hs) ?init (fun x : Nat => { tmps := #[.agg #[.slice A0_0 l0_0.length c0_0, .slice A0_1 l0_1.length c0_1], .int .i64 a1, .pointer (some ⟨gb137, 0, none⟩), undef, .pointer (some ⟨gb138, 0, none⟩), .pointer (some ⟨gb148, 0, none⟩), (.int .i64 (x : Int)), .pointer (some ⟨gb137, 1, none⟩), .slice A0_1 l0_1.length c0_1, .slice Ao21 t139.length co21, .pointer (some ⟨gb137, 1, none⟩), .slice A0_1 l0_1.length c0_1, .slice Ao20 t142.length co20, .pointer (some ⟨gb137, 1, none⟩), .slice A0_1 l0_1.length c0_1, .slice Ao19 t145.length co19, .agg #[.slice none 0 0, .int .i64 1, .slice Ao21 t139.length co21, .slice Ao20 t142.length co20, .slice Ao19 t145.length co19], .int .i64 a1, .func (.func 66) #[] #[.pointer (some ⟨w30.heap.size, 0, none⟩)], (.int .i64 (x : Int)), undef, undef, undef, undef, undef, undef, undef, undef, undef, undef, undef, undef, undef, undef, undef, undef, undef, undef, undef, undef], defers := [] }) ?assign ?body ?done ?stop
 case init => exact ⟨.slice none 0 0, Kd.R_nil _ _ _ _ _, blk_below BK148.out hBl, Kept.refl _ _, HB.out.trans (hBl.mono (below_size HB.out))⟩
 case assign =>
  intro l x W K hK
  gi_wp2
  exact hK
 case stop =>
  rintro D c pre W _ _ h _
  exact h.elim
 case body =>
  rintro l pre x W ⟨v, hR, hc, hk, hB0⟩ hpre
  have b137 : W.heap[gb137]? = _ := (hk.2 gb137 (by have := blk_lt BK137.out; omega) hnb28).trans (blk_below BK137.out hBl)
  have h148 : gb148 < w30.heap.size := blk_lt BK148.out
  have hca := (blk_cell b137 0).trans rfl
  have hcc := (blk_cell hc 0).trans rfl
  have hfc := blk_frozen hc 0
  have HG5 := am (show gb148 < wl.heap.size ∧ gb148 < w30.heap.size ∧ w30.heap.size < wl.heap.size ∧ w30.heap.size ≠ gb148 by omega)
  have HR5 := am hR
  have HC5 := am hc
  have HK5 := am hk
  clear HB HO141 HO144 HO147 HO151 BK138 BK148
  clear BK137
  have BK137 := am b137
  have HB := am hB0
  have HX0 : (0 : Int) ≤ (x : Int) := by omega
  obtain ⟨xs, hxs⟩ : ∃ xs : List Int, xs = ((pre.filter fun i => decide (i < l0_0.length)).map fun i : Nat => rd l0_0 (i : Int)) := ⟨_, rfl⟩
  have hlen : xs.length < 4 := by
    rw [hxs, List.length_map]
    exact Nat.lt_of_le_of_lt (List.length_filter_le _ _) hpre
  have HL := am hlen
  replace hR : Kd.R (Kd.int .i64) 3 W w.heap.size (fun k => wl.heap.size ≤ k) v xs := by rw [hxs]; exact hR
  have hl5 : x < l0_0.length → xs ++ [rd l0_0 (x : Int)] = (((pre ++ [x]).filter fun i => decide (i < l0_0.length)).map fun i : Nat => rd l0_0 (i : Int)) := fun h => by
    rw [hxs, List.filter_append, List.map_append]
    simp [h]
  have hl6 : ¬ x < l0_0.length → ((pre.filter fun i => decide (i < l0_0.length)).map fun i : Nat => rd l0_0 (i : Int)) = (((pre ++ [x]).filter fun i => decide (i < l0_0.length)).map fun i : Nat => rd l0_0 (i : Int)) := fun h => by
    rw [List.filter_append, List.map_append]
    simp [h]
  by_cases hx : (x : Int) < (l0_0.length : Int)
  · have HL5 := am (hl5 (by omega))
    clear hl5 hl6 hxs hlen hpre
    generalize hxi : (x : Int) = xi at HL5 HX0 hx ⊢
    obtain ⟨adr, eadr, hw⟩ := Kd.at_int HR0_0.out xi HX0 hx
    subst eadr
    have HX := am ((HB.out.cell (World.block_lt_of_cell? w _ hw)).trans hw)
    have HOv := am hR
    have BK148 := am hc
    have HKv := am hk
    clear hR hc hk b137 hB0 hxi
    have hx1 : decide (xi < (l0_0.length : Int)) = true := decide_eq_true hx
    have hX0 : (0 ≤ xi) = True := eq_true HX0
    have hx2 : (xi < (l0_0.length : Int)) = True := eq_true hx
    clear hwl hsl hcl hBl
    gi_wp2
    refine start_round (n := 11) (S := fun w' => w'.cell? ⟨gb148, 0, none⟩ = some v ∧ w'.cell? ⟨gb137, 0, none⟩ = some (.slice (some adr) l0_0.length c0_0) ∧ w'.cell? (adr.add xi.toNat) = some (.int .i64 (rd l0_0 xi))) (ds := [10]) (bb 11 0) (by kernel_rfl) (by kernel_rfl) (by rintro ⟨a, w, h⟩; exact h) rfl rfl ⟨(blk_cell BK148.out 0).trans rfl, (blk_cell BK137.out 0).trans rfl, HX.out⟩ (fun hHeld => ?_); refine with_tabW cell_Of.tab5 cell_Of.bits5 (fun HT_ HW_ => ?_)
    have n0_ := am (Kd.R_drew HOv.out)
    have n1_ := am (blk_drew BK137.out)
    have n3_ := am (blk_drew BK148.out)
    have n4_ := am (below_drew1 HB.out)
    have n5_ := am (Kept.drew HKv.out)
    have n6_ : Aside0 (W.drew.heap.size = W.heap.size ∧ ∀ k : Nat, W.drew.heap[k]? = W.heap[k]?) := am ⟨rfl, fun _ => rfl⟩
    clear HOv BK137 BK148 HB HKv HX
    have HOv := n0_
    have BK137 := n1_
    have BK148 := n3_
    have HB := n4_
    have HKv := n5_
    have HF5 := n6_
    clear n0_ n1_ n3_ n4_ n5_ n6_
    generalize W.drew = w19 at HOv BK137 BK148 HB HKv HF5 hHeld ⊢
    refine pure_ (i := 0) (N := some 25) (v := ?_) (a' := ?_) (bb 11 1) rfl rfl (any_of HT_.out (by kernel_rfl)) (fun _ _ _ h => h) (Or.inl ⟨by rfl, ?_⟩) ?_ ?_
    rotate_left
    ·intro w'
     go_simp
     with_reducible rfl
    rotate_left
    ·simp only [Act.put, List.setIfInBounds_toArray, List.set_cons_zero, List.set_cons_succ, i64_w, i32_w]
     rfl
    refine pure_ (i := 2) (N := some 27) (v := ?_) (a' := ?_) (bb 11 5) rfl rfl (any_of HT_.out (by kernel_rfl)) (fun _ _ _ h => h) (Or.inl ⟨by rfl, ?_⟩) ?_ ?_
    rotate_left
    ·intro w'
     go_simp
     with_reducible rfl
    rotate_left
    ·simp only [Act.put, List.setIfInBounds_toArray, List.set_cons_zero, List.set_cons_succ, i64_w, i32_w]
     rfl
    refine pure_ (i := 4) (N := some 29) (v := ?_) (a' := ?_) (bb 11 21) rfl rfl (any_of HT_.out (by kernel_rfl)) (fun _ _ _ h => h) (Or.inl ⟨by rfl, ?_⟩) ?_ ?_
    rotate_left
    ·intro w'
     go_simp
     with_reducible rfl
    rotate_left
    ·simp only [Act.put, List.setIfInBounds_toArray, List.set_cons_zero, List.set_cons_succ, i64_w, i32_w]
     rfl
    refine take_ (i := 1) (N := some 26) (v := ?_) (a' := ?_) (bb 11 23) rfl rfl (take_ofW HT_.out HW_.out (by kernel_rfl)) (fun _ _ _ h => h) (Or.inl ⟨by rfl, ?_⟩) hHeld ?_ ?_
    rotate_left
    ·rintro w' ⟨s0, s1, s2⟩
     go_simp
     with_reducible rfl
    rotate_left
    ·simp only [Act.put, List.setIfInBounds_toArray, List.set_cons_zero, List.set_cons_succ, i64_w, i32_w]
     rfl
    refine take_ (i := 3) (N := some 28) (v := ?_) (a' := ?_) (bb 11 31) rfl rfl (take_ofW HT_.out HW_.out (by kernel_rfl)) (fun _ _ _ h => h) (Or.inl ⟨by rfl, ?_⟩) hHeld ?_ ?_
    rotate_left
    ·rintro w' ⟨s0, s1, s2⟩
     go_simp
     with_reducible rfl
    rotate_left
    ·simp only [Act.put, List.setIfInBounds_toArray, List.set_cons_zero, List.set_cons_succ, i64_w, i32_w]
     rfl
    refine pure_ (i := 5) (N := some 30) (v := ?_) (a' := ?_) (bb 11 63) rfl rfl (any_of HT_.out (by kernel_rfl)) (fun _ _ _ h => h) (Or.inl ⟨by rfl, ?_⟩) ?_ ?_
    rotate_left
    ·intro w'
     go_simp
     with_reducible rfl
    rotate_left
    ·simp only [Act.put, List.setIfInBounds_toArray, List.set_cons_zero, List.set_cons_succ, i64_w, i32_w]
     rfl
    refine take_ (i := 6) (N := some 31) (v := ?_) (a' := ?_) (bb 11 127) rfl rfl (take_ofW HT_.out HW_.out (by kernel_rfl)) (fun _ _ _ h => h) (Or.inl ⟨by rfl, ?_⟩) hHeld ?_ ?_
    rotate_left
    ·rintro w' ⟨s0, s1, s2⟩
     go_simp
     with_reducible rfl
    rotate_left
    ·simp only [Act.put, List.setIfInBounds_toArray, List.set_cons_zero, List.set_cons_succ, i64_w, i32_w]
     rfl
    refine one_ (i := 7) (N := some 32) (bb 11 255) rfl rfl (one_of HT_.out (by kernel_rfl)) (by decide) (fun K hK => ?_)
    refine value_ (w1 := ?_) (v := ?_) (by rfl) rfl ?_ ?_
    rotate_left 2
    ·go_simp
     constructor
     ·rfl
     ·rfl
    refine hK.out _ _ ⟨(blk_cell (blk_alloc BK148.out _) 0).trans rfl, (blk_cell (blk_alloc BK137.out _) 0).trans rfl, (World.cell?_alloc_lt _ _ _ (World.block_lt_of_cell? _ _ ((HB.out.cell (World.block_lt_of_cell? w _ hw)).trans hw))).trans ((HB.out.cell (World.block_lt_of_cell? w _ hw)).trans hw)⟩ (fun hHeld => ?_)
    clear hK K
    refine norm_ (a' := ?_) ?_ ?_
    rotate_left
    ·show Act.put _ (some 32) _ = _
     simp only [Act.put, List.setIfInBounds_toArray, List.set_cons_zero, List.set_cons_succ, i64_w, i32_w]
     rfl
    refine one_ (i := 8) (N := some 33) (bb 11 511) rfl rfl (one_of HT_.out (by kernel_rfl)) (by decide) (fun K hK => ?_)
    refine Kd.R_append_step (Kd.int .i64) (w0 := w) w.heap.size (by rfl) (.tmp 26) (.tmp 32) 22 3 (.int .i64 0) 8 rfl Try.underlying22 info3 rfl (by decide) (by omega) v xs (rd l0_0 xi) [.int .i64 (rd l0_0 xi)] (fun k => wl.heap.size ≤ k) (fun _ => False) rfl rfl ?aP (fun _ hk => hk.elim) ?aF ?aO ?aB ?aS ?aL ?_
    (case aP => exact rfl)
    (case aB => exact (by repeat (first | (with_reducible first | exact HB.out | apply below_alloc | apply pw_below_drewN | apply below_drew1 | refine below_set ?_ GE137.out | refine below_set ?_ GE138.out | refine below_set ?_ GE148.out) | exact HB.out)))
    (case aF => exact (fun k hk => by have := HKv.out.1; omega))
    (case aO => exact (by (with_reducible repeat (first | apply Kd.R_alloc | apply Kd.R_drewN | apply Kd.R_drew)); exact HOv.out))
    (case aS => exact (below_size (by repeat (first | (with_reducible first | exact HB.out | apply below_alloc | apply pw_below_drewN | apply below_drew1 | refine below_set ?_ GE137.out | refine below_set ?_ GE138.out | refine below_set ?_ GE148.out) | exact HB.out))))
    (case aL => have := HL.out; omega)
    intro v241 w20 ho hb hg hat
    have hb0 := HB.out
    have HL7 := HL5.out
    obtain ⟨ys, hys⟩ : ∃ ys : List Int, ys = xs ++ [rd l0_0 xi] := ⟨_, rfl⟩
    rw [← hys] at ho HL7
    have HL8 := am HL7
    clear HL7 hys
    obtain ⟨Ao22, co22, eo22⟩ := Kd.R_slice ho
    subst eo22
    have hkeep := keysI_step (Bn := w30.heap.size) (pre' := pre ++ [x]) (cs := fun v => #[v, .int .i64 1, .slice Ao21 t139.length co21, .slice Ao20 t142.length co20, .slice Ao19 t145.length co19]) (ks := fun pre => (pre.filter fun i => decide (i < l0_0.length)).map fun i : Nat => rd l0_0 (i : Int)) HR5.out HC5.out HK5.out (by have := HF5.out.1; omega) (fun k => .inl (HF5.out.2 k)) hg ho hb HL8.out (by decide) HG5.out.1 GE148.out HG5.out.2.2.1 HG5.out.2.2.2 rfl
    have HKeep := am hkeep
    clear hkeep
    have n0_ := am (blk_grown (g := gb137) (o := .cells #[.slice (some adr) l0_0.length c0_0, .slice A0_1 l0_1.length c0_1] 45 (0, 0)) (by (with_reducible repeat (first | refine blk_drewN ?_ _ | refine blk_drew ?_ | refine blk_alloc ?_ _)); exact BK137.out) hg (Kd.R_ne HOv.out BK137.out (by decide)))
    have n2_ := am (blk_grown (g := gb148) (o := .cells #[v, .int .i64 1, .slice Ao21 t139.length co21, .slice Ao20 t142.length co20, .slice Ao19 t145.length co19] 30 (0, 0)) (by (with_reducible repeat (first | refine blk_drewN ?_ _ | refine blk_drew ?_ | refine blk_alloc ?_ _)); exact BK148.out) hg (Kd.R_ne HOv.out BK148.out (by decide)))
    have n3_ := am (hb)
    clear BK137
    clear BK148
    clear HB
    clear HOv
    have BK137 := n0_
    have BK148 := n2_
    have HB := n3_
    clear n0_ n2_ n3_
    clear ho hb hg hat hb0
    refine hK.out _ _ ⟨(blk_cell BK148.out 0).trans rfl, (blk_cell BK137.out 0).trans rfl, ((HB.out.cell (World.block_lt_of_cell? w _ hw)).trans hw)⟩ (fun hHeld => ?_)
    clear hK K
    refine norm_ (a' := ?_) ?_ ?_
    rotate_left
    ·show Act.put _ (some 33) _ = _
     simp only [Act.put, List.setIfInBounds_toArray, List.set_cons_zero, List.set_cons_succ, i64_w, i32_w]
     rfl
    refine pure_ (i := 9) (N := some 34) (v := ?_) (a' := ?_) (bb 11 1023) rfl rfl (any_of HT_.out (by kernel_rfl)) (fun _ _ _ h => h) (Or.inl ⟨by rfl, ?_⟩) ?_ ?_
    rotate_left
    ·intro w'
     go_simp
     with_reducible rfl
    rotate_left
    ·simp only [Act.put, List.setIfInBounds_toArray, List.set_cons_zero, List.set_cons_succ, i64_w, i32_w]
     rfl
    refine last_ (i := 10) (N := none) (bb 11 2047) rfl rfl (one_of HT_.out (by kernel_rfl)) (by decide) (fun K hK => ?_)
    have hs22 : w20.cell? ⟨gb148, 0, none⟩ = some (v) := (blk_cell BK148.out 0).trans rfl
    have hfs22 := blk_frozen BK148.out 0
    have hns22_0 := NB137_148.out
    have hms22_0 := NB148_137.out
    refine skip_ (w1 := ?_) (by rfl) rfl ?_ ?_
    rotate_left
    ·go_simp
     rfl
    refine hK.out _ _ ?_
    clear hK K
    refine done_ (done_of HT_.out (by kernel_rfl)) ?_
    exact HKeep.out
  · have h6 := hl6 (by omega)
    have hI := keysI_skip (Bn := w30.heap.size) (cs := fun v => #[v, .int .i64 1, .slice Ao21 t139.length co21, .slice Ao20 t142.length co20, .slice Ao19 t145.length co19]) (ks := fun pre : List Nat => (pre.filter fun i => decide (i < l0_0.length)).map fun i : Nat => rd l0_0 (i : Int)) (pre' := pre ++ [x]) ⟨v, HR5.out, HC5.out, HK5.out, hB0⟩ h6
    have HI := am hI
    clear hI hl5 hl6 h6 hR hc hk hxs hwl hsl hcl hBl
    gi_wp2
    exact HI.out
 case done =>
  rintro D ys W hD rfl ⟨v, hR, hc, hk, hB0⟩ hK
  have e149 : ((dimsL a1).filter fun i => decide (i < l0_0.length)).map (fun i : Nat => rd l0_0 (i : Int)) = t149 := Option.some.inj A6.out
  replace hR : Kd.R (Kd.int .i64) 3 W w.heap.size (fun k => wl.heap.size ≤ k) v t149 := by rw [← e149]; exact hR
  obtain ⟨Ao31, co31, eo31⟩ := Kd.R_slice hR
  subst eo31
  have hk30 : Kept w30 W (fun k => k = gb148) := (Kept.of_below hBl _).then_ hk (fun k h => Or.inl h)
  obtain ⟨wb, hwb⟩ : ∃ wb, wb = W.setCell ⟨gb148, 0, none⟩ (.slice none 0 0) := ⟨_, rfl⟩
  have hkb : Kept w30 wb (fun k => k = gb148) := by rw [hwb]; exact hk30.setCell (.inl rfl) _
  have hvk : ∀ k, (Value.slice Ao31 t149.length co31).ownBlock = some k → w30.heap.size < k := fun k hk => by have := hR.1 k hk; omega
  have b148 : wb.heap[gb148]? = some (.cells #[.slice none 0 0, .int .i64 1, .slice Ao21 t139.length co21, .slice Ao20 t142.length co20, .slice Ao19 t145.length co19] 30 (0, 0)) := by rw [hwb]; exact blk_put hc 0 _ rfl
  have n0_ := am (Kd.R_mono (Kd.R_kept (Kd.R_types (Kd.R_bound HO141.out) BK148.out (by decide)) hkb (fun k hk he => hk.2 he)) (ok' := fun k => _ ∧ some k ≠ (Value.slice Ao31 t149.length co31).ownBlock) (fun k hk => ⟨hk.1.1.1, fun e => by have := hvk k e.symm; have := hk.1.2.2.1; omega⟩))
  have n1_ := am (Kd.R_mono (Kd.R_kept (Kd.R_types (Kd.R_bound HO144.out) BK148.out (by decide)) hkb (fun k hk he => hk.2 he)) (ok' := fun k => _ ∧ some k ≠ (Value.slice Ao31 t149.length co31).ownBlock) (fun k hk => ⟨hk.1.1.1, fun e => by have := hvk k e.symm; have := hk.1.2.2.1; omega⟩))
  have n2_ := am (Kd.R_mono (Kd.R_kept (Kd.R_types (Kd.R_bound HO147.out) BK148.out (by decide)) hkb (fun k hk he => hk.2 he)) (ok' := fun k => _ ∧ some k ≠ (Value.slice Ao31 t149.length co31).ownBlock) (fun k hk => ⟨hk.1.1.1, fun e => by have := hvk k e.symm; have := hk.1.2.2.1; omega⟩))
  have n3_ : Aside0 (Kd.R (Kd.int .i64) 3 wb w.heap.size (fun k_ => (((True ∧ some k_ ≠ (.slice Ao21 t139.length co21 : Value).ownBlock) ∧ some k_ ≠ (.slice Ao20 t142.length co20 : Value).ownBlock) ∧ some k_ ≠ (.slice Ao19 t145.length co19 : Value).ownBlock)) (.slice Ao31 t149.length co31) t149) := am (by
    rw [hwb]
    have hg148 := blk_lt BK148.out
    refine Kd.R_mono (Kd.R_far hR (p := ⟨gb148, 0, none⟩) (fun k hk => by simp only []; omega) _) (fun k hk => ⟨⟨⟨trivial, fun e => ?_⟩, fun e => ?_⟩, fun e => ?_⟩)
    · have := Kd.R_lt HO141.out k e.symm; omega
    · have := Kd.R_lt HO144.out k e.symm; omega
    · have := Kd.R_lt HO147.out k e.symm; omega)
  have n4_ := am (blk_kept BK137.out hkb hnb28)
  have n5_ := am (blk_kept BK138.out hkb NB138_148.out)
  have n6_ := am b148
  have n7_ : Aside0 (Below w.heap.size w wb) := am (by rw [hwb]; exact below_set hB0 GE148.out)
  have eW : W = wb.setCell ⟨gb148, 0, none⟩ (.slice Ao31 t149.length co31) := by rw [hwb]; exact (setCell_back hc rfl _).symm
  have hD' : w30.heap.size < D := by have : w30.heap.size + 1 ≤ D := by rw [← hsl]; exact hD
                                     omega
  have h148' := blk_lt BK148.out
  have hD148 : D ≠ gb148 := by omega
  clear HO141 HO144 HO147 HO151 BK137 BK138 BK148 HB
  clear hR hc hB0 hvk b148 hkb hk30 hwb hk
  have HO141 := n0_
  have HO144 := n1_
  have HO147 := n2_
  have HO151 := n3_
  have BK137 := n4_
  have BK138 := n5_
  have BK148 := n6_
  have HB := n7_
  clear n0_ n1_ n2_ n3_ n4_ n5_ n6_ n7_
  have HD := am (show D ≠ gb148 from hD148)
  have HDge := am (show w.heap.size ≤ D by have := GE148.out; omega)
  have HD138 := am (show gb138 ≠ D from fun e => by have h1 := BK138.out; rw [e] at h1; rw [eW, Below.heap_setCell _ _ _ _ hD148] at hK; rw [hK] at h1; cases h1)
  have HDD := am (show wb.heap[D]? = some (.deferred (some [])) from by rw [eW, Below.heap_setCell _ _ _ _ hD148] at hK; exact hK)
  clear hK hD hD' hD148 h148' e149 hcl hsl hBl hwl
  subst eW
  have hnb32 := NB148_138.out
  have hnc32 := NB138_148.out
  have hcz33_0 : wb.cell? ⟨gb148, 0, none⟩ = some (.slice none 0 0) := (blk_cell BK148.out 0).trans rfl
  have hcz33_1 : wb.cell? ⟨gb148, 1, none⟩ = some (.int .i64 1) := (blk_cell BK148.out 1).trans rfl
  have hcz33_2 : wb.cell? ⟨gb148, 2, none⟩ = some (.slice Ao21 t139.length co21) := (blk_cell BK148.out 2).trans rfl
  have hcz33_3 : wb.cell? ⟨gb148, 3, none⟩ = some (.slice Ao20 t142.length co20) := (blk_cell BK148.out 3).trans rfl
  have hcz33_4 : wb.cell? ⟨gb148, 4, none⟩ = some (.slice Ao19 t145.length co19) := (blk_cell BK148.out 4).trans rfl
  have hfz33_0 := blk_frozen BK148.out 0
  have hfz33_1 := blk_frozen BK148.out 1
  have hfz33_2 := blk_frozen BK148.out 2
  have hfz33_3 := blk_frozen BK148.out 3
  have hfz33_4 := blk_frozen BK148.out 4
  go_wp2_with (first | ((with_reducible refine gate_callee (f := 40) rfl ?_); refine goesL_ (some 37) rfl rfl Try.func40 (by kernel_rfl) rfl #[.slice Ao31 t149.length co31] rfl (by (try simp only [List.map_toArray, List.map_cons, List.map_nil]); first | done | rfl | (simp only [List.length_drop, List.length_take]; rfl)) ?_; (with_reducible refine (slices_Clone_int_int.calls _ _ t149 t152 _ ?side1 ?side2 A7.out).mono ?_); (case side1 => refine (Kd.R_reads' (e := 3) (base := w.heap.size) (ok := fun k_ => (((True ∧ some k_ ≠ (.slice Ao21 t139.length co21 : Value).ownBlock) ∧ some k_ ≠ (.slice Ao20 t142.length co20 : Value).ownBlock) ∧ some k_ ≠ (.slice Ao19 t145.length co19 : Value).ownBlock)) (n := t149.length) (c := co31) ?_).2.2; exact (by (with_reducible repeat (first | apply Kd.R_alloc | apply Kd.R_drewN | apply Kd.R_drew)); exact (Kd.R_mono (Kd.R_far (p := ⟨gb148, 0, none⟩) (Kd.R_types HO151.out BK148.out (by decide)) (fun _ hk => hk.2) (.slice Ao31 t149.length co31)) (fun _ h_ => h_.1)))); (case side2 => exact (Kd.R_reads' HO151.out).2.1); rintro e w34 ⟨v153, rfl, ho0, hb⟩; refine ⟨_, rfl, ?_⟩; have nD_ := am (blk_below (g := D) (o := .deferred (some [])) (by (with_reducible repeat (first | refine blk_drewN ?_ _ | refine blk_drew ?_ | refine blk_alloc ?_ _)); refine (Below.heap_setCell _ _ _ _ HD.out).trans ?_; (with_reducible repeat (first | refine blk_drewN ?_ _ | refine blk_drew ?_ | refine blk_alloc ?_ _)); exact HDD.out) hb); clear HDD; have HDD := nD_; clear nD_; have n0_ := am (Kd.R_elder' (by (with_reducible repeat (first | apply Kd.R_alloc | apply Kd.R_drewN | apply Kd.R_drew)); exact (Kd.R_mono (Kd.R_far (p := ⟨gb148, 0, none⟩) (Kd.R_types HO141.out BK148.out (by decide)) (fun _ hk => hk.2) (.slice Ao31 t149.length co31)) (fun _ h_ => h_.1))) (Kd.R_base ho0) hb); have n1_ := am (Kd.R_elder' (by (with_reducible repeat (first | apply Kd.R_alloc | apply Kd.R_drewN | apply Kd.R_drew)); exact (Kd.R_mono (Kd.R_far (p := ⟨gb148, 0, none⟩) (Kd.R_types HO144.out BK148.out (by decide)) (fun _ hk => hk.2) (.slice Ao31 t149.length co31)) (fun _ h_ => h_.1))) (Kd.R_base ho0) hb); have n2_ := am (Kd.R_elder' (by (with_reducible repeat (first | apply Kd.R_alloc | apply Kd.R_drewN | apply Kd.R_drew)); exact (Kd.R_mono (Kd.R_far (p := ⟨gb148, 0, none⟩) (Kd.R_types HO147.out BK148.out (by decide)) (fun _ hk => hk.2) (.slice Ao31 t149.length co31)) (fun _ h_ => h_.1))) (Kd.R_base ho0) hb); have n3_ := am (Kd.R_elder' (by (with_reducible repeat (first | apply Kd.R_alloc | apply Kd.R_drewN | apply Kd.R_drew)); exact (Kd.R_mono (Kd.R_far (p := ⟨gb148, 0, none⟩) (Kd.R_types HO151.out BK148.out (by decide)) (fun _ hk => hk.2) (.slice Ao31 t149.length co31)) (fun _ h_ => h_.1))) (Kd.R_base ho0) hb); have n4_ := am (Kd.R_lower (Kd.R_new' (Kd.R_new' (Kd.R_new' (Kd.R_new' ho0 (Kd.R_lt (by (with_reducible repeat (first | apply Kd.R_alloc | apply Kd.R_drewN | apply Kd.R_drew)); exact (Kd.R_mono (Kd.R_far (p := ⟨gb148, 0, none⟩) (Kd.R_types HO141.out BK148.out (by decide)) (fun _ hk => hk.2) (.slice Ao31 t149.length co31)) (fun _ h_ => h_.1))))) (Kd.R_lt (by (with_reducible repeat (first | apply Kd.R_alloc | apply Kd.R_drewN | apply Kd.R_drew)); exact (Kd.R_mono (Kd.R_far (p := ⟨gb148, 0, none⟩) (Kd.R_types HO144.out BK148.out (by decide)) (fun _ hk => hk.2) (.slice Ao31 t149.length co31)) (fun _ h_ => h_.1))))) (Kd.R_lt (by (with_reducible repeat (first | apply Kd.R_alloc | apply Kd.R_drewN | apply Kd.R_drew)); exact (Kd.R_mono (Kd.R_far (p := ⟨gb148, 0, none⟩) (Kd.R_types HO147.out BK148.out (by decide)) (fun _ hk => hk.2) (.slice Ao31 t149.length co31)) (fun _ h_ => h_.1))))) (Kd.R_lt (by (with_reducible repeat (first | apply Kd.R_alloc | apply Kd.R_drewN | apply Kd.R_drew)); exact (Kd.R_mono (Kd.R_far (p := ⟨gb148, 0, none⟩) (Kd.R_types HO151.out BK148.out (by decide)) (fun _ hk => hk.2) (.slice Ao31 t149.length co31)) (fun _ h_ => h_.1))))) (below_size (by repeat (first | (with_reducible first | exact HB.out | apply below_alloc | apply pw_below_drewN | apply below_drew1 | refine below_set ?_ GE137.out | refine below_set ?_ GE138.out | refine below_set ?_ GE148.out) | exact HB.out)))); have n5_ := am (blk_below (g := gb137) (o := .cells #[.slice A0_0 l0_0.length c0_0, .slice A0_1 l0_1.length c0_1] 45 (0, 0)) (by (with_reducible repeat (first | refine blk_drewN ?_ _ | refine blk_drew ?_ | refine blk_alloc ?_ _)); refine blk_far ?_ NB137_148.out _; (with_reducible repeat (first | refine blk_drewN ?_ _ | refine blk_drew ?_ | refine blk_alloc ?_ _)); exact BK137.out) hb); have n6_ := am (blk_below (g := gb138) (o := .cells #[.slice none 0 0, .int .i64 0, .slice none 0 0, .slice none 0 0, .slice none 0 0] 30 (0, 0)) (by (with_reducible repeat (first | refine blk_drewN ?_ _ | refine blk_drew ?_ | refine blk_alloc ?_ _)); refine blk_far ?_ NB138_148.out _; (with_reducible repeat (first | refine blk_drewN ?_ _ | refine blk_drew ?_ | refine blk_alloc ?_ _)); exact BK138.out) hb); have n7_ := am (blk_below (g := gb148) (o := .cells #[.slice Ao31 t149.length co31, .int .i64 1, .slice Ao21 t139.length co21, .slice Ao20 t142.length co20, .slice Ao19 t145.length co19] 30 (0, 0)) (by (with_reducible repeat (first | refine blk_drewN ?_ _ | refine blk_drew ?_ | refine blk_alloc ?_ _)); refine blk_put (cs := #[.slice none 0 0, .int .i64 1, .slice Ao21 t139.length co21, .slice Ao20 t142.length co20, .slice Ao19 t145.length co19]) ?_ 0 _ rfl; (with_reducible repeat (first | refine blk_drewN ?_ _ | refine blk_drew ?_ | refine blk_alloc ?_ _)); exact BK148.out) hb); have n8_ := am (below_step (by repeat (first | (with_reducible first | exact HB.out | apply below_alloc | apply pw_below_drewN | apply below_drew1 | refine below_set ?_ GE137.out | refine below_set ?_ GE138.out | refine below_set ?_ GE148.out) | exact HB.out)) hb); clear HO141; clear HO144; clear HO147; clear HO151; clear BK137; clear BK138; clear BK148; clear HB; have HO141 := n0_; have HO144 := n1_; have HO147 := n2_; have HO151 := n3_; have HO154 := n4_; have BK137 := n5_; have BK138 := n6_; have BK148 := n7_; have HB := n8_; clear n0_ n1_ n2_ n3_ n4_ n5_ n6_ n7_ n8_; (try clear hb); (try clear hb2); (try clear hk); (try clear hi); (try clear ho0); obtain ⟨Ao35, co35, eo35⟩ := Kd.R_slice HO154.out; subst eo35; have hcz36_0 : w34.cell? ⟨gb148, 0, none⟩ = some (.slice Ao31 t149.length co31) := (blk_cell BK148.out 0).trans rfl; have hcz36_1 : w34.cell? ⟨gb148, 1, none⟩ = some (.int .i64 1) := (blk_cell BK148.out 1).trans rfl; have hcz36_2 : w34.cell? ⟨gb148, 2, none⟩ = some (.slice Ao21 t139.length co21) := (blk_cell BK148.out 2).trans rfl; have hcz36_3 : w34.cell? ⟨gb148, 3, none⟩ = some (.slice Ao20 t142.length co20) := (blk_cell BK148.out 3).trans rfl; have hcz36_4 : w34.cell? ⟨gb148, 4, none⟩ = some (.slice Ao19 t145.length co19) := (blk_cell BK148.out 4).trans rfl; have hfz36_0 := blk_frozen BK148.out 0; have hfz36_1 := blk_frozen BK148.out 1; have hfz36_2 := blk_frozen BK148.out 2; have hfz36_3 := blk_frozen BK148.out 3; have hfz36_4 := blk_frozen BK148.out 4; have hcz37_0 : w34.cell? ⟨gb138, 0, none⟩ = some (.slice none 0 0) := (blk_cell BK138.out 0).trans rfl; have hcz37_1 : w34.cell? ⟨gb138, 1, none⟩ = some (.int .i64 0) := (blk_cell BK138.out 1).trans rfl; have hcz37_2 : w34.cell? ⟨gb138, 2, none⟩ = some (.slice none 0 0) := (blk_cell BK138.out 2).trans rfl; have hcz37_3 : w34.cell? ⟨gb138, 3, none⟩ = some (.slice none 0 0) := (blk_cell BK138.out 3).trans rfl; have hcz37_4 : w34.cell? ⟨gb138, 4, none⟩ = some (.slice none 0 0) := (blk_cell BK138.out 4).trans rfl; have hfz37_0 := blk_frozen BK138.out 0; have hfz37_1 := blk_frozen BK138.out 1; have hfz37_2 := blk_frozen BK138.out 2; have hfz37_3 := blk_frozen BK138.out 3; have hfz37_4 := blk_frozen BK138.out 4))
  have hDf := (Below.heap_setCell (((((w34.setCell ⟨gb148, 0, none⟩ (.slice Ao35 t152.length co35)).setCell ⟨gb138, 0, none⟩ (.slice Ao35 t152.length co35)).setCell ⟨gb138, 1, none⟩ (.int .i64 1)).setCell ⟨gb138, 2, none⟩ (.slice Ao21 t139.length co21)).setCell ⟨gb138, 3, none⟩ (.slice Ao20 t142.length co20)) ⟨gb138, 4, none⟩ (.slice Ao19 t145.length co19) D (Ne.symm HD138.out)).trans ((Below.heap_setCell _ _ _ _ (Ne.symm HD138.out)).trans ((Below.heap_setCell _ _ _ _ (Ne.symm HD138.out)).trans ((Below.heap_setCell _ _ _ _ (Ne.symm HD138.out)).trans ((Below.heap_setCell _ _ _ _ (Ne.symm HD138.out)).trans ((Below.heap_setCell _ _ _ _ HD.out).trans HDD.out)))))
  refine ret_marks rfl hDf (results_cell_row rfl _ _ gb138 30 #[.slice Ao35 t152.length co35, .int .i64 1, .slice Ao21 t139.length co21, .slice Ao20 t142.length co20, .slice Ao19 t145.length co19] (0, 0) _ rfl ((World.putObj_heap_other HD138.out).trans (by (with_reducible repeat (first | refine blk_drewN ?_ _ | refine blk_drew ?_ | refine blk_alloc ?_ _)); refine blk_put (cs := #[.slice Ao35 t152.length co35, .int .i64 1, .slice Ao21 t139.length co21, .slice Ao20 t142.length co20, .slice none 0 0]) ?_ 4 _ rfl; (with_reducible repeat (first | refine blk_drewN ?_ _ | refine blk_drew ?_ | refine blk_alloc ?_ _)); refine blk_put (cs := #[.slice Ao35 t152.length co35, .int .i64 1, .slice Ao21 t139.length co21, .slice none 0 0, .slice none 0 0]) ?_ 3 _ rfl; (with_reducible repeat (first | refine blk_drewN ?_ _ | refine blk_drew ?_ | refine blk_alloc ?_ _)); refine blk_put (cs := #[.slice Ao35 t152.length co35, .int .i64 1, .slice none 0 0, .slice none 0 0, .slice none 0 0]) ?_ 2 _ rfl; (with_reducible repeat (first | refine blk_drewN ?_ _ | refine blk_drew ?_ | refine blk_alloc ?_ _)); refine blk_put (cs := #[.slice Ao35 t152.length co35, .int .i64 0, .slice none 0 0, .slice none 0 0, .slice none 0 0]) ?_ 1 _ rfl; (with_reducible repeat (first | refine blk_drewN ?_ _ | refine blk_drew ?_ | refine blk_alloc ?_ _)); refine blk_put (cs := #[.slice none 0 0, .int .i64 0, .slice none 0 0, .slice none 0 0, .slice none 0 0]) ?_ 0 _ rfl; (with_reducible repeat (first | refine blk_drewN ?_ _ | refine blk_drew ?_ | refine blk_alloc ?_ _)); refine blk_far ?_ NB138_148.out _; (with_reducible repeat (first | refine blk_drewN ?_ _ | refine blk_drew ?_ | refine blk_alloc ?_ _)); exact BK138.out)) Try.underlying30 rfl (by kernel_rfl)) ?hst ?hR
  case hst =>
   rintro ⟨v0, v2, v3, v4, e, h0, h2, h3, h4, hb⟩
   exact ⟨v0, v2, v3, v4, e, R_mark h0 rfl hDf, R_mark h2 rfl hDf, R_mark h3 rfl hDf, R_mark h4 rfl hDf, below_mark hb HDge.out⟩
  case hR =>
   exact ⟨_, _, _, _, by first | rfl | (simp [errW_none, errW_some] <;> rfl) | (simp [*, errW_none, errW_some] <;> rfl), by (with_reducible repeat (first | apply Kd.R_alloc | apply Kd.R_drewN | apply Kd.R_drew)); exact Kd.R_mono (Kd.R_far (p := ⟨gb138, 4, none⟩) (Kd.R_far (p := ⟨gb138, 3, none⟩) (Kd.R_far (p := ⟨gb138, 2, none⟩) (Kd.R_far (p := ⟨gb138, 1, none⟩) (Kd.R_far (p := ⟨gb138, 0, none⟩) (Kd.R_far (p := ⟨gb148, 0, none⟩) (Kd.R_types (Kd.R_types HO154.out BK148.out (by decide)) BK138.out (by decide)) (fun _ hk => hk.1.2) (.slice Ao35 t152.length co35)) (fun _ hk => hk.2) (.slice Ao35 t152.length co35)) (fun _ hk => hk.2) (.int .i64 1)) (fun _ hk => hk.2) (.slice Ao21 t139.length co21)) (fun _ hk => hk.2) (.slice Ao20 t142.length co20)) (fun _ hk => hk.2) (.slice Ao19 t145.length co19)) (fun _ hk => ⟨hk.1.1.1.1.1.2, ⟨hk.1.1.1.1.2, hk.1.1.1.2⟩⟩), by (with_reducible repeat (first | apply Kd.R_alloc | apply Kd.R_drewN | apply Kd.R_drew)); exact Kd.R_mono (Kd.R_far (p := ⟨gb138, 4, none⟩) (Kd.R_far (p := ⟨gb138, 3, none⟩) (Kd.R_far (p := ⟨gb138, 2, none⟩) (Kd.R_far (p := ⟨gb138, 1, none⟩) (Kd.R_far (p := ⟨gb138, 0, none⟩) (Kd.R_far (p := ⟨gb148, 0, none⟩) (Kd.R_types (Kd.R_types HO141.out BK148.out (by decide)) BK138.out (by decide)) (fun _ hk => hk.1.2) (.slice Ao35 t152.length co35)) (fun _ hk => hk.2) (.slice Ao35 t152.length co35)) (fun _ hk => hk.2) (.int .i64 1)) (fun _ hk => hk.2) (.slice Ao21 t139.length co21)) (fun _ hk => hk.2) (.slice Ao20 t142.length co20)) (fun _ hk => hk.2) (.slice Ao19 t145.length co19)) (fun _ hk => ⟨hk.1.1.2, ⟨hk.1.1.1.1.1, hk.1.1.1.1.2⟩⟩), by (with_reducible repeat (first | apply Kd.R_alloc | apply Kd.R_drewN | apply Kd.R_drew)); exact Kd.R_mono (Kd.R_far (p := ⟨gb138, 4, none⟩) (Kd.R_far (p := ⟨gb138, 3, none⟩) (Kd.R_far (p := ⟨gb138, 2, none⟩) (Kd.R_far (p := ⟨gb138, 1, none⟩) (Kd.R_far (p := ⟨gb138, 0, none⟩) (Kd.R_far (p := ⟨gb148, 0, none⟩) (Kd.R_types (Kd.R_types HO144.out BK148.out (by decide)) BK138.out (by decide)) (fun _ hk => hk.1.2) (.slice Ao35 t152.length co35)) (fun _ hk => hk.2) (.slice Ao35 t152.length co35)) (fun _ hk => hk.2) (.int .i64 1)) (fun _ hk => hk.2) (.slice Ao21 t139.length co21)) (fun _ hk => hk.2) (.slice Ao20 t142.length co20)) (fun _ hk => hk.2) (.slice Ao19 t145.length co19)) (fun _ hk => ⟨hk.1.1.2, ⟨hk.1.1.1.1.1, hk.1.1.1.1.2⟩⟩), by (with_reducible repeat (first | apply Kd.R_alloc | apply Kd.R_drewN | apply Kd.R_drew)); exact Kd.R_mono (Kd.R_far (p := ⟨gb138, 4, none⟩) (Kd.R_far (p := ⟨gb138, 3, none⟩) (Kd.R_far (p := ⟨gb138, 2, none⟩) (Kd.R_far (p := ⟨gb138, 1, none⟩) (Kd.R_far (p := ⟨gb138, 0, none⟩) (Kd.R_far (p := ⟨gb148, 0, none⟩) (Kd.R_types (Kd.R_types HO147.out BK148.out (by decide)) BK138.out (by decide)) (fun _ hk => hk.1.2) (.slice Ao35 t152.length co35)) (fun _ hk => hk.2) (.slice Ao35 t152.length co35)) (fun _ hk => hk.2) (.int .i64 1)) (fun _ hk => hk.2) (.slice Ao21 t139.length co21)) (fun _ hk => hk.2) (.slice Ao20 t142.length co20)) (fun _ hk => hk.2) (.slice Ao19 t145.length co19)) (fun _ hk => ⟨hk.1.1.2, ⟨hk.1.1.1.1.1, hk.1.1.1.1.2⟩⟩), by repeat (first | (with_reducible first | exact HB.out | apply below_alloc | apply pw_below_drewN | apply below_drew1 | refine below_set ?_ GE137.out | refine below_set ?_ GE138.out | refine below_set ?_ GE148.out) | exact HB.out)⟩
end Go.Proofs.Ytmkjkkmilopcpaa.Q
