-- packed by wip/tools/pack.py (a program of this session) out of its own texts
import Derived.Test.YtndkimjmbpbcmaaPMergeAll0
import Derived.ArgAppend
import Derived.Below
import Derived.BigQuiet
import Derived.Deep.AppendLies
import Derived.Deep.CutBlock
import Derived.Deep.DeepCutAuto
import Derived.Deep.Draws
import Derived.Deep.LoopGhost
import Derived.Deep.OwnRows
import Derived.Deep.QuietTactic
import Derived.Deep.RegionHeld3
import Derived.KernelRfl
import Derived.Laws.BitsLemmas
import Derived.Laws.BytesArg
import Derived.Laws.IdiomCopy
import Derived.Laws.MakeOwn
import Derived.Laws.OwnMore
import Derived.Laws.Rows
import Derived.Laws.Slices
import Derived.Lib.AppendStr
import Derived.Lib.ConvBytes
import Derived.LoopIn
import Derived.LoopNIn
import Derived.Maps.AppendAt
import Derived.OrdersHeld
import Derived.OrdersIn
import Derived.OwnWalk
import Derived.OwnWalkIn
import Derived.RangeFuncBound
import Derived.RangeFuncBox
import Derived.RangeFuncCalls
import Derived.RangeFuncLeaves
import Derived.RangeFuncNested
import Derived.RangeFuncOwn
import Derived.RowKit
import Derived.RowKit3
import Derived.Shelf.Abstract
import Derived.Shelf.RegionOpen
import Derived.Tactics
import Derived.TacticsInMore
import Derived.Test.YtndkimjmbpbcmaaProg
import Derived.WalkKit
import Derived.WideLaws
import Derived.Test.YtndkimjmbpbcmaaPMergeAll1
import Derived.Test.YtndkimjmbpbcmaaPMergeAll3
import Derived.Test.YtndkimjmbpbcmaaPMergeAll4
import Derived.Test.YtndkimjmbpbcmaaPMergeAll5
import Derived.Test.YtndkimjmbpbcmaaPMergeAll6
import Derived.Test.YtndkimjmbpbcmaaPMergeAll9
import Derived.Test.YtndkimjmbpbcmaaPMergeAll13
namespace Go.Proofs.Ytndkimjmbpbcmaa.Q
open Go.RowKit Go.Shelf Go.Proofs.YtndkimjmbpbcmaaW.PrintWords Go.Proofs.YtndkimjmbpbcmaaW.PrintLast Go.Proofs.YtndkimjmbpbcmaaW.PrintMore
set_option linter.unusedVariables false
set_option linter.unusedSimpArgs false
attribute [local go_sem] Oper.semAt_some
def CellsAre (w : World) (ad : Addr) (len : Nat) (cv : Nat → Nat → Value) : Prop := ∀ j, j < len → w.cell? (ad.add (j * 5)) = some (cv j 0) ∧ w.cell? ⟨(ad.add (j * 5)).block, (ad.add (j * 5)).off + 1, none⟩ = some (cv j 1) ∧ w.cell? ⟨(ad.add (j * 5)).block, (ad.add (j * 5)).off + 2, none⟩ = some (cv j 2) ∧
 w.cell? ⟨(ad.add (j * 5)).block, (ad.add (j * 5)).off + 3, none⟩ = some (cv j 3) ∧ w.cell? ⟨(ad.add (j * 5)).block, (ad.add (j * 5)).off + 4, none⟩ = some (cv j 4)
abbrev At (n : Nat) := { j : Nat // j < n }
def KeepsOld (w0 : World) (bad : Nat → Prop) (W W' : World) : Prop := ∀ p v, w0.cell? p = some v → ¬ bad p.block → W.cell? p = some v → W'.cell? p = some v
theorem keepsOld_t {w0 : World} {bad : Nat → Prop} {W1 W2 W3 : World} (h : KeepsOld w0 bad W1 W2) (k : KeepsOld w0 bad W2 W3) : KeepsOld w0 bad W1 W3 := fun p v h0 hb h1 => k p v h0 hb (h p v h0 hb h1)
theorem keepsOld_b {w0 : World} {bad : Nat → Prop} (W : World) (l : Nat) (o o' : Obj) (h : W.heap[l]? = some o) (ho : o.isCells = false) : KeepsOld w0 bad W (W.putObj l o') :=
 fun _ _ _ _ hv => cell_kept hv (grownBy_putObj' W l o') (fun r e => by cases e; exact ⟨_, h, ho⟩)
theorem keepsOld_below {w0 W W' : World} {bad : Nat → Prop} (h : Below W.heap.size W W') : KeepsOld w0 bad W W' := fun p v _ _ hv => (h.cell (World.block_lt_of_cell? W _ hv)).trans hv
def encsC (cv : Nat → Nat → Value) (j : Nat) : Array Value := #[.agg #[cv j 0, cv j 1, cv j 2, cv j 3, cv j 4]]
theorem range0_pre {a b : Nat} (h : a ≤ b) : List.range a <+: List.range b := by
 obtain ⟨d, rfl⟩ : ∃ d, b = a + d := ⟨b - a, by omega⟩
 rw [List.range_add]
 exact List.prefix_append _ _
def cvOf (w : World) (ad : Addr) (j q : Nat) : Value := (w.cell? (if q = 0 then ad.add (j * 5) else ⟨(ad.add (j * 5)).block, (ad.add (j * 5)).off + q, none⟩)).getD undef
def slA : Value → Option Addr
 | .slice A _ _ => A
 | _ => none
def slC : Value → Nat
 | .slice _ _ c => c
 | _ => 0
def cvT (w : World) (ad : Addr) (l : List S44) (j : Nat) : Nat → Value
 | 0 => .slice (slA (cvOf w ad j 0)) (rd_T44 l (j : Int)).f0.length (slC (cvOf w ad j 0))
 | 1 => .int .i64 (rd_T44 l (j : Int)).f1
 | 2 => .slice (slA (cvOf w ad j 2)) (rd_T44 l (j : Int)).f2.length (slC (cvOf w ad j 2))
 | 3 => .slice (slA (cvOf w ad j 3)) (rd_T44 l (j : Int)).f3.length (slC (cvOf w ad j 3))
 | _ => .slice (slA (cvOf w ad j 4)) (rd_T44 l (j : Int)).f4.length (slC (cvOf w ad j 4))
set_option maxRecDepth 100000 in
set_option maxHeartbeats 2000000 in
theorem ofc1_in (n : Nat) (hn : 1 ≤ n) (l Bn : Nat) (A : Option Addr) (ad : Addr) (l0 : List S44) (c : Nat) (ws w0 : World) (bad : Nat → Prop) (hbd : ∀ j, j < l0.length → ¬ bad (ad.add (j * 5)).block) (J Jx : List (At l0.length) → World → Prop) (hA : 0 < l0.length → A = some ad) (hcells : CellsAre w0 ad l0.length (cvT ws ad l0))
  (hY : ∀ pre (x : At l0.length) W, J pre W → pre.length < l0.length → YieldAt Fence.wide (n - 1) Try.prog l (encsC (cvT ws ad l0) x.1) W fun e W' =>
   (e = .returned (.bool true) ∧ J (pre ++ [x]) W' ∧ KeepsOld w0 bad W W') ∨ (e = .returned (.bool false) ∧ Jx (pre ++ [x]) W'))
  (W : World) (hBn : W.cell? ⟨Bn, 0, none⟩ = some (.slice A l0.length c)) (hW : ∀ p v, w0.cell? p = some v → ¬ bad p.block → W.cell? p = some v) (hD : ∀ pre W o, J pre W → J pre (W.alloc o)) (h0 : J [] W) (hlen : l0.length ≤ 9223372036854775807) :
  CallsIn Fence.wide n Try.prog 47 #[.func (.yield l) #[] #[], .pointer (some ⟨Bn, 0, none⟩)] W fun e W' => (∃ v, e = .returned v) ∧
   ((∃ ys, ys.map (·.1) = List.range l0.length ∧ J ys W') ∨ (∃ pre, pre.map (·.1) <+: List.range l0.length ∧ Jx pre W')) := by
 have hu44 := Try.underlying44
 refine callsIn_of_wp Try.func47 rfl trivial ?_ rfl
 simp only [Try.ntmps47, List.size_toArray, List.length_cons, List.length_nil, Nat.reduceAdd, Nat.reduceSub, Array.replicate_succ, Array.replicate_zero, List.push_toArray, List.append_toArray, List.nil_append, List.cons_append]
 gi_wp2
 gi_loopw [7] (fun p wr => ∃ (j : Nat) (pre : List (At l0.length)), p = .int .i64 (j : Int) ∧ pre.map (·.1) = List.range j ∧ j ≤ l0.length ∧ (∀ p v, w0.cell? p = some v → ¬ bad p.block → wr.cell? p = some v) ∧ J pre wr)
  (fun p wr => l0.length - (intOf p).toNat)
 case atStart =>
  exact ⟨0, [], rfl, rfl, by omega, hW, h0⟩
 case round =>
  obtain ⟨j, pre, rfl, hpre, hj, hWr, hJs⟩ := hrel
  have hpl : pre.length = j := by have := congrArg List.length hpre; simpa using this
  by_cases hlt : j < l0.length
  ·have hA' := hA (by omega)
   subst hA'
   obtain ⟨a0, a1, a2, a3, a4⟩ := hcells j hlt
   replace a0 := hWr _ _ a0 (hbd j hlt)
   replace a1 := hWr _ _ a1 (hbd j hlt)
   replace a2 := hWr _ _ a2 (hbd j hlt)
   replace a3 := hWr _ _ a3 (hbd j hlt)
   replace a4 := hWr _ _ a4 (hbd j hlt)
   obtain ⟨x, hx⟩ : ∃ x : At l0.length, x = ⟨j, hlt⟩ := ⟨⟨j, hlt⟩, rfl⟩
   have hmap : (pre ++ [x]).map (·.1) = List.range (j + 1) := by rw [List.map_append, hpre, hx, List.range_succ]; simp
   have HM := am hmap
   have HW := am hWr
   have w2 : wrap64 ((j : Int) + 1) = ((j + 1 : Nat) : Int) := by unfold wrap64; omega
   have c1 : ((j : Int) < (l0.length : Int)) = True := eq_true (by omega)
   have c2 : (0 ≤ (j : Int)) = True := eq_true (by omega)
   dsimp only [cvT] at a0 a1 a2 a3 a4
   obtain ⟨fn, tmps, assign, body, hy, hR⟩ := hY pre x (wr.alloc (.cells #[.slice (slA (cvOf ws ad j 0)) (rd_T44 l0 (j : Int)).f0.length (slC (cvOf ws ad j 0)), .int .i64 (rd_T44 l0 (j : Int)).f1, .slice (slA (cvOf ws ad j 2)) (rd_T44 l0 (j : Int)).f2.length (slC (cvOf ws ad j 2)), .slice (slA (cvOf ws ad j 3)) (rd_T44 l0 (j : Int)).f3.length (slC (cvOf ws ad j 3)), .slice (slA (cvOf ws ad j 4)) (rd_T44 l0 (j : Int)).f4.length (slC (cvOf ws ad j 4))] 44)) (hD _ _ _ hJs) (by omega)
   rw [hx] at hy
   dsimp only [encsC, cvT] at hy
   have HX := am hR
   have hkw : ∀ p v, w0.cell? p = some v → ¬ bad p.block → (wr.alloc (.cells #[.slice (slA (cvOf ws ad j 0)) (rd_T44 l0 (j : Int)).f0.length (slC (cvOf ws ad j 0)), .int .i64 (rd_T44 l0 (j : Int)).f1, .slice (slA (cvOf ws ad j 2)) (rd_T44 l0 (j : Int)).f2.length (slC (cvOf ws ad j 2)), .slice (slA (cvOf ws ad j 3)) (rd_T44 l0 (j : Int)).f3.length (slC (cvOf ws ad j 3)), .slice (slA (cvOf ws ad j 4)) (rd_T44 l0 (j : Int)).f4.length (slC (cvOf ws ad j 4))] 44)).cell? p = some v := fun p v h hb => ((below_alloc (Below.refl wr.heap.size wr) _).cell (World.block_lt_of_cell? wr _ (hWr p v h hb))).trans (hWr p v h hb)
   have HKW := am hkw
   clear hR hmap hpre hWr hkw
   gi_wp2
   refine HX.out.mono ?_
   rintro e W3 (⟨rfl, hJ3, hk3⟩ | ⟨rfl, hJx3⟩)
   ·have HJ3 := am hJ3
    have hw3 : ∀ p v, w0.cell? p = some v → ¬ bad p.block → W3.cell? p = some v := fun p v h hb => hk3 p v h hb (HKW.out p v h hb)
    have HW3 := am hw3
    clear hJ3 hk3 hw3 hy a0 a1 a2 a3 a4
    gi_wp2
    go_roundw
    case rel => exact ⟨j + 1, pre ++ [x], by simp, HM.out, by omega, HW3.out, HJ3.out⟩
    case measure => simp [intOf]; omega
   ·have HJ3 := am hJx3
    clear hJx3 hy a0 a1 a2 a3 a4
    gi_wp2
    refine bodyPost_ret (results_none rfl _ _ _) rfl ?_
    refine ⟨⟨_, rfl⟩, .inr ⟨pre ++ [x], ?_, HJ3.out⟩⟩
    show (pre ++ [x]).map (·.1) <+: _
    rw [HM.out]
    exact range0_pre (by omega)
  ·have hj2 : j = l0.length := by omega
   have c1 : ((j : Int) < (l0.length : Int)) = False := eq_false (by omega)
   have c7 : (j < l0.length) = False := eq_false hlt
   gi_wp2
   go_end0
   exact ⟨⟨_, rfl⟩, .inl ⟨pre, by rw [hpre, hj2], hJs⟩⟩
theorem ofc_in (n : Nat) (A : Option Addr) (len c : Nat) (w : World) :
  CallsIn Fence.wide n Try.prog 36 #[.slice A len c] w fun e w' => e = .returned (.func (.func 47) #[] #[.pointer (some ⟨w.heap.size, 0, none⟩)]) ∧ w' = w.alloc (.cells #[.slice A len c] 31) := by
 refine callsIn_of_wp Try.func36 rfl trivial ?_ rfl
 simp only [Try.ntmps36, List.size_toArray, List.length_cons, List.length_nil, Nat.reduceAdd, Nat.reduceSub, Array.replicate_succ, Array.replicate_zero, List.push_toArray, List.append_toArray, List.nil_append, List.cons_append]
 gi_wp2
 go_ret
 exact ⟨rfl, rfl⟩
theorem ofc_stops (n : Nat) (hn : 1 ≤ n) (Bn : Nat) (A : Option Addr) (ad : Addr) (l0 : List S44) (c : Nat) (ws w : World) (bad : Nat → Prop) (hbd : ∀ j, j < l0.length → ¬ bad (ad.add (j * 5)).block) (hA : 0 < l0.length → A = some ad) (hcells : CellsAre w ad l0.length (cvT ws ad l0)) (hBn : w.cell? ⟨Bn, 0, none⟩ = some (.slice A l0.length c)) (hlen : l0.length ≤ 9223372036854775807) :
  SeqStopsK Fence.wide n Try.prog 47 #[.pointer (some ⟨Bn, 0, none⟩)] (fun x : At l0.length => encsC (cvT ws ad l0) x.1) (KeepsOld w bad) (fun ys => ys.map (·.1) = List.range l0.length) (fun pre => pre.map (·.1) <+: List.range l0.length) l0.length w := fun l J Jx W hW hJ _ hY h0 =>
 have hc : ∀ p v, w.cell? p = some v → W.cell? p = some v := fun p v h => (hW.cell (World.block_lt_of_cell? w _ h)).trans h
 ofc1_in n hn l Bn A ad l0 c ws w bad hbd J Jx hA hcells hY W (hc _ _ hBn) (fun p v h _ => hc p v h) (fun pre W1 o h => hJ pre W1 _ none h (World.grownBy_alloc W1 o none) (fun r e => by cases e)) h0 hlen
def slOf (w : World) (ad : Addr) (j : Nat) : Value := (w.cell? (ad.add j)).getD undef
def lenR (rows : List (List S44)) (j : Nat) : Nat := (rows.getD j []).length
def cvR (w : World) (ad : Addr) (rows : List (List S44)) (j : Nat) : Value := .slice (slA (slOf w ad j)) (lenR rows j) (slC (slOf w ad j))
def RowsAre (w : World) (ad : Addr) (len : Nat) (cv : Nat → Value) : Prop := ∀ j, j < len → w.cell? (ad.add j) = some (cv j)
set_option maxRecDepth 100000 in
set_option maxHeartbeats 2000000 in
theorem ofr1_in (n : Nat) (hn : 1 ≤ n) (l Bn : Nat) (A : Option Addr) (ad : Addr) (rs : List (List S44)) (c : Nat) (ws w0 : World) (bad : Nat → Prop) (hbd : ∀ j, j < rs.length → ¬ bad (ad.add j).block) (J Jx : List (At rs.length) → World → Prop) (hA : 0 < rs.length → A = some ad) (hcells : RowsAre w0 ad rs.length (cvR ws ad rs))
  (hY : ∀ pre (x : At rs.length) W, J pre W → pre.length < rs.length → YieldAt Fence.wide (n - 1) Try.prog l (#[cvR ws ad rs x.1]) W fun e W' =>
   (e = .returned (.bool true) ∧ J (pre ++ [x]) W' ∧ KeepsOld w0 bad W W') ∨ (e = .returned (.bool false) ∧ Jx (pre ++ [x]) W'))
  (W : World) (hBn : W.cell? ⟨Bn, 0, none⟩ = some (.slice A rs.length c)) (hW : ∀ p v, w0.cell? p = some v → ¬ bad p.block → W.cell? p = some v) (h0 : J [] W) (hlen : rs.length ≤ 9223372036854775807) :
  CallsIn Fence.wide n Try.prog 55 #[.func (.yield l) #[] #[], .pointer (some ⟨Bn, 0, none⟩)] W fun e W' => (∃ v, e = .returned v) ∧
   ((∃ ys, ys.map (·.1) = List.range rs.length ∧ J ys W') ∨ (∃ pre, pre.map (·.1) <+: List.range rs.length ∧ Jx pre W')) := by
 refine callsIn_of_wp Try.func55 rfl trivial ?_ rfl
 simp only [Try.ntmps55, List.size_toArray, List.length_cons, List.length_nil, Nat.reduceAdd, Nat.reduceSub, Array.replicate_succ, Array.replicate_zero, List.push_toArray, List.append_toArray, List.nil_append, List.cons_append]
 gi_wp2
 gi_loopw [7] (fun p wr => ∃ (j : Nat) (pre : List (At rs.length)), p = .int .i64 (j : Int) ∧ pre.map (·.1) = List.range j ∧ j ≤ rs.length ∧ (∀ p v, w0.cell? p = some v → ¬ bad p.block → wr.cell? p = some v) ∧ J pre wr)
  (fun p wr => rs.length - (intOf p).toNat)
 case atStart =>
  exact ⟨0, [], rfl, rfl, by omega, hW, h0⟩
 case round =>
  obtain ⟨j, pre, rfl, hpre, hj, hWr, hJs⟩ := hrel
  have hpl : pre.length = j := by have := congrArg List.length hpre; simpa using this
  by_cases hlt : j < rs.length
  ·have hA' := hA (by omega)
   subst hA'
   have a0 := hcells j hlt
   replace a0 := hWr _ _ a0 (hbd j hlt)
   obtain ⟨x, hx⟩ : ∃ x : At rs.length, x = ⟨j, hlt⟩ := ⟨⟨j, hlt⟩, rfl⟩
   have hmap : (pre ++ [x]).map (·.1) = List.range (j + 1) := by rw [List.map_append, hpre, hx, List.range_succ]; simp
   have HM := am hmap
   have HW := am hWr
   have w2 : wrap64 ((j : Int) + 1) = ((j + 1 : Nat) : Int) := by unfold wrap64; omega
   have c1 : ((j : Int) < (rs.length : Int)) = True := eq_true (by omega)
   have c2 : (0 ≤ (j : Int)) = True := eq_true (by omega)
   dsimp only [cvR] at a0
   obtain ⟨fn, tmps, assign, body, hy, hR⟩ := hY pre x wr hJs (by omega)
   rw [hx] at hy
   dsimp only [cvR] at hy
   have HX := am hR
   clear hR hmap hpre hWr
   gi_wp2
   refine HX.out.mono ?_
   rintro e W3 (⟨rfl, hJ3, hk3⟩ | ⟨rfl, hJx3⟩)
   ·have HJ3 := am hJ3
    have hw3 : ∀ p v, w0.cell? p = some v → ¬ bad p.block → W3.cell? p = some v := fun p v h hb => hk3 p v h hb (HW.out p v h hb)
    have HW3 := am hw3
    clear hJ3 hk3 hw3 hy a0
    gi_wp2
    go_roundw
    case rel => exact ⟨j + 1, pre ++ [x], by simp, HM.out, by omega, HW3.out, HJ3.out⟩
    case measure => simp [intOf]; omega
   ·have HJ3 := am hJx3
    clear hJx3 hy a0
    gi_wp2
    refine bodyPost_ret (results_none rfl _ _ _) rfl ?_
    refine ⟨⟨_, rfl⟩, .inr ⟨pre ++ [x], ?_, HJ3.out⟩⟩
    show (pre ++ [x]).map (·.1) <+: _
    rw [HM.out]
    exact range0_pre (by omega)
  ·have hj2 : j = rs.length := by omega
   have c1 : ((j : Int) < (rs.length : Int)) = False := eq_false (by omega)
   have c7 : (j < rs.length) = False := eq_false hlt
   gi_wp2
   go_end0
   exact ⟨⟨_, rfl⟩, .inl ⟨pre, by rw [hpre, hj2], hJs⟩⟩
theorem ofr_in (n : Nat) (A : Option Addr) (len c : Nat) (w : World) :
  CallsIn Fence.wide n Try.prog 45 #[.slice A len c] w fun e w' => e = .returned (.func (.func 55) #[] #[.pointer (some ⟨w.heap.size, 0, none⟩)]) ∧ w' = w.alloc (.cells #[.slice A len c] 29) := by
 refine callsIn_of_wp Try.func45 rfl trivial ?_ rfl
 simp only [Try.ntmps45, List.size_toArray, List.length_cons, List.length_nil, Nat.reduceAdd, Nat.reduceSub, Array.replicate_succ, Array.replicate_zero, List.push_toArray, List.append_toArray, List.nil_append, List.cons_append]
 gi_wp2
 go_ret
 exact ⟨rfl, rfl⟩
theorem ofr_stops (n : Nat) (hn : 1 ≤ n) (Bn : Nat) (A : Option Addr) (ad : Addr) (rs : List (List S44)) (c : Nat) (ws w : World) (bad : Nat → Prop) (hbd : ∀ j, j < rs.length → ¬ bad (ad.add j).block) (hA : 0 < rs.length → A = some ad) (hcells : RowsAre w ad rs.length (cvR ws ad rs)) (hBn : w.cell? ⟨Bn, 0, none⟩ = some (.slice A rs.length c)) (hlen : rs.length ≤ 9223372036854775807) :
  SeqStopsK Fence.wide n Try.prog 55 #[.pointer (some ⟨Bn, 0, none⟩)] (fun x : At rs.length => #[cvR ws ad rs x.1]) (KeepsOld w bad) (fun ys => ys.map (·.1) = List.range rs.length) (fun pre => pre.map (·.1) <+: List.range rs.length) rs.length w := fun l J Jx W hW hJ _ hY h0 =>
 have hc : ∀ p v, w.cell? p = some v → W.cell? p = some v := fun p v h => (hW.cell (World.block_lt_of_cell? w _ h)).trans h
 ofr1_in n hn l Bn A ad rs c ws w bad hbd J Jx hA hcells hY W (hc _ _ hBn) (fun p v h _ => hc p v h) h0 hlen
end Go.Proofs.Ytndkimjmbpbcmaa.Q
namespace Go.Proofs.Ytndkimjmbpbcmaa.Q
open Go.RowKit Go.Shelf Go.Proofs.YtndkimjmbpbcmaaW.PrintWords Go.Proofs.YtndkimjmbpbcmaaW.PrintLast Go.Proofs.YtndkimjmbpbcmaaW.PrintMore
set_option linter.unusedVariables false
set_option linter.unusedSimpArgs false
attribute [local go_sem] Oper.semAt_some max2_int min2_int
def pieces (len m : Nat) : Nat := (len + m - 1) / m
theorem pieces_lt {len m q : Nat} (hm : 1 ≤ m) : q < pieces len m ↔ q * m < len := by
 unfold pieces
 rw [Nat.lt_div_iff_mul_lt (by omega)]
 omega
def pieceV (ad : Addr) (len m q : Nat) : Value := .slice (some (ad.add (q * m))) (min m (len - q * m)) (min m (len - q * m))
theorem wr1 {i e len : Nat} (h : i + e ≤ len) (hl : len ≤ 1000000) : wrap64 ((i : Int) + (e : Int)) = ((i + e : Nat) : Int) := by
 unfold wrap64; omega
theorem wr2 {i m len : Nat} (h : i < len) (hl : len ≤ 1000000) (hm : m ≤ 1000000) : wrap64 ((i : Int) + (m : Int)) = ((i + m : Nat) : Int) := by
 unfold wrap64; omega
theorem wr3 {i e len c : Nat} (h : i + e ≤ len) (hl : len ≤ c) : ((i : Int) + (e : Int) ≤ (c : Int)) = True := eq_true (by omega)
theorem wr4 {i e : Nat} : ((i : Int) ≤ (i : Int) + (e : Int)) = True := eq_true (by omega)
theorem wr5 {i e : Nat} : (0 ≤ (i : Int) + (e : Int)) = True := eq_true (by omega)
theorem wr6 {i e len c : Nat} (h : i + e ≤ len) (hl : len ≤ c) : (i + e ≤ c) = True := eq_true (by omega)
def chunk1.T3 : Bool × List (List Nat × List Nat) := (true, [([], []), ([], []), ([], []), ([1, 2], [1, 2]), ([3], [3]), ([0, 4], [0, 4]), ([5, 0, 1, 2, 3, 4, 5], [5])])
def chunk1.B3 : List Nat := [0, 0, 0, 6, 14, 31, 63]
theorem chunk1.tab3 : rtab .any (opsOf Try.f44 3) = chunk1.T3 := by kernel_rfl
theorem chunk1.bits3 : waitsOk chunk1.T3.2 chunk1.B3 = true := by kernel_rfl
set_option maxRecDepth 100000 in
set_option maxHeartbeats 4000000 in
theorem chunk1_in (n : Nat) (hn : 1 ≤ n) (l Bn Bm : Nat) (A : Option Addr) (ad : Addr) (len c m : Nat) (hm : 1 ≤ m) (hm2 : m ≤ 1000000) (J Jx : List (At (pieces len m)) → World → Prop) (hA : 0 < len → A = some ad) (hlc : len ≤ c)
  (Kb : World → World → Prop) (hKb : ∀ W W', Kb W W' → ∀ p v, (p = ⟨Bn, 0, none⟩ ∨ p = ⟨Bm, 0, none⟩) → W.cell? p = some v → W'.cell? p = some v)
  (hY : ∀ pre (x : At (pieces len m)) W, J pre W → pre.length < pieces len m → YieldAt Fence.wide (n - 1) Try.prog l #[pieceV ad len m x.1] W fun e W' =>
   (e = .returned (.bool true) ∧ J (pre ++ [x]) W' ∧ Kb W W') ∨ (e = .returned (.bool false) ∧ Jx (pre ++ [x]) W'))
  (W : World) (hBn : W.cell? ⟨Bn, 0, none⟩ = some (.slice A len c)) (hBm : W.cell? ⟨Bm, 0, none⟩ = some (.int .i64 (m : Int))) (hD : ∀ pre W, J pre W → J pre W.drew) (h0 : J [] W) (hlen : len ≤ 1000000) :
  CallsIn Fence.wide n Try.prog 44 #[.func (.yield l) #[] #[], .pointer (some ⟨Bn, 0, none⟩), .pointer (some ⟨Bm, 0, none⟩)] W fun e W' => (∃ v, e = .returned v) ∧
   ((∃ ys, ys.map (·.1) = List.range (pieces len m) ∧ J ys W') ∨ (∃ pre, pre.map (·.1) <+: List.range (pieces len m) ∧ Jx pre W')) := by
 refine callsIn_of_wp Try.func44 rfl trivial ?_ rfl
 simp only [Try.ntmps44, List.size_toArray, List.length_cons, List.length_nil, Nat.reduceAdd, Nat.reduceSub, Array.replicate_succ, Array.replicate_zero, List.push_toArray, List.append_toArray, List.nil_append, List.cons_append]
 gi_wp2
 gi_loopw [4] (fun p wr => ∃ (q : Nat) (pre : List (At (pieces len m))), p = .int .i64 ((q * m : Nat) : Int) ∧ pre.map (·.1) = List.range q ∧ q ≤ pieces len m ∧ wr.cell? ⟨Bn, 0, none⟩ = some (.slice A len c) ∧ wr.cell? ⟨Bm, 0, none⟩ = some (.int .i64 (m : Int)) ∧ J pre wr)
  (fun p wr => len + m - (intOf p).toNat)
 case atStart =>
  exact ⟨0, [], by simp, rfl, by omega, hBn, hBm, h0⟩
 case round =>
  obtain ⟨q, pre, rfl, hpre, hq, hn0, hm0, hJs⟩ := hrel
  have hpl : pre.length = q := by have := congrArg List.length hpre; simpa using this
  by_cases hlt : q < pieces len m
  ·have hqm := (pieces_lt hm).1 hlt
   have hA' := hA (by omega)
   subst hA'
   obtain ⟨i, hi⟩ : ∃ i, i = q * m := ⟨_, rfl⟩
   rw [← hi] at hqm
   obtain ⟨x, hx⟩ : ∃ x : At (pieces len m), x = ⟨q, hlt⟩ := ⟨⟨q, hlt⟩, rfl⟩
   have hmap : (pre ++ [x]).map (·.1) = List.range (q + 1) := by rw [List.map_append, hpre, hx, List.range_succ]; simp
   obtain ⟨fn, tmps, assign, body, hy, hR⟩ := hY pre x wr.drew (hD _ _ hJs) (by omega)
   rw [hx] at hy
   unfold pieceV at hy
   rw [show (⟨q, hlt⟩ : At (pieces len m)).1 = q from rfl, ← hi] at hy
   have HX := am hR
   have HM := am hmap
   have HI := am hi
   rw [← hi]
   obtain ⟨e, he, e1, e2, e3⟩ : ∃ e, min m (len - i) = e ∧ i + e ≤ len ∧ (len - i < m → e = len - i) ∧ (¬ len - i < m → e = m) := by
    by_cases c : len - i < m
    ·exact ⟨len - i, Nat.min_eq_right (Nat.le_of_lt c), by omega, fun _ => rfl, fun h => absurd c h⟩
    ·exact ⟨m, Nat.min_eq_left (Nat.le_of_not_lt c), by omega, fun h => absurd h c, fun _ => rfl⟩
   rw [he] at hy
   clear he
   have hE : (if len - i < m then ((len - i : Nat) : Int) else (m : Int)) = ((e : Nat) : Int) := by
    by_cases h : len - i < m
    ·rw [if_pos h, e2 h]
    ·rw [if_neg h, e3 h]
   have hci : ¬ c = i := by omega
   have c1 : ((i : Int) < (len : Int)) = True := eq_true (by omega)
   have c2 : (0 ≤ (i : Int)) = True := eq_true (by omega)
   have c3 : ((i : Int) ≤ (len : Int)) = True := eq_true (by omega)
   have c4 : ((len : Int) ≤ (c : Int)) = True := eq_true (by omega)
   have d1 : wrap64 ((i : Int) + (e : Int)) = ((i + e : Nat) : Int) := wr1 e1 hlen
   have d2 : wrap64 ((i : Int) + (m : Int)) = ((i + m : Nat) : Int) := wr2 hqm hlen hm2
   have d3 : (0 ≤ (i : Int) + (e : Int)) = True := wr5
   have d4 : ((i : Int) ≤ (i : Int) + (e : Int)) = True := wr4
   have d5 : ((i : Int) + (e : Int) ≤ (c : Int)) = True := wr3 e1 hlc
   have d6 : (i + e ≤ c) = True := wr6 e1 hlc
   clear e1 e2 e3
   clear hR hmap hpre hi
   gi_wp2
   refine wpIn_wide.2 ?_
   refine start_ (n := 7) (S := fun w' => w'.cell? ⟨Bm, 0, none⟩ = some (.int .i64 (m : Int)) ∧ w'.cell? ⟨Bn, 0, none⟩ = some (.slice (some ad) len c)) (ds := []) (bb 7 0) (by kernel_rfl) rfl rfl ⟨hm0, hn0⟩ (fun hHeld => ?_); refine with_tabW chunk1.tab3 chunk1.bits3 (fun HT_ HW_ => ?_)
   refine pu (i := 2) (N := some 15) (bb 7 4) HT_ ?_
   refine tk (i := 0) (N := some 13) (bb 7 5) HT_ HW_ hHeld ?_
   refine tk (i := 1) (N := some 14) (bb 7 7) HT_ HW_ hHeld ?_
   refine pu (i := 3) (N := some 16) (bb 7 15) HT_ ?_
   refine pu (i := 4) (N := some 17) (bb 7 31) HT_ ?_
   refine pu (i := 5) (N := some 18) (bb 7 63) HT_ ?_
   refine pu (i := 6) (N := some 5) (bb 7 127) HT_ ?_
   refine done_ (done_of HT_.out (by kernel_rfl)) ?_
   have HD2 := am d2
   clear d1 d2 d3 d4 d5 d6
   gi_wp2
   refine HX.out.mono ?_
   rintro e2 W3 (⟨rfl, hJ3, hk3⟩ | ⟨rfl, hJx3⟩)
   ·have hn3 := hKb _ _ hk3 ⟨Bn, 0, none⟩ _ (.inl rfl) hn0
    have hm3 := hKb _ _ hk3 ⟨Bm, 0, none⟩ _ (.inr rfl) hm0
    have HJ3 := am hJ3
    clear hJ3 hk3 hy hHeld hn0 hm0
    gi_wp2
    go_roundw
    case rel => exact ⟨q + 1, pre ++ [x], by rw [Nat.add_mul, Nat.one_mul, ← HI.out]; simp, HM.out, by omega, hn3, hm3, HJ3.out⟩
    case measure => simp [intOf]; omega
   ·have HJ3 := am hJx3
    clear hJx3 hy hHeld hn0 hm0
    gi_wp2
    refine bodyPost_ret (results_none rfl _ _ _) rfl ?_
    refine ⟨⟨_, rfl⟩, .inr ⟨pre ++ [x], ?_, HJ3.out⟩⟩
    show (pre ++ [x]).map (·.1) <+: _
    rw [HM.out]
    exact range0_pre (by omega)
  ·have hqe : q = pieces len m := by omega
   have hge : ¬ q * m < len := fun h => hlt ((pieces_lt hm).2 h)
   obtain ⟨i, hi⟩ : ∃ i, i = q * m := ⟨_, rfl⟩
   rw [← hi] at hge ⊢
   have c1 : ((i : Int) < (len : Int)) = False := eq_false (by omega)
   have c2 : (i < len) = False := eq_false hge
   have HP := am (show pre.map (·.1) = List.range (pieces len m) by rw [hpre, hqe])
   clear hi hqe hpre hlt hq hge
   gi_wp2
   go_end0
   exact ⟨⟨_, rfl⟩, .inl ⟨pre, HP.out, hJs⟩⟩
theorem chunk_in (n : Nat) (A : Option Addr) (len c m : Nat) (hm : 1 ≤ m) (w : World) :
  CallsIn Fence.wide n Try.prog 33 #[.slice A len c, .int .i64 (m : Int)] w fun e w' => e = .returned (.func (.func 44) #[] #[.pointer (some ⟨w.heap.size, 0, none⟩), .pointer (some ⟨w.heap.size + 1, 0, none⟩)]) ∧ w' = (w.alloc (.cells #[.slice A len c] 29)).alloc (.cells #[.int .i64 (m : Int)] 3) := by
 refine callsIn_of_wp Try.func33 rfl trivial ?_ rfl
 simp only [Try.ntmps33, List.size_toArray, List.length_cons, List.length_nil, Nat.reduceAdd, Nat.reduceSub, Array.replicate_succ, Array.replicate_zero, List.push_toArray, List.append_toArray, List.nil_append, List.cons_append]
 have c1 : ((m : Int) < 1) = False := eq_false (by omega)
 have c2 : (m < 1) = False := eq_false (by omega)
 have c3 : (m = 0) = False := eq_false (by omega)
 gi_wp2
 go_ret
 exact ⟨rfl, rfl⟩
theorem grownBy_drew0 (W : World) : W.grownBy W.drew none :=
 have b : Below W.heap.size W W.drew := below_drew (Below.refl _ _)
 ⟨b.os, b.tape, b.output, b.size, fun k hk _ => b.block k hk⟩
theorem chunk_stops (n : Nat) (hn : 1 ≤ n) (Bn Bm : Nat) (A : Option Addr) (ad : Addr) (len c m : Nat) (hm : 1 ≤ m) (hm2 : m ≤ 1000000) (w : World) (hA : 0 < len → A = some ad) (hlc : len ≤ c) (Kb : World → World → Prop) (hKb : ∀ W W', Kb W W' → ∀ p v, (p = ⟨Bn, 0, none⟩ ∨ p = ⟨Bm, 0, none⟩) → W.cell? p = some v → W'.cell? p = some v)
  (hBn : w.cell? ⟨Bn, 0, none⟩ = some (.slice A len c)) (hBm : w.cell? ⟨Bm, 0, none⟩ = some (.int .i64 (m : Int))) (hlen : len ≤ 1000000) :
  SeqStopsK Fence.wide n Try.prog 44 #[.pointer (some ⟨Bn, 0, none⟩), .pointer (some ⟨Bm, 0, none⟩)] (fun x : At (pieces len m) => #[pieceV ad len m x.1]) Kb (fun ys => ys.map (·.1) = List.range (pieces len m)) (fun pre => pre.map (·.1) <+: List.range (pieces len m)) (pieces len m) w := fun l J Jx W hW hJ _ hY h0 =>
 have hc : ∀ p v, w.cell? p = some v → W.cell? p = some v := fun p v h => (hW.cell (World.block_lt_of_cell? w _ h)).trans h
 chunk1_in n hn l Bn Bm A ad len c m hm hm2 J Jx hA hlc Kb hKb hY W (hc _ _ hBn) (hc _ _ hBm) (fun pre W1 h => hJ pre W1 _ none h (grownBy_drew0 W1) (fun r e => by cases e)) h0 hlen
end Go.Proofs.Ytndkimjmbpbcmaa.Q
