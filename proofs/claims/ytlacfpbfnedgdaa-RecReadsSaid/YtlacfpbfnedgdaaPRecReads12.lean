-- packed by wip/tools/pack.py (a program of this session) out of its own texts
import Derived.Test.YtlacfpbfnedgdaaPRecReads0
import Derived.ArgAppend
import Derived.Below
import Derived.BigQuiet
import Derived.Deep.AppendLies
import Derived.Deep.CutBlock
import Derived.Deep.DeepCutAuto
import Derived.Deep.Draws
import Derived.Deep.LoopGhost
import Derived.Deep.OwnRows
import Derived.Deep.QuietTactic
import Derived.Deep.RegionHeld3
import Derived.KernelRfl
import Derived.Laws.BitsLemmas
import Derived.Laws.BytesArg
import Derived.Laws.CopyOwn
import Derived.Laws.IdiomCopy
import Derived.Laws.MakeOwn
import Derived.Laws.OwnMore
import Derived.Laws.Rows
import Derived.Laws.Slices
import Derived.Lib.AppendStr
import Derived.Lib.ConvBytes
import Derived.Lib.SlBytesConst
import Derived.Maps.AppendAt
import Derived.OrdersHeld
import Derived.OwnWalk
import Derived.RowKit
import Derived.RowKit3
import Derived.Shelf.Abstract
import Derived.Tactics
import Derived.Test.YtlacfpbfnedgdaaProg
import Derived.WalkKit
import Derived.WideLaws
import Derived.Test.YtlacfpbfnedgdaaPRecReads1
import Derived.Test.YtlacfpbfnedgdaaPRecReads3
import Derived.Test.YtlacfpbfnedgdaaPRecReads4
import Derived.Test.YtlacfpbfnedgdaaPRecReads5
import Derived.Test.YtlacfpbfnedgdaaPRecReads9
import Derived.Test.YtlacfpbfnedgdaaPRecReads10
namespace Go.Proofs.Ytlacfpbfnedgdaa.Q
open Go.RowKit Go.Proofs.YtlacfpbfnedgdaaW.PrintWords Go.Proofs.YtlacfpbfnedgdaaW.PrintLast Go.Proofs.YtlacfpbfnedgdaaW.PrintMore
set_option linter.unusedVariables false
set_option linter.unusedSimpArgs false
theorem lit_mark (W : World) (xs : List Int) (e : TypeId) (m : Nat × Nat) (hl : xs.length ≤ 9223372036854775807) : Kd.C (Kd.int .u8) (W.alloc (.cells (xs.map (Value.int .u8)).toArray e m)) (some ⟨W.heap.size, 0, none⟩) xs.length xs := by
 refine Kd.C_of_reads (d := (0 : Int)) (h1 := fun _ => rfl) ⟨rfl, hl, fun hp => ⟨_, rfl, fun j hj => ?_⟩⟩
 rw [add_plain]
 have hh : (W.alloc (.cells (xs.map (Value.int .u8)).toArray e m)).heap[W.heap.size]? = some (.cells (xs.map (Value.int .u8)).toArray e m) := by
  show (W.heap.push _)[W.heap.size]? = _
  simp
 rw [cell_of_row _ _ _ _ _ _ hh]
 simp [List.getD_eq_getElem?_getD, hj]
theorem kd_append_full {P : Program} {ops : Array Oper} {rest : List Oper} {o : Oper} {a : Act} {Q : Exit → Act → World → Prop} {α : Type} {enc : α → Value} {h1 : ∀ x, (enc x).oneCell' = true} {W w0 : World} {base : Nat}
  (hgd : o.guard = none) (s x : Operand) (t : TypeId) (ho : o.op = .call { callee := .builtin .append, args := #[s, x], argTypes := #[t, t] }) (e : TypeId) (z : Value) (bytes : Nat) (ht : P.underlying t = some (.slice e))
  (hinfo : (P.info? e).map (fun i => (i.zero, i.size, i.bytes)) = some (some z, 1, bytes)) (hz : z.cells.size = 1)
  (A : Option Addr) (n : Nat) (xs : List α) (p : α) (hs : a.eval s = .slice A n n) (hx : a.eval x = .slice (some ⟨W.heap.size, 0, none⟩) 1 1) (hC : (Kd.scalar enc h1).C W A n xs) (hp : 0 < n)
  (hl : (n + 1) * bytes ≤ 140737488355328) (hm : n + 1 ≤ maxLen) (HB : Below base w0 W) (hbase : base ≤ W.heap.size)
  (h : ∀ v1 w1, (Kd.scalar enc h1).R e w1 base (fun k => W.heap.size ≤ k) v1 (xs ++ [p]) → Below base w0 w1 → Below W.heap.size W w1 → wpList P ops Q rest (a.put o.dst v1) w1) :
  wpList P ops Q (o :: rest) a (W.alloc (.cells #[enc p] e)) := by
 obtain ⟨ad, rfl, hc⟩ := kd_scalar_cells hC hp
 obtain ⟨i0, hi, hz0, hz1, hz2⟩ := info_parts hinfo
 have hlen : xs.length = n := hC.1
 refine wpList_append_grows _ hgd s x t ho e i0 z 1 bytes ht hi hz0 hz1 hz2 hz (by decide) (some ad) n n (xs.map enc) hs (fun h => by cases h) (by simp [hlen]) (fun b hb j u hj => ?_) ⟨W.heap.size, 0, none⟩ 1 1 [enc p] hx rfl (fun j u hj => ?_) (fun u hu => by rw [List.mem_singleton.1 hu]; exact h1 p) (by omega) hm hl ?_
 ·cases hb
  exact pw_cell_below (below_alloc (Below.refl _ _) _) (hc j u hj)
 ·have : j = 0 := by
   have := (List.getElem?_eq_some_iff.1 hj).1
   simp at this; omega
  subst this
  simp at hj
  subst hj
  rw [add_plain]
  simp
 ·intro v' w' hown hg
  have hb0 : Below W.heap.size W w' := pw_below_grown (below_alloc (Below.refl _ _) _) _ (by simp) hg (fun k e => by cases e)
  refine h v' w' (Kd.R_of_own ?_ (fun k hk => ?_)) (below_then HB hbase hb0) hb0
  ·have : (xs ++ [p]).length = n + 1 := by simp [hlen]
   rw [this]
   have h2 := own_weaken (base' := base) hown (by simp; omega)
   simpa [encs] using h2
  ·have := own_base hown k hk
   simp at this
   omega
theorem small_one {k : Nat} {l0 l1 r : List Int} (h1 : l1.length = 1) (h : rec_small.f k l0 l1 = some r) : r = l0 ++ [(rd l1 0) % 256] ∧ l0.length < 140737488355328 := by
 unfold rec_small.f at h
 match k, h with
 | 0, h => simp [rec_small.l0] at h
 | 1, h => simp [rec_small.l0, h1] at h
 | k + 2, h =>
  simp only [rec_small.l0] at h
  rw [if_pos (by omega), if_pos (by omega), if_pos (by omega)] at h
  by_cases hl : l0.length < 140737488355328
  ·rw [if_pos hl, if_neg (by unfold wrap64; omega)] at h
   exact ⟨(Option.some.inj h).symm, hl⟩
  ·rw [if_neg hl] at h; cases h
set_option maxHeartbeats 4000000 in
theorem rec_small.lit (k : Nat) (A0 : Option Addr) (l0 : List Int) (A1 : Option Addr) (c1 : Nat) (l1 : List Int) (r : List Int) (w0 w : World) (hB : Below w0.heap.size w0 w) (hr0 : Kd.C (Kd.int .u8) w A0 l0.length l0) (hp : 0 < l0.length)
  (hr1 : Kd.C (Kd.int .i64) w A1 l1.length l1) (h1 : l1.length = 1) (h : rec_small.f k l0 l1 = some r) :
  Calls Try.prog 30 #[.slice A0 l0.length l0.length, .slice A1 l1.length c1] w fun e w' => ∃ v0_ : Value, e = .returned (v0_) ∧ Kd.R (Kd.int .u8) 5 w' w0.heap.size (fun k_ => (False ∨ w.heap.size ≤ k_)) v0_ r ∧ Below w0.heap.size w0 w' ∧ Kept w w' (fun k_ => False) := by
 obtain ⟨hr, hlim⟩ := small_one h1 h
 clear h
 obtain ⟨ad, e1, hx⟩ := Kd.at_int hr1 0 (by omega) (by omega)
 subst e1
 rw [show ((0 : Int)).toNat = 0 from rfl, show ad.add 0 = ad by simp [Addr.add]] at hx
 obtain ⟨y, hy⟩ : ∃ y, y = rd l1 0 := ⟨_, rfl⟩
 rw [← hy] at hx hr
 have Y := am hr
 have HR := am hr0
 have HB := am hB
 have hb0 := am hB.size
 have L1 := am h1
 rw [h1]
 clear hr1 hr0 hB hr hy h1
 go_enter Try.func30, Try.ntmps30
 go_wp2
 go_loopg [0, 6, 9] 1 (fun kq v0 v6 v9 wr => (kq = 1 ∧ v9 = .int .i64 0 ∧ v0 = .slice A0 l0.length l0.length ∧ wr = w) ∨
  (kq = 0 ∧ v9 = .int .i64 1 ∧ Aside0 (Kd.R (Kd.int .u8) 5 wr w0.heap.size (fun k_ => (False ∨ w.heap.size ≤ k_)) v0 r ∧ Below w0.heap.size w0 wr ∧ Below w.heap.size w wr)))
 case atStart => exact .inl ⟨rfl, rfl, rfl, rfl⟩
 case round =>
  rcases hrel with ⟨rfl, rfl, rfl, rfl⟩ | ⟨rfl, rfl, F⟩
  ·go_wp2_with (((with_reducible refine gate_builtin (b := .append) (xs := #[.tmp 13, .tmp 16]) rfl ?_); at_builtin; refine kd_append_full (enc := Value.int .u8) (h1 := fun _ => rfl) (w0 := w0) (base := w0.heap.size) rfl (.tmp 13) (.tmp 16) 36 rfl 5 (.int .u8 0) 1 Try.underlying36 info5 rfl A0 l0.length l0 (y % 256) rfl rfl HR.out hp (by omega) (by unfold maxLen; omega) HB.out hb0.out ?_; intro v3 w3 ho hb hbb; have O3 := am ho; have B3 := am hb; have G3 := am hbb; clear ho hb hbb))
   go_roundg 0
   case measure => omega
   case rel => exact .inr ⟨rfl, by go_num, ⟨by rw [Y.out]; exact Kd.R_mono O3.out (fun k_ hk => .inr hk), B3.out, G3.out⟩⟩
  ·go_wp2
   go_ret
   exact ⟨_, rfl, F.out.1, F.out.2.1, Kept.of_below F.out.2.2 _⟩
end Go.Proofs.Ytlacfpbfnedgdaa.Q
namespace Go.Proofs.Ytlacfpbfnedgdaa.Q
open Go.RowKit Go.Proofs.YtlacfpbfnedgdaaW.PrintWords Go.Proofs.YtlacfpbfnedgdaaW.PrintLast Go.Proofs.YtlacfpbfnedgdaaW.PrintMore
attribute [local go_sem] max2_int min2_int max_two min_two max_three min_three max_four min_four
set_option linter.unusedVariables false
set_option linter.unusedSimpArgs false
def rec_Encode.l0 : Nat → List Int → List (S33) → Int → Int → Option (List Int)
 | 0, _, _, _, _ => none
 | k + 1, x5, x29, x30, x31 => if x31 < x30 then (if 0 ≤ x31 then (if x31 < (x29.length : Int) then ((rec_small.f k x5 ((rd_T33 x29 x31).f0)).bind fun t136 => ((rec_great.f k t136 ((rd_T33 x29 x31).f1)).bind fun t139 => (rec_Encode.l0 k t139 x29 x30 (wrap64 (x31 + 1))))) else (none)) else (none)) else ((rec_own.f x5).bind fun t142 => (some t142))
def rec_Encode.f (k : Nat) (l0_0 : List Int) (a0_1 : Int) (l1 : List (S33)) : Option (List Int) := (rec_small.f k (([67, 85, 66, 49] : List Int)) (([(l0_0.length : Int)] : List Int))).bind fun t122 => ((rec_small.f k t122 l0_0).bind fun t125 => ((rec_small.f k t125 (([a0_1, (l1.length : Int) / 256, (l1.length : Int)] : List Int))).bind fun t131 => (rec_Encode.l0 k t131 l1 (l1.length : Int) 0)))
theorem rec_Encode.mono_l : ∀ k, (∀ y0 y1 y2 y3, LeO (rec_Encode.l0 k y0 y1 y2 y3) (rec_Encode.l0 (k + 1) y0 y1 y2 y3))
 | 0 => fun _ _ _ _ r h => by simp [rec_Encode.l0] at h
 | k + 1 => by
  have ih0 := rec_Encode.mono_l k
  ·intro y0 y1 y2 y3
   unfold rec_Encode.l0
   repeat' first
   | (with_reducible exact ih0 _ _ _ _)
   | (with_reducible exact rec_great.mono _ _ _)
   | (with_reducible exact rec_small.mono _ _ _)
   | (with_reducible exact LeO.refl _)
   | (with_reducible exact LeO.none _)
   | (with_reducible refine LeO.ite ?_ ?_)
   | (with_reducible refine LeO.bind ?_ (fun _ => ?_))
   | exact ih0 _ _ _ _
   | exact rec_great.mono _ _ _
   | exact rec_small.mono _ _ _
   | exact LeO.none _
   | refine LeO.ite ?_ ?_
   | refine LeO.bind ?_ (fun _ => ?_)
theorem rec_Encode.mono : ∀ a0 a1 a2 k, LeO (rec_Encode.f k a0 a1 a2) (rec_Encode.f (k + 1) a0 a1 a2) := by
 intro a0 a1 a2 k
 have ih0 := rec_Encode.mono_l k
 unfold rec_Encode.f
 repeat' first
   | (with_reducible exact ih0 _ _ _ _)
   | (with_reducible exact rec_great.mono _ _ _)
   | (with_reducible exact rec_small.mono _ _ _)
   | (with_reducible exact LeO.refl _)
   | (with_reducible exact LeO.none _)
   | (with_reducible refine LeO.ite ?_ ?_)
   | (with_reducible refine LeO.bind ?_ (fun _ => ?_))
   | exact ih0 _ _ _ _
   | exact rec_great.mono _ _ _
   | exact rec_small.mono _ _ _
   | exact LeO.none _
   | refine LeO.ite ?_ ?_
   | refine LeO.bind ?_ (fun _ => ?_)
def rec_Encode.T7 : Bool × List (List Nat × List Nat) := (true, [([], []), ([], []), ([1], [1]), ([0, 2], [0, 2]), ([], []), ([4], [4]), ([3, 5, 3], [3, 5]), ([6, 6, 0, 1, 2, 3, 4, 5, 6], [0, 6])])
def rec_Encode.B7 : List Nat := [0, 0, 2, 7, 0, 16, 63, 127]
theorem rec_Encode.tab7 : rtab .any (opsOf Try.f22 7) = rec_Encode.T7 := by kernel_rfl
theorem rec_Encode.bits7 : waitsOk rec_Encode.T7.2 rec_Encode.B7 = true := by kernel_rfl
set_option maxHeartbeats 8000000 in
set_option maxRecDepth 100000 in
theorem rec_Encode.calls (k : Nat) (A0_0 : Option Addr) (c0_0 : Nat) (l0_0 : List Int) (a0_1 : Int) (A1 : Option Addr) (c1 : Nat) (l1 : List (S33)) (r : List Int) (w : World) (hr0_0 : Kd.C (Kd.int .i64) w A0_0 l0_0.length l0_0) (hc0_0 : l0_0.length ≤ c0_0) (hr1 : Kd.C k33 w A1 l1.length l1) (hc1 : l1.length ≤ c1) (h : rec_Encode.f k l0_0 a0_1 l1 = some r) :
  Calls Try.prog 22 #[.agg #[.slice A0_0 l0_0.length c0_0, .int .i64 a0_1], .slice A1 l1.length c1] w fun e w' => ∃ v0_ : Value, e = .returned (v0_) ∧ Kd.R (Kd.int .u8) 5 w' w.heap.size (fun _ => True) v0_ r ∧ Below w.heap.size w w' := by
 have hu24 := Try.underlying24
 have hu33 := Try.underlying33
 have HR0_0 := am hr0_0
 have HC0_0 := am hc0_0
 clear hr0_0 hc0_0
 have HR1 := am hr1
 have HC1 := am hc1
 clear hr1 hc1
 have HB := am (Below.refl w.heap.size w)
 have H : ((rec_small.f k (([67, 85, 66, 49] : List Int)) (([(l0_0.length : Int)] : List Int))).bind fun t122 => ((rec_small.f k t122 l0_0).bind fun t125 => ((rec_small.f k t125 (([a0_1, (l1.length : Int) / 256, (l1.length : Int)] : List Int))).bind fun t131 => (rec_Encode.l0 k t131 l1 (l1.length : Int) 0)))) = some r := h
 clear h
 obtain ⟨y116, hy116⟩ : ∃ y_ : List Int, y_ = (([67, 85, 66, 49] : List Int)) := ⟨_, rfl⟩
 replace H : ((rec_small.f k y116 (([(l0_0.length : Int)] : List Int))).bind fun t122 => ((rec_small.f k t122 l0_0).bind fun t125 => ((rec_small.f k t125 (([a0_1, (l1.length : Int) / 256, (l1.length : Int)] : List Int))).bind fun t131 => (rec_Encode.l0 k t131 l1 (l1.length : Int) 0)))) = some r := by first | (rw [hy116]; with_reducible exact H) | (have H2_ := (Option.bind_some _ _).symm.trans H; rw [hy116]; with_reducible exact H2_) | (have H2_ := (Option.bind_some _ _).symm.trans H; with_reducible exact H2_) | with_reducible exact H | (rw [hy116]; exact H) | exact H
 have Ny116 := am hy116
 clear hy116
 obtain ⟨y119, hy119⟩ : ∃ y_ : List Int, y_ = (([(l0_0.length : Int)] : List Int)) := ⟨_, rfl⟩
 replace H : ((rec_small.f k y116 y119).bind fun t122 => ((rec_small.f k t122 l0_0).bind fun t125 => ((rec_small.f k t125 (([a0_1, (l1.length : Int) / 256, (l1.length : Int)] : List Int))).bind fun t131 => (rec_Encode.l0 k t131 l1 (l1.length : Int) 0)))) = some r := by first | (rw [hy119]; with_reducible exact H) | (have H2_ := (Option.bind_some _ _).symm.trans H; rw [hy119]; with_reducible exact H2_) | (have H2_ := (Option.bind_some _ _).symm.trans H; with_reducible exact H2_) | with_reducible exact H | (rw [hy119]; exact H) | exact H
 have Ny119 := am hy119
 clear hy119
 replace H := Option.bind_eq_some_iff.mp H
 obtain ⟨t122, A30, H⟩ := H
 replace H : ((rec_small.f k t122 l0_0).bind fun t125 => ((rec_small.f k t125 (([a0_1, (l1.length : Int) / 256, (l1.length : Int)] : List Int))).bind fun t131 => (rec_Encode.l0 k t131 l1 (l1.length : Int) 0))) = some r := H
 have A3 := am A30
 clear A30
 replace H := Option.bind_eq_some_iff.mp H
 obtain ⟨t125, A40, H⟩ := H
 replace H : ((rec_small.f k t125 (([a0_1, (l1.length : Int) / 256, (l1.length : Int)] : List Int))).bind fun t131 => (rec_Encode.l0 k t131 l1 (l1.length : Int) 0)) = some r := H
 have A4 := am A40
 clear A40
 obtain ⟨y128, hy128⟩ : ∃ y_ : List Int, y_ = (([a0_1, (l1.length : Int) / 256, (l1.length : Int)] : List Int)) := ⟨_, rfl⟩
 replace H : ((rec_small.f k t125 y128).bind fun t131 => (rec_Encode.l0 k t131 l1 (l1.length : Int) 0)) = some r := by first | (rw [hy128]; with_reducible exact H) | (have H2_ := (Option.bind_some _ _).symm.trans H; rw [hy128]; with_reducible exact H2_) | (have H2_ := (Option.bind_some _ _).symm.trans H; with_reducible exact H2_) | with_reducible exact H | (rw [hy128]; exact H) | exact H
 have Ny128 := am hy128
 clear hy128
 replace H := Option.bind_eq_some_iff.mp H
 obtain ⟨t131, A50, H⟩ := H
 replace H : (rec_Encode.l0 k t131 l1 (l1.length : Int) 0) = some r := H
 have A5 := am A50
 clear A50
 have H' := am H
 clear H
 have kc := fun (W_ : World) (C_ : Array Value) (n_ c_ : Nat) => Go.Lib.run_convert_bytes_const (P := Try.prog) W_ 36 5 C_ n_ c_ Try.underlying36 Try.underlying5
 go_enter Try.func22, Try.ntmps22
 go_wp2_with (first | ((with_reducible refine gate_dst (N := 2) rfl ?_); refine box_event ?hg (N := 2) ?hd (cs := #[.slice A0_0 l0_0.length c0_0, .int .i64 a0_1]) (t := 24) ?hr ?_; (case hd => rfl); (case hg => rfl); (case hr => first | (go_simp; done) | (go_simp; rfl)); intro gb115 hg w6 hbox hb; have n0_ := am (below_step (by repeat (first | (with_reducible first | exact HB.out | apply below_alloc | apply pw_below_drewN | apply below_drew1) | exact HB.out)) hb); have n1_ := am (hbox); have n2_ := am ((by rw [hg]; exact (below_size (by repeat (first | (with_reducible first | exact HB.out | apply below_alloc | apply pw_below_drewN | apply below_drew1) | exact HB.out))) : w.heap.size ≤ gb115)); have n3_ := am ((by rw [hg]; exact (below_size (by repeat (first | (with_reducible first | exact HB.out | apply below_alloc | apply pw_below_drewN | apply below_drew1) | exact HB.out))) : w.heap.size ≤ gb115)); clear HB; have HB := n0_; have BK115 := n1_; have GW115 := n2_; have GE115 := n3_; clear n0_ n1_ n2_ n3_; clear hb hbox hg; have hcz9_0 : w6.cell? ⟨gb115, 0, none⟩ = some (.slice A0_0 l0_0.length c0_0) := (blk_cell BK115.out 0).trans rfl; have hcz9_1 : w6.cell? ⟨gb115, 1, none⟩ = some (.int .i64 a0_1) := (blk_cell BK115.out 1).trans rfl; have hfz9_0 := blk_frozen BK115.out 0; have hfz9_1 := blk_frozen BK115.out 1; have hca0_ : ∀ o_ : Obj, (w6.alloc o_).cell? ⟨gb115, 0, none⟩ = some (.slice A0_0 l0_0.length c0_0) := fun o_ => (blk_cell (blk_alloc BK115.out o_) 0).trans rfl; have hca1_ : ∀ o_ : Obj, (w6.alloc o_).cell? ⟨gb115, 1, none⟩ = some (.int .i64 a0_1) := fun o_ => (blk_cell (blk_alloc BK115.out o_) 1).trans rfl) | ((with_reducible refine gate_dst (N := 13) rfl ?_); refine Kd.R_lit (Kd.int .i64) _ 3 ?hg (N := 13) ?hd (xs := ([(l0_0.length : Int)] : List Int)) (inner := [.int .i64 (l0_0.length : Int)]) (ok := fun _ => True) (okp := fun _ => True) ?hr ?hp (fun _ hk => hk) trivial (Below.refl _ _) (Nat.le_refl _) (by simp) ?_; (case hd => rfl); (case hg => rfl); (case hr => first | (go_simp; done) | (go_simp; rfl)); (case hp => exact (Reps.one (show Kd.M (Kd.int .i64) _ _ _ (l0_0.length : Int) [.int .i64 (l0_0.length : Int)] from rfl) (Reps.none _ _))); intro v120 w10 ho11 hb hg_ hnew_; clear hg_ hnew_; (first | rw [← Ny119.out] at ho11 | (simp only [Int.reduceToNat] at ho11; rw [← Ny119.out] at ho11)); have n0_ := am (Kd.C_below (show Kd.C (Kd.int .u8) (w6.alloc (.cells #[.int .u8 67, .int .u8 85, .int .u8 66, .int .u8 49] 5 (4, 4 + 1))) (some ⟨w6.heap.size, 0, none⟩) 4 [67, 85, 66, 49] from lit_mark w6 [67, 85, 66, 49] 5 (4, 4 + 1) (by simp)) hb); have n1_ := am (Kd.R_lower ho11 (below_size (by repeat (first | (with_reducible first | exact HB.out | apply below_alloc | apply pw_below_drewN | apply below_drew1 | refine below_set ?_ GE115.out) | exact HB.out)))); have n2_ := am (blk_below (g := gb115) (o := .cells #[.slice A0_0 l0_0.length c0_0, .int .i64 a0_1] 24 (0, 0)) (by (with_reducible repeat (first | refine blk_drewN ?_ _ | refine blk_drew ?_ | refine blk_alloc ?_ _)); exact BK115.out) hb); have n3_ := am (below_step (by repeat (first | (with_reducible first | exact HB.out | apply below_alloc | apply pw_below_drewN | apply below_drew1 | refine below_set ?_ GE115.out) | exact HB.out)) hb); clear BK115; clear HB; have HO118 := n0_; have HO121 := n1_; have BK115 := n2_; have HB := n3_; clear n0_ n1_ n2_ n3_; clear hb ho11; obtain ⟨Ao13, co13, eo13⟩ := Kd.R_slice HO121.out; subst eo13) | ((with_reducible refine gate_callee (f := 30) rfl ?_); refine goesL_ (some 14) rfl rfl Try.func30 (by kernel_rfl) rfl #[.slice (some ⟨w6.heap.size, 0, none⟩) 4 4, .slice Ao13 y119.length co13] rfl (by (try simp only [List.map_toArray, List.map_cons, List.map_nil]); first | done | rfl | (simp only [List.length_drop, List.length_take]; rfl)) ?_; (refine (rec_small.lit k (some ⟨w6.heap.size, 0, none⟩) [67, 85, 66, 49] _ _ y119 t122 w _ ?side1 ?side2 (by decide) ?side3 (by rw [Ny119.out]; rfl) (by have := A3.out; rw [Ny116.out] at this; exact this)).mono ?_); (case side1 => repeat (first | (with_reducible first | exact HB.out | apply below_alloc | apply pw_below_drewN | apply below_drew1 | refine below_set ?_ GE115.out) | exact HB.out)); (case side2 => exact HO118.out); (case side3 => exact (Kd.R_reads' HO121.out).2.2); rintro e w14 ⟨v123, rfl, ho0, hb, hkp⟩; refine ⟨_, rfl, ?_⟩; have n0_ := am (blk_kept (by (with_reducible repeat (first | refine blk_drewN ?_ _ | refine blk_drew ?_ | refine blk_alloc ?_ _)); exact BK115.out) hkp (fun hs_ => hs_)); have n1_ := am (Kd.R_mono (ok' := fun k_ => True) (Kd.R_keptB HO121.out hkp (fun k_ hk_ hs_ => hs_)) (fun k_ hk_ => trivial)); have n2_ := am (Kd.R_mono (ok' := fun k_ => True) ho0 (fun k_ hk_ => trivial)); have n3_ := am (hb); clear BK115; clear HO121; clear HB; clear HO118; have BK115 := n0_; have HO121 := n1_; have HO124 := n2_; have HB := n3_; clear n0_ n1_ n2_ n3_; (try clear hb); (try clear hkp); (try clear ho0); have hcz15_0 : w14.cell? ⟨gb115, 0, none⟩ = some (.slice A0_0 l0_0.length c0_0) := (blk_cell BK115.out 0).trans rfl; have hcz15_1 : w14.cell? ⟨gb115, 1, none⟩ = some (.int .i64 a0_1) := (blk_cell BK115.out 1).trans rfl; have hfz15_0 := blk_frozen BK115.out 0; have hfz15_1 := blk_frozen BK115.out 1; obtain ⟨Ao16, co16, eo16⟩ := Kd.R_slice HO124.out; subst eo16) | ((with_reducible refine gate_callee (f := 30) rfl ?_); refine goesL_ (some 18) rfl rfl Try.func30 (by kernel_rfl) rfl #[.slice Ao16 t122.length co16, .slice A0_0 l0_0.length c0_0] rfl (by (try simp only [List.map_toArray, List.map_cons, List.map_nil]); first | done | rfl | (simp only [List.length_drop, List.length_take]; rfl)) ?_; (with_reducible refine (rec_small.calls k (fun k_ => some k_ = (.slice Ao16 t122.length co16 : Value).ownBlock) (.slice Ao16 t122.length co16) t122 _ _ l0_0 t125 w _ ?side1 ?side2 ?side3 ?side4 A4.out).mono ?_); (case side1 => repeat (first | (with_reducible first | exact HB.out | apply below_alloc | apply pw_below_drewN | apply below_drew1 | refine below_set ?_ GE115.out) | exact HB.out)); (case side2 => exact Kd.R_tight rfl HO124.out); (case side3 => exact Kd.C_kept_came (Kd.heap_int .i64) HR0_0.out (by repeat (first | (with_reducible first | exact HB.out | apply below_alloc | apply pw_below_drewN | apply below_drew1 | refine below_set ?_ GE115.out) | exact HB.out)) (fun k_ hs_ => (fun e_ => Kd.R_base HO124.out k_ e_.symm) hs_)); (case side4 => exact HC0_0.out); rintro e w17 ⟨v126, rfl, ho0, hb, hkp⟩; refine ⟨_, rfl, ?_⟩; have n0_ := am (blk_kept (by (with_reducible repeat (first | refine blk_drewN ?_ _ | refine blk_drew ?_ | refine blk_alloc ?_ _)); exact BK115.out) hkp (fun hs_ => (fun e_ => (Kd.R_ne HO124.out BK115.out (by decide)) e_) hs_)); have n1_ := am (Kd.R_mono (ok' := fun k_ => True) (Kd.R_keptB ((Kd.R_apart' HO121.out (Kd.R_typed HO124.out) (by decide))) hkp (fun k_ hk_ hs_ => (hk_.2) hs_)) (fun k_ hk_ => trivial)); have n2_ := am (Kd.R_mono (ok' := fun k_ => True) ho0 (fun k_ hk_ => trivial)); have n3_ := am (hb); clear BK115; clear HO121; clear HB; clear HO124; have BK115 := n0_; have HO121 := n1_; have HO127 := n2_; have HB := n3_; clear n0_ n1_ n2_ n3_; (try clear hb); (try clear hkp); (try clear ho0); have hcz18_0 : w17.cell? ⟨gb115, 0, none⟩ = some (.slice A0_0 l0_0.length c0_0) := (blk_cell BK115.out 0).trans rfl; have hcz18_1 : w17.cell? ⟨gb115, 1, none⟩ = some (.int .i64 a0_1) := (blk_cell BK115.out 1).trans rfl; have hfz18_0 := blk_frozen BK115.out 0; have hfz18_1 := blk_frozen BK115.out 1) | ((with_reducible refine gate_dst (N := 27) rfl ?_); refine Kd.R_lit (Kd.int .i64) _ 3 ?hg (N := 27) ?hd (xs := ([a0_1, (l1.length : Int) / 256, (l1.length : Int)] : List Int)) (inner := [.int .i64 a0_1, .int .i64 ((l1.length : Int) / 256), .int .i64 (l1.length : Int)]) (ok := fun _ => True) (okp := fun _ => True) ?hr ?hp (fun _ hk => hk) trivial (Below.refl _ _) (Nat.le_refl _) (by simp) ?_; (case hd => rfl); (case hg => rfl); (case hr => first | (go_simp; done) | (go_simp; rfl)); (case hp => exact (Reps.one (show Kd.M (Kd.int .i64) _ _ _ a0_1 [.int .i64 a0_1] from rfl) (Reps.one (show Kd.M (Kd.int .i64) _ _ _ ((l1.length : Int) / 256) [.int .i64 ((l1.length : Int) / 256)] from rfl) (Reps.one (show Kd.M (Kd.int .i64) _ _ _ (l1.length : Int) [.int .i64 (l1.length : Int)] from rfl) (Reps.none _ _))))); intro v129 w19 ho20 hb hg_ hnew_; clear hg_ hnew_; (first | rw [← Ny128.out] at ho20 | (simp only [Int.reduceToNat] at ho20; rw [← Ny128.out] at ho20)); have n0_ := am (Kd.R_elder' (by (with_reducible repeat (first | apply Kd.R_alloc | apply Kd.R_drewN | apply Kd.R_drew)); exact HO121.out) (Kd.R_base ho20) hb); have n1_ := am (Kd.R_below (by (with_reducible repeat (first | apply Kd.R_alloc | apply Kd.R_drewN | apply Kd.R_drew)); exact HO127.out) hb); have n2_ := am (Kd.R_lower (Kd.R_new' ho20 (Kd.R_lt (by (with_reducible repeat (first | apply Kd.R_alloc | apply Kd.R_drewN | apply Kd.R_drew)); exact HO121.out))) (below_size (by repeat (first | (with_reducible first | exact HB.out | apply below_alloc | apply pw_below_drewN | apply below_drew1 | refine below_set ?_ GE115.out) | exact HB.out)))); have n3_ := am (blk_below (g := gb115) (o := .cells #[.slice A0_0 l0_0.length c0_0, .int .i64 a0_1] 24 (0, 0)) (by (with_reducible repeat (first | refine blk_drewN ?_ _ | refine blk_drew ?_ | refine blk_alloc ?_ _)); exact BK115.out) hb); have n4_ := am (below_step (by repeat (first | (with_reducible first | exact HB.out | apply below_alloc | apply pw_below_drewN | apply below_drew1 | refine below_set ?_ GE115.out) | exact HB.out)) hb); clear HO121; clear HO127; clear BK115; clear HB; have HO121 := n0_; have HO127 := n1_; have HO130 := n2_; have BK115 := n3_; have HB := n4_; clear n0_ n1_ n2_ n3_ n4_; clear hb ho20; obtain ⟨Ao21, co21, eo21⟩ := Kd.R_slice HO127.out; subst eo21; obtain ⟨Ao22, co22, eo22⟩ := Kd.R_slice HO130.out; subst eo22) | ((with_reducible refine gate_callee (f := 30) rfl ?_); refine goesL_ (some 28) rfl rfl Try.func30 (by kernel_rfl) rfl #[.slice Ao21 t125.length co21, .slice Ao22 y128.length co22] rfl (by (try simp only [List.map_toArray, List.map_cons, List.map_nil]); first | done | rfl | (simp only [List.length_drop, List.length_take]; rfl)) ?_; (with_reducible refine (rec_small.calls k (fun k_ => some k_ = (.slice Ao21 t125.length co21 : Value).ownBlock) (.slice Ao21 t125.length co21) t125 _ _ y128 t131 w _ ?side1 ?side2 ?side3 ?side4 A5.out).mono ?_); (case side1 => repeat (first | (with_reducible first | exact HB.out | apply below_alloc | apply pw_below_drewN | apply below_drew1 | refine below_set ?_ GE115.out) | exact HB.out)); (case side2 => exact Kd.R_tight rfl HO127.out); (case side3 => exact Kd.C_kept_own ((Kd.R_apart' HO130.out (Kd.R_typed HO127.out) (by decide))) (fun k_ hk_ hs_ => (hk_.2) hs_)); (case side4 => exact (Kd.R_reads' HO130.out).2.1); rintro e w23 ⟨v132, rfl, ho0, hb, hkp⟩; refine ⟨_, rfl, ?_⟩; have n0_ := am (blk_kept (by (with_reducible repeat (first | refine blk_drewN ?_ _ | refine blk_drew ?_ | refine blk_alloc ?_ _)); exact BK115.out) hkp (fun hs_ => (fun e_ => (Kd.R_ne HO127.out BK115.out (by decide)) e_) hs_)); have n1_ := am (Kd.R_mono (ok' := fun k_ => some k_ ≠ (.slice Ao22 y128.length co22 : Value).ownBlock) (Kd.R_keptB ((Kd.R_apart' HO121.out (Kd.R_typed HO127.out) (by decide))) hkp (fun k_ hk_ hs_ => (hk_.2) hs_)) (fun k_ hk_ => hk_.1.1.2)); have n2_ := am (Kd.R_mono (ok' := fun k_ => some k_ ≠ (.slice Ao13 y119.length co13 : Value).ownBlock) (Kd.R_keptB ((Kd.R_apart' HO130.out (Kd.R_typed HO127.out) (by decide))) hkp (fun k_ hk_ hs_ => (hk_.2) hs_)) (fun k_ hk_ => hk_.1.1.2)); have n3_ := am (Kd.R_mono (ok' := fun k_ => True) ho0 (fun k_ hk_ => trivial)); have n4_ := am (hb); clear BK115; clear HO121; clear HO130; clear HB; clear HO127; have BK115 := n0_; have HO121 := n1_; have HO130 := n2_; have HO133 := n3_; have HB := n4_; clear n0_ n1_ n2_ n3_ n4_; (try clear hb); (try clear hkp); (try clear ho0)))
 go_loopg [5, 31] k (fun kq v5 v31 w' => ∃ (x5_1 : List Int) (x31_1 : Int), v31 = .int .i64 x31_1 ∧ Aside0 (rec_Encode.l0 kq x5_1 l1 (l1.length : Int) x31_1 = some r) ∧ Aside0 (kq ≤ k) ∧ Aside0 (Kd.R (Kd.int .u8) 5 w' w.heap.size (fun _ => True) v5 x5_1) ∧ Aside0 (w'.heap[gb115]? = some (.cells #[(.slice A0_0 l0_0.length c0_0), .int .i64 a0_1] 24 (0, 0))) ∧ Aside0 (Below w.heap.size w w'))
 case atStart => exact ⟨(t131), (0), (by first | rfl | (simp; done) | (simp [*]; done)), H', ⟨Nat.le_refl _⟩, ⟨by (with_reducible repeat (first | apply Kd.R_alloc | apply Kd.R_drewN | apply Kd.R_drew)); exact HO133.out⟩, ⟨by (with_reducible repeat (first | refine blk_drewN ?_ _ | refine blk_drew ?_ | refine blk_alloc ?_ _)); exact BK115.out⟩, ⟨by repeat (first | (with_reducible first | exact HB.out | apply below_alloc | apply pw_below_drewN | apply below_drew1 | refine below_set ?_ GE115.out) | exact HB.out)⟩⟩
 case round =>
  clear H'
  try clear c1
  try clear c2
  try clear p2
  try clear c3
  try clear c22
  try clear hcz15_0
  try clear hcz15_1
  try clear hcz18_0
  try clear hcz18_1
  try clear hcz9_0
  try clear hcz9_1
  try clear hfz15_0
  try clear hfz15_1
  try clear hfz18_0
  try clear hfz18_1
  try clear hfz9_0
  try clear hfz9_1
  obtain ⟨x5_1, x31_1, rfl, HA, HK1, HO_5, BK115, HB⟩ := hrel
  cases gk with
  | zero => exact absurd HA.out (by simp [rec_Encode.l0])
  | succ k1 =>
   have H := HA.out
   clear HA
   simp only [rec_Encode.l0] at H
   by_cases c24 : x31_1 < (l1.length : Int)
   ·rw [if_pos c24] at H
    have c24b0 : decide (x31_1 < (l1.length : Int)) = true := decide_eq_true c24
    clear c24
    by_cases c25 : 0 ≤ x31_1
    ·rw [if_pos c25] at H
     have c25b0 : decide (0 ≤ x31_1) = true := decide_eq_true c25
     clear c25
     by_cases c26 : x31_1 < (l1.length : Int)
     ·rw [if_pos c26] at H
      have c26b0 : decide (x31_1 < (l1.length : Int)) = true := decide_eq_true c26
      clear c26
      replace H := Option.bind_eq_some_iff.mp H
      obtain ⟨t136, A270, H⟩ := H
      replace H : ((rec_great.f k1 t136 ((rd_T33 l1 x31_1).f1)).bind fun t139 => (rec_Encode.l0 k1 t139 l1 (l1.length : Int) (wrap64 (x31_1 + 1)))) = some r := H
      have A27 := am A270
      clear A270
      replace H := Option.bind_eq_some_iff.mp H
      obtain ⟨t139, A280, H⟩ := H
      replace H : (rec_Encode.l0 k1 t139 l1 (l1.length : Int) (wrap64 (x31_1 + 1))) = some r := H
      have A28 := am A280
      clear A280
      have H' := am H
      clear H
      have p134 : 0 ≤ (x31_1 : Int) := of_decide_eq_true (by first | (with_reducible assumption) | assumption)
      have q134 : x31_1 < (l1.length : Int) := of_decide_eq_true (by first | (with_reducible assumption) | assumption)
      obtain ⟨ad134, A134_0, c134_0, A134_1, c134_1, e134, hx134_0, hx134_1, hl134_0, hi134_0, hl134_1, hi134_1⟩ := at_T33 HR1.out x31_1 p134 q134
      cases e134
      replace hx134_0 := (HB.out.cell (World.block_lt_of_cell? w _ hx134_0)).trans hx134_0
      replace hx134_1 := (HB.out.cell (World.block_lt_of_cell? w _ hx134_1)).trans hx134_1
      have HR134_0 := am hi134_0
      have HC134_0 := am hl134_0
      clear hi134_0 hl134_0
      have HR134_1 := am hi134_1
      have HC134_1 := am hl134_1
      clear hi134_1 hl134_1
      replace p134 := eq_true p134
      replace q134 := eq_true q134
      try go_wp2_with (first | ((with_reducible refine gate_dst (N := 7) rfl ?_); refine box_event ?hg (N := 7) ?hd (cs := #[.slice none 0 0, .slice none 0 0]) (t := 33) ?hr ?_; (case hd => rfl); (case hg => rfl); (case hr => first | (go_simp; done) | (go_simp; rfl)); intro gb135 hg w29 hbox hb; have n0_ := am (Kd.R_below (by (with_reducible repeat (first | apply Kd.R_alloc | apply Kd.R_drewN | apply Kd.R_drew)); exact HO_5.out) hb); have n1_ := am (blk_below (g := gb115) (o := .cells #[.slice A0_0 l0_0.length c0_0, .int .i64 a0_1] 24 (0, 0)) (by (with_reducible repeat (first | refine blk_drewN ?_ _ | refine blk_drew ?_ | refine blk_alloc ?_ _)); exact BK115.out) hb); have n2_ := am (below_step (by repeat (first | (with_reducible first | exact HB.out | apply below_alloc | apply pw_below_drewN | apply below_drew1 | refine below_set ?_ GE115.out) | exact HB.out)) hb); have n3_ := am (hbox); have n4_ := am ((by rw [hg]; exact (below_size (by repeat (first | (with_reducible first | exact HB.out | apply below_alloc | apply pw_below_drewN | apply below_drew1 | refine below_set ?_ GE115.out) | exact HB.out))) : w.heap.size ≤ gb135)); have n5_ := am ((by rw [hg]; exact (below_size (by repeat (first | (with_reducible first | exact HB.out | apply below_alloc | apply pw_below_drewN | apply below_drew1 | refine below_set ?_ GE115.out) | exact HB.out))) : w.heap.size ≤ gb135)); have n6_ := am ((by rw [hg]; exact Nat.ne_of_lt (blk_lt (g := gb115) (o := .cells #[.slice A0_0 l0_0.length c0_0, .int .i64 a0_1] 24 (0, 0)) (by (with_reducible repeat (first | refine blk_drewN ?_ _ | refine blk_drew ?_ | refine blk_alloc ?_ _)); exact BK115.out)) : gb115 ≠ gb135)); have n7_ := am ((by rw [hg]; exact Nat.ne_of_gt (blk_lt (g := gb115) (o := .cells #[.slice A0_0 l0_0.length c0_0, .int .i64 a0_1] 24 (0, 0)) (by (with_reducible repeat (first | refine blk_drewN ?_ _ | refine blk_drew ?_ | refine blk_alloc ?_ _)); exact BK115.out)) : gb135 ≠ gb115)); clear HO_5; clear BK115; clear HB; have HO_5 := n0_; have BK115 := n1_; have HB := n2_; have BK135 := n3_; have GW135 := n4_; have GE135 := n5_; have NB115_135 := n6_; have NB135_115 := n7_; clear n0_ n1_ n2_ n3_ n4_ n5_ n6_ n7_; clear hb hbox hg; have hnb30 := NB135_115.out; have hnc30 := NB115_135.out; have hcz31_0 : w29.cell? ⟨gb135, 0, none⟩ = some (.slice none 0 0) := (blk_cell BK135.out 0).trans rfl; have hcz31_1 : w29.cell? ⟨gb135, 1, none⟩ = some (.slice none 0 0) := (blk_cell BK135.out 1).trans rfl; have hfz31_0 := blk_frozen BK135.out 0; have hfz31_1 := blk_frozen BK135.out 1))
      have n0_ : Aside0 (Kd.R (Kd.int .u8) 5 ((w29.setCell ⟨gb135, 0, none⟩ (.slice A134_0 ((rd_T33 l1 x31_1).f0).length c134_0)).setCell ⟨gb135, 1, none⟩ (.slice A134_1 ((rd_T33 l1 x31_1).f1).length c134_1)) w.heap.size (fun _ => True) u5 x5_1) := ⟨by (with_reducible repeat (first | apply Kd.R_alloc | apply Kd.R_drewN | apply Kd.R_drew)); exact Kd.R_mono (Kd.R_far (p := ⟨gb135, 1, none⟩) (Kd.R_far (p := ⟨gb135, 0, none⟩) (Kd.R_types HO_5.out BK135.out (by decide)) (fun _ hk => hk.2) (.slice A134_0 ((rd_T33 l1 x31_1).f0).length c134_0)) (fun _ hk => hk.2) (.slice A134_1 ((rd_T33 l1 x31_1).f1).length c134_1)) (fun _ hk => trivial)⟩
      have n1_ : Aside0 (((w29.setCell ⟨gb135, 0, none⟩ (.slice A134_0 ((rd_T33 l1 x31_1).f0).length c134_0)).setCell ⟨gb135, 1, none⟩ (.slice A134_1 ((rd_T33 l1 x31_1).f1).length c134_1)).heap[gb115]? = some (.cells #[.slice A0_0 l0_0.length c0_0, .int .i64 a0_1] 24 (0, 0))) := ⟨by (with_reducible repeat (first | refine blk_drewN ?_ _ | refine blk_drew ?_ | refine blk_alloc ?_ _)); refine blk_far ?_ NB115_135.out _; (with_reducible repeat (first | refine blk_drewN ?_ _ | refine blk_drew ?_ | refine blk_alloc ?_ _)); refine blk_far ?_ NB115_135.out _; (with_reducible repeat (first | refine blk_drewN ?_ _ | refine blk_drew ?_ | refine blk_alloc ?_ _)); exact BK115.out⟩
      have n2_ : Aside0 (((w29.setCell ⟨gb135, 0, none⟩ (.slice A134_0 ((rd_T33 l1 x31_1).f0).length c134_0)).setCell ⟨gb135, 1, none⟩ (.slice A134_1 ((rd_T33 l1 x31_1).f1).length c134_1)).heap[gb135]? = some (.cells #[.slice A134_0 ((rd_T33 l1 x31_1).f0).length c134_0, .slice A134_1 ((rd_T33 l1 x31_1).f1).length c134_1] 33 (0, 0))) := ⟨by (with_reducible repeat (first | refine blk_drewN ?_ _ | refine blk_drew ?_ | refine blk_alloc ?_ _)); refine blk_put (cs := #[.slice A134_0 ((rd_T33 l1 x31_1).f0).length c134_0, .slice none 0 0]) ?_ 1 _ rfl; (with_reducible repeat (first | refine blk_drewN ?_ _ | refine blk_drew ?_ | refine blk_alloc ?_ _)); refine blk_put (cs := #[.slice none 0 0, .slice none 0 0]) ?_ 0 _ rfl; (with_reducible repeat (first | refine blk_drewN ?_ _ | refine blk_drew ?_ | refine blk_alloc ?_ _)); exact BK135.out⟩
      have n3_ : Aside0 (Below w.heap.size w ((w29.setCell ⟨gb135, 0, none⟩ (.slice A134_0 ((rd_T33 l1 x31_1).f0).length c134_0)).setCell ⟨gb135, 1, none⟩ (.slice A134_1 ((rd_T33 l1 x31_1).f1).length c134_1))) := ⟨by repeat (first | (with_reducible first | exact HB.out | apply below_alloc | apply pw_below_drewN | apply below_drew1 | refine below_set ?_ GE115.out | refine below_set ?_ GE135.out) | exact HB.out)⟩
      (try clear HO_5)
      (try clear BK115)
      (try clear BK135)
      (try clear HB)
      generalize ((w29.setCell ⟨gb135, 0, none⟩ (.slice A134_0 ((rd_T33 l1 x31_1).f0).length c134_0)).setCell ⟨gb135, 1, none⟩ (.slice A134_1 ((rd_T33 l1 x31_1).f1).length c134_1)) = w32 at n0_ n1_ n2_ n3_ ⊢
      have HO_5 := n0_
      have BK115 := n1_
      have BK135 := n2_
      have HB := n3_
      clear n0_ n1_ n2_ n3_
      have n0_ := am (Kd.R_drew HO_5.out)
      have n1_ := am (blk_drew BK115.out)
      have n2_ := am (blk_drew BK135.out)
      have n3_ := am (below_drew1 HB.out)
      clear HO_5
      clear BK115
      clear BK135
      clear HB
      have HO_5 := n0_
      have BK115 := n1_
      have BK135 := n2_
      have HB := n3_
      clear n0_ n1_ n2_ n3_
      obtain ⟨Ao34, co34, eo34⟩ := Kd.R_slice HO_5.out
      (first | subst eo34 | (injection eo34 with f1_ f2_ f3_; have f4_ := f1_.symm; have f5_ := f3_.symm; clear f1_ f2_ f3_; subst f4_; subst f5_))
      refine start_ (n := 8) (S := fun w' => w'.cell? ⟨gb135, 0, none⟩ = some (.slice A134_0 ((rd_T33 l1 x31_1).f0).length c134_0) ∧ w'.cell? ⟨gb135, 1, none⟩ = some (.slice A134_1 ((rd_T33 l1 x31_1).f1).length c134_1)) (ds := []) (bb 8 0) (by kernel_rfl) rfl rfl ⟨(blk_cell BK135.out 0).trans rfl, (blk_cell BK135.out 1).trans rfl⟩ (fun hHeld => ?_); refine with_tabW rec_Encode.tab7 rec_Encode.bits7 (fun HT_ HW_ => ?_)
      generalize w32.drew = w33 at HO_5 BK115 BK135 HB hHeld ⊢
      refine pure_ (i := 0) (N := some 35) (v := ?_) (a' := ?_) (bb 8 1) rfl rfl (any_of HT_.out (by kernel_rfl)) (fun _ _ _ h => h) (Or.inl ⟨by rfl, ?_⟩) ?_ ?_
      rotate_left
      ·intro w'
       go_simp
       with_reducible rfl
      rotate_left
      ·simp only [Act.put, List.setIfInBounds_toArray, List.set_cons_zero, List.set_cons_succ, i64_w, i32_w]
       rfl
      refine pure_ (i := 1) (N := some 36) (v := ?_) (a' := ?_) (bb 8 3) rfl rfl (any_of HT_.out (by kernel_rfl)) (fun _ _ _ h => h) (Or.inl ⟨by rfl, ?_⟩) ?_ ?_
      rotate_left
      ·intro w'
       go_simp
       with_reducible rfl
      rotate_left
      ·simp only [Act.put, List.setIfInBounds_toArray, List.set_cons_zero, List.set_cons_succ, i64_w, i32_w]
       rfl
      refine pure_ (i := 4) (N := some 39) (v := ?_) (a' := ?_) (bb 8 19) rfl rfl (any_of HT_.out (by kernel_rfl)) (fun _ _ _ h => h) (Or.inl ⟨by rfl, ?_⟩) ?_ ?_
      rotate_left
      ·intro w'
       go_simp
       with_reducible rfl
      rotate_left
      ·simp only [Act.put, List.setIfInBounds_toArray, List.set_cons_zero, List.set_cons_succ, i64_w, i32_w]
       rfl
      refine take_ (i := 2) (N := some 37) (v := ?_) (a' := ?_) (bb 8 23) rfl rfl (take_ofW HT_.out HW_.out (by kernel_rfl)) (fun _ _ _ h => h) (Or.inl ⟨by rfl, ?_⟩) hHeld ?_ ?_
      rotate_left
      ·rintro w' ⟨s0, s1⟩
       go_simp
       with_reducible rfl
      rotate_left
      ·simp only [Act.put, List.setIfInBounds_toArray, List.set_cons_zero, List.set_cons_succ, i64_w, i32_w]
       rfl
      refine take_ (i := 5) (N := some 40) (v := ?_) (a' := ?_) (bb 8 55) rfl rfl (take_ofW HT_.out HW_.out (by kernel_rfl)) (fun _ _ _ h => h) (Or.inl ⟨by rfl, ?_⟩) hHeld ?_ ?_
      rotate_left
      ·rintro w' ⟨s0, s1⟩
       go_simp
       with_reducible rfl
      rotate_left
      ·simp only [Act.put, List.setIfInBounds_toArray, List.set_cons_zero, List.set_cons_succ, i64_w, i32_w]
       rfl
      refine one_ (i := 3) (N := some 38) (bb 8 63) rfl rfl (one_of HT_.out (by kernel_rfl)) (by decide) (fun K hK => ?_)
      refine goes_ Try.func30 (by kernel_rfl) rfl #[.slice Ao34 x5_1.length co34, .slice A134_0 ((rd_T33 l1 x31_1).f0).length c134_0] (by rfl) rfl rfl (by (try simp only [List.map_toArray, List.map_cons, List.map_nil]); first | done | rfl | (simp only [List.length_drop, List.length_take]; rfl)) ?_
      with_reducible refine (rec_small.calls k1 (fun k_ => some k_ = (.slice Ao34 x5_1.length co34 : Value).ownBlock) (.slice Ao34 x5_1.length co34) x5_1 _ _ ((rd_T33 l1 x31_1).f0) t136 w _ ?side1 ?side2 ?side3 ?side4 A27.out).mono ?_
      (case side1 => repeat (first | (with_reducible first | exact HB.out | apply below_alloc | apply pw_below_drewN | apply below_drew1 | refine below_set ?_ GE115.out | refine below_set ?_ GE135.out) | exact HB.out))
      (case side2 => exact Kd.R_tight rfl HO_5.out)
      (case side3 => exact Kd.C_kept_came (Kd.heap_int .i64) HR134_0.out (by repeat (first | (with_reducible first | exact HB.out | apply below_alloc | apply pw_below_drewN | apply below_drew1 | refine below_set ?_ GE115.out | refine below_set ?_ GE135.out) | exact HB.out)) (fun k_ hs_ => (fun e_ => Kd.R_base HO_5.out k_ e_.symm) hs_))
      (case side4 => exact HC134_0.out)
      rintro e w35 ⟨v137, rfl, ho0, hb, hkp⟩
      refine ⟨_, rfl, ?_⟩
      have n0_ := am (blk_kept (by (with_reducible repeat (first | refine blk_drewN ?_ _ | refine blk_drew ?_ | refine blk_alloc ?_ _)); exact BK115.out) hkp (fun hs_ => (fun e_ => (Kd.R_ne HO_5.out BK115.out (by decide)) e_) hs_))
      have n1_ := am (blk_kept (by (with_reducible repeat (first | refine blk_drewN ?_ _ | refine blk_drew ?_ | refine blk_alloc ?_ _)); exact BK135.out) hkp (fun hs_ => (fun e_ => (Kd.R_ne HO_5.out BK135.out (by decide)) e_) hs_))
      have n2_ := am (Kd.R_mono (ok' := fun k_ => True) ho0 (fun k_ hk_ => trivial))
      have n3_ := am (hb)
      clear BK115
      clear BK135
      clear HB
      clear HO_5
      have BK115 := n0_
      have BK135 := n1_
      have HO138 := n2_
      have HB := n3_
      clear n0_ n1_ n2_ n3_
      (try clear hb)
      (try clear hkp)
      (try clear ho0)
      obtain ⟨Ao36, co36, eo36⟩ := Kd.R_slice HO138.out
      (first | subst eo36 | (injection eo36 with f1_ f2_ f3_; have f4_ := f1_.symm; have f5_ := f3_.symm; clear f1_ f2_ f3_; subst f4_; subst f5_))
      refine hK.out _ _ ⟨(blk_cell BK135.out 0).trans rfl, (blk_cell BK135.out 1).trans rfl⟩ (fun hHeld => ?_)
      clear hK K
      refine norm_ (a' := ?_) ?_ ?_
      rotate_left
      ·show Act.put _ (some 38) _ = _
       simp only [Act.put, List.setIfInBounds_toArray, List.set_cons_zero, List.set_cons_succ, i64_w, i32_w]
       rfl
      refine one_ (i := 6) (N := some 41) (bb 8 127) rfl rfl (one_of HT_.out (by kernel_rfl)) (by decide) (fun K hK => ?_)
      refine goes_ Try.func31 (by kernel_rfl) rfl #[.slice Ao36 t136.length co36, .slice A134_1 ((rd_T33 l1 x31_1).f1).length c134_1] (by rfl) rfl rfl (by (try simp only [List.map_toArray, List.map_cons, List.map_nil]); first | done | rfl | (simp only [List.length_drop, List.length_take]; rfl)) ?_
      with_reducible refine (rec_great.calls k1 (fun k_ => some k_ = (.slice Ao36 t136.length co36 : Value).ownBlock) (.slice Ao36 t136.length co36) t136 _ _ ((rd_T33 l1 x31_1).f1) t139 w _ ?side1 ?side2 ?side3 ?side4 A28.out).mono ?_
      (case side1 => repeat (first | (with_reducible first | exact HB.out | apply below_alloc | apply pw_below_drewN | apply below_drew1 | refine below_set ?_ GE115.out | refine below_set ?_ GE135.out) | exact HB.out))
      (case side2 => exact Kd.R_tight rfl HO138.out)
      (case side3 => exact Kd.C_kept_came (Kd.heap_int .i64) HR134_1.out (by repeat (first | (with_reducible first | exact HB.out | apply below_alloc | apply pw_below_drewN | apply below_drew1 | refine below_set ?_ GE115.out | refine below_set ?_ GE135.out) | exact HB.out)) (fun k_ hs_ => (fun e_ => Kd.R_base HO138.out k_ e_.symm) hs_))
      (case side4 => exact HC134_1.out)
      rintro e w37 ⟨v140, rfl, ho0, hb, hkp⟩
      refine ⟨_, rfl, ?_⟩
      have n0_ := am (blk_kept (by (with_reducible repeat (first | refine blk_drewN ?_ _ | refine blk_drew ?_ | refine blk_alloc ?_ _)); exact BK115.out) hkp (fun hs_ => (fun e_ => (Kd.R_ne HO138.out BK115.out (by decide)) e_) hs_))
      have n1_ := am (blk_kept (by (with_reducible repeat (first | refine blk_drewN ?_ _ | refine blk_drew ?_ | refine blk_alloc ?_ _)); exact BK135.out) hkp (fun hs_ => (fun e_ => (Kd.R_ne HO138.out BK135.out (by decide)) e_) hs_))
      have n2_ := am (Kd.R_mono (ok' := fun k_ => True) ho0 (fun k_ hk_ => trivial))
      have n3_ := am (hb)
      clear BK115
      clear BK135
      clear HB
      clear HO138
      have BK115 := n0_
      have BK135 := n1_
      have HO141 := n2_
      have HB := n3_
      clear n0_ n1_ n2_ n3_
      (try clear hb)
      (try clear hkp)
      (try clear ho0)
      refine hK.out _ _ ⟨(blk_cell BK135.out 0).trans rfl, (blk_cell BK135.out 1).trans rfl⟩ (fun hHeld => ?_)
      clear hK K
      refine norm_ (a' := ?_) ?_ ?_
      rotate_left
      ·show Act.put _ (some 41) _ = _
       simp only [Act.put, List.setIfInBounds_toArray, List.set_cons_zero, List.set_cons_succ, i64_w, i32_w]
       rfl
      refine pure_ (i := 7) (N := some 5) (v := ?_) (a' := ?_) (bb 8 255) rfl rfl (any_of HT_.out (by kernel_rfl)) (fun _ _ _ h => h) (Or.inl ⟨by rfl, ?_⟩) ?_ ?_
      rotate_left
      ·intro w'
       go_simp
       with_reducible rfl
      rotate_left
      ·simp only [Act.put, List.setIfInBounds_toArray, List.set_cons_zero, List.set_cons_succ, i64_w, i32_w]
       rfl
      refine done_ (done_of HT_.out (by kernel_rfl)) ?_
      try go_wp2
      go_roundg k1
      case measure => have := HK1.out; omega
      case rel => exact ⟨(t139), (wrap64 (x31_1 + 1)), (by first | rfl | (simp; done) | (simp [*]; done)), H', ⟨by have := HK1.out; omega⟩, ⟨by (with_reducible repeat (first | apply Kd.R_alloc | apply Kd.R_drewN | apply Kd.R_drew)); exact HO141.out⟩, ⟨by (with_reducible repeat (first | refine blk_drewN ?_ _ | refine blk_drew ?_ | refine blk_alloc ?_ _)); exact BK115.out⟩, ⟨by repeat (first | (with_reducible first | exact HB.out | apply below_alloc | apply pw_below_drewN | apply below_drew1 | refine below_set ?_ GE115.out | refine below_set ?_ GE135.out) | exact HB.out)⟩⟩
     ·rw [if_neg c26] at H
      exact absurd H (by simp)
    ·rw [if_neg c25] at H
     exact absurd H (by simp)
   ·rw [if_neg c24] at H
    have c24b0 : decide (x31_1 < (l1.length : Int)) = false := decide_eq_false c24
    clear c24
    replace H := Option.bind_eq_some_iff.mp H
    obtain ⟨t142, A380, H⟩ := H
    replace H : (some t142) = some r := H
    have A38 := am A380
    clear A380
    obtain rfl := Option.some.inj H
    obtain ⟨Ao39, co39, eo39⟩ := Kd.R_slice HO_5.out
    subst eo39
    go_wp2_with (first | ((with_reducible refine gate_callee (f := 32) rfl ?_); refine goesL_ (some 44) rfl rfl Try.func32 (by kernel_rfl) rfl #[.slice Ao39 x5_1.length co39] rfl (by (try simp only [List.map_toArray, List.map_cons, List.map_nil]); first | done | rfl | (simp only [List.length_drop, List.length_take]; rfl)) ?_; (with_reducible refine (rec_own.calls _ _ x5_1 t142 _ ?side1 ?side2 A38.out).mono ?_); (case side1 => repeat (first | exact (Kd.R_reads' HO_5.out).2.2 | (with_reducible refine Kd.C_alloc ?_ _) | (with_reducible refine Kd.C_drewN ?_ _) | (with_reducible refine Kd.C_drew ?_))); (case side2 => exact (Kd.R_reads' HO_5.out).2.1); rintro e w40 ⟨v143, rfl, ho0, hb⟩; refine ⟨_, rfl, ?_⟩; have n0_ := am (Kd.R_elder' (by (with_reducible repeat (first | apply Kd.R_alloc | apply Kd.R_drewN | apply Kd.R_drew)); exact HO_5.out) (Kd.R_base ho0) hb); have n1_ := am (Kd.R_lower (Kd.R_new' ho0 (Kd.R_lt (by (with_reducible repeat (first | apply Kd.R_alloc | apply Kd.R_drewN | apply Kd.R_drew)); exact HO_5.out))) (below_size (by repeat (first | (with_reducible first | exact HB.out | apply below_alloc | apply pw_below_drewN | apply below_drew1 | refine below_set ?_ GE115.out) | exact HB.out)))); have n2_ := am (blk_below (g := gb115) (o := .cells #[.slice A0_0 l0_0.length c0_0, .int .i64 a0_1] 24 (0, 0)) (by (with_reducible repeat (first | refine blk_drewN ?_ _ | refine blk_drew ?_ | refine blk_alloc ?_ _)); exact BK115.out) hb); have n3_ := am (below_step (by repeat (first | (with_reducible first | exact HB.out | apply below_alloc | apply pw_below_drewN | apply below_drew1 | refine below_set ?_ GE115.out) | exact HB.out)) hb); clear HO_5; clear BK115; clear HB; have HO_5 := n0_; have HO144 := n1_; have BK115 := n2_; have HB := n3_; clear n0_ n1_ n2_ n3_; (try clear hb); (try clear hb2); (try clear hk); (try clear hi); (try clear ho0)))
    go_ret
    exact ⟨_, by first | rfl | (simp [errW_none, errW_some] <;> rfl) | (simp [*, errW_none, errW_some] <;> rfl), by (with_reducible repeat (first | apply Kd.R_alloc | apply Kd.R_drewN | apply Kd.R_drew)); exact Kd.R_mono HO144.out (fun _ hk => trivial), by repeat (first | (with_reducible first | exact HB.out | apply below_alloc | apply pw_below_drewN | apply below_drew1 | refine below_set ?_ GE115.out) | exact HB.out)⟩
def hypercuberef1_Two.f (a0 : Int) : Option (List Int) := some (([(a0 / 256) % 256, (a0) % 256] : List Int))
set_option maxHeartbeats 8000000 in
set_option maxRecDepth 100000 in
theorem hypercuberef1_Two.calls (a0 : Int) (r : List Int) (w : World) (h : hypercuberef1_Two.f a0 = some r) :
  Calls Try.prog 36 #[.int .i64 a0] w fun e w' => ∃ v0_ : Value, e = .returned (v0_) ∧ Kd.R (Kd.int .u8) 5 w' w.heap.size (fun _ => True) v0_ r ∧ Below w.heap.size w w' := by
 have HB := am (Below.refl w.heap.size w)
 have H : (some (([(a0 / 256) % 256, (a0) % 256] : List Int))) = some r := h
 clear h
 obtain ⟨y264, hy264⟩ : ∃ y_ : List Int, y_ = (([(a0 / 256) % 256, (a0) % 256] : List Int)) := ⟨_, rfl⟩
 replace H : (some y264) = some r := by first | (rw [hy264]; with_reducible exact H) | (have H2_ := (Option.bind_some _ _).symm.trans H; rw [hy264]; with_reducible exact H2_) | (have H2_ := (Option.bind_some _ _).symm.trans H; with_reducible exact H2_) | with_reducible exact H | (rw [hy264]; exact H) | exact H
 have Ny264 := am hy264
 clear hy264
 obtain rfl := Option.some.inj H
 go_enter Try.func36, Try.ntmps36
 go_wp2_with (first | ((with_reducible refine gate_dst (N := 8) rfl ?_); refine Kd.R_lit (Kd.int .u8) _ 5 ?hg (N := 8) ?hd (xs := ([(a0 / 256) % 256, (a0) % 256] : List Int)) (inner := [.int .u8 ((a0 / 256) % 256), .int .u8 ((a0) % 256)]) (ok := fun _ => True) (okp := fun _ => True) ?hr ?hp (fun _ hk => hk) trivial (Below.refl _ _) (Nat.le_refl _) (by simp) ?_; (case hd => rfl); (case hg => rfl); (case hr => first | (go_simp; done) | (go_simp; rfl)); (case hp => exact (Reps.one (show Kd.M (Kd.int .u8) _ _ _ ((a0 / 256) % 256) [.int .u8 ((a0 / 256) % 256)] from rfl) (Reps.one (show Kd.M (Kd.int .u8) _ _ _ ((a0) % 256) [.int .u8 ((a0) % 256)] from rfl) (Reps.none _ _)))); intro v265 w2 ho3 hb hg_ hnew_; clear hg_ hnew_; (first | rw [← Ny264.out] at ho3 | (simp only [Int.reduceToNat] at ho3; rw [← Ny264.out] at ho3)); have n0_ := am (Kd.R_lower ho3 (below_size (by repeat (first | (with_reducible first | exact HB.out | apply below_alloc | apply pw_below_drewN | apply below_drew1) | exact HB.out)))); have n1_ := am (below_step (by repeat (first | (with_reducible first | exact HB.out | apply below_alloc | apply pw_below_drewN | apply below_drew1) | exact HB.out)) hb); clear HB; have HO266 := n0_; have HB := n1_; clear n0_ n1_; clear hb ho3))
 go_ret
 exact ⟨_, by first | rfl | (simp [errW_none, errW_some] <;> rfl) | (simp [*, errW_none, errW_some] <;> rfl), by (with_reducible repeat (first | apply Kd.R_alloc | apply Kd.R_drewN | apply Kd.R_drew)); exact HO266.out, by repeat (first | (with_reducible first | exact HB.out | apply below_alloc | apply pw_below_drewN | apply below_drew1) | exact HB.out)⟩
def hypercuberef1_Eight.l0 : Nat → Int → List Int → Int → Option (List Int)
 | 0, _, _, _ => none
 | k + 1, x0, x3, x4 => if x4 < 8 then (if 0 ≤ (IntKind.u64.wrap (wrap64 (56 - (wrap64 (8 * x4))))) then (if x3.length < 140737488355328 then (hypercuberef1_Eight.l0 k x0 (x3 ++ [(shr .i64 x0 (IntKind.u64.wrap (wrap64 (56 - (wrap64 (8 * x4)))))) % 256]) (wrap64 (x4 + 1))) else (none)) else (none)) else (some x3)
def hypercuberef1_Eight.f (k : Nat) (a0 : Int) : Option (List Int) := hypercuberef1_Eight.l0 k a0 ([] : List Int) 0
set_option maxHeartbeats 8000000 in
set_option maxRecDepth 100000 in
theorem hypercuberef1_Eight.calls (k : Nat) (a0 : Int) (r : List Int) (w : World) (h : hypercuberef1_Eight.f k a0 = some r) :
  Calls Try.prog 37 #[.int .i64 a0] w fun e w' => ∃ v0_ : Value, e = .returned (v0_) ∧ Kd.R (Kd.int .u8) 5 w' w.heap.size (fun _ => True) v0_ r ∧ Below w.heap.size w w' := by
 have HB := am (Below.refl w.heap.size w)
 have H : (hypercuberef1_Eight.l0 k a0 ([] : List Int) 0) = some r := h
 clear h
 have H' := am H
 clear H
 go_enter Try.func37, Try.ntmps37
 go_wp2
 go_loopg [3, 4] k (fun kq v3 v4 w' => ∃ (x3_1 : List Int) (x4_1 : Int), v4 = .int .i64 x4_1 ∧ Aside0 (hypercuberef1_Eight.l0 kq a0 x3_1 x4_1 = some r) ∧ Aside0 (kq ≤ k) ∧ Aside0 (Kd.R (Kd.int .u8) 5 w' w.heap.size (fun _ => True) v3 x3_1) ∧ Aside0 (Below w.heap.size w w'))
 case atStart => exact ⟨(([] : List Int)), (0), (by first | rfl | (simp; done) | (simp [*]; done)), H', ⟨Nat.le_refl _⟩, ⟨by first | exact Kd.R_nil _ _ _ _ _ | exact Kd.N_nil _ _ _ _ _ | exact Kd.V_nil _ _ _ _ _ | exact Kd.Q_nil _ _ _ _ _ | exact Kd.S_nil _ _ _ _ _⟩, ⟨by repeat (first | (with_reducible first | exact HB.out | apply below_alloc | apply pw_below_drewN | apply below_drew1) | exact HB.out)⟩⟩
 case round =>
  clear H'
  obtain ⟨x3_1, x4_1, rfl, HA, HK1, HO_3, HB⟩ := hrel
  cases gk with
  | zero => exact absurd HA.out (by simp [hypercuberef1_Eight.l0])
  | succ k1 =>
   have H := HA.out
   clear HA
   simp only [hypercuberef1_Eight.l0] at H
   by_cases c2 : x4_1 < 8
   ·rw [if_pos c2] at H
    have c2b0 : decide (x4_1 < 8) = true := decide_eq_true c2
    clear c2
    obtain ⟨ji3, hji3⟩ : ∃ j_ : Int, (IntKind.u64.wrap (wrap64 (56 - (wrap64 (8 * x4_1))))) = j_ := ⟨_, rfl⟩
    replace H : (if 0 ≤ (ji3) then (if x3_1.length < 140737488355328 then (hypercuberef1_Eight.l0 k1 a0 (x3_1 ++ [(shr .i64 a0 (ji3)) % 256]) (wrap64 (x4_1 + 1))) else (none)) else (none)) = some r := by first | (rw [hji3] at H; exact H) | (simp only [hji3] at H ⊢; exact H)
    by_cases c4 : 0 ≤ (ji3)
    ·rw [if_pos c4] at H
     have c4b0 := eq_true c4
     have c4b1 : decide (0 ≤ (ji3)) = true := decide_eq_true c4
     clear c4
     obtain ⟨ji5, hji5⟩ : ∃ j_ : Int, (shr .i64 a0 (ji3)) = j_ := ⟨_, rfl⟩
     replace H : (if x3_1.length < 140737488355328 then (hypercuberef1_Eight.l0 k1 a0 (x3_1 ++ [(ji5) % 256]) (wrap64 (x4_1 + 1))) else (none)) = some r := by first | (rw [hji5] at H; exact H) | (simp only [hji5] at H ⊢; exact H)
     have hji5_ : (a0 / 2 ^ min (ji3).toNat 64) = ji5 := hji5
     have hji5z : (ji3) ≤ 64 → (a0 / 2 ^ (ji3).toNat) = ji5 := shr_small hji5
     by_cases c6 : x3_1.length < 140737488355328
     ·rw [if_pos c6] at H
      have LMc6 := am c6
      clear c6
      obtain ⟨y267, hy267⟩ : ∃ y_ : List Int, y_ = (x3_1 ++ [(ji5) % 256]) := ⟨_, rfl⟩
      replace H : (hypercuberef1_Eight.l0 k1 a0 y267 (wrap64 (x4_1 + 1))) = some r := by first | (rw [hy267]; with_reducible exact H) | (have H2_ := (Option.bind_some _ _).symm.trans H; rw [hy267]; with_reducible exact H2_) | (have H2_ := (Option.bind_some _ _).symm.trans H; with_reducible exact H2_) | with_reducible exact H | (rw [hy267]; exact H) | exact H
      have Ny267 := am hy267
      clear hy267
      have H' := am H
      clear H
      go_wp2_with (first | ((with_reducible refine gate_builtin (b := .append) (xs := #[.tmp 9, .tmp 17]) rfl ?_); at_builtin; refine Kd.R_append (Kd.int .u8) (w0 := w) w.heap.size rfl (.tmp 9) (.tmp 17) 36 5 (.int .u8 0) 1 rfl Try.underlying36 info5 rfl (by decide) (by omega) u3 x3_1 ((ji5) % 256) [.int .u8 ((ji5) % 256)] (fun _ => True) (fun _ => False) rfl rfl ?aP (fun _ hk => hk.elim) ?aF ?aO ?aB ?aS ?aL ?_; (case aP => exact rfl); (case aB => exact (by repeat (first | (with_reducible first | exact HB.out | apply below_alloc | apply pw_below_drewN | apply below_drew1) | exact HB.out))); (case aF => exact (fun _ _ => trivial)); (case aO => exact (by (with_reducible repeat (first | apply Kd.R_alloc | apply Kd.R_drewN | apply Kd.R_drew)); exact HO_3.out)); (case aS => exact (below_size (by repeat (first | (with_reducible first | exact HB.out | apply below_alloc | apply pw_below_drewN | apply below_drew1) | exact HB.out)))); (case aL => have := LMc6.out; omega); intro v268 w7 ho hb hg hat; rw [← Ny267.out] at ho; have n0_ := am (hb); have n1_ := am (ho); clear HB; clear HO_3; have HB := n0_; have HO269 := n1_; clear n0_ n1_; clear ho hb hg hat))
      go_roundg k1
      case measure => have := HK1.out; omega
      case rel => exact ⟨(y267), (wrap64 (x4_1 + 1)), (by first | rfl | (simp; done) | (simp [*]; done)), H', ⟨by have := HK1.out; omega⟩, ⟨by (with_reducible repeat (first | apply Kd.R_alloc | apply Kd.R_drewN | apply Kd.R_drew)); exact HO269.out⟩, ⟨by repeat (first | (with_reducible first | exact HB.out | apply below_alloc | apply pw_below_drewN | apply below_drew1) | exact HB.out)⟩⟩
     ·rw [if_neg c6] at H
      exact absurd H (by simp)
    ·rw [if_neg c4] at H
     exact absurd H (by simp)
   ·rw [if_neg c2] at H
    have c2b0 : decide (x4_1 < 8) = false := decide_eq_false c2
    clear c2
    obtain rfl := Option.some.inj H
    go_wp2
    go_ret
    exact ⟨_, by first | rfl | (simp [errW_none, errW_some] <;> rfl) | (simp [*, errW_none, errW_some] <;> rfl), by (with_reducible repeat (first | apply Kd.R_alloc | apply Kd.R_drewN | apply Kd.R_drew)); exact HO_3.out, by repeat (first | (with_reducible first | exact HB.out | apply below_alloc | apply pw_below_drewN | apply below_drew1) | exact HB.out)⟩
mutual
def hypercuberef1_Encode.l0 : Nat → List (S33) → List Int → Int → List Int → Int → Option (List Int)
 | 0, _, _, _, _, _ => none
 | k + 1, x1, x5, x6, x271000, x271001 => if x6 < (x271000.length : Int) then (if 0 ≤ x6 then (if x5.length < 140737488355328 then (hypercuberef1_Encode.l0 k x1 (x5 ++ [(rd x271000 x6) % 256]) (wrap64 (x6 + 1)) x271000 x271001) else (none)) else (none)) else (if x5.length < 140737488355328 then ((some (x5 ++ [(x271001) % 256] : List Int)).bind fun y281 => ((hypercuberef1_Two.f (x1.length : Int)).bind fun t284 => (if y281.length + t284.length < 140737488355328 then (hypercuberef1_Encode.l1 k x1 (y281 ++ t284) 0) else (none)))) else (none))
def hypercuberef1_Encode.l1 : Nat → List (S33) → List Int → Int → Option (List Int)
 | 0, _, _, _ => none
 | k + 1, x1, x5, x7 => if x7 < (x1.length : Int) then (hypercuberef1_Encode.l2 k x1 x5 x7 0) else (some x5)
def hypercuberef1_Encode.l2 : Nat → List (S33) → List Int → Int → Int → Option (List Int)
 | 0, _, _, _, _ => none
 | k + 1, x1, x5, x7, x8 => if 0 ≤ x7 then (if x7 < (x1.length : Int) then (if x8 < (((rd_T33 x1 x7).f0).length : Int) then (if 0 ≤ x8 then (if x5.length < 140737488355328 then (hypercuberef1_Encode.l2 k x1 (x5 ++ [(rd ((rd_T33 x1 x7).f0) x8) % 256]) x7 (wrap64 (x8 + 1))) else (none)) else (none)) else (hypercuberef1_Encode.l3 k x1 x5 x7 0)) else (none)) else (none)
def hypercuberef1_Encode.l3 : Nat → List (S33) → List Int → Int → Int → Option (List Int)
 | 0, _, _, _, _ => none
 | k + 1, x1, x5, x7, x9 => if 0 ≤ x7 then (if x7 < (x1.length : Int) then (if x9 < (((rd_T33 x1 x7).f1).length : Int) then (if 0 ≤ x9 then ((hypercuberef1_Eight.f k (rd ((rd_T33 x1 x7).f1) x9)).bind fun t299 => (if x5.length + t299.length < 140737488355328 then (hypercuberef1_Encode.l3 k x1 (x5 ++ t299) x7 (wrap64 (x9 + 1))) else (none))) else (none)) else (hypercuberef1_Encode.l1 k x1 x5 (wrap64 (x7 + 1)))) else (none)) else (none)
end
def hypercuberef1_Encode.f (k : Nat) (l0_0 : List Int) (a0_1 : Int) (l1 : List (S33)) : Option (List Int) := (some (([67, 85, 66, 49] : List Int) : List Int)).bind fun y271 => (if y271.length < 140737488355328 then (hypercuberef1_Encode.l0 k l1 (y271 ++ [((l0_0.length : Int)) % 256]) 0 l0_0 a0_1) else (none))
set_option maxHeartbeats 8000000 in
set_option maxRecDepth 100000 in
theorem hypercuberef1_Encode.calls (k : Nat) (A0_0 : Option Addr) (c0_0 : Nat) (l0_0 : List Int) (a0_1 : Int) (A1 : Option Addr) (c1 : Nat) (l1 : List (S33)) (r : List Int) (w : World) (hr0_0 : Kd.C (Kd.int .i64) w A0_0 l0_0.length l0_0) (hc0_0 : l0_0.length ≤ c0_0) (hr1 : Kd.C k33 w A1 l1.length l1) (hc1 : l1.length ≤ c1) (h : hypercuberef1_Encode.f k l0_0 a0_1 l1 = some r) :
  Calls Try.prog 24 #[.agg #[.slice A0_0 l0_0.length c0_0, .int .i64 a0_1], .slice A1 l1.length c1] w fun e w' => ∃ v0_ : Value, e = .returned (v0_) ∧ Kd.R (Kd.int .u8) 5 w' w.heap.size (fun _ => True) v0_ r ∧ Below w.heap.size w w' := by
 have hu24 := Try.underlying24
 have HR0_0 := am hr0_0
 have HC0_0 := am hc0_0
 clear hr0_0 hc0_0
 have HR1 := am hr1
 have HC1 := am hc1
 clear hr1 hc1
 have HB := am (Below.refl w.heap.size w)
 have H : ((some (([67, 85, 66, 49] : List Int) : List Int)).bind fun y271 => (if y271.length < 140737488355328 then (hypercuberef1_Encode.l0 k l1 (y271 ++ [((l0_0.length : Int)) % 256]) 0 l0_0 a0_1) else (none))) = some r := h
 clear h
 obtain ⟨y271, hy271⟩ : ∃ y_ : List Int, y_ = (([67, 85, 66, 49] : List Int)) := ⟨_, rfl⟩
 replace H : (if y271.length < 140737488355328 then (hypercuberef1_Encode.l0 k l1 (y271 ++ [((l0_0.length : Int)) % 256]) 0 l0_0 a0_1) else (none)) = some r := by first | (rw [hy271]; with_reducible exact H) | (have H2_ := (Option.bind_some _ _).symm.trans H; rw [hy271]; with_reducible exact H2_) | (have H2_ := (Option.bind_some _ _).symm.trans H; with_reducible exact H2_) | with_reducible exact H | (rw [hy271]; exact H) | exact H
 have Ny271 := am hy271
 clear hy271
 by_cases c3 : y271.length < 140737488355328
 ·rw [if_pos c3] at H
  have LMc3 := am c3
  clear c3
  obtain ⟨y274, hy274⟩ : ∃ y_ : List Int, y_ = (y271 ++ [((l0_0.length : Int)) % 256]) := ⟨_, rfl⟩
  replace H : (hypercuberef1_Encode.l0 k l1 y274 0 l0_0 a0_1) = some r := by first | (rw [hy274]; with_reducible exact H) | (have H2_ := (Option.bind_some _ _).symm.trans H; rw [hy274]; with_reducible exact H2_) | (have H2_ := (Option.bind_some _ _).symm.trans H; with_reducible exact H2_) | with_reducible exact H | (rw [hy274]; exact H) | exact H
  have Ny274 := am hy274
  clear hy274
  have H' := am H
  clear H
  have kc := fun (W_ : World) (C_ : Array Value) (n_ c_ : Nat) => Go.Lib.run_convert_bytes_const (P := Try.prog) W_ 36 5 C_ n_ c_ Try.underlying36 Try.underlying5
  go_enter Try.func24, Try.ntmps24
  go_wp2_with (first | ((with_reducible refine gate_dst (N := 2) rfl ?_); refine box_event ?hg (N := 2) ?hd (cs := #[.slice A0_0 l0_0.length c0_0, .int .i64 a0_1]) (t := 24) ?hr ?_; (case hd => rfl); (case hg => rfl); (case hr => first | (go_simp; done) | (go_simp; rfl)); intro gb270 hg w4 hbox hb; have n0_ := am (below_step (by repeat (first | (with_reducible first | exact HB.out | apply below_alloc | apply pw_below_drewN | apply below_drew1) | exact HB.out)) hb); have n1_ := am (hbox); have n2_ := am ((by rw [hg]; exact (below_size (by repeat (first | (with_reducible first | exact HB.out | apply below_alloc | apply pw_below_drewN | apply below_drew1) | exact HB.out))) : w.heap.size ≤ gb270)); have n3_ := am ((by rw [hg]; exact (below_size (by repeat (first | (with_reducible first | exact HB.out | apply below_alloc | apply pw_below_drewN | apply below_drew1) | exact HB.out))) : w.heap.size ≤ gb270)); clear HB; have HB := n0_; have BK270 := n1_; have GW270 := n2_; have GE270 := n3_; clear n0_ n1_ n2_ n3_; clear hb hbox hg; have hcz7_0 : w4.cell? ⟨gb270, 0, none⟩ = some (.slice A0_0 l0_0.length c0_0) := (blk_cell BK270.out 0).trans rfl; have hcz7_1 : w4.cell? ⟨gb270, 1, none⟩ = some (.int .i64 a0_1) := (blk_cell BK270.out 1).trans rfl; have hfz7_0 := blk_frozen BK270.out 0; have hfz7_1 := blk_frozen BK270.out 1; have hca0_ : ∀ o_ : Obj, (w4.alloc o_).cell? ⟨gb270, 0, none⟩ = some (.slice A0_0 l0_0.length c0_0) := fun o_ => (blk_cell (blk_alloc BK270.out o_) 0).trans rfl; have hca1_ : ∀ o_ : Obj, (w4.alloc o_).cell? ⟨gb270, 1, none⟩ = some (.int .i64 a0_1) := fun o_ => (blk_cell (blk_alloc BK270.out o_) 1).trans rfl) | ((with_reducible refine gate_builtin (b := .append) (xs := #[.tmp 11, .tmp 16]) rfl ?_); at_builtin; refine kd_append_full (enc := Value.int .u8) (h1 := fun _ => rfl) (w0 := w) (base := w.heap.size) rfl (.tmp 11) (.tmp 16) 36 rfl 5 (.int .u8 0) 1 Try.underlying36 info5 rfl (some ⟨w4.heap.size, 0, none⟩) 4 [67, 85, 66, 49] (((l0_0.length : Int)) % 256) rfl (by rw [World.size_alloc]; rfl) (show Kd.C (Kd.int .u8) (w4.alloc (.cells #[.int .u8 67, .int .u8 85, .int .u8 66, .int .u8 49] 5 (4, 4 + 1))) (some ⟨w4.heap.size, 0, none⟩) 4 [67, 85, 66, 49] from lit_mark w4 [67, 85, 66, 49] 5 (4, 4 + 1) (by simp)) (by decide) (by decide) (by decide) (by repeat (first | (with_reducible first | exact HB.out | apply below_alloc | apply pw_below_drewN | apply below_drew1 | refine below_set ?_ GE270.out) | exact HB.out)) (below_size (by repeat (first | (with_reducible first | exact HB.out | apply below_alloc | apply pw_below_drewN | apply below_drew1 | refine below_set ?_ GE270.out) | exact HB.out))) ?_; intro v275 w8 ho hb hbb; have hg := grown_of_below hbb none; replace ho := Kd.R_mono (ok' := fun _ => True) ho (fun _ _ => trivial); (try rw [Ny271.out] at Ny274); have hat := hbb; rw [← Ny274.out] at ho; have n0_ := am (blk_grown (g := gb270) (o := .cells #[.slice A0_0 l0_0.length c0_0, .int .i64 a0_1] 24 (0, 0)) (by (with_reducible repeat (first | refine blk_drewN ?_ _ | refine blk_drew ?_ | refine blk_alloc ?_ _)); exact BK270.out) hg (by simp)); have n1_ := am (hb); have n2_ := am (ho); clear BK270; clear HB; have BK270 := n0_; have HB := n1_; have HO276 := n2_; clear n0_ n1_ n2_; clear ho hb hg hat))
  go_loopg [5, 6] k (fun kq v5 v6 w' => ∃ (x5_1 : List Int) (x6_1 : Int), v6 = .int .i64 x6_1 ∧ Aside0 (hypercuberef1_Encode.l0 kq l1 x5_1 x6_1 l0_0 a0_1 = some r) ∧ Aside0 (kq ≤ k) ∧ Aside0 (Kd.R (Kd.int .u8) 5 w' w.heap.size (fun _ => True) v5 x5_1) ∧ Aside0 (w'.heap[gb270]? = some (.cells #[(.slice A0_0 l0_0.length c0_0), .int .i64 a0_1] 24 (0, 0))) ∧ Aside0 (Below w.heap.size w w'))
  case atStart => exact ⟨(y274), (0), (by first | rfl | (simp; done) | (simp [*]; done)), H', ⟨Nat.le_refl _⟩, ⟨by (with_reducible repeat (first | apply Kd.R_alloc | apply Kd.R_drewN | apply Kd.R_drew)); exact HO276.out⟩, ⟨by (with_reducible repeat (first | refine blk_drewN ?_ _ | refine blk_drew ?_ | refine blk_alloc ?_ _)); exact BK270.out⟩, ⟨by repeat (first | (with_reducible first | exact HB.out | apply below_alloc | apply pw_below_drewN | apply below_drew1 | refine below_set ?_ GE270.out) | exact HB.out)⟩⟩
  case round =>
   clear H'
   try clear c1
   try clear c2
   try clear p2
   try clear c3
   try clear hcz7_0
   try clear hcz7_1
   try clear hfz7_0
   try clear hfz7_1
   obtain ⟨x5_1, x6_1, rfl, HA, HK1, HO_5, BK270, HB⟩ := hrel
   cases gk with
   | zero => exact absurd HA.out (by simp [hypercuberef1_Encode.l0])
   | succ k1 =>
    have H := HA.out
    clear HA
    simp only [hypercuberef1_Encode.l0] at H
    by_cases c9 : x6_1 < (l0_0.length : Int)
    ·rw [if_pos c9] at H
     have c9b0 : decide (x6_1 < (l0_0.length : Int)) = true := decide_eq_true c9
     clear c9
     by_cases c10 : 0 ≤ x6_1
     ·rw [if_pos c10] at H
      have c10b0 : decide (0 ≤ x6_1) = true := decide_eq_true c10
      clear c10
      by_cases c11 : x5_1.length < 140737488355328
      ·rw [if_pos c11] at H
       have LMc11 := am c11
       clear c11
       obtain ⟨y278, hy278⟩ : ∃ y_ : List Int, y_ = (x5_1 ++ [(rd l0_0 x6_1) % 256]) := ⟨_, rfl⟩
       replace H : (hypercuberef1_Encode.l0 k1 l1 y278 (wrap64 (x6_1 + 1)) l0_0 a0_1) = some r := by first | (rw [hy278]; with_reducible exact H) | (have H2_ := (Option.bind_some _ _).symm.trans H; rw [hy278]; with_reducible exact H2_) | (have H2_ := (Option.bind_some _ _).symm.trans H; with_reducible exact H2_) | with_reducible exact H | (rw [hy278]; exact H) | exact H
       have Ny278 := am hy278
       clear hy278
       have H' := am H
       clear H
       have hcz12_0 : wr.cell? ⟨gb270, 0, none⟩ = some (.slice A0_0 l0_0.length c0_0) := (blk_cell BK270.out 0).trans rfl
       have hcz12_1 : wr.cell? ⟨gb270, 1, none⟩ = some (.int .i64 a0_1) := (blk_cell BK270.out 1).trans rfl
       have hfz12_0 := blk_frozen BK270.out 0
       have hfz12_1 := blk_frozen BK270.out 1
       have p277 : 0 ≤ (x6_1 : Int) := of_decide_eq_true (by first | (with_reducible assumption) | assumption)
       have q277 : x6_1 < (l0_0.length : Int) := of_decide_eq_true (by first | (with_reducible assumption) | assumption)
       obtain ⟨ad277, e277, hx277_0⟩ := Kd.at_int HR0_0.out x6_1 p277 q277
       cases e277
       replace hx277_0 := (HB.out.cell (World.block_lt_of_cell? w _ hx277_0)).trans hx277_0
       replace p277 := eq_true p277
       replace q277 := eq_true q277
       go_wp2_with (first | ((with_reducible refine gate_builtin (b := .append) (xs := #[.tmp 25, .tmp 32]) rfl ?_); at_builtin; refine Kd.R_append (Kd.int .u8) (w0 := w) w.heap.size rfl (.tmp 25) (.tmp 32) 36 5 (.int .u8 0) 1 rfl Try.underlying36 info5 rfl (by decide) (by omega) u5 x5_1 ((rd l0_0 x6_1) % 256) [.int .u8 ((rd l0_0 x6_1) % 256)] (fun _ => True) (fun _ => False) rfl rfl ?aP (fun _ hk => hk.elim) ?aF ?aO ?aB ?aS ?aL ?_; (case aP => exact rfl); (case aB => exact (by repeat (first | (with_reducible first | exact HB.out | apply below_alloc | apply pw_below_drewN | apply below_drew1 | refine below_set ?_ GE270.out) | exact HB.out))); (case aF => exact (fun _ _ => trivial)); (case aO => exact (by (with_reducible repeat (first | apply Kd.R_alloc | apply Kd.R_drewN | apply Kd.R_drew)); exact HO_5.out)); (case aS => exact (below_size (by repeat (first | (with_reducible first | exact HB.out | apply below_alloc | apply pw_below_drewN | apply below_drew1 | refine below_set ?_ GE270.out) | exact HB.out)))); (case aL => have := LMc11.out; omega); intro v279 w13 ho hb hg hat; rw [← Ny278.out] at ho; have n0_ := am (blk_grown (g := gb270) (o := .cells #[.slice (some ad277) l0_0.length c0_0, .int .i64 a0_1] 24 (0, 0)) (by (with_reducible repeat (first | refine blk_drewN ?_ _ | refine blk_drew ?_ | refine blk_alloc ?_ _)); exact BK270.out) hg (Kd.R_ne HO_5.out BK270.out (by decide))); have n1_ := am (hb); have n2_ := am (ho); clear BK270; clear HB; clear HO_5; have BK270 := n0_; have HB := n1_; have HO280 := n2_; clear n0_ n1_ n2_; clear ho hb hg hat))
       go_roundg k1
       case measure => have := HK1.out; omega
       case rel => exact ⟨(y278), (wrap64 (x6_1 + 1)), (by first | rfl | (simp; done) | (simp [*]; done)), H', ⟨by have := HK1.out; omega⟩, ⟨by (with_reducible repeat (first | apply Kd.R_alloc | apply Kd.R_drewN | apply Kd.R_drew)); exact HO280.out⟩, ⟨by (with_reducible repeat (first | refine blk_drewN ?_ _ | refine blk_drew ?_ | refine blk_alloc ?_ _)); exact BK270.out⟩, ⟨by repeat (first | (with_reducible first | exact HB.out | apply below_alloc | apply pw_below_drewN | apply below_drew1 | refine below_set ?_ GE270.out) | exact HB.out)⟩⟩
      ·rw [if_neg c11] at H
       exact absurd H (by simp)
     ·rw [if_neg c10] at H
      exact absurd H (by simp)
    ·rw [if_neg c9] at H
     have c9b0 : decide (x6_1 < (l0_0.length : Int)) = false := decide_eq_false c9
     clear c9
     by_cases c14 : x5_1.length < 140737488355328
     ·rw [if_pos c14] at H
      have LMc14 := am c14
      clear c14
      obtain ⟨y281, hy281⟩ : ∃ y_ : List Int, y_ = (x5_1 ++ [(a0_1) % 256]) := ⟨_, rfl⟩
      replace H : ((hypercuberef1_Two.f (l1.length : Int)).bind fun t284 => (if y281.length + t284.length < 140737488355328 then (hypercuberef1_Encode.l1 k1 l1 (y281 ++ t284) 0) else (none))) = some r := by first | (rw [hy281]; with_reducible exact H) | (have H2_ := (Option.bind_some _ _).symm.trans H; rw [hy281]; with_reducible exact H2_) | (have H2_ := (Option.bind_some _ _).symm.trans H; with_reducible exact H2_) | with_reducible exact H | (rw [hy281]; exact H) | exact H
      have Ny281 := am hy281
      clear hy281
      replace H := Option.bind_eq_some_iff.mp H
      obtain ⟨t284, A150, H⟩ := H
      replace H : (if y281.length + t284.length < 140737488355328 then (hypercuberef1_Encode.l1 k1 l1 (y281 ++ t284) 0) else (none)) = some r := H
      have A15 := am A150
      clear A150
      by_cases c16 : y281.length + t284.length < 140737488355328
      ·rw [if_pos c16] at H
       have LMc16 := am c16
       clear c16
       obtain ⟨y287, hy287⟩ : ∃ y_ : List Int, y_ = (y281 ++ t284) := ⟨_, rfl⟩
       replace H : (hypercuberef1_Encode.l1 k1 l1 y287 0) = some r := by first | (rw [hy287]; with_reducible exact H) | (have H2_ := (Option.bind_some _ _).symm.trans H; rw [hy287]; with_reducible exact H2_) | (have H2_ := (Option.bind_some _ _).symm.trans H; with_reducible exact H2_) | with_reducible exact H | (rw [hy287]; exact H) | exact H
       have Ny287 := am hy287
       clear hy287
       have H' := am H
       clear H
       have hcz17_0 : wr.cell? ⟨gb270, 0, none⟩ = some (.slice A0_0 l0_0.length c0_0) := (blk_cell BK270.out 0).trans rfl
       have hcz17_1 : wr.cell? ⟨gb270, 1, none⟩ = some (.int .i64 a0_1) := (blk_cell BK270.out 1).trans rfl
       have hfz17_0 := blk_frozen BK270.out 0
       have hfz17_1 := blk_frozen BK270.out 1
       go_wp2_with (first | ((with_reducible refine gate_builtin (b := .append) (xs := #[.tmp 34, .tmp 38]) rfl ?_); at_builtin; refine Kd.R_append (Kd.int .u8) (w0 := w) w.heap.size rfl (.tmp 34) (.tmp 38) 36 5 (.int .u8 0) 1 rfl Try.underlying36 info5 rfl (by decide) (by omega) u5 x5_1 ((a0_1) % 256) [.int .u8 ((a0_1) % 256)] (fun _ => True) (fun _ => False) rfl rfl ?aP (fun _ hk => hk.elim) ?aF ?aO ?aB ?aS ?aL ?_; (case aP => exact rfl); (case aB => exact (by repeat (first | (with_reducible first | exact HB.out | apply below_alloc | apply pw_below_drewN | apply below_drew1 | refine below_set ?_ GE270.out) | exact HB.out))); (case aF => exact (fun _ _ => trivial)); (case aO => exact (by (with_reducible repeat (first | apply Kd.R_alloc | apply Kd.R_drewN | apply Kd.R_drew)); exact HO_5.out)); (case aS => exact (below_size (by repeat (first | (with_reducible first | exact HB.out | apply below_alloc | apply pw_below_drewN | apply below_drew1 | refine below_set ?_ GE270.out) | exact HB.out)))); (case aL => have := LMc14.out; omega); intro v282 w18 ho hb hg hat; rw [← Ny281.out] at ho; have n0_ := am (blk_grown (g := gb270) (o := .cells #[.slice A0_0 l0_0.length c0_0, .int .i64 a0_1] 24 (0, 0)) (by (with_reducible repeat (first | refine blk_drewN ?_ _ | refine blk_drew ?_ | refine blk_alloc ?_ _)); exact BK270.out) hg (Kd.R_ne HO_5.out BK270.out (by decide))); have n1_ := am (hb); have n2_ := am (ho); clear BK270; clear HB; clear HO_5; have BK270 := n0_; have HB := n1_; have HO283 := n2_; clear n0_ n1_ n2_; clear ho hb hg hat) | ((with_reducible refine gate_callee (f := 36) rfl ?_); refine goesL_ (some 43) rfl rfl Try.func36 (by kernel_rfl) rfl #[.int .i64 (l1.length : Int)] rfl (by (try simp only [List.map_toArray, List.map_cons, List.map_nil]); first | done | rfl | (simp only [List.length_drop, List.length_take]; rfl)) ?_; (with_reducible refine (hypercuberef1_Two.calls (l1.length : Int) t284 _ A15.out).mono ?_); rintro e w19 ⟨v285, rfl, ho0, hb⟩; refine ⟨_, rfl, ?_⟩; have n0_ := am (Kd.R_elder' (by (with_reducible repeat (first | apply Kd.R_alloc | apply Kd.R_drewN | apply Kd.R_drew)); exact HO283.out) (Kd.R_base ho0) hb); have n1_ := am (Kd.R_lower (Kd.R_new' ho0 (Kd.R_lt (by (with_reducible repeat (first | apply Kd.R_alloc | apply Kd.R_drewN | apply Kd.R_drew)); exact HO283.out))) (below_size (by repeat (first | (with_reducible first | exact HB.out | apply below_alloc | apply pw_below_drewN | apply below_drew1 | refine below_set ?_ GE270.out) | exact HB.out)))); have n2_ := am (blk_below (g := gb270) (o := .cells #[.slice A0_0 l0_0.length c0_0, .int .i64 a0_1] 24 (0, 0)) (by (with_reducible repeat (first | refine blk_drewN ?_ _ | refine blk_drew ?_ | refine blk_alloc ?_ _)); exact BK270.out) hb); have n3_ := am (below_step (by repeat (first | (with_reducible first | exact HB.out | apply below_alloc | apply pw_below_drewN | apply below_drew1 | refine below_set ?_ GE270.out) | exact HB.out)) hb); clear HO283; clear BK270; clear HB; have HO283 := n0_; have HO286 := n1_; have BK270 := n2_; have HB := n3_; clear n0_ n1_ n2_ n3_; (try clear hb); (try clear hb2); (try clear hk); (try clear hi); (try clear ho0); obtain ⟨Ao21, co21, eo21⟩ := Kd.R_slice HO286.out; subst eo21) | ((with_reducible refine gate_builtin (b := .append) (xs := #[.tmp 40, .tmp 43]) rfl ?_); at_builtin; refine Kd.R_append_rows (Kd.int .u8) (w0 := w) w.heap.size rfl (.tmp 40) (.tmp 43) 36 5 (.int .u8 0) 1 rfl Try.underlying36 info5 rfl (by decide) (by omega) v282 y281 t284 _ _ _ (fun k_ => some k_ ≠ (.slice Ao21 t284.length co21 : Value).ownBlock) (fun _ => False) rfl rfl ?aO ?aR (fun _ _ h => h) (fun _ h => h.elim) ?aF ?aB ?aS ?aL ?_; (case aR => repeat (first | exact (Kd.R_reads' HO286.out).2.2 | (with_reducible refine Kd.C_alloc ?_ _) | (with_reducible refine Kd.C_drewN ?_ _) | (with_reducible refine Kd.C_drew ?_))); (case aB => exact (by repeat (first | (with_reducible first | exact HB.out | apply below_alloc | apply pw_below_drewN | apply below_drew1 | refine below_set ?_ GE270.out) | exact HB.out))); (case aF => exact (fun k_ hk => Kd.fresh' (Kd.R_lt (by (with_reducible repeat (first | apply Kd.R_alloc | apply Kd.R_drewN | apply Kd.R_drew)); exact HO286.out)) k_ hk)); (case aO => exact (by (with_reducible repeat (first | apply Kd.R_alloc | apply Kd.R_drewN | apply Kd.R_drew)); exact Kd.R_mono HO283.out (fun _ hk => hk.2))); (case aS => exact (below_size (by repeat (first | (with_reducible first | exact HB.out | apply below_alloc | apply pw_below_drewN | apply below_drew1 | refine below_set ?_ GE270.out) | exact HB.out)))); (case aL => have := LMc16.out; omega); intro v288 w20 ho hb hg hat; rw [← Ny287.out] at ho; have n0_ := am (blk_grown (g := gb270) (o := .cells #[.slice A0_0 l0_0.length c0_0, .int .i64 a0_1] 24 (0, 0)) (by (with_reducible repeat (first | refine blk_drewN ?_ _ | refine blk_drew ?_ | refine blk_alloc ?_ _)); exact BK270.out) hg (Kd.R_ne HO283.out BK270.out (by decide))); have n1_ := am (Kd.R_after (ok := (fun _ => True)) (by (with_reducible repeat (first | apply Kd.R_alloc | apply Kd.R_drewN | apply Kd.R_drew)); exact HO286.out) hg hat); have n2_ := am (hb); have n3_ := am (ho); clear BK270; clear HO286; clear HB; clear HO283; have BK270 := n0_; have HO286 := n1_; have HB := n2_; have HO289 := n3_; clear n0_ n1_ n2_ n3_; clear ho hb hg hat))
       go_loopg [5, 7] k1 (fun kq v5 v7 w' => ∃ (x5_2 : List Int) (x7_2 : Int), v7 = .int .i64 x7_2 ∧ Aside0 (hypercuberef1_Encode.l1 kq l1 x5_2 x7_2 = some r) ∧ Aside0 (kq ≤ k1) ∧ Aside0 (Kd.R (Kd.int .u8) 5 w' w.heap.size (fun _ => True) v5 x5_2) ∧ Aside0 (w'.heap[gb270]? = some (.cells #[(.slice A0_0 l0_0.length c0_0), .int .i64 a0_1] 24 (0, 0))) ∧ Aside0 (Below w.heap.size w w'))
       case atStart => exact ⟨(y287), (0), (by first | rfl | (simp; done) | (simp [*]; done)), H', ⟨Nat.le_refl _⟩, ⟨by (with_reducible repeat (first | apply Kd.R_alloc | apply Kd.R_drewN | apply Kd.R_drew)); exact Kd.R_mono HO289.out (fun _ hk => trivial)⟩, ⟨by (with_reducible repeat (first | refine blk_drewN ?_ _ | refine blk_drew ?_ | refine blk_alloc ?_ _)); exact BK270.out⟩, ⟨by repeat (first | (with_reducible first | exact HB.out | apply below_alloc | apply pw_below_drewN | apply below_drew1 | refine below_set ?_ GE270.out) | exact HB.out)⟩⟩
       case round =>
        clear H'
        try clear c1
        try clear c2
        try clear p2
        try clear q2
        try clear hx2
        try clear c3
        try clear p6
        try clear c9
        try clear c9b0
        try clear c10
        try clear c10b0
        try clear c11
        try clear c14
        try clear c16
        try clear hcz12_0
        try clear hcz12_1
        try clear hcz17_0
        try clear hcz17_1
        try clear hcz7_0
        try clear hcz7_1
        try clear hfz12_0
        try clear hfz12_1
        try clear hfz17_0
        try clear hfz17_1
        try clear hfz7_0
        try clear hfz7_1
        try clear hx277_0
        try clear p2
        try clear p277
        try clear q277
        obtain ⟨x5_2, x7_2, rfl, HA, HK2, HO_5, BK270, HB⟩ := hrel
        cases gk with
        | zero => exact absurd HA.out (by simp [hypercuberef1_Encode.l1])
        | succ k2 =>
         have H := HA.out
         clear HA
         simp only [hypercuberef1_Encode.l1] at H
         by_cases c22 : x7_2 < (l1.length : Int)
         ·rw [if_pos c22] at H
          have c22b0 : decide (x7_2 < (l1.length : Int)) = true := decide_eq_true c22
          clear c22
          have H' := am H
          clear H
          go_wp2
          go_loopg [5, 8] k2 (fun kq v5 v8 w' => ∃ (x5_3 : List Int) (x8_3 : Int), v8 = .int .i64 x8_3 ∧ Aside0 (hypercuberef1_Encode.l2 kq l1 x5_3 x7_2 x8_3 = some r) ∧ Aside0 (kq ≤ k2) ∧ Aside0 (Kd.R (Kd.int .u8) 5 w' w.heap.size (fun _ => True) v5 x5_3) ∧ Aside0 (w'.heap[gb270]? = some (.cells #[(.slice A0_0 l0_0.length c0_0), .int .i64 a0_1] 24 (0, 0))) ∧ Aside0 (Below w.heap.size w w'))
          case atStart => exact ⟨(x5_2), (0), (by first | rfl | (simp; done) | (simp [*]; done)), H', ⟨Nat.le_refl _⟩, ⟨by (with_reducible repeat (first | apply Kd.R_alloc | apply Kd.R_drewN | apply Kd.R_drew)); exact HO_5.out⟩, ⟨by (with_reducible repeat (first | refine blk_drewN ?_ _ | refine blk_drew ?_ | refine blk_alloc ?_ _)); exact BK270.out⟩, ⟨by repeat (first | (with_reducible first | exact HB.out | apply below_alloc | apply pw_below_drewN | apply below_drew1 | refine below_set ?_ GE270.out) | exact HB.out)⟩⟩
          case round =>
           clear H'
           try clear c1
           try clear c2
           try clear p2
           try clear q2
           try clear hx2
           try clear c3
           try clear p6
           try clear c9
           try clear c9b0
           try clear c10
           try clear c10b0
           try clear c11
           try clear c14
           try clear c16
           try clear c22
           try clear c22b0
           try clear hcz12_0
           try clear hcz12_1
           try clear hcz17_0
           try clear hcz17_1
           try clear hcz7_0
           try clear hcz7_1
           try clear hfz12_0
           try clear hfz12_1
           try clear hfz17_0
           try clear hfz17_1
           try clear hfz7_0
           try clear hfz7_1
           try clear hx277_0
           try clear p2
           try clear p277
           try clear p6
           try clear q2
           try clear q277
           obtain ⟨x5_3, x8_3, rfl, HA, HK3, HO_5, BK270, HB⟩ := hrel
           cases gk with
           | zero => exact absurd HA.out (by simp [hypercuberef1_Encode.l2])
           | succ k3 =>
            have H := HA.out
            clear HA
            simp only [hypercuberef1_Encode.l2] at H
            by_cases c23 : 0 ≤ x7_2
            ·rw [if_pos c23] at H
             have c23b0 : decide (0 ≤ x7_2) = true := decide_eq_true c23
             clear c23
             by_cases c24 : x7_2 < (l1.length : Int)
             ·rw [if_pos c24] at H
              have c24b0 : decide (x7_2 < (l1.length : Int)) = true := decide_eq_true c24
              clear c24
              by_cases c25 : x8_3 < (((rd_T33 l1 x7_2).f0).length : Int)
              ·rw [if_pos c25] at H
               have c25b0 : decide (x8_3 < (((rd_T33 l1 x7_2).f0).length : Int)) = true := decide_eq_true c25
               clear c25
               by_cases c26 : 0 ≤ x8_3
               ·rw [if_pos c26] at H
                have c26b0 : decide (0 ≤ x8_3) = true := decide_eq_true c26
                clear c26
                by_cases c27 : x5_3.length < 140737488355328
                ·rw [if_pos c27] at H
                 have LMc27 := am c27
                 clear c27
                 obtain ⟨y293, hy293⟩ : ∃ y_ : List Int, y_ = (x5_3 ++ [(rd ((rd_T33 l1 x7_2).f0) x8_3) % 256]) := ⟨_, rfl⟩
                 replace H : (hypercuberef1_Encode.l2 k3 l1 y293 x7_2 (wrap64 (x8_3 + 1))) = some r := by first | (rw [hy293]; with_reducible exact H) | (have H2_ := (Option.bind_some _ _).symm.trans H; rw [hy293]; with_reducible exact H2_) | (have H2_ := (Option.bind_some _ _).symm.trans H; with_reducible exact H2_) | with_reducible exact H | (rw [hy293]; exact H) | exact H
                 have Ny293 := am hy293
                 clear hy293
                 have H' := am H
                 clear H
                 have p290 : 0 ≤ (x7_2 : Int) := of_decide_eq_true (by first | (with_reducible assumption) | assumption)
                 have q290 : x7_2 < (l1.length : Int) := of_decide_eq_true (by first | (with_reducible assumption) | assumption)
                 obtain ⟨ad290, A290_0, c290_0, A290_1, c290_1, e290, hx290_0, hx290_1, hl290_0, hi290_0, hl290_1, hi290_1⟩ := at_T33 HR1.out x7_2 p290 q290
                 cases e290
                 replace hx290_0 := (HB.out.cell (World.block_lt_of_cell? w _ hx290_0)).trans hx290_0
                 replace hx290_1 := (HB.out.cell (World.block_lt_of_cell? w _ hx290_1)).trans hx290_1
                 have HR290_0 := am hi290_0
                 have HC290_0 := am hl290_0
                 clear hi290_0 hl290_0
                 have HR290_1 := am hi290_1
                 have HC290_1 := am hl290_1
                 clear hi290_1 hl290_1
                 replace p290 := eq_true p290
                 replace q290 := eq_true q290
                 have p291 : 0 ≤ (x7_2 : Int) := of_decide_eq_true (by first | (with_reducible assumption) | assumption)
                 have q291 : x7_2 < (l1.length : Int) := of_decide_eq_true (by first | (with_reducible assumption) | assumption)
                 obtain ⟨ad291, A291_0, c291_0, A291_1, c291_1, e291, hx291_0, hx291_1, hl291_0, hi291_0, hl291_1, hi291_1⟩ := at_T33 HR1.out x7_2 p291 q291
                 obtain rfl : ad290 = ad291 := (by injection e291)
                 replace hx291_0 := (HB.out.cell (World.block_lt_of_cell? w _ hx291_0)).trans hx291_0
                 replace hx291_1 := (HB.out.cell (World.block_lt_of_cell? w _ hx291_1)).trans hx291_1
                 have HR291_0 := am hi291_0
                 have HC291_0 := am hl291_0
                 clear hi291_0 hl291_0
                 have HR291_1 := am hi291_1
                 have HC291_1 := am hl291_1
                 clear hi291_1 hl291_1
                 replace p291 := eq_true p291
                 replace q291 := eq_true q291
                 have ea_ := Option.some.inj (hx290_0.symm.trans hx291_0)
                 injection ea_ with ea_ en_ ec_
                 subst ea_
                 subst ec_
                 clear en_
                 have ea_ := Option.some.inj (hx290_1.symm.trans hx291_1)
                 injection ea_ with ea_ en_ ec_
                 subst ea_
                 subst ec_
                 clear en_
                 have p292 : 0 ≤ (x8_3 : Int) := of_decide_eq_true (by first | (with_reducible assumption) | assumption)
                 have q292 : x8_3 < (((rd_T33 l1 x7_2).f0).length : Int) := of_decide_eq_true (by first | (with_reducible assumption) | assumption)
                 obtain ⟨ad292, e292, hx292_0⟩ := Kd.at_int HR291_0.out x8_3 p292 q292
                 cases e292
                 replace hx292_0 := (HB.out.cell (World.block_lt_of_cell? w _ hx292_0)).trans hx292_0
                 replace p292 := eq_true p292
                 replace q292 := eq_true q292
                 go_wp2_with (first | ((with_reducible refine gate_builtin (b := .append) (xs := #[.tmp 61, .tmp 71]) rfl ?_); at_builtin; refine Kd.R_append (Kd.int .u8) (w0 := w) w.heap.size rfl (.tmp 61) (.tmp 71) 36 5 (.int .u8 0) 1 rfl Try.underlying36 info5 rfl (by decide) (by omega) u5 x5_3 ((rd ((rd_T33 l1 x7_2).f0) x8_3) % 256) [.int .u8 ((rd ((rd_T33 l1 x7_2).f0) x8_3) % 256)] (fun _ => True) (fun _ => False) rfl rfl ?aP (fun _ hk => hk.elim) ?aF ?aO ?aB ?aS ?aL ?_; (case aP => exact rfl); (case aB => exact (by repeat (first | (with_reducible first | exact HB.out | apply below_alloc | apply pw_below_drewN | apply below_drew1 | refine below_set ?_ GE270.out) | exact HB.out))); (case aF => exact (fun _ _ => trivial)); (case aO => exact (by (with_reducible repeat (first | apply Kd.R_alloc | apply Kd.R_drewN | apply Kd.R_drew)); exact HO_5.out)); (case aS => exact (below_size (by repeat (first | (with_reducible first | exact HB.out | apply below_alloc | apply pw_below_drewN | apply below_drew1 | refine below_set ?_ GE270.out) | exact HB.out)))); (case aL => have := LMc27.out; omega); intro v294 w28 ho hb hg hat; rw [← Ny293.out] at ho; have n0_ := am (blk_grown (g := gb270) (o := .cells #[.slice A0_0 l0_0.length c0_0, .int .i64 a0_1] 24 (0, 0)) (by (with_reducible repeat (first | refine blk_drewN ?_ _ | refine blk_drew ?_ | refine blk_alloc ?_ _)); exact BK270.out) hg (Kd.R_ne HO_5.out BK270.out (by decide))); have n1_ := am (hb); have n2_ := am (ho); clear BK270; clear HB; clear HO_5; have BK270 := n0_; have HB := n1_; have HO295 := n2_; clear n0_ n1_ n2_; clear ho hb hg hat))
                 go_roundg k3
                 case measure => have := HK1.out; have := HK2.out; have := HK3.out; omega
                 case rel => exact ⟨(y293), (wrap64 (x8_3 + 1)), (by first | rfl | (simp; done) | (simp [*]; done)), H', ⟨by have := HK1.out; have := HK2.out; have := HK3.out; omega⟩, ⟨by (with_reducible repeat (first | apply Kd.R_alloc | apply Kd.R_drewN | apply Kd.R_drew)); exact HO295.out⟩, ⟨by (with_reducible repeat (first | refine blk_drewN ?_ _ | refine blk_drew ?_ | refine blk_alloc ?_ _)); exact BK270.out⟩, ⟨by repeat (first | (with_reducible first | exact HB.out | apply below_alloc | apply pw_below_drewN | apply below_drew1 | refine below_set ?_ GE270.out) | exact HB.out)⟩⟩
                ·rw [if_neg c27] at H
                 exact absurd H (by simp)
               ·rw [if_neg c26] at H
                exact absurd H (by simp)
              ·rw [if_neg c25] at H
               have c25b0 : decide (x8_3 < (((rd_T33 l1 x7_2).f0).length : Int)) = false := decide_eq_false c25
               clear c25
               have H' := am H
               clear H
               have p290 : 0 ≤ (x7_2 : Int) := of_decide_eq_true (by first | (with_reducible assumption) | assumption)
               have q290 : x7_2 < (l1.length : Int) := of_decide_eq_true (by first | (with_reducible assumption) | assumption)
               obtain ⟨ad290, A290_0, c290_0, A290_1, c290_1, e290, hx290_0, hx290_1, hl290_0, hi290_0, hl290_1, hi290_1⟩ := at_T33 HR1.out x7_2 p290 q290
               cases e290
               replace hx290_0 := (HB.out.cell (World.block_lt_of_cell? w _ hx290_0)).trans hx290_0
               replace hx290_1 := (HB.out.cell (World.block_lt_of_cell? w _ hx290_1)).trans hx290_1
               have HR290_0 := am hi290_0
               have HC290_0 := am hl290_0
               clear hi290_0 hl290_0
               have HR290_1 := am hi290_1
               have HC290_1 := am hl290_1
               clear hi290_1 hl290_1
               replace p290 := eq_true p290
               replace q290 := eq_true q290
               go_wp2
               go_loopg [5, 9] k3 (fun kq v5 v9 w' => ∃ (x5_4 : List Int) (x9_4 : Int), v9 = .int .i64 x9_4 ∧ Aside0 (hypercuberef1_Encode.l3 kq l1 x5_4 x7_2 x9_4 = some r) ∧ Aside0 (kq ≤ k3) ∧ Aside0 (Kd.R (Kd.int .u8) 5 w' w.heap.size (fun _ => True) v5 x5_4) ∧ Aside0 (w'.heap[gb270]? = some (.cells #[(.slice A0_0 l0_0.length c0_0), .int .i64 a0_1] 24 (0, 0))) ∧ Aside0 (Below w.heap.size w w'))
               case atStart => exact ⟨(x5_3), (0), (by first | rfl | (simp; done) | (simp [*]; done)), H', ⟨Nat.le_refl _⟩, ⟨by (with_reducible repeat (first | apply Kd.R_alloc | apply Kd.R_drewN | apply Kd.R_drew)); exact HO_5.out⟩, ⟨by (with_reducible repeat (first | refine blk_drewN ?_ _ | refine blk_drew ?_ | refine blk_alloc ?_ _)); exact BK270.out⟩, ⟨by repeat (first | (with_reducible first | exact HB.out | apply below_alloc | apply pw_below_drewN | apply below_drew1 | refine below_set ?_ GE270.out) | exact HB.out)⟩⟩
               case round =>
                clear H'
                try clear c1
                try clear c2
                try clear p2
                try clear q2
                try clear hx2
                try clear c3
                try clear p6
                try clear c9
                try clear c9b0
                try clear c10
                try clear c10b0
                try clear c11
                try clear c14
                try clear c16
                try clear c22
                try clear c22b0
                try clear c23
                try clear c23b0
                try clear c24
                try clear c24b0
                try clear c25
                try clear c25b0
                try clear c26
                try clear c26b0
                try clear c27
                try clear p27
                try clear q27
                try clear hx27
                try clear hcz12_0
                try clear hcz12_1
                try clear hcz17_0
                try clear hcz17_1
                try clear hcz7_0
                try clear hcz7_1
                try clear hfz12_0
                try clear hfz12_1
                try clear hfz17_0
                try clear hfz17_1
                try clear hfz7_0
                try clear hfz7_1
                try clear hx277_0
                try clear hx290_0
                try clear hx290_1
                try clear hx291_0
                try clear hx291_1
                try clear hx292_0
                try clear p2
                try clear p277
                try clear p290
                try clear p291
                try clear p292
                try clear p6
                try clear q2
                try clear q277
                try clear q290
                try clear q291
                try clear q292
                obtain ⟨x5_4, x9_4, rfl, HA, HK4, HO_5, BK270, HB⟩ := hrel
                cases gk with
                | zero => exact absurd HA.out (by simp [hypercuberef1_Encode.l3])
                | succ k4 =>
                 have H := HA.out
                 clear HA
                 simp only [hypercuberef1_Encode.l3] at H
                 by_cases c29 : 0 ≤ x7_2
                 ·rw [if_pos c29] at H
                  have c29b0 : decide (0 ≤ x7_2) = true := decide_eq_true c29
                  clear c29
                  by_cases c30 : x7_2 < (l1.length : Int)
                  ·rw [if_pos c30] at H
                   have c30b0 : decide (x7_2 < (l1.length : Int)) = true := decide_eq_true c30
                   clear c30
                   by_cases c31 : x9_4 < (((rd_T33 l1 x7_2).f1).length : Int)
                   ·rw [if_pos c31] at H
                    have c31b0 : decide (x9_4 < (((rd_T33 l1 x7_2).f1).length : Int)) = true := decide_eq_true c31
                    clear c31
                    by_cases c32 : 0 ≤ x9_4
                    ·rw [if_pos c32] at H
                     have c32b0 : decide (0 ≤ x9_4) = true := decide_eq_true c32
                     clear c32
                     replace H := Option.bind_eq_some_iff.mp H
                     obtain ⟨t299, A330, H⟩ := H
                     replace H : (if x5_4.length + t299.length < 140737488355328 then (hypercuberef1_Encode.l3 k4 l1 (x5_4 ++ t299) x7_2 (wrap64 (x9_4 + 1))) else (none)) = some r := H
                     have A33 := am A330
                     clear A330
                     by_cases c34 : x5_4.length + t299.length < 140737488355328
                     ·rw [if_pos c34] at H
                      have LMc34 := am c34
                      clear c34
                      obtain ⟨y302, hy302⟩ : ∃ y_ : List Int, y_ = (x5_4 ++ t299) := ⟨_, rfl⟩
                      replace H : (hypercuberef1_Encode.l3 k4 l1 y302 x7_2 (wrap64 (x9_4 + 1))) = some r := by first | (rw [hy302]; with_reducible exact H) | (have H2_ := (Option.bind_some _ _).symm.trans H; rw [hy302]; with_reducible exact H2_) | (have H2_ := (Option.bind_some _ _).symm.trans H; with_reducible exact H2_) | with_reducible exact H | (rw [hy302]; exact H) | exact H
                      have Ny302 := am hy302
                      clear hy302
                      have H' := am H
                      clear H
                      have p296 : 0 ≤ (x7_2 : Int) := of_decide_eq_true (by first | (with_reducible assumption) | assumption)
                      have q296 : x7_2 < (l1.length : Int) := of_decide_eq_true (by first | (with_reducible assumption) | assumption)
                      obtain ⟨ad296, A296_0, c296_0, A296_1, c296_1, e296, hx296_0, hx296_1, hl296_0, hi296_0, hl296_1, hi296_1⟩ := at_T33 HR1.out x7_2 p296 q296
                      obtain rfl : ad290 = ad296 := (by injection e296)
                      replace hx296_0 := (HB.out.cell (World.block_lt_of_cell? w _ hx296_0)).trans hx296_0
                      replace hx296_1 := (HB.out.cell (World.block_lt_of_cell? w _ hx296_1)).trans hx296_1
                      have HR296_0 := am hi296_0
                      have HC296_0 := am hl296_0
                      clear hi296_0 hl296_0
                      have HR296_1 := am hi296_1
                      have HC296_1 := am hl296_1
                      clear hi296_1 hl296_1
                      replace p296 := eq_true p296
                      replace q296 := eq_true q296
                      have p297 : 0 ≤ (x7_2 : Int) := of_decide_eq_true (by first | (with_reducible assumption) | assumption)
                      have q297 : x7_2 < (l1.length : Int) := of_decide_eq_true (by first | (with_reducible assumption) | assumption)
                      obtain ⟨ad297, A297_0, c297_0, A297_1, c297_1, e297, hx297_0, hx297_1, hl297_0, hi297_0, hl297_1, hi297_1⟩ := at_T33 HR1.out x7_2 p297 q297
                      obtain rfl : ad290 = ad297 := (by injection e297)
                      replace hx297_0 := (HB.out.cell (World.block_lt_of_cell? w _ hx297_0)).trans hx297_0
                      replace hx297_1 := (HB.out.cell (World.block_lt_of_cell? w _ hx297_1)).trans hx297_1
                      have HR297_0 := am hi297_0
                      have HC297_0 := am hl297_0
                      clear hi297_0 hl297_0
                      have HR297_1 := am hi297_1
                      have HC297_1 := am hl297_1
                      clear hi297_1 hl297_1
                      replace p297 := eq_true p297
                      replace q297 := eq_true q297
                      have ea_ := Option.some.inj (hx296_0.symm.trans hx297_0)
                      injection ea_ with ea_ en_ ec_
                      subst ea_
                      subst ec_
                      clear en_
                      have ea_ := Option.some.inj (hx296_1.symm.trans hx297_1)
                      injection ea_ with ea_ en_ ec_
                      subst ea_
                      subst ec_
                      clear en_
                      have p298 : 0 ≤ (x9_4 : Int) := of_decide_eq_true (by first | (with_reducible assumption) | assumption)
                      have q298 : x9_4 < (((rd_T33 l1 x7_2).f1).length : Int) := of_decide_eq_true (by first | (with_reducible assumption) | assumption)
                      obtain ⟨ad298, e298, hx298_0⟩ := Kd.at_int HR297_1.out x9_4 p298 q298
                      cases e298
                      replace hx298_0 := (HB.out.cell (World.block_lt_of_cell? w _ hx298_0)).trans hx298_0
                      replace p298 := eq_true p298
                      replace q298 := eq_true q298
                      go_wp2_with (first | ((with_reducible refine gate_callee (f := 37) rfl ?_); refine goesL_ (some 92) rfl rfl Try.func37 (by kernel_rfl) rfl #[.int .i64 (rd ((rd_T33 l1 x7_2).f1) x9_4)] rfl (by (try simp only [List.map_toArray, List.map_cons, List.map_nil]); first | done | rfl | (simp only [List.length_drop, List.length_take]; rfl)) ?_; (with_reducible refine (hypercuberef1_Eight.calls k4 (rd ((rd_T33 l1 x7_2).f1) x9_4) t299 _ A33.out).mono ?_); rintro e w35 ⟨v300, rfl, ho0, hb⟩; refine ⟨_, rfl, ?_⟩; have n0_ := am (Kd.R_elder' (by (with_reducible repeat (first | apply Kd.R_alloc | apply Kd.R_drewN | apply Kd.R_drew)); exact HO_5.out) (Kd.R_base ho0) hb); have n1_ := am (Kd.R_lower (Kd.R_new' ho0 (Kd.R_lt (by (with_reducible repeat (first | apply Kd.R_alloc | apply Kd.R_drewN | apply Kd.R_drew)); exact HO_5.out))) (below_size (by repeat (first | (with_reducible first | exact HB.out | apply below_alloc | apply pw_below_drewN | apply below_drew1 | refine below_set ?_ GE270.out) | exact HB.out)))); have n2_ := am (blk_below (g := gb270) (o := .cells #[.slice A0_0 l0_0.length c0_0, .int .i64 a0_1] 24 (0, 0)) (by (with_reducible repeat (first | refine blk_drewN ?_ _ | refine blk_drew ?_ | refine blk_alloc ?_ _)); exact BK270.out) hb); have n3_ := am (below_step (by repeat (first | (with_reducible first | exact HB.out | apply below_alloc | apply pw_below_drewN | apply below_drew1 | refine below_set ?_ GE270.out) | exact HB.out)) hb); clear HO_5; clear BK270; clear HB; have HO_5 := n0_; have HO301 := n1_; have BK270 := n2_; have HB := n3_; clear n0_ n1_ n2_ n3_; (try clear hb); (try clear hb2); (try clear hk); (try clear hi); (try clear ho0); obtain ⟨Ao37, co37, eo37⟩ := Kd.R_slice HO301.out; subst eo37) | ((with_reducible refine gate_builtin (b := .append) (xs := #[.tmp 83, .tmp 92]) rfl ?_); at_builtin; refine Kd.R_append_rows (Kd.int .u8) (w0 := w) w.heap.size rfl (.tmp 83) (.tmp 92) 36 5 (.int .u8 0) 1 rfl Try.underlying36 info5 rfl (by decide) (by omega) u5 x5_4 t299 _ _ _ (fun k_ => some k_ ≠ (.slice Ao37 t299.length co37 : Value).ownBlock) (fun _ => False) rfl rfl ?aO ?aR (fun _ _ h => h) (fun _ h => h.elim) ?aF ?aB ?aS ?aL ?_; (case aR => repeat (first | exact (Kd.R_reads' HO301.out).2.2 | (with_reducible refine Kd.C_alloc ?_ _) | (with_reducible refine Kd.C_drewN ?_ _) | (with_reducible refine Kd.C_drew ?_))); (case aB => exact (by repeat (first | (with_reducible first | exact HB.out | apply below_alloc | apply pw_below_drewN | apply below_drew1 | refine below_set ?_ GE270.out) | exact HB.out))); (case aF => exact (fun k_ hk => Kd.fresh' (Kd.R_lt (by (with_reducible repeat (first | apply Kd.R_alloc | apply Kd.R_drewN | apply Kd.R_drew)); exact HO301.out)) k_ hk)); (case aO => exact (by (with_reducible repeat (first | apply Kd.R_alloc | apply Kd.R_drewN | apply Kd.R_drew)); exact Kd.R_mono HO_5.out (fun _ hk => hk.2))); (case aS => exact (below_size (by repeat (first | (with_reducible first | exact HB.out | apply below_alloc | apply pw_below_drewN | apply below_drew1 | refine below_set ?_ GE270.out) | exact HB.out)))); (case aL => have := LMc34.out; omega); intro v303 w36 ho hb hg hat; rw [← Ny302.out] at ho; have n0_ := am (blk_grown (g := gb270) (o := .cells #[.slice A0_0 l0_0.length c0_0, .int .i64 a0_1] 24 (0, 0)) (by (with_reducible repeat (first | refine blk_drewN ?_ _ | refine blk_drew ?_ | refine blk_alloc ?_ _)); exact BK270.out) hg (Kd.R_ne HO_5.out BK270.out (by decide))); have n1_ := am (Kd.R_after (ok := (fun _ => True)) (by (with_reducible repeat (first | apply Kd.R_alloc | apply Kd.R_drewN | apply Kd.R_drew)); exact HO301.out) hg hat); have n2_ := am (hb); have n3_ := am (ho); clear BK270; clear HO301; clear HB; clear HO_5; have BK270 := n0_; have HO301 := n1_; have HB := n2_; have HO304 := n3_; clear n0_ n1_ n2_ n3_; clear ho hb hg hat))
                      go_roundg k4
                      case measure => have := HK1.out; have := HK2.out; have := HK3.out; have := HK4.out; omega
                      case rel => exact ⟨(y302), (wrap64 (x9_4 + 1)), (by first | rfl | (simp; done) | (simp [*]; done)), H', ⟨by have := HK1.out; have := HK2.out; have := HK3.out; have := HK4.out; omega⟩, ⟨by (with_reducible repeat (first | apply Kd.R_alloc | apply Kd.R_drewN | apply Kd.R_drew)); exact Kd.R_mono HO304.out (fun _ hk => trivial)⟩, ⟨by (with_reducible repeat (first | refine blk_drewN ?_ _ | refine blk_drew ?_ | refine blk_alloc ?_ _)); exact BK270.out⟩, ⟨by repeat (first | (with_reducible first | exact HB.out | apply below_alloc | apply pw_below_drewN | apply below_drew1 | refine below_set ?_ GE270.out) | exact HB.out)⟩⟩
                     ·rw [if_neg c34] at H
                      exact absurd H (by simp)
                    ·rw [if_neg c32] at H
                     exact absurd H (by simp)
                   ·rw [if_neg c31] at H
                    have c31b0 : decide (x9_4 < (((rd_T33 l1 x7_2).f1).length : Int)) = false := decide_eq_false c31
                    clear c31
                    have H' := am H
                    clear H
                    have p296 : 0 ≤ (x7_2 : Int) := of_decide_eq_true (by first | (with_reducible assumption) | assumption)
                    have q296 : x7_2 < (l1.length : Int) := of_decide_eq_true (by first | (with_reducible assumption) | assumption)
                    obtain ⟨ad296, A296_0, c296_0, A296_1, c296_1, e296, hx296_0, hx296_1, hl296_0, hi296_0, hl296_1, hi296_1⟩ := at_T33 HR1.out x7_2 p296 q296
                    obtain rfl : ad290 = ad296 := (by injection e296)
                    replace hx296_0 := (HB.out.cell (World.block_lt_of_cell? w _ hx296_0)).trans hx296_0
                    replace hx296_1 := (HB.out.cell (World.block_lt_of_cell? w _ hx296_1)).trans hx296_1
                    have HR296_0 := am hi296_0
                    have HC296_0 := am hl296_0
                    clear hi296_0 hl296_0
                    have HR296_1 := am hi296_1
                    have HC296_1 := am hl296_1
                    clear hi296_1 hl296_1
                    replace p296 := eq_true p296
                    replace q296 := eq_true q296
                    go_wp2
                    go_roundg k4
                    case measure => have := HK1.out; have := HK2.out; have := HK3.out; have := HK4.out; omega
                    case rel => exact ⟨(x5_4), (wrap64 (x7_2 + 1)), (by first | rfl | (simp; done) | (simp [*]; done)), H', ⟨by have := HK1.out; have := HK2.out; have := HK3.out; have := HK4.out; omega⟩, ⟨by (with_reducible repeat (first | apply Kd.R_alloc | apply Kd.R_drewN | apply Kd.R_drew)); exact HO_5.out⟩, ⟨by (with_reducible repeat (first | refine blk_drewN ?_ _ | refine blk_drew ?_ | refine blk_alloc ?_ _)); exact BK270.out⟩, ⟨by repeat (first | (with_reducible first | exact HB.out | apply below_alloc | apply pw_below_drewN | apply below_drew1 | refine below_set ?_ GE270.out) | exact HB.out)⟩⟩
                  ·rw [if_neg c30] at H
                   exact absurd H (by simp)
                 ·rw [if_neg c29] at H
                  exact absurd H (by simp)
             ·rw [if_neg c24] at H
              exact absurd H (by simp)
            ·rw [if_neg c23] at H
             exact absurd H (by simp)
         ·rw [if_neg c22] at H
          have c22b0 : decide (x7_2 < (l1.length : Int)) = false := decide_eq_false c22
          clear c22
          obtain rfl := Option.some.inj H
          go_wp2
          go_ret
          exact ⟨_, by first | rfl | (simp [errW_none, errW_some] <;> rfl) | (simp [*, errW_none, errW_some] <;> rfl), by (with_reducible repeat (first | apply Kd.R_alloc | apply Kd.R_drewN | apply Kd.R_drew)); exact HO_5.out, by repeat (first | (with_reducible first | exact HB.out | apply below_alloc | apply pw_below_drewN | apply below_drew1 | refine below_set ?_ GE270.out) | exact HB.out)⟩
      ·rw [if_neg c16] at H
       exact absurd H (by simp)
     ·rw [if_neg c14] at H
      exact absurd H (by simp)
 ·rw [if_neg c3] at H
  exact absurd H (by simp)
end Go.Proofs.Ytlacfpbfnedgdaa.Q
