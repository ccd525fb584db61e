-- packed by wip/tools/pack.py (a program of this session) out of its own texts
import Derived.Test.YtmkjkkmilopcpaaPCellBack0
import Derived.ArgAppend
import Derived.Below
import Derived.BigQuiet
import Derived.Deep.AppendLies
import Derived.Deep.CutBlock
import Derived.Deep.DeepCutAuto
import Derived.Deep.Draws
import Derived.Deep.LoopGhost
import Derived.Deep.OwnRows
import Derived.Deep.QuietTactic
import Derived.Deep.RegionHeld3
import Derived.KernelRfl
import Derived.Laws.BitsLemmas
import Derived.Laws.BytesArg
import Derived.Laws.IdiomCopy
import Derived.Laws.MakeOwn
import Derived.Laws.OwnMore
import Derived.Laws.Rows
import Derived.Laws.Slices
import Derived.Lib.AppendStr
import Derived.Lib.ConvBytes
import Derived.Lib.SliceRun
import Derived.LoopIn
import Derived.LoopNIn
import Derived.Maps.AppendAt
import Derived.OrdersHeld
import Derived.OrdersIn
import Derived.OwnWalk
import Derived.OwnWalkIn
import Derived.RangeFuncBound
import Derived.RangeFuncBox
import Derived.RangeFuncCalls
import Derived.RangeFuncLeaves
import Derived.RangeFuncNested
import Derived.RangeFuncOwn
import Derived.RowKit
import Derived.RowKit3
import Derived.Shelf.Abstract
import Derived.Shelf.RegionOpen
import Derived.Tactics
import Derived.TacticsInMore
import Derived.Test.YtmkjkkmilopcpaaProg
import Derived.WalkKit
import Derived.WalkSpells
import Derived.WideLaws
import Derived.Test.YtmkjkkmilopcpaaPCellBack1
import Derived.Test.YtmkjkkmilopcpaaPCellBack3
import Derived.Test.YtmkjkkmilopcpaaPCellBack4
import Derived.Test.YtmkjkkmilopcpaaPCellBack5
import Derived.Test.YtmkjkkmilopcpaaPCellBack6
import Derived.Test.YtmkjkkmilopcpaaPCellBack7
import Derived.Test.YtmkjkkmilopcpaaPCellBack8
import Derived.Test.YtmkjkkmilopcpaaPCellBack12
import Derived.Test.YtmkjkkmilopcpaaPCellBack13
namespace Go.Proofs.Ytmkjkkmilopcpaa.Q
open Go.RowKit Go.Shelf Go.Proofs.YtmkjkkmilopcpaaW.PrintWords Go.Proofs.YtmkjkkmilopcpaaW.PrintLast Go.Proofs.YtmkjkkmilopcpaaW.PrintMore
set_option linter.unusedVariables false
set_option linter.unusedSimpArgs false
attribute [local go_sem] Oper.semAt_some
abbrev Rz (wz w : World) (f : Nat → Nat) (q : Nat) (v : Value) (xs : List Int) : Prop := Kd.R (Kd.int .i64) 3 w wz.heap.size (fun k_ => f k_ = q) v xs
structure Parked (p : Prop) : Prop where mk :: (out : p)
theorem park_ {F : Fence} {n : Nat} {P : Program} {ops : Array Oper} {Q : Exit → Act → World → Prop} {rest : List Oper} {o : Oper} {a : Act} {W : World} {N : Tmp} (_hN : o.dst = some N) (h : Parked (wpListIn F n P ops Q (o :: rest) a W)) : wpListIn F n P ops Q (o :: rest) a W := h.out
def oneR (cards : List Int) (meas s : Int) (b : List Int) : (List Int × Int × List Int × List Int × List Int) × List Int × Bool :=
 if KeysOk cards b (dimsM s) ∧ SpreadOk b ((dimsM s).length + 2) meas.toNat then
  ((keysOf b (dimsM s).length, byN b (dimsM s).length 2, eightsOf b ((dimsM s).length + 2) meas.toNat, eightsOf b ((dimsM s).length + 2 + 8) meas.toNat, eightsOf b ((dimsM s).length + 2 + 16) meas.toNat), b.drop ((dimsM s).length + 2 + 24 * meas.toNat), decide (byN b (dimsM s).length 2 ≥ 1) && decide (byN b (dimsM s).length 2 ≤ 300))
 else (([], 0, [], [], []), [], false)
theorem dimsM_len (s : Int) : (dimsM s).length ≤ 4 := Nat.le_trans (List.length_filterMap_le _ _) (by simp)
def cell_one.T19 : Bool × List (List Nat × List Nat) := (true, [([], []), ([0], [0]), ([], []), ([2], [2]), ([3], [3]), ([1, 4], [1, 4]), ([], []), ([6], [6]), ([], []), ([8], [8]), ([9], [9]), ([7, 10, 5], [7, 10]), ([], []), ([12], [12]), ([], []), ([14], [14]), ([15], [15]), ([13, 16, 11], [13, 16]), ([0, 1, 2, 3, 4, 5, 6, 7, 12, 13], []), ([18, 5, 17, 0, 1, 2, 3, 4, 5, 6, 7, 12, 13], [5, 18]), ([0, 1, 2, 3, 4, 5, 6, 7, 8, 9, 10, 11, 12, 13, 18, 19], []), ([20, 11, 19, 0, 1, 2, 3, 4, 5, 6, 7, 8, 9, 10, 11, 12, 13, 18, 19], [11, 20]), ([0, 1, 2, 3, 4, 5, 6, 7, 8, 9, 10, 11, 12, 13, 14, 15, 16, 17, 18, 19, 20, 21], []), ([22, 17, 21, 0, 1, 2, 3, 4, 5, 6, 7, 8, 9, 10, 11, 12, 13, 14, 15, 16, 17, 18, 19, 20, 21], [17, 22])])
def cell_one.B19 : List Nat := [0, 1, 0, 4, 12, 31, 0, 64, 0, 256, 768, 2047, 0, 4096, 0, 16384, 49152, 131071, 12543, 524287, 1048575, 2097151, 4194303, 8388607]
theorem cell_one.tab19 : rtab .any (opsOf Try.f58 19) = cell_one.T19 := by kernel_rfl
theorem cell_one.bits19 : waitsOk cell_one.T19.2 cell_one.B19 = true := by kernel_rfl
def cell_one.T21 : Bool × List (List Nat × List Nat) := (true, [([], []), ([0], [0]), ([], []), ([], []), ([3], [3]), ([4], [4]), ([5, 1], [5]), ([6], [6]), ([7, 6], [6, 7]), ([8, 6], [6, 8]), ([6, 9], [6, 9]), ([1, 6, 0, 1, 3, 4, 7, 8], [1]), ([2, 11, 0, 1, 2, 3, 4, 7, 8, 11], [2]), ([10, 12, 0, 1, 2, 3, 4, 5, 6, 7, 8, 9, 10, 11, 12], [10])])
def cell_one.B21 : List Nat := [0, 1, 0, 0, 8, 24, 59, 123, 251, 507, 1019, 507, 2559, 8191]
theorem cell_one.tab21 : rtab .any (opsOf Try.f58 21) = cell_one.T21 := by kernel_rfl
theorem cell_one.bits21 : waitsOk cell_one.T21.2 cell_one.B21 = true := by kernel_rfl
set_option maxHeartbeats 8000000 in
set_option maxRecDepth 100000 in
theorem cell_one.calls (A0 : Option Addr) (c0 : Nat) (cards : List Int) (meas s : Int) (A1 : Option Addr) (c1 : Nat) (b : List Int) (wb w : World) (hwb : Below wb.heap.size wb w) (hr0 : Kd.C (Kd.int .i64) w A0 cards.length cards) (hc0 : cards.length ≤ c0) (hr1 : Kd.C (Kd.int .u8) wb A1 b.length b) (hc1 : b.length ≤ c1)
  (hm0 : 0 ≤ meas) (hm1 : meas ≤ 1000) (hd : ∀ x : DimOf s, x.1 < cards.length) (hl : (dimsM s).length + 2 + 24 * meas.toNat ≤ b.length) (hlb : b.length ≤ 4611686018427387904) :
  Calls Try.prog 58 #[.agg #[.slice A0 cards.length c0, .int .i64 meas], .int .i64 s, .slice A1 b.length c1] w fun e w' => ∃ (v0 v2 v3 v4 : Value) (A : Option Addr) (c : Nat), e = .returned (.tuple #[.agg #[v0, .int .i64 (oneR cards meas s b).1.2.1, v2, v3, v4], .slice A (oneR cards meas s b).2.1.length c, .bool (oneR cards meas s b).2.2]) ∧
   Kd.R (Kd.int .i64) 3 w' w.heap.size (fun k_ => some k_ ≠ v2.ownBlock ∧ some k_ ≠ v3.ownBlock ∧ some k_ ≠ v4.ownBlock) v0 (oneR cards meas s b).1.1 ∧ Kd.R (Kd.int .i64) 3 w' w.heap.size (fun k_ => some k_ ≠ v0.ownBlock ∧ some k_ ≠ v3.ownBlock ∧ some k_ ≠ v4.ownBlock) v2 (oneR cards meas s b).1.2.2.1 ∧
   Kd.R (Kd.int .i64) 3 w' w.heap.size (fun k_ => some k_ ≠ v0.ownBlock ∧ some k_ ≠ v2.ownBlock ∧ some k_ ≠ v4.ownBlock) v3 (oneR cards meas s b).1.2.2.2.1 ∧ Kd.R (Kd.int .i64) 3 w' w.heap.size (fun k_ => some k_ ≠ v0.ownBlock ∧ some k_ ≠ v2.ownBlock ∧ some k_ ≠ v3.ownBlock) v4 (oneR cards meas s b).1.2.2.2.2 ∧
   (oneR cards meas s b).2.1.length ≤ c ∧ Kd.C (Kd.int .u8) wb A (oneR cards meas s b).2.1.length (oneR cards meas s b).2.1 ∧ Below w.heap.size w w' := by
 have hu24 := Try.underlying35
 have hu30 := Try.underlying30
 have HWB := am hwb
 have K0 := am (And.intro hr0 hc0)
 have K1 := am (And.intro hr1 hc1)
 have HM := am (And.intro hm0 hm1)
 have HD := am hd
 have HL := am (And.intro hl hlb)
 clear hwb hr0 hc0 hr1 hc1 hm0 hm1 hd hl hlb
 refine calls_marks Try.func58 rfl ?_
 simp only [Try.ntmps58, List.size_toArray, List.length_cons, List.length_nil, Nat.reduceAdd, Nat.reduceSub, Array.replicate_succ, Array.replicate_zero, List.push_toArray, List.append_toArray, List.nil_append, List.cons_append]
 go_wp2_with (first
 | ((with_reducible refine gate_dst (N := 3) rfl ?_); (try (refine gate_guard (by rfl) ?_; dsimp only)); refine zX #[.slice A0 cards.length c0, .int .i64 meas] 35 ?_; intro g3 hg w3 hbox hbw; have HB3 := am (hbw); have HG3 := am hg; have HK3 := am hbox; clear hg hbox hbw)
 | ((with_reducible refine gate_dst (N := 5) rfl ?_); (try (refine gate_guard (by rfl) ?_; dsimp only)); refine zX #[.slice A1 b.length c1] 51 ?_; intro g5 hg w5 hbox hbw; have HB5 := am (below_step HB3.out hbw); have HG5 := am hg; have HS5 := am (hbw.size); have HT3 := am (blk_lt HK3.out); replace HK3 := am (blk_below HK3.out hbw); have HK5 := am hbox; clear hg hbox hbw)
 | ((with_reducible refine gate_dst (N := 6) rfl ?_); (try (refine gate_guard (by rfl) ?_; dsimp only)); refine zX #[.slice none 0 0, .int .i64 0, .slice none 0 0, .slice none 0 0, .slice none 0 0] 30 ?_; intro g6 hg w6 hbox hbw; have HB6 := am (below_step HB5.out hbw); have HG6 := am hg; have HS6 := am (hbw.size); have HT5 := am (blk_lt HK5.out); replace HK3 := am (blk_below HK3.out hbw); replace HK5 := am (blk_below HK5.out hbw); have HK6 := am hbox; clear hg hbox hbw)
 | ((with_reducible refine gate_dst (N := 7) rfl ?_); (try (refine gate_guard (by rfl) ?_; dsimp only)); refine zX #[.slice none 0 0] 51 ?_; intro g7 hg w7 hbox hbw; have HB7 := am (below_step HB6.out hbw); have HG7 := am hg; have HS7 := am (hbw.size); have HT6 := am (blk_lt HK6.out); replace HK3 := am (blk_below HK3.out hbw); replace HK5 := am (blk_below HK5.out hbw); replace HK6 := am (blk_below HK6.out hbw); have HK7 := am hbox; clear hg hbox hbw)
 | ((with_reducible refine gate_dst (N := 8) rfl ?_); (try (refine gate_guard (by rfl) ?_; dsimp only)); refine zX #[.bool false] 4 ?_; intro g8 hg w8 hbox hbw; have HB8 := am (below_step HB7.out hbw); have HG8 := am hg; have HS8 := am (hbw.size); have HT7 := am (blk_lt HK7.out); replace HK3 := am (blk_below HK3.out hbw); replace HK5 := am (blk_below HK5.out hbw); replace HK6 := am (blk_below HK6.out hbw); replace HK7 := am (blk_below HK7.out hbw); have HK8 := am hbox; clear hg hbox hbw))
 refine ((callsIn_wide (n := 3)).1 (dims_in Fence.wide 3 trivial rfl s _)).mono ?_
 rintro e W1 ⟨rfl, rfl⟩
 go_wp2_with (fail)
 obtain ⟨wl, hwl⟩ : ∃ wl, wl = w8.alloc (.cells #[.int .i64 s] 3) := ⟨_, rfl⟩
 have hcl : wl.cell? ⟨w8.heap.size, 0, none⟩ = some (.int .i64 s) := by rw [hwl]; simp
 have hsl : wl.heap.size = w8.heap.size + 1 := by rw [hwl]; simp
 have hBl : Below w8.heap.size w8 wl := by rw [hwl]; exact below_alloc (Below.refl _ _) _
 rw [← hwl]
 have hsz := And.intro (blk_lt HK3.out) (And.intro (blk_lt HK5.out) (And.intro (blk_lt HK6.out) (And.intro (blk_lt HK7.out) (blk_lt HK8.out))))
 have hgs : w.heap.size ≤ g3 ∧ g3 < g5 ∧ g5 < g6 ∧ g6 < g7 ∧ g7 < g8 := by
  have h3 := HG3.out; have h5 := HG5.out; have h6 := HG6.out; have h7 := HG7.out; have h8 := HG8.out
  have t3 := HT3.out; have t5 := HT5.out; have t6 := HT6.out; have t7 := HT7.out
  omega
 have HSZ := am hsz
 have HGS := am hgs
 have HBW := am (below_step HB8.out hBl)
 have HSL := am hsl
 have L3 := am (blk_below HK3.out hBl)
 have L5 := am (blk_below HK5.out hBl)
 have L6 := am (blk_below HK6.out hBl)
 have L7 := am (blk_below HK7.out hBl)
 have L8 := am (blk_below HK8.out hBl)
 have HCL := am hcl
 have h53 : g3 ≠ g5 := by omega
 have h36 : g3 ≠ g6 := by omega
 have h56 : g5 ≠ g6 := by omega
 have h57 : g5 ≠ g7 := by omega
 have h58 : g5 ≠ g8 := by omega
 have h67 : g6 ≠ g7 := by omega
 have h68 : g6 ≠ g8 := by omega
 have h78 : g7 ≠ g8 := by omega
 have h65 := h56.symm
 have h75 := h57.symm
 have h85 := h58.symm
 have h76 := h67.symm
 have h86 := h68.symm
 have h87 := h78.symm
 have h35 := h53.symm
 have h63 := h36.symm
 clear hwl hsz hgs hBl hsl HK3 HK5 HK6 HK7 HK8 HG3 HG5 HG6 HG7 HG8 HB3 HB5 HB6 HB7 HS5 HS6 HS7 HS8 HT3 HT5 HT6 HT7
 refine (wpIn_wide (n := 6)).1 ?_
 refine wpIn_rangeFunc_ownH rfl (by omega) (gf := 66) (lb := #[.pointer (some ⟨w8.heap.size, 0, none⟩)]) rfl trivial (enters_of Try.func66 (by kernel_rfl) rfl)
  (dims_stopsM Fence.wide 5 trivial rfl (by omega) w8.heap.size s wl (by have := HSL.out; omega) hcl) keepsBox_t keepsBox_b (Below.refl _ _) (fun _ => rfl)
  (OnI w wb wl g5 g6 cards b) (OnX w g6 g7 g8 cards b) (onI_own HBW.out.size) (fun c => onX_own HBW.out.size c) ?init
  (fun x a' W => a' = { tmps := #[.agg #[.slice A0 cards.length c0, .int .i64 meas], .int .i64 s, .slice A1 b.length c1, .pointer (some ⟨g3, 0, none⟩), undef, .pointer (some ⟨g5, 0, none⟩), .pointer (some ⟨g6, 0, none⟩), .pointer (some ⟨g7, 0, none⟩), .pointer (some ⟨g8, 0, none⟩), .int .i64 (x.1 : Int), undef, undef, undef, .int .i64 s, .func (.func 66) #[] #[.pointer (some ⟨w8.heap.size, 0, none⟩)], .int .i64 (x.1 : Int), undef, undef, undef, undef, undef, undef, undef, undef, undef, undef, undef, undef, undef, undef, undef, undef, undef, undef, undef, undef, undef, undef, undef, undef, undef, undef, undef, undef, undef, undef, undef, undef, undef, undef, undef, undef, undef, undef, undef, undef, undef, undef, undef, undef, undef, undef, undef, undef, undef, undef, undef, undef, undef, undef, undef, undef, undef, undef, undef, undef, undef, undef, undef, undef, undef, undef, undef, undef, undef, undef, undef, undef, undef, undef, undef, undef, undef, undef, undef], defers := [] }) (fun _ _ _ _ _ _ h _ _ => h) ?assign ?body ?done ?stop
 case init => exact ⟨.slice none 0 0, A1, c1, Kd.R_nil _ _ _ _ _, L6.out, L5.out, ⟨K1.out.2, K1.out.1⟩, fun j h => absurd h (by simp), Kept.refl _ _, HBW.out⟩
 case assign =>
  rintro l pre x W K hi hK
  gi_wp2
  exact hK _ _ (KeepsFrom.refl _ _) (fun _ h => h) hi rfl
 case body =>
  rintro l pre x a' W hl hr ⟨v, A, c, hR, h6, h5, hb, ho, hk, hB⟩ rfl hpre
  have hlen : 1 ≤ ((b.drop pre.length).length : Int) := by rw [List.length_drop]; have := HL.out.1; omega
  have hlen2 : (b.drop pre.length).length ≤ 4611686018427387904 := by rw [List.length_drop]; have := HL.out.2; omega
  obtain ⟨lb, hlb⟩ : ∃ lb, lb = b.drop pre.length := ⟨_, rfl⟩
  rw [← hlb] at hlen hlen2 h5 hb
  obtain ⟨lc, hlc⟩ : ∃ lc, lc = lb.drop (1 : Int).toNat := ⟨_, rfl⟩
  obtain ⟨y, hy⟩ : ∃ y, y = gv (lb.take (1 : Int).toNat) 0 := ⟨_, rfl⟩
  have hcall := CallsIn.inRound (n := 3) l (callsIn_wide.2 (cell_get.callsC A c lb 1 wb W (below_step HWB.out hB) hb.2 hb.1 (by decide) hlen hlen2))
  rw [← hlc, ← hy] at hcall
  have HLB := am hlb
  have HY : Aside0 (y = byN b pre.length 1) := ⟨by rw [hy, hlb]; rfl⟩
  have HLC : Aside0 (lc = b.drop (pre ++ [x]).length) := ⟨by rw [hlc, hlb, List.drop_drop, List.length_append, List.length_singleton]; rfl⟩
  have HCall := am hcall
  have lt3 : g3 < wl.heap.size := blk_lt L3.out
  have k3 : W.heap[g3]? = _ := (hk.2 g3 lt3 (fun e => by rcases e with e | e; exact h53 e; exact h36 e)).trans L3.out
  have k7 : W.heap[g7]? = _ := (hk.2 g7 (blk_lt L7.out) (fun e => by rcases e with e | e; exact h75 e; exact h76 e)).trans L7.out
  have k8 : W.heap[g8]? = _ := (hk.2 g8 (blk_lt L8.out) (fun e => by rcases e with e | e; exact h85 e; exact h86 e)).trans L8.out
  have q5 : W.cell? ⟨g5, 0, none⟩ = some (.slice A lb.length c) := (blk_cell h5 0).trans rfl
  have HX := am (And.intro hR (And.intro h6 (And.intro h5 (And.intro ho (And.intro hk hB)))))
  have M3 := am k3
  have M7 := am k7
  have M8 := am k8
  have HP := am hpre
  have HLR := am (And.intro hl hr)
  clear hR h6 h5 hb ho hk hB hpre hcall hlen hlen2 k3 k7 k8 lt3 hl hr hlb hlc hy
  gi_wp2
  refine ⟨trivial, ?_⟩
  refine HCall.out.mono ?_
  rintro e W2 ⟨A', c', rfl, hle, hC, hD⟩
  obtain ⟨hR, h6, h5, ho, hk, hB⟩ := HX.out
  have hB2 := below_step hB hD.below
  have hxc := HD.out x
  obtain ⟨adr, eadr, hw⟩ := Kd.at_int K0.out.1 (x.1 : Int) (by omega) (by omega)
  subst eadr
  rw [Int.toNat_natCast] at hw
  have n5 := blk_below h5 hD.below
  have n6 := blk_below h6 hD.below
  have n3 := blk_below M3.out hD.below
  have n7 := blk_below M7.out hD.below
  have n8 := blk_below M8.out hD.below
  have z5 : W2.cell? ⟨g5, 0, none⟩ = some (.slice A lb.length c) := (blk_cell n5 0).trans rfl
  have f5 := blk_frozen n5 0
  have z3 : W2.cell? ⟨g3, 0, none⟩ = some (.slice (some adr) cards.length c0) := (blk_cell n3 0).trans rfl
  have zx : (W2.setCell ⟨g5, 0, none⟩ (.slice A' lc.length c')).cell? (adr.add x.1) = some (.int .i64 (rd cards (x.1 : Int))) := by
   have hlt := World.block_lt_of_cell? w _ hw
   have hwg := HGS.out.1
   have hg35 := HGS.out.2.1
   exact (World.cell?_of_block (Below.heap_setCell W2 ⟨g5, 0, none⟩ _ (adr.add x.1).block (fun e => by
    have e2 : (adr.add x.1).block = g5 := e
    omega))).trans ((hB2.cell hlt).trans hw)
  have i0 := eq_true (show (0 : Int) ≤ (x.1 : Int) by omega)
  have i1 := eq_true (show (x.1 : Int) < (cards.length : Int) by omega)
  have i2 := eq_true hxc
  have z60 : W2.cell? ⟨g6, 0, none⟩ = some v := (blk_cell n6 0).trans rfl
  have f60 := blk_frozen n6 0
  have HX2 := am (And.intro hR (And.intro n6 (And.intro n5 (And.intro ho (And.intro hk hB2)))))
  have HC2 := am (And.intro hle hC)
  have HD2 := am hD
  by_cases hbad : y ≥ rd cards (x.1 : Int)
  ·have c1b : decide (y ≥ rd cards (x.1 : Int)) = true := decide_eq_true hbad
   have c2b : decide (rd cards (x.1 : Int) ≤ y) = true := decide_eq_true hbad
   have z61 : W2.cell? ⟨g6, 1, none⟩ = some (.int .i64 0) := (blk_cell n6 1).trans rfl
   have z62 : W2.cell? ⟨g6, 2, none⟩ = some (.slice none 0 0) := (blk_cell n6 2).trans rfl
   have z63 : W2.cell? ⟨g6, 3, none⟩ = some (.slice none 0 0) := (blk_cell n6 3).trans rfl
   have z64 : W2.cell? ⟨g6, 4, none⟩ = some (.slice none 0 0) := (blk_cell n6 4).trans rfl
   have f61 := blk_frozen n6 1
   have f62 := blk_frozen n6 2
   have f63 := blk_frozen n6 3
   have f64 := blk_frozen n6 4
   have z7 : W2.cell? ⟨g7, 0, none⟩ = some (.slice none 0 0) := (blk_cell n7 0).trans rfl
   have f7 := blk_frozen n7 0
   have z8 : W2.cell? ⟨g8, 0, none⟩ = some (.bool false) := (blk_cell n8 0).trans rfl
   have f8 := blk_frozen n8 0
   have HBAD := am hbad
   clear hbad hR h6 h5 ho hk hB hB2 hw n5 n6 n3 n7 n8 hle hC hD hxc
   dsimp only
   gi_wp2
   generalize hF : ((((((((W2.setCell ⟨g5, 0, none⟩ (.slice A' lc.length c')).setCell ⟨g6, 0, none⟩ (.slice none 0 0)).setCell ⟨g6, 1, none⟩ (.int .i64 0)).setCell ⟨g6, 2, none⟩ (.slice none 0 0)).setCell ⟨g6, 3, none⟩ (.slice none 0 0)).setCell ⟨g6, 4, none⟩ (.slice none 0 0)).setCell ⟨g7, 0, none⟩ (.slice none 0 0)).setCell ⟨g8, 0, none⟩ (.bool false)) = F
   obtain ⟨hR, n6, n5, ho, hk, hB2⟩ := HX2.out
   have n7 := blk_below M7.out HD2.out.below
   have n8 := blk_below M8.out HD2.out.below
   have hFo : ∀ k, k ≠ g5 → k ≠ g6 → k ≠ g7 → k ≠ g8 → F.heap[k]? = W2.heap[k]? := by
    intro k e5 e6 e7 e8
    rw [← hF, Below.heap_setCell _ _ _ _ e8, Below.heap_setCell _ _ _ _ e7, Below.heap_setCell _ _ _ _ e6, Below.heap_setCell _ _ _ _ e6, Below.heap_setCell _ _ _ _ e6, Below.heap_setCell _ _ _ _ e6, Below.heap_setCell _ _ _ _ e6, Below.heap_setCell _ _ _ _ e5]
   have hF6 : F.heap[g6]? = some (.cells #[.slice none 0 0, .int .i64 0, .slice none 0 0, .slice none 0 0, .slice none 0 0] 30 (0, 0)) := by
    rw [← hF, Below.heap_setCell _ _ _ _ h68, Below.heap_setCell _ _ _ _ h67]
    exact (blk_put (blk_put (blk_put (blk_put (blk_put ((Below.heap_setCell _ _ _ _ h65).trans n6) 0 (.slice none 0 0) rfl) 1 (.int .i64 0) rfl) 2 (.slice none 0 0) rfl) 3 (.slice none 0 0) rfl) 4 (.slice none 0 0) rfl)
   have hF7 : F.heap[g7]? = some (.cells #[.slice none 0 0] 51 (0, 0)) := by
    rw [← hF, Below.heap_setCell _ _ _ _ h78]
    exact blk_put ((Below.heap_setCell _ _ _ _ h76).trans ((Below.heap_setCell _ _ _ _ h76).trans ((Below.heap_setCell _ _ _ _ h76).trans ((Below.heap_setCell _ _ _ _ h76).trans ((Below.heap_setCell _ _ _ _ h76).trans ((Below.heap_setCell _ _ _ _ h75).trans n7)))))) 0 _ rfl
   have hF8 : F.heap[g8]? = some (.cells #[.bool false] 4 (0, 0)) := by
    rw [← hF]
    exact blk_put ((Below.heap_setCell _ _ _ _ h87).trans ((Below.heap_setCell _ _ _ _ h86).trans ((Below.heap_setCell _ _ _ _ h86).trans ((Below.heap_setCell _ _ _ _ h86).trans ((Below.heap_setCell _ _ _ _ h86).trans ((Below.heap_setCell _ _ _ _ h86).trans ((Below.heap_setCell _ _ _ _ h85).trans n8))))))) 0 _ rfl
   have hlow : w.heap.size ≤ g5 ∧ w.heap.size ≤ g6 ∧ w.heap.size ≤ g7 ∧ w.heap.size ≤ g8 := by have := HGS.out; omega
   have hFB : Below w.heap.size w F := by rw [← hF]; exact below_set (below_set (below_set (below_set (below_set (below_set (below_set (below_set hB2 hlow.1) hlow.2.1) hlow.2.1) hlow.2.1) hlow.2.1) hlow.2.1) hlow.2.2.1) hlow.2.2.2
   have hFs : F.heap.size = W2.heap.size := by rw [← hF]; simp [World.setCell]
   exact ⟨onX_keeps HX.out.2.2.1 HX.out.2.1 M7.out M8.out (by rw [hFs]; exact HD2.out.below.size) (fun k hlt e5 e6 e7 e8 => (hFo k e5 e6 e7 e8).trans (HD2.out.below.block k hlt)), rfl, ⟨pre, x, rfl, by have := HBAD.out; rw [HY.out] at this; exact this⟩, hF6, hF7, hF8, hFB⟩
  ·have c1b : decide (y ≥ rd cards (x.1 : Int)) = false := decide_eq_false hbad
   have c2b : decide (rd cards (x.1 : Int) ≤ y) = false := decide_eq_false hbad
   have HBAD := am hbad
   clear hbad hR h6 h5 ho hk hB hB2 hw n5 n6 n3 n7 n8 hle hC hD hxc
   dsimp only
   gi_wp2_with (with_reducible refine park_ (N := 33) rfl ?_)
   constructor
   refine wpListIn_round l (by rintro ⟨a, w, h⟩; exact h) _ (by intro o ho c; simp at ho; rcases ho with rfl | rfl | rfl <;> simp) _ _ ?_
   obtain ⟨hR, n6, n5, ho, hk, hB2⟩ := HX2.out
   have hB3 : Below w.heap.size w (W2.setCell ⟨g5, 0, none⟩ (.slice A' lc.length c')) := below_set hB2 (by have := HGS.out; omega)
   have hR3 : Kd.R (Kd.int .i64) 3 (W2.setCell ⟨g5, 0, none⟩ (.slice A' lc.length c')) w.heap.size (fun k => wl.heap.size ≤ k) v (keysOf b pre.length) := Kd.R_far (Kd.R_below hR HD2.out.below) (fun k hk => by have := blk_lt L5.out; show k ≠ g5; omega) _
   refine Kd.R_append (Kd.int .i64) (w0 := w) w.heap.size rfl (.tmp 30) (.tmp 32) 22 3 (.int .i64 0) 8 rfl Try.underlying22 info3 rfl (by decide) (by omega) v (keysOf b pre.length) y [.int .i64 y] (fun k => wl.heap.size ≤ k) (fun _ => False) rfl ?aX rfl (fun _ h => h.elim) ?aF hR3 hB3 hB3.size ?aL ?_
   case aX => rw [show (W2.setCell ⟨g5, 0, none⟩ (.slice A' lc.length c')).heap.size = W2.heap.size by simp [World.setCell]]; rfl
   case aF =>
    intro k hk0
    rw [show (W2.setCell ⟨g5, 0, none⟩ (.slice A' lc.length c')).heap.size = W2.heap.size by simp [World.setCell]] at hk0
    have h1 := hk.1
    have h2 := HD2.out.below.size
    omega
   case aL => have := HP.out; have h4 := dimsM_len s; have := keysOf_length b pre.length; omega
   intro v1 w1 hO hBw hg hat
   have hl6 := blk_lt L6.out
   have c6 : w1.heap[g6]? = some (.cells #[v, .int .i64 0, .slice none 0 0, .slice none 0 0, .slice none 0 0] 30 (0, 0)) := (hg.block g6 (by simp [World.setCell]; exact blk_lt n6) (fun e => by have := hR.1 g6 e.symm; omega)).trans ((Below.heap_setCell _ _ _ _ h65).trans n6)
   have p6 : w1.cell? ⟨g6, 0, none⟩ = some v := (blk_cell c6 0).trans rfl
   have pf6 := blk_frozen c6 0
   have hy2 : byN b pre.length 1 < rd cards (x.1 : Int) := by rw [← HY.out]; have := HBAD.out; omega
   rw [show keysOf b pre.length ++ [y] = keysOf b (pre ++ [x]).length by rw [List.length_append, List.length_singleton, keysOf_succ, HY.out]] at hO
   obtain ⟨kk, hkk⟩ : ∃ kk, kk = keysOf b (pre ++ [x]).length := ⟨_, rfl⟩
   rw [← hkk] at hO
   obtain ⟨Av, cv, rfl⟩ := Kd.R_slice hO
   have HKK := am hkk
   clear hkk
   obtain ⟨hR0, h60, h50, ho0, hk0, hB0⟩ := HX.out
   obtain ⟨hle, hC⟩ := HC2.out
   rw [HLC.out] at hle hC hg
   have hfin := onI_step hR0 h60 (by rw [← HLB.out]; exact h50) ho0 hk0 HD2.out.below hle hC hg (by rw [← HKK.out]; exact hO) hBw hy2 h56 (blk_lt L5.out) hl6 (by have := HGS.out; omega) (show w8.heap.size < wl.heap.size by have := HSL.out; omega) (fun e => by have := HSZ.out; omega) (fun e => by have := HSZ.out; omega)
   have HF := am hfin
   clear hat hO hBw hg hR hk hB2 hB3 hR3 c6 hR0 h60 h50 ho0 hk0 hB0 hle hC hy2 hfin n5 n6 ho
   go_wp2
   exact HF.out
 case done =>
  rintro D ys W hD rfl ⟨v, A, c, hR, h6, h5, hb, ho, hk, hB⟩ hK
  obtain ⟨Ak, ck, rfl⟩ := Kd.R_slice hR
  obtain ⟨N, hN⟩ : ∃ N, N = (dimsM s).length := ⟨_, rfl⟩
  have hN4 : N ≤ 4 := by rw [hN]; exact dimsM_len s
  rw [← hN] at hR h6 h5 hb
  rw [← hN] at HL
  obtain ⟨kk, hkk⟩ : ∃ kk, kk = keysOf b N := ⟨_, rfl⟩
  have hkl : kk.length = N := by rw [hkk, keysOf_length]
  rw [← hkk] at hR h6
  have hlen : 2 ≤ ((b.drop N).length : Int) := by rw [List.length_drop]; have := HL.out.1; omega
  have hlen2 : (b.drop N).length ≤ 4611686018427387904 := by rw [List.length_drop]; have := HL.out.2; omega
  obtain ⟨lb, hlb⟩ : ∃ lb, lb = b.drop N := ⟨_, rfl⟩
  rw [← hlb] at hlen hlen2 h5 hb
  obtain ⟨lc, hlc⟩ : ∃ lc, lc = lb.drop (2 : Int).toNat := ⟨_, rfl⟩
  obtain ⟨cnt, hcnt⟩ : ∃ y, y = gv (lb.take (2 : Int).toNat) 0 := ⟨_, rfl⟩
  have hcall := cell_get.callsC A c lb 2 wb W (below_step HWB.out hB) hb.2 hb.1 (by decide) hlen hlen2
  rw [← hlc, ← hcnt] at hcall
  have HCNT : Aside0 (cnt = byN b N 2) := ⟨by rw [hcnt, hlb]; rfl⟩
  have HLC : Aside0 (lc = b.drop (N + 2)) := ⟨by rw [hlc, hlb, List.drop_drop]; rfl⟩
  have HKO := am ho
  have HNN := am (And.intro hN hN4)
  have HKK := am (And.intro hkk hkl)
  have k3 : W.heap[g3]? = _ := (hk.2 g3 (blk_lt L3.out) (fun e => by rcases e with e | e; exact h53 e; exact h36 e)).trans L3.out
  have k7 : W.heap[g7]? = _ := (hk.2 g7 (blk_lt L7.out) (fun e => by rcases e with e | e; exact h75 e; exact h76 e)).trans L7.out
  have k8 : W.heap[g8]? = _ := (hk.2 g8 (blk_lt L8.out) (fun e => by rcases e with e | e; exact h85 e; exact h86 e)).trans L8.out
  have q5 : W.cell? ⟨g5, 0, none⟩ = some (.slice A lb.length c) := (blk_cell h5 0).trans rfl
  have HX := am (And.intro hR (And.intro h6 (And.intro h5 (And.intro hk hB))))
  have M3 := am k3
  have M7 := am k7
  have M8 := am k8
  have MD := am hK
  have HDD := am hD
  clear hR h6 h5 hb ho hk hB hlen hlen2 k3 k7 k8 hlb hlc hcnt hN hN4 hkk hkl hK hD
  go_wp2_with (fail)
  refine hcall.mono ?_
  rintro e W2 ⟨A', c', rfl, hle, hC, hD⟩
  have n6 := blk_below HX.out.2.1 hD.below
  have n5 := blk_below HX.out.2.2.1 hD.below
  have n3 := blk_below M3.out hD.below
  have z5 : W2.cell? ⟨g5, 0, none⟩ = some (.slice A lb.length c) := (blk_cell n5 0).trans rfl
  have f5 := blk_frozen n5 0
  have z61 : W2.cell? ⟨g6, 1, none⟩ = some (.int .i64 0) := (blk_cell n6 1).trans rfl
  have f61 := blk_frozen n6 1
  have z31 : W2.cell? ⟨g3, 1, none⟩ = some (.int .i64 meas) := (blk_cell n3 1).trans rfl
  have HD2 := am hD.below
  have HC2 := am (And.intro hle hC)
  have N6 := am n6
  have N5 := am n5
  clear hle hC hD n6 n5 n3 hcall q5
  dsimp only
  go_wp2
  generalize hwz : (W2.setCell ⟨g6, 1, none⟩ (.int .i64 cnt)).setCell ⟨g5, 0, none⟩ (.slice A' lc.length c') = wz
  have hkz : ∀ k, k ≠ g5 → k ≠ g6 → wz.heap[k]? = W2.heap[k]? := fun k e5 e6 => by rw [← hwz, Below.heap_setCell _ _ _ _ e5, Below.heap_setCell _ _ _ _ e6]
  have hsz : wz.heap.size = W2.heap.size := by rw [← hwz]; simp [World.setCell]
  have Z6 : Aside0 (wz.heap[g6]? = some (.cells #[.slice Ak kk.length ck, .int .i64 cnt, .slice none 0 0, .slice none 0 0, .slice none 0 0] 30 (0, 0))) := ⟨by rw [← hwz, Below.heap_setCell _ _ _ _ h65]; exact blk_put N6.out 1 _ rfl⟩
  have Z5 : Aside0 (LeftAt wb b g5 (N + 2) wz) := ⟨A', c', by rw [← hwz, ← HLC.out]; exact blk_put ((Below.heap_setCell _ _ _ _ h56).trans N5.out) 0 _ rfl, by rw [← HLC.out]; exact HC2.out.1, by rw [← HLC.out]; exact HC2.out.2⟩
  have Z3 := am ((hkz g3 h53 h36).trans (blk_below M3.out HD2.out))
  have Z7 := am ((hkz g7 h75 h76).trans (blk_below M7.out HD2.out))
  have Z8 := am ((hkz g8 h85 h86).trans (blk_below M8.out HD2.out))
  have hDg : D ≠ g5 ∧ D ≠ g6 ∧ D ≠ g7 ∧ D ≠ g8 ∧ w.heap.size ≤ D := by have := blk_lt L5.out; have := blk_lt L6.out; have := blk_lt L7.out; have := blk_lt L8.out; have := HGS.out; have := HDD.out; omega
  have ZD := am ((hkz D hDg.1 hDg.2.1).trans (blk_below MD.out HD2.out))
  have ZB : Aside0 (Below w.heap.size w wz) := ⟨by rw [← hwz]; exact below_set (below_set (below_step HX.out.2.2.2.2 HD2.out) (by have := HGS.out; omega)) (by have := HGS.out; omega)⟩
  have ZK : Aside0 (Kd.R (Kd.int .i64) 3 wz w.heap.size (fun k => wl.heap.size ≤ k ∧ k < wz.heap.size) (.slice Ak kk.length ck) kk) := ⟨Kd.R_mono (Kd.R_step (Kd.R_bound (Kd.R_below HX.out.1 HD2.out)) (fun k hk _ => hkz k (by have := blk_lt L5.out; have h1 : wl.heap.size ≤ k := hk.1; omega) (by have := blk_lt L6.out; have h1 : wl.heap.size ≤ k := hk.1; omega))) (fun k hk => ⟨hk.1, by rw [hsz]; exact hk.2.2.1⟩)⟩
  have HDG := am hDg
  have HZS : Aside0 (wl.heap.size ≤ wz.heap.size) := ⟨by rw [hsz]; exact Nat.le_trans HX.out.2.2.2.1.1 HD2.out.size⟩
  obtain ⟨m, hm⟩ : ∃ m, m = meas.toNat := ⟨_, rfl⟩
  have hmm : (m : Int) = meas := by rw [hm]; have := HM.out.1; omega
  have HMM := am (And.intro hm hmm)
  have hgw : w.heap.size ≤ g5 ∧ w.heap.size ≤ g6 ∧ w.heap.size ≤ g7 ∧ w.heap.size ≤ g8 ∧ g5 < wl.heap.size ∧ g6 < wl.heap.size := by have := HGS.out; exact ⟨by omega, by omega, by omega, by omega, blk_lt L5.out, blk_lt L6.out⟩
  have HGW := am hgw
  clear hwz hkz hsz hDg hm hmm hgw HX M3 M7 M8 MD HD2 HC2 N5 N6 L3 L5 L6 L7 L8 z5 f5 z61 f61 z31 HLC
  go_loopg [43] (m + 1) (fun kq v43 w' => ∃ (j : Nat) (f : Nat → Nat) (v2 v3 v4 : Value), v43 = .int .i64 (j : Int) ∧ Aside0 (j + kq = m + 1 ∧ j ≤ m) ∧ Aside0 (InnO w wb wz g5 g6 (.slice Ak kk.length ck) cnt b (N + 2) f v2 v3 v4 j w'))
  case atStart => exact ⟨0, fun k => if k < wz.heap.size then 9 else 0, .slice none 0 0, .slice none 0 0, .slice none 0 0, rfl, ⟨by omega, by omega⟩, ⟨Kept.refl _ _, ZB.out, Z6.out, Z5.out, fun k hk => if_pos hk, Kd.R_nil _ _ _ _ _, Kd.R_nil _ _ _ _ _, Kd.R_nil _ _ _ _ _, fun i hi => absurd hi (by omega)⟩⟩
  case round =>
  obtain ⟨j, f, v2, v3, v4, rfl, HJ, HO⟩ := hrel
  cases gk with
  | zero => exact absurd HJ.out (by omega)
  | succ k1 =>
  have hmm := HMM.out.2
  by_cases hj : j < m
  ·have hd1 : decide ((j : Int) < meas) = true := decide_eq_true (by omega)
   have HHJ := am hj
   have hwj : wrap64 ((j : Int) + 1) = ((j + 1 : Nat) : Int) := by have := HM.out.2; unfold wrap64; omega
   obtain ⟨p, hp⟩ : ∃ p, p = N + 2 + 24 * j := ⟨_, rfl⟩
   have HP := am hp
   have HPL : Aside0 (p + 24 ≤ b.length) := ⟨by have := HL.out.1; have := HMM.out.1; omega⟩
   clear hj hmm hp
   generalize wr = wo at *
   go_wp2_with (first | ((with_reducible refine gate_dst (N := 11) rfl ?_); (try (refine gate_guard (by rfl) ?_; dsimp only)); refine zX #[.int .i64 0, .int .i64 0, .int .i64 0] 93 ?_; intro ga hg wa hbox hbw; have HKA := am hbox; have HBW := am hbw; have HGE := am hg; have HBA := am (below_step HO.out.bel hbw); have HGA : Aside0 (ga ≠ g5 ∧ w.heap.size ≤ ga) := ⟨by rw [hg]; exact ⟨fun e => by have := HO.out.kept.1; have := HGW.out; have := HZS.out; omega, HO.out.bel.size⟩⟩; clear hg hbox hbw))
   go_loopg [45] 4 (fun kq v45 w' => ∃ i : Nat, v45 = .int .i64 (i : Int) ∧ Aside0 (i + kq = 4 ∧ i ≤ 3) ∧ Aside0 (InnA w wb wa g5 ga b p i w'))
   case atStart => exact ⟨0, rfl, ⟨by omega, by omega⟩, ⟨⟨Kept.refl _ _, HBA.out, HKA.out, by
    obtain ⟨Aq, cq, e5, e1, e2⟩ := HO.out.left
    rw [← HP.out] at e5 e1 e2
    exact ⟨Aq, cq, blk_below e5 HBW.out, e1, e2⟩⟩⟩⟩
   case round =>
   obtain ⟨i, rfl, HI, HA⟩ := hrel
   cases gk with
   | zero => exact absurd HI.out (by omega)
   | succ k2 =>
   have hi3 := HI.out.2
   rcases (show i = 0 ∨ i = 1 ∨ i = 2 ∨ i = 3 by omega) with rfl | rfl | rfl | rfl
   ·clear hi3
    obtain ⟨Aq, cq, e5, e1, e2⟩ := HA.out.left
    have hlen : 8 ≤ ((b.drop (p + 8 * 0)).length : Int) := by rw [List.length_drop]; have := HPL.out; omega
    have hlen2 : (b.drop (p + 8 * 0)).length ≤ 4611686018427387904 := by rw [List.length_drop]; have := HL.out.2; omega
    obtain ⟨lq, hlq⟩ : ∃ lq, lq = b.drop (p + 8 * 0) := ⟨_, rfl⟩
    rw [← hlq] at e5 e1 e2 hlen hlen2
    obtain ⟨ln, hln⟩ : ∃ ln, ln = lq.drop (8 : Int).toNat := ⟨_, rfl⟩
    obtain ⟨y, hy⟩ : ∃ y, y = gv (lq.take (8 : Int).toNat) 0 := ⟨_, rfl⟩
    have hcall := cell_get.callsC Aq cq lq 8 wb wr (below_step HWB.out HA.out.bel) e2 e1 (by decide) hlen hlen2
    rw [← hln, ← hy] at hcall
    have HY : Aside0 (y = byN b (p + 8 * 0) 8) := ⟨by rw [hy, hlq]; rfl⟩
    have HLN : Aside0 (ln = b.drop (p + 8 * (0 + 1))) := ⟨by rw [hln, hlq, List.drop_drop]; rfl⟩
    have q5 : wr.cell? ⟨g5, 0, none⟩ = some (.slice Aq lq.length cq) := (blk_cell e5 0).trans rfl
    have E5 := am e5
    clear e5 e1 e2 hlen hlen2 hlq hln hy
    go_wp2_with (fail)
    refine hcall.mono ?_
    rintro e W3 ⟨A', c', rfl, hle, hC, hD⟩
    have na := blk_below HA.out.arr hD.below
    have n5 := blk_below E5.out hD.below
    have za : W3.cell? ⟨ga, 0, none⟩ = some (.int .i64 0) := (blk_cell na 0).trans rfl
    have fa := blk_frozen na 0
    have z5 : W3.cell? ⟨g5, 0, none⟩ = some (.slice Aq lq.length cq) := (blk_cell n5 0).trans rfl
    have f5 := blk_frozen n5 0
    have HN5 := am n5
    have HNA := am na
    have HC2 := am (And.intro hle hC)
    have HDW := am hD.below
    have ha5 := HGA.out.1
    have h5a := HGA.out.1.symm
    clear hcall hle hC hD na n5 q5
    dsimp only
    go_wp2
    have HAN : InnA w wb wa g5 ga b p (0 + 1) ((W3.setCell ⟨ga, 0, none⟩ (.int .i64 y)).setCell ⟨g5, 0, none⟩ (.slice A' ln.length c')) :=
     ⟨Kept.setCell (Kept.setCell (HA.out.kept.below HDW.out) (.inl (.inr rfl)) _) (.inl (.inl rfl)) _, below_set (below_set (below_step HA.out.bel HDW.out) HGA.out.2) HGW.out.1,
      (Below.heap_setCell _ _ _ _ ha5).trans (blk_put HNA.out 0 _ (by rw [HY.out]; rfl)), ⟨A', c', by rw [← HLN.out]; exact blk_put ((Below.heap_setCell _ _ _ _ h5a).trans HN5.out) 0 _ rfl, by rw [← HLN.out]; exact HC2.out.1, by rw [← HLN.out]; exact HC2.out.2⟩⟩
    have HAN' := am HAN
    clear HAN
    go_roundg k2
    case measure => have := HI.out; omega
    case rel => exact ⟨0 + 1, by first | rfl | simp, ⟨by have := HI.out; omega, by omega⟩, HAN'⟩
   ·clear hi3
    obtain ⟨Aq, cq, e5, e1, e2⟩ := HA.out.left
    have hlen : 8 ≤ ((b.drop (p + 8 * 1)).length : Int) := by rw [List.length_drop]; have := HPL.out; omega
    have hlen2 : (b.drop (p + 8 * 1)).length ≤ 4611686018427387904 := by rw [List.length_drop]; have := HL.out.2; omega
    obtain ⟨lq, hlq⟩ : ∃ lq, lq = b.drop (p + 8 * 1) := ⟨_, rfl⟩
    rw [← hlq] at e5 e1 e2 hlen hlen2
    obtain ⟨ln, hln⟩ : ∃ ln, ln = lq.drop (8 : Int).toNat := ⟨_, rfl⟩
    obtain ⟨y, hy⟩ : ∃ y, y = gv (lq.take (8 : Int).toNat) 0 := ⟨_, rfl⟩
    have hcall := cell_get.callsC Aq cq lq 8 wb wr (below_step HWB.out HA.out.bel) e2 e1 (by decide) hlen hlen2
    rw [← hln, ← hy] at hcall
    have HY : Aside0 (y = byN b (p + 8 * 1) 8) := ⟨by rw [hy, hlq]; rfl⟩
    have HLN : Aside0 (ln = b.drop (p + 8 * (1 + 1))) := ⟨by rw [hln, hlq, List.drop_drop]; rfl⟩
    have q5 : wr.cell? ⟨g5, 0, none⟩ = some (.slice Aq lq.length cq) := (blk_cell e5 0).trans rfl
    have E5 := am e5
    clear e5 e1 e2 hlen hlen2 hlq hln hy
    go_wp2_with (fail)
    refine hcall.mono ?_
    rintro e W3 ⟨A', c', rfl, hle, hC, hD⟩
    have na := blk_below HA.out.arr hD.below
    have n5 := blk_below E5.out hD.below
    have za : W3.cell? ⟨ga, 1, none⟩ = some (.int .i64 0) := (blk_cell na 1).trans rfl
    have fa := blk_frozen na 1
    have z5 : W3.cell? ⟨g5, 0, none⟩ = some (.slice Aq lq.length cq) := (blk_cell n5 0).trans rfl
    have f5 := blk_frozen n5 0
    have HN5 := am n5
    have HNA := am na
    have HC2 := am (And.intro hle hC)
    have HDW := am hD.below
    have ha5 := HGA.out.1
    have h5a := HGA.out.1.symm
    clear hcall hle hC hD na n5 q5
    dsimp only
    go_wp2
    have HAN : InnA w wb wa g5 ga b p (1 + 1) ((W3.setCell ⟨ga, 1, none⟩ (.int .i64 y)).setCell ⟨g5, 0, none⟩ (.slice A' ln.length c')) :=
     ⟨Kept.setCell (Kept.setCell (HA.out.kept.below HDW.out) (.inl (.inr rfl)) _) (.inl (.inl rfl)) _, below_set (below_set (below_step HA.out.bel HDW.out) HGA.out.2) HGW.out.1,
      (Below.heap_setCell _ _ _ _ ha5).trans (blk_put HNA.out 1 _ (by rw [HY.out]; rfl)), ⟨A', c', by rw [← HLN.out]; exact blk_put ((Below.heap_setCell _ _ _ _ h5a).trans HN5.out) 0 _ rfl, by rw [← HLN.out]; exact HC2.out.1, by rw [← HLN.out]; exact HC2.out.2⟩⟩
    have HAN' := am HAN
    clear HAN
    go_roundg k2
    case measure => have := HI.out; omega
    case rel => exact ⟨1 + 1, by first | rfl | simp, ⟨by have := HI.out; omega, by omega⟩, HAN'⟩
   ·clear hi3
    obtain ⟨Aq, cq, e5, e1, e2⟩ := HA.out.left
    have hlen : 8 ≤ ((b.drop (p + 8 * 2)).length : Int) := by rw [List.length_drop]; have := HPL.out; omega
    have hlen2 : (b.drop (p + 8 * 2)).length ≤ 4611686018427387904 := by rw [List.length_drop]; have := HL.out.2; omega
    obtain ⟨lq, hlq⟩ : ∃ lq, lq = b.drop (p + 8 * 2) := ⟨_, rfl⟩
    rw [← hlq] at e5 e1 e2 hlen hlen2
    obtain ⟨ln, hln⟩ : ∃ ln, ln = lq.drop (8 : Int).toNat := ⟨_, rfl⟩
    obtain ⟨y, hy⟩ : ∃ y, y = gv (lq.take (8 : Int).toNat) 0 := ⟨_, rfl⟩
    have hcall := cell_get.callsC Aq cq lq 8 wb wr (below_step HWB.out HA.out.bel) e2 e1 (by decide) hlen hlen2
    rw [← hln, ← hy] at hcall
    have HY : Aside0 (y = byN b (p + 8 * 2) 8) := ⟨by rw [hy, hlq]; rfl⟩
    have HLN : Aside0 (ln = b.drop (p + 8 * (2 + 1))) := ⟨by rw [hln, hlq, List.drop_drop]; rfl⟩
    have q5 : wr.cell? ⟨g5, 0, none⟩ = some (.slice Aq lq.length cq) := (blk_cell e5 0).trans rfl
    have E5 := am e5
    clear e5 e1 e2 hlen hlen2 hlq hln hy
    go_wp2_with (fail)
    refine hcall.mono ?_
    rintro e W3 ⟨A', c', rfl, hle, hC, hD⟩
    have na := blk_below HA.out.arr hD.below
    have n5 := blk_below E5.out hD.below
    have za : W3.cell? ⟨ga, 2, none⟩ = some (.int .i64 0) := (blk_cell na 2).trans rfl
    have fa := blk_frozen na 2
    have z5 : W3.cell? ⟨g5, 0, none⟩ = some (.slice Aq lq.length cq) := (blk_cell n5 0).trans rfl
    have f5 := blk_frozen n5 0
    have HN5 := am n5
    have HNA := am na
    have HC2 := am (And.intro hle hC)
    have HDW := am hD.below
    have ha5 := HGA.out.1
    have h5a := HGA.out.1.symm
    clear hcall hle hC hD na n5 q5
    dsimp only
    go_wp2
    have HAN : InnA w wb wa g5 ga b p (2 + 1) ((W3.setCell ⟨ga, 2, none⟩ (.int .i64 y)).setCell ⟨g5, 0, none⟩ (.slice A' ln.length c')) :=
     ⟨Kept.setCell (Kept.setCell (HA.out.kept.below HDW.out) (.inl (.inr rfl)) _) (.inl (.inl rfl)) _, below_set (below_set (below_step HA.out.bel HDW.out) HGA.out.2) HGW.out.1,
      (Below.heap_setCell _ _ _ _ ha5).trans (blk_put HNA.out 2 _ (by rw [HY.out]; rfl)), ⟨A', c', by rw [← HLN.out]; exact blk_put ((Below.heap_setCell _ _ _ _ h5a).trans HN5.out) 0 _ rfl, by rw [← HLN.out]; exact HC2.out.1, by rw [← HLN.out]; exact HC2.out.2⟩⟩
    have HAN' := am HAN
    clear HAN
    go_roundg k2
    case measure => have := HI.out; omega
    case rel => exact ⟨2 + 1, by first | rfl | simp, ⟨by have := HI.out; omega, by omega⟩, HAN'⟩
   ·clear hi3
    obtain ⟨y0, hy0⟩ : ∃ y, y = byN b p 8 := ⟨_, rfl⟩
    obtain ⟨y1, hy1⟩ : ∃ y, y = byN b (p + 8) 8 := ⟨_, rfl⟩
    obtain ⟨y2, hy2⟩ : ∃ y, y = byN b (p + 16) 8 := ⟨_, rfl⟩
    have YA : wr.heap[ga]? = some (.cells #[.int .i64 y0, .int .i64 y1, .int .i64 y2] 93 (0, 0)) := by rw [hy0, hy1, hy2]; exact HA.out.arr
    have za0 : wr.cell? ⟨ga, 0, none⟩ = some (.int .i64 y0) := (blk_cell YA 0).trans rfl
    have za1 : wr.cell? ⟨ga, 1, none⟩ = some (.int .i64 y1) := (blk_cell YA 1).trans rfl
    have za2 : wr.cell? ⟨ga, 2, none⟩ = some (.int .i64 y2) := (blk_cell YA 2).trans rfl
    have HYS := am (And.intro hy0 (And.intro hy1 hy2))
    have HAA := am YA
    have hga : wo.heap.size ≤ ga := Nat.le_of_eq HGE.out.symm
    have hlz : wz.heap.size ≤ wo.heap.size := HO.out.kept.1
    have keepZ : ∀ {k : Nat} {o : Obj}, wz.heap[k]? = some o → k ≠ g5 → k ≠ g6 → wr.heap[k]? = some o := fun {k o} h e5 e6 =>
     blk_kept (blk_below (blk_kept h HO.out.kept (fun e => by rcases e with e | e; exact e5 e; exact e6 e)) HBW.out) HA.out.kept (fun e => by rcases e with e | e; exact e5 e; exact absurd e (by have := blk_lt h; omega))
    have Y6 := blk_kept (blk_below HO.out.b6 HBW.out) HA.out.kept (fun e => by rcases e with e | e; exact h65 e; exact absurd e (by have := blk_lt HO.out.b6; omega))
    have HY6 := am Y6
    have HK3 := am (keepZ Z3.out h53 h36)
    have HK7 := am (keepZ Z7.out h75 h76)
    have HK8 := am (keepZ Z8.out h85 h86)
    have HKD := am (keepZ ZD.out HDG.out.1 HDG.out.2.1)
    clear hy0 hy1 hy2 YA keepZ Y6
    by_cases hsp : y1 > y2
    ·have c1b : decide (y1 > y2) = true := decide_eq_true hsp
     have c2b : decide (y2 < y1) = true := decide_eq_true hsp
     have HZ : Aside0 (oneR cards meas s b = (([], 0, [], [], []), [], false)) := ⟨by
      unfold oneR
      rw [if_neg]
      rintro ⟨_, hs⟩
      have h1 := hs j (by have := HHJ.out; have := HMM.out.1; omega)
      rw [← HNN.out.1, ← HP.out, ← HYS.out.2.1, ← HYS.out.2.2] at h1
      omega⟩
     clear hsp
     have z60 := (blk_cell HY6.out 0).trans rfl
     have z61 := (blk_cell HY6.out 1).trans rfl
     have z62 := (blk_cell HY6.out 2).trans rfl
     have z63 := (blk_cell HY6.out 3).trans rfl
     have z64 := (blk_cell HY6.out 4).trans rfl
     have f60 := blk_frozen HY6.out 0
     have f61 := blk_frozen HY6.out 1
     have f62 := blk_frozen HY6.out 2
     have f63 := blk_frozen HY6.out 3
     have f64 := blk_frozen HY6.out 4
     have z7 := (blk_cell HK7.out 0).trans rfl
     have f7 := blk_frozen HK7.out 0
     have z8 := (blk_cell HK8.out 0).trans rfl
     have f8 := blk_frozen HK8.out 0
     go_wp2
     generalize hF : (((((((wr.setCell ⟨g6, 0, none⟩ (.slice none 0 0)).setCell ⟨g6, 1, none⟩ (.int .i64 0)).setCell ⟨g6, 2, none⟩ (.slice none 0 0)).setCell ⟨g6, 3, none⟩ (.slice none 0 0)).setCell ⟨g6, 4, none⟩ (.slice none 0 0)).setCell ⟨g7, 0, none⟩ (.slice none 0 0)).setCell ⟨g8, 0, none⟩ (.bool false)) = F
     have hFo : ∀ k, k ≠ g6 → k ≠ g7 → k ≠ g8 → F.heap[k]? = wr.heap[k]? := by
      intro k e6 e7 e8
      rw [← hF, Below.heap_setCell _ _ _ _ e8, Below.heap_setCell _ _ _ _ e7, Below.heap_setCell _ _ _ _ e6, Below.heap_setCell _ _ _ _ e6, Below.heap_setCell _ _ _ _ e6, Below.heap_setCell _ _ _ _ e6, Below.heap_setCell _ _ _ _ e6]
     have hF6 : F.heap[g6]? = some (.cells #[.slice none 0 0, .int .i64 0, .slice none 0 0, .slice none 0 0, .slice none 0 0] 30 (0, 0)) := by
      rw [← hF, Below.heap_setCell _ _ _ _ h68, Below.heap_setCell _ _ _ _ h67]
      exact (blk_put (blk_put (blk_put (blk_put (blk_put HY6.out 0 (.slice none 0 0) rfl) 1 (.int .i64 0) rfl) 2 (.slice none 0 0) rfl) 3 (.slice none 0 0) rfl) 4 (.slice none 0 0) rfl)
     have hF7 : F.heap[g7]? = some (.cells #[.slice none 0 0] 51 (0, 0)) := by
      rw [← hF, Below.heap_setCell _ _ _ _ h78]
      exact blk_put ((Below.heap_setCell _ _ _ _ h76).trans ((Below.heap_setCell _ _ _ _ h76).trans ((Below.heap_setCell _ _ _ _ h76).trans ((Below.heap_setCell _ _ _ _ h76).trans ((Below.heap_setCell _ _ _ _ h76).trans HK7.out))))) 0 _ rfl
     have hF8 : F.heap[g8]? = some (.cells #[.bool false] 4 (0, 0)) := by
      rw [← hF]
      exact blk_put ((Below.heap_setCell _ _ _ _ h87).trans ((Below.heap_setCell _ _ _ _ h86).trans ((Below.heap_setCell _ _ _ _ h86).trans ((Below.heap_setCell _ _ _ _ h86).trans ((Below.heap_setCell _ _ _ _ h86).trans ((Below.heap_setCell _ _ _ _ h86).trans HK8.out)))))) 0 _ rfl
     have hFB : Below w.heap.size w F := by rw [← hF]; have hlow := HGW.out; exact below_set (below_set (below_set (below_set (below_set (below_set (below_set HA.out.bel hlow.2.1) hlow.2.1) hlow.2.1) hlow.2.1) hlow.2.1) hlow.2.2.1) hlow.2.2.2.1
     have hDg := HDG.out
     have hKF : F.heap[D]? = some (.deferred (some [])) := (hFo D hDg.2.1 hDg.2.2.1 hDg.2.2.2.1).trans HKD.out
     have q7 : (F.putObj D (.deferred none)).heap[g7]? = _ := (World.putObj_heap_other hDg.2.2.1.symm).trans hF7
     have q8 : (F.putObj D (.deferred none)).heap[g8]? = _ := (World.putObj_heap_other hDg.2.2.2.1.symm).trans hF8
     refine ret_marks rfl hKF (results_ccc rfl _ _ g6 g7 g8 30 #[.slice none 0 0, .int .i64 0, .slice none 0 0, .slice none 0 0, .slice none 0 0] (.slice none 0 0) (.bool false) _ _ _ rfl ((World.putObj_heap_other hDg.2.1.symm).trans hF6) Try.underlying30 rfl (by kernel_rfl) rfl ((blk_cell q7 0).trans rfl) Try.underlying51 rfl rfl ((blk_cell q8 0).trans rfl) Try.underlying4 rfl) ?hst ?hR
     case hst =>
      rintro ⟨v0, v2, v3, v4, A', c', e, r0, r2, r3, r4, hle, hC, hb⟩
      exact ⟨v0, v2, v3, v4, A', c', e, R_mark r0 rfl hKF, R_mark r2 rfl hKF, R_mark r3 rfl hKF, R_mark r4 rfl hKF, hle, hC, below_mark hb hDg.2.2.2.2⟩
     case hR =>
      rw [HZ.out]
      exact ⟨_, _, _, _, none, 0, rfl, Kd.R_nil _ _ _ _ _, Kd.R_nil _ _ _ _ _, Kd.R_nil _ _ _ _ _, Kd.R_nil _ _ _ _ _, Nat.le_refl _, (Kd.R_reads' (Kd.R_nil (Kd.int .u8) 5 wb 0 (fun _ => True))).2.2, hFB⟩
    ·have c1b : decide (y1 > y2) = false := decide_eq_false hsp
     have c2b : decide (y2 < y1) = false := decide_eq_false hsp
     have HSP := am (show y1 ≤ y2 by omega)
     clear hsp
     obtain ⟨U2, q2, rfl⟩ := Kd.R_slice HO.out.r2
     obtain ⟨U3, q3, rfl⟩ := Kd.R_slice HO.out.r3
     obtain ⟨U4, q4, rfl⟩ := Kd.R_slice HO.out.r4
     obtain ⟨e2, he2⟩ : ∃ e, e = eightsOf b (N + 2) j := ⟨_, rfl⟩
     obtain ⟨e3, he3⟩ : ∃ e, e = eightsOf b (N + 2 + 8) j := ⟨_, rfl⟩
     obtain ⟨e4, he4⟩ : ∃ e, e = eightsOf b (N + 2 + 16) j := ⟨_, rfl⟩
     have HOO := HO
     rw [← he2, ← he3, ← he4] at HY6
     have HF0 : ∀ k, k < wz.heap.size → ow f wo.heap.size 9 k = 9 := fun k hk => (ow_old (by omega)).trans (HO.out.hf k hk)
     have HFA0 : ow f wo.heap.size 9 ga = 9 := ow_new hga
     have far : ∀ q, q ≠ 9 → ∀ k, ow f wo.heap.size 9 k = q → k < wa.heap.size → wr.heap[k]? = wa.heap[k]? := fun q hq k hk hlt => HA.out.kept.2 k hlt (fun e => by
      rcases e with e | e
      ·rw [e, HF0 g5 (by have := HGW.out; have := HZS.out; omega)] at hk; exact hq hk.symm
      ·rw [e, HFA0] at hk; exact hq hk.symm)
     have HR2a : Kd.R (Kd.int .i64) 3 wr wz.heap.size (fun k => ow f wo.heap.size 9 k = 2) (.slice U2 e2.length q2) e2 := by rw [he2]; exact r_re (r_fresh HO.out.r2 HBW.out 9) (far 2 (by decide)) (fun _ _ => rfl)
     have HR3a : Kd.R (Kd.int .i64) 3 wr wz.heap.size (fun k => ow f wo.heap.size 9 k = 3) (.slice U3 e3.length q3) e3 := by rw [he3]; exact r_re (r_fresh HO.out.r3 HBW.out 9) (far 3 (by decide)) (fun _ _ => rfl)
     have HR4a : Kd.R (Kd.int .i64) 3 wr wz.heap.size (fun k => ow f wo.heap.size 9 k = 4) (.slice U4 e4.length q4) e4 := by rw [he4]; exact r_re (r_fresh HO.out.r4 HBW.out 9) (far 4 (by decide)) (fun _ _ => rfl)
     have HKW : Aside0 (Kept wz wr (fun k => k = g5 ∨ k = g6)) := ⟨Kept.then_ (HO.out.kept.below HBW.out) HA.out.kept (fun k hk => by
      rcases hk with hk | hk
      ·exact .inl (.inl hk)
      ·exact .inr (by omega))⟩
     have HE := am (And.intro he2 (And.intro he3 he4))
     have HEL : Aside0 (e2.length ≤ 1000 ∧ e3.length ≤ 1000 ∧ e4.length ≤ 1000) := ⟨by rw [he2, he3, he4, eightsOf_length, eightsOf_length, eightsOf_length]; have := HJ.out.2; have := HMM.out.2; have := HM.out.2; omega⟩
     have HLZ : Aside0 (wz.heap.size ≤ wr.heap.size) := ⟨HKW.out.1⟩
     have HG6Z : Aside0 (g6 < wz.heap.size ∧ g5 < wz.heap.size) := ⟨by have := HGW.out; have := HZS.out; omega⟩
     obtain ⟨x2, hx2⟩ : ∃ x, x = e2 ++ [y0] := ⟨_, rfl⟩
     obtain ⟨x3, hx3⟩ : ∃ x, x = e3 ++ [y1] := ⟨_, rfl⟩
     obtain ⟨x4, hx4⟩ : ∃ x, x = e4 ++ [y2] := ⟨_, rfl⟩
     have HXX := am (And.intro hx2 (And.intro hx3 hx4))
     have HAA2 := am (And.intro HAA.out HFA0)
     generalize ow f wo.heap.size 9 = f1 at *
     have HR2b := am HR2a
     have HR3b := am HR3a
     have HR4b := am HR4a
     have HFb := am HF0
     have G2 : Aside0 (wr.cell? ⟨g6, 2, none⟩ = some (.slice U2 e2.length q2)) := ⟨(blk_cell HY6.out 2).trans rfl⟩
     have G3 : Aside0 (wr.cell? ⟨g6, 3, none⟩ = some (.slice U3 e3.length q3)) := ⟨(blk_cell HY6.out 3).trans rfl⟩
     have G4 : Aside0 (wr.cell? ⟨g6, 4, none⟩ = some (.slice U4 e4.length q4)) := ⟨(blk_cell HY6.out 4).trans rfl⟩
     have ZA0 := am za0
     have ZA1 := am za1
     have ZA2 := am za2
     clear he2 he3 he4 far HR2a HR3a HR4a HF0 HFA0 hx2 hx3 hx4 hga hlz
     go_wp2
     refine start_ (n := 24) (S := fun w' => w'.cell? ⟨g6, 2, none⟩ = some (.slice U2 e2.length q2) ∧ w'.cell? ⟨g6, 3, none⟩ = some (.slice U3 e3.length q3) ∧ w'.cell? ⟨g6, 4, none⟩ = some (.slice U4 e4.length q4) ∧ w'.cell? ⟨ga, 0, none⟩ = some (.int .i64 y0) ∧ w'.cell? ⟨ga, 1, none⟩ = some (.int .i64 y1) ∧ w'.cell? ⟨ga, 2, none⟩ = some (.int .i64 y2)) (ds := [19, 21, 23]) (bb 24 0) (by kernel_rfl) rfl rfl ⟨G2.out, G3.out, G4.out, ZA0.out, ZA1.out, ZA2.out⟩ (fun hHeld => ?_)
     refine with_tabW cell_one.tab19 cell_one.bits19 (fun HT_ HW_ => ?_)
     have HB : Below wz.heap.size wr wr.drew := ⟨rfl, rfl, rfl, Nat.le_refl _, fun _ _ => rfl⟩
     have HAR := And.intro (blk_drew HAA2.out.1) HAA2.out.2
     have HR2 := Kd.R_drew HR2b.out
     have HR3 := Kd.R_drew HR3b.out
     have HR4 := Kd.R_drew HR4b.out
     have HF := HFb.out
     clear HR2b HR3b HR4b HFb HAA2
     generalize wr.drew = wd at HB HAR HR2 HR3 HR4 hHeld ⊢
     refine zu 0 (some 62) (bb 24 1) HT_ ?_
     refine zk 1 (some 63) (bb 24 3) HT_ HW_ hHeld ?_
     refine zu 2 (some 64) (bb 24 7) HT_ ?_
     refine zk 3 (some 65) (bb 24 15) HT_ HW_ hHeld ?_
     refine zu 6 (some 68) (bb 24 79) HT_ ?_
     refine zk 7 (some 69) (bb 24 207) HT_ HW_ hHeld ?_
     refine zu 8 (some 70) (bb 24 463) HT_ ?_
     refine zk 9 (some 71) (bb 24 975) HT_ HW_ hHeld ?_
     refine zu 12 (some 74) (bb 24 5071) HT_ ?_
     refine zk 13 (some 75) (bb 24 13263) HT_ HW_ hHeld ?_
     refine zu 14 (some 76) (bb 24 29647) HT_ ?_
     refine zk 15 (some 77) (bb 24 62415) HT_ HW_ hHeld ?_
     have SF : Aside0 (∀ W1 : World, Below wz.heap.size wr W1 → W1.heap[ga]? = some (.cells #[.int .i64 y0, .int .i64 y1, .int .i64 y2] 93 (0, 0)) → W1.cell? ⟨g6, 2, none⟩ = some (.slice U2 e2.length q2) ∧ W1.cell? ⟨g6, 3, none⟩ = some (.slice U3 e3.length q3) ∧ W1.cell? ⟨g6, 4, none⟩ = some (.slice U4 e4.length q4) ∧ W1.cell? ⟨ga, 0, none⟩ = some (.int .i64 y0) ∧ W1.cell? ⟨ga, 1, none⟩ = some (.int .i64 y1) ∧ W1.cell? ⟨ga, 2, none⟩ = some (.int .i64 y2)) := ⟨fun W1 HB1 HA1 => ⟨(World.cell?_of_block (HB1.block g6 HG6Z.out.1)).trans G2.out, (World.cell?_of_block (HB1.block g6 HG6Z.out.1)).trans G3.out, (World.cell?_of_block (HB1.block g6 HG6Z.out.1)).trans G4.out, (blk_cell HA1 0).trans rfl, (blk_cell HA1 1).trans rfl, (blk_cell HA1 2).trans rfl⟩⟩
     refine join_ (σ := (Nat → Nat) × (Option Addr) × (Nat) × (Option Addr) × (Nat) × (Option Addr) × (Nat) × (Option Addr) × (Nat) × (Option Addr) × (Nat) × (Option Addr) × (Nat)) 5 (bb 24 524287) (fun s_ => [(66, (.slice s_.2.1 ([y0] : List Int).length s_.2.2.1)), (67, (.slice s_.2.2.2.1 x2.length s_.2.2.2.2.1)), (72, (.slice s_.2.2.2.2.2.1 ([y1] : List Int).length s_.2.2.2.2.2.2.1)), (73, (.slice s_.2.2.2.2.2.2.2.1 x3.length s_.2.2.2.2.2.2.2.2.1)), (78, (.slice s_.2.2.2.2.2.2.2.2.2.1 ([y2] : List Int).length s_.2.2.2.2.2.2.2.2.2.2.1)), (79, (.slice s_.2.2.2.2.2.2.2.2.2.2.2.1 x4.length s_.2.2.2.2.2.2.2.2.2.2.2.2)), (80, .pointer (some ⟨g6, 2, none⟩))]) (fun s_ w' => Below wz.heap.size wr w' ∧ (w'.heap[ga]? = some (.cells #[.int .i64 y0, .int .i64 y1, .int .i64 y2] 93 (0, 0)) ∧ s_.1 ga = 9) ∧ (∀ k_, k_ < wz.heap.size → s_.1 k_ = 9) ∧ Rz wz w' s_.1 2 (.slice s_.2.2.2.1 x2.length s_.2.2.2.2.1) x2 ∧ Rz wz w' s_.1 3 (.slice s_.2.2.2.2.2.2.2.1 x3.length s_.2.2.2.2.2.2.2.2.1) x3 ∧ Rz wz w' s_.1 4 (.slice s_.2.2.2.2.2.2.2.2.2.2.2.1 x4.length s_.2.2.2.2.2.2.2.2.2.2.2.2) x4) ?_ ?_
     rotate_left
     ·intro ST111111
      refine join_ (σ := (Nat → Nat) × (Option Addr) × (Nat) × (Option Addr) × (Nat) × (Option Addr) × (Nat) × (Option Addr) × (Nat) × (Option Addr) × (Nat) × (Option Addr) × (Nat)) 6 (bb 24 393215) (fun s_ => [(66, (.slice s_.2.1 ([y0] : List Int).length s_.2.2.1)), (67, (.slice s_.2.2.2.1 x2.length s_.2.2.2.2.1)), (72, (.slice s_.2.2.2.2.2.1 ([y1] : List Int).length s_.2.2.2.2.2.2.1)), (73, (.slice s_.2.2.2.2.2.2.2.1 x3.length s_.2.2.2.2.2.2.2.2.1)), (78, (.slice s_.2.2.2.2.2.2.2.2.2.1 ([y2] : List Int).length s_.2.2.2.2.2.2.2.2.2.2.1)), (80, .pointer (some ⟨g6, 2, none⟩))]) (fun s_ w' => Below wz.heap.size wr w' ∧ (w'.heap[ga]? = some (.cells #[.int .i64 y0, .int .i64 y1, .int .i64 y2] 93 (0, 0)) ∧ s_.1 ga = 9) ∧ (∀ k_, k_ < wz.heap.size → s_.1 k_ = 9) ∧ Rz wz w' s_.1 2 (.slice s_.2.2.2.1 x2.length s_.2.2.2.2.1) x2 ∧ Rz wz w' s_.1 3 (.slice s_.2.2.2.2.2.2.2.1 x3.length s_.2.2.2.2.2.2.2.2.1) x3 ∧ Rz wz w' s_.1 4 (.slice U4 e4.length q4) e4 ∧ Rz wz w' s_.1 13 (.slice s_.2.2.2.2.2.2.2.2.2.1 ([y2] : List Int).length s_.2.2.2.2.2.2.2.2.2.2.1) [y2]) ?_ ?_
      ·rintro ⟨f, S2, c2_, T2, d2, S3, c3_, T3, d3, S4, c4_, T4, d4⟩ W ⟨HB, HAR, HF, HR2, HR3, HR4, HS4⟩
       try dsimp only at *
       refine norm_ (a' := ?_) ?_ ?_
       rotate_left
       ·show putAll _ _ = _
        (simp only [putAll, ps]; first | done | rfl)
       refine zo 17 (some 79) (bb 24 524287) HT_ (fun K hK => ?_)
       refine app1 (f := f) (q := 4) (by rfl) (.tmp 75) (.tmp 78) rfl rfl rfl HR4 HS4 HB (Nat.le_trans HLZ.out HB.size) HEL.out.2.2 ?_
       intro u W1 ho HB1 hg_
       rw [← HXX.out.2.2] at ho
       obtain ⟨Au, cu, rfl⟩ := Kd.R_slice ho
       have HAR1 := b_app HAR HR4 (by decide) hg_ 4
       refine hK.out _ _ (SF.out _ HB1 HAR1.1) (fun hHeld => ?_)
       clear hK K
       refine nm ?_
       have hN := ST111111 ((ow f W.heap.size 4), S2, c2_, T2, d2, S3, c3_, T3, d3, S4, c4_, Au, cu) W1 ⟨HB1, HAR1, fun k_ hk_ => (ow_old (by have := HB.size; have := HLZ.out; omega)).trans (HF k_ hk_), (r_app HR2 HR4 (by decide) hg_ 4), (r_app HR3 HR4 (by decide) hg_ 4), ho⟩
       refine norm_ ?_ hN
       show _ = putAll _ _
       (simp only [putAll, ps]; first | done | rfl)
      intro ST111110
      refine join_ (σ := (Nat → Nat) × (Option Addr) × (Nat) × (Option Addr) × (Nat) × (Option Addr) × (Nat) × (Option Addr) × (Nat) × (Option Addr) × (Nat) × (Option Addr) × (Nat)) 7 (bb 24 391167) (fun s_ => [(66, (.slice s_.2.1 ([y0] : List Int).length s_.2.2.1)), (67, (.slice s_.2.2.2.1 x2.length s_.2.2.2.2.1)), (72, (.slice s_.2.2.2.2.2.1 ([y1] : List Int).length s_.2.2.2.2.2.2.1)), (78, (.slice s_.2.2.2.2.2.2.2.2.2.1 ([y2] : List Int).length s_.2.2.2.2.2.2.2.2.2.2.1)), (80, .pointer (some ⟨g6, 2, none⟩))]) (fun s_ w' => Below wz.heap.size wr w' ∧ (w'.heap[ga]? = some (.cells #[.int .i64 y0, .int .i64 y1, .int .i64 y2] 93 (0, 0)) ∧ s_.1 ga = 9) ∧ (∀ k_, k_ < wz.heap.size → s_.1 k_ = 9) ∧ Rz wz w' s_.1 2 (.slice s_.2.2.2.1 x2.length s_.2.2.2.2.1) x2 ∧ Rz wz w' s_.1 3 (.slice U3 e3.length q3) e3 ∧ Rz wz w' s_.1 12 (.slice s_.2.2.2.2.2.1 ([y1] : List Int).length s_.2.2.2.2.2.2.1) [y1] ∧ Rz wz w' s_.1 4 (.slice U4 e4.length q4) e4 ∧ Rz wz w' s_.1 13 (.slice s_.2.2.2.2.2.2.2.2.2.1 ([y2] : List Int).length s_.2.2.2.2.2.2.2.2.2.2.1) [y2]) ?_ ?_
      ·rintro ⟨f, S2, c2_, T2, d2, S3, c3_, T3, d3, S4, c4_, T4, d4⟩ W ⟨HB, HAR, HF, HR2, HR3, HS3, HR4, HS4⟩
       try dsimp only at *
       refine norm_ (a' := ?_) ?_ ?_
       rotate_left
       ·show putAll _ _ = _
        (simp only [putAll, ps]; first | done | rfl)
       refine zo 11 (some 73) (bb 24 393215) HT_ (fun K hK => ?_)
       refine app1 (f := f) (q := 3) (by rfl) (.tmp 69) (.tmp 72) rfl rfl rfl HR3 HS3 HB (Nat.le_trans HLZ.out HB.size) HEL.out.2.1 ?_
       intro u W1 ho HB1 hg_
       rw [← HXX.out.2.1] at ho
       obtain ⟨Au, cu, rfl⟩ := Kd.R_slice ho
       have HAR1 := b_app HAR HR3 (by decide) hg_ 3
       refine hK.out _ _ (SF.out _ HB1 HAR1.1) (fun hHeld => ?_)
       clear hK K
       refine nm ?_
       have hN := ST111110 ((ow f W.heap.size 3), S2, c2_, T2, d2, S3, c3_, Au, cu, S4, c4_, none, 0) W1 ⟨HB1, HAR1, fun k_ hk_ => (ow_old (by have := HB.size; have := HLZ.out; omega)).trans (HF k_ hk_), (r_app HR2 HR3 (by decide) hg_ 3), ho, (r_app HR4 HR3 (by decide) hg_ 3), (r_app HS4 HR3 (by decide) hg_ 3)⟩
       refine norm_ ?_ hN
       show _ = putAll _ _
       (simp only [putAll, ps]; first | done | rfl)
      intro ST111010
      refine join_ (σ := (Nat → Nat) × (Option Addr) × (Nat) × (Option Addr) × (Nat) × (Option Addr) × (Nat) × (Option Addr) × (Nat) × (Option Addr) × (Nat) × (Option Addr) × (Nat)) 7 (bb 24 327679) (fun s_ => [(66, (.slice s_.2.1 ([y0] : List Int).length s_.2.2.1)), (67, (.slice s_.2.2.2.1 x2.length s_.2.2.2.2.1)), (72, (.slice s_.2.2.2.2.2.1 ([y1] : List Int).length s_.2.2.2.2.2.2.1)), (73, (.slice s_.2.2.2.2.2.2.2.1 x3.length s_.2.2.2.2.2.2.2.2.1)), (80, .pointer (some ⟨g6, 2, none⟩))]) (fun s_ w' => Below wz.heap.size wr w' ∧ (w'.heap[ga]? = some (.cells #[.int .i64 y0, .int .i64 y1, .int .i64 y2] 93 (0, 0)) ∧ s_.1 ga = 9) ∧ (∀ k_, k_ < wz.heap.size → s_.1 k_ = 9) ∧ Rz wz w' s_.1 2 (.slice s_.2.2.2.1 x2.length s_.2.2.2.2.1) x2 ∧ Rz wz w' s_.1 3 (.slice s_.2.2.2.2.2.2.2.1 x3.length s_.2.2.2.2.2.2.2.2.1) x3 ∧ Rz wz w' s_.1 4 (.slice U4 e4.length q4) e4) ?_ ?_
      ·rintro ⟨f, S2, c2_, T2, d2, S3, c3_, T3, d3, S4, c4_, T4, d4⟩ W ⟨HB, HAR, HF, HR2, HR3, HR4⟩
       try dsimp only at *
       refine norm_ (a' := ?_) ?_ ?_
       rotate_left
       ·show putAll _ _ = _
        (simp only [putAll, ps]; first | done | rfl)
       refine zo 16 (some 78) (bb 24 393215) HT_ (fun K hK => ?_)
       refine lit1 (x := y2) (N := 78) ?hg ?hd ?hr ?_; (case hd => rfl); (case hg => rfl); (case hr => first | (go_simp; done) | (go_simp; rfl))
       intro s_v W1 ho hb
       have HB1 := below_mix HB hb (Nat.le_trans HLZ.out HB.size)
       have HAR1 := b_fresh HAR hb 13
       obtain ⟨As, cs, rfl⟩ := Kd.R_slice ho
       refine hK.out _ _ (SF.out _ HB1 HAR1.1) (fun hHeld => ?_)
       clear hK K
       refine nm ?_
       have hN := ST111110 ((ow f W.heap.size 13), S2, c2_, T2, d2, S3, c3_, T3, d3, As, cs, none, 0) W1 ⟨HB1, HAR1, fun k_ hk_ => (ow_old (by have := HB.size; have := HLZ.out; omega)).trans (HF k_ hk_), (r_fresh HR2 hb 13), (r_fresh HR3 hb 13), (r_fresh HR4 hb 13), (r_lit f ho (Nat.le_trans HLZ.out HB.size) 13)⟩
       refine norm_ ?_ hN
       show _ = putAll _ _
       (simp only [putAll, ps]; first | done | rfl)
      intro ST111100
      refine join_ (σ := (Nat → Nat) × (Option Addr) × (Nat) × (Option Addr) × (Nat) × (Option Addr) × (Nat) × (Option Addr) × (Nat) × (Option Addr) × (Nat) × (Option Addr) × (Nat)) 9 (bb 24 128991) (fun s_ => [(66, (.slice s_.2.1 ([y0] : List Int).length s_.2.2.1)), (72, (.slice s_.2.2.2.2.2.1 ([y1] : List Int).length s_.2.2.2.2.2.2.1)), (78, (.slice s_.2.2.2.2.2.2.2.2.2.1 ([y2] : List Int).length s_.2.2.2.2.2.2.2.2.2.2.1))]) (fun s_ w' => Below wz.heap.size wr w' ∧ (w'.heap[ga]? = some (.cells #[.int .i64 y0, .int .i64 y1, .int .i64 y2] 93 (0, 0)) ∧ s_.1 ga = 9) ∧ (∀ k_, k_ < wz.heap.size → s_.1 k_ = 9) ∧ Rz wz w' s_.1 2 (.slice U2 e2.length q2) e2 ∧ Rz wz w' s_.1 11 (.slice s_.2.1 ([y0] : List Int).length s_.2.2.1) [y0] ∧ Rz wz w' s_.1 3 (.slice U3 e3.length q3) e3 ∧ Rz wz w' s_.1 12 (.slice s_.2.2.2.2.2.1 ([y1] : List Int).length s_.2.2.2.2.2.2.1) [y1] ∧ Rz wz w' s_.1 4 (.slice U4 e4.length q4) e4 ∧ Rz wz w' s_.1 13 (.slice s_.2.2.2.2.2.2.2.2.2.1 ([y2] : List Int).length s_.2.2.2.2.2.2.2.2.2.2.1) [y2]) ?_ ?_
      ·rintro ⟨f, S2, c2_, T2, d2, S3, c3_, T3, d3, S4, c4_, T4, d4⟩ W ⟨HB, HAR, HF, HR2, HS2, HR3, HS3, HR4, HS4⟩
       try dsimp only at *
       refine norm_ (a' := ?_) ?_ ?_
       rotate_left
       ·show putAll _ _ = _
        (simp only [putAll, ps]; first | done | rfl)
       refine zo 5 (some 67) (bb 24 129023) HT_ (fun K hK => ?_)
       refine app1 (f := f) (q := 2) (by rfl) (.tmp 63) (.tmp 66) rfl rfl rfl HR2 HS2 HB (Nat.le_trans HLZ.out HB.size) HEL.out.1 ?_
       intro u W1 ho HB1 hg_
       rw [← HXX.out.1] at ho
       obtain ⟨Au, cu, rfl⟩ := Kd.R_slice ho
       have HAR1 := b_app HAR HR2 (by decide) hg_ 2
       refine hK.out _ _ (SF.out _ HB1 HAR1.1) (fun hHeld => ?_)
       clear hK K
       refine nm ?_
       refine zu 18 (some 80) (bb 24 391167) HT_ ?_
       have hN := ST111010 ((ow f W.heap.size 2), S2, c2_, Au, cu, S3, c3_, none, 0, S4, c4_, none, 0) W1 ⟨HB1, HAR1, fun k_ hk_ => (ow_old (by have := HB.size; have := HLZ.out; omega)).trans (HF k_ hk_), ho, (r_app HR3 HR2 (by decide) hg_ 2), (r_app HS3 HR2 (by decide) hg_ 2), (r_app HR4 HR2 (by decide) hg_ 2), (r_app HS4 HR2 (by decide) hg_ 2)⟩
       refine norm_ ?_ hN
       show _ = putAll _ _
       (simp only [putAll, ps]; first | done | rfl)
      intro ST101010
      refine join_ (σ := (Nat → Nat) × (Option Addr) × (Nat) × (Option Addr) × (Nat) × (Option Addr) × (Nat) × (Option Addr) × (Nat) × (Option Addr) × (Nat) × (Option Addr) × (Nat)) 8 (bb 24 390143) (fun s_ => [(66, (.slice s_.2.1 ([y0] : List Int).length s_.2.2.1)), (67, (.slice s_.2.2.2.1 x2.length s_.2.2.2.2.1)), (78, (.slice s_.2.2.2.2.2.2.2.2.2.1 ([y2] : List Int).length s_.2.2.2.2.2.2.2.2.2.2.1)), (80, .pointer (some ⟨g6, 2, none⟩))]) (fun s_ w' => Below wz.heap.size wr w' ∧ (w'.heap[ga]? = some (.cells #[.int .i64 y0, .int .i64 y1, .int .i64 y2] 93 (0, 0)) ∧ s_.1 ga = 9) ∧ (∀ k_, k_ < wz.heap.size → s_.1 k_ = 9) ∧ Rz wz w' s_.1 2 (.slice s_.2.2.2.1 x2.length s_.2.2.2.2.1) x2 ∧ Rz wz w' s_.1 3 (.slice U3 e3.length q3) e3 ∧ Rz wz w' s_.1 4 (.slice U4 e4.length q4) e4 ∧ Rz wz w' s_.1 13 (.slice s_.2.2.2.2.2.2.2.2.2.1 ([y2] : List Int).length s_.2.2.2.2.2.2.2.2.2.2.1) [y2]) ?_ ?_
      ·rintro ⟨f, S2, c2_, T2, d2, S3, c3_, T3, d3, S4, c4_, T4, d4⟩ W ⟨HB, HAR, HF, HR2, HR3, HR4, HS4⟩
       try dsimp only at *
       refine norm_ (a' := ?_) ?_ ?_
       rotate_left
       ·show putAll _ _ = _
        (simp only [putAll, ps]; first | done | rfl)
       refine zo 10 (some 72) (bb 24 391167) HT_ (fun K hK => ?_)
       refine lit1 (x := y1) (N := 72) ?hg ?hd ?hr ?_; (case hd => rfl); (case hg => rfl); (case hr => first | (go_simp; done) | (go_simp; rfl))
       intro s_v W1 ho hb
       have HB1 := below_mix HB hb (Nat.le_trans HLZ.out HB.size)
       have HAR1 := b_fresh HAR hb 12
       obtain ⟨As, cs, rfl⟩ := Kd.R_slice ho
       refine hK.out _ _ (SF.out _ HB1 HAR1.1) (fun hHeld => ?_)
       clear hK K
       refine nm ?_
       have hN := ST111010 ((ow f W.heap.size 12), S2, c2_, T2, d2, As, cs, none, 0, S4, c4_, none, 0) W1 ⟨HB1, HAR1, fun k_ hk_ => (ow_old (by have := HB.size; have := HLZ.out; omega)).trans (HF k_ hk_), (r_fresh HR2 hb 12), (r_fresh HR3 hb 12), (r_lit f ho (Nat.le_trans HLZ.out HB.size) 12), (r_fresh HR4 hb 12), (r_fresh HS4 hb 12)⟩
       refine norm_ ?_ hN
       show _ = putAll _ _
       (simp only [putAll, ps]; first | done | rfl)
      intro ST110010
      refine join_ (σ := (Nat → Nat) × (Option Addr) × (Nat) × (Option Addr) × (Nat) × (Option Addr) × (Nat) × (Option Addr) × (Nat) × (Option Addr) × (Nat) × (Option Addr) × (Nat)) 8 (bb 24 325631) (fun s_ => [(66, (.slice s_.2.1 ([y0] : List Int).length s_.2.2.1)), (67, (.slice s_.2.2.2.1 x2.length s_.2.2.2.2.1)), (72, (.slice s_.2.2.2.2.2.1 ([y1] : List Int).length s_.2.2.2.2.2.2.1)), (80, .pointer (some ⟨g6, 2, none⟩))]) (fun s_ w' => Below wz.heap.size wr w' ∧ (w'.heap[ga]? = some (.cells #[.int .i64 y0, .int .i64 y1, .int .i64 y2] 93 (0, 0)) ∧ s_.1 ga = 9) ∧ (∀ k_, k_ < wz.heap.size → s_.1 k_ = 9) ∧ Rz wz w' s_.1 2 (.slice s_.2.2.2.1 x2.length s_.2.2.2.2.1) x2 ∧ Rz wz w' s_.1 3 (.slice U3 e3.length q3) e3 ∧ Rz wz w' s_.1 12 (.slice s_.2.2.2.2.2.1 ([y1] : List Int).length s_.2.2.2.2.2.2.1) [y1] ∧ Rz wz w' s_.1 4 (.slice U4 e4.length q4) e4) ?_ ?_
      ·rintro ⟨f, S2, c2_, T2, d2, S3, c3_, T3, d3, S4, c4_, T4, d4⟩ W ⟨HB, HAR, HF, HR2, HR3, HS3, HR4⟩
       try dsimp only at *
       refine norm_ (a' := ?_) ?_ ?_
       rotate_left
       ·show putAll _ _ = _
        (simp only [putAll, ps]; first | done | rfl)
       refine two_ (i := 11) (j := 16) (Ni := some 73) (Nj := some 78) (bb 24 327679) (bb 24 391167) rfl rfl rfl rfl (two_of HT_.out (by kernel_rfl)) (by decide) (by decide) (fun K hK => ?_) (fun K hK => ?_)
       ·refine app1 (f := f) (q := 3) (by rfl) (.tmp 69) (.tmp 72) rfl rfl rfl HR3 HS3 HB (Nat.le_trans HLZ.out HB.size) HEL.out.2.1 ?_
        intro u W1 ho HB1 hg_
        rw [← HXX.out.2.1] at ho
        obtain ⟨Au, cu, rfl⟩ := Kd.R_slice ho
        have HAR1 := b_app HAR HR3 (by decide) hg_ 3
        refine hK.out _ _ (SF.out _ HB1 HAR1.1) (fun hHeld => ?_)
        clear hK K
        refine nm ?_
        have hN := ST111100 ((ow f W.heap.size 3), S2, c2_, T2, d2, S3, c3_, Au, cu, none, 0, none, 0) W1 ⟨HB1, HAR1, fun k_ hk_ => (ow_old (by have := HB.size; have := HLZ.out; omega)).trans (HF k_ hk_), (r_app HR2 HR3 (by decide) hg_ 3), ho, (r_app HR4 HR3 (by decide) hg_ 3)⟩
        refine norm_ ?_ hN
        show _ = putAll _ _
        (simp only [putAll, ps]; first | done | rfl)
       ·refine lit1 (x := y2) (N := 78) ?hg ?hd ?hr ?_; (case hd => rfl); (case hg => rfl); (case hr => first | (go_simp; done) | (go_simp; rfl))
        intro s_v W1 ho hb
        have HB1 := below_mix HB hb (Nat.le_trans HLZ.out HB.size)
        have HAR1 := b_fresh HAR hb 13
        obtain ⟨As, cs, rfl⟩ := Kd.R_slice ho
        refine hK.out _ _ (SF.out _ HB1 HAR1.1) (fun hHeld => ?_)
        clear hK K
        refine nm ?_
        have hN := ST111010 ((ow f W.heap.size 13), S2, c2_, T2, d2, S3, c3_, none, 0, As, cs, none, 0) W1 ⟨HB1, HAR1, fun k_ hk_ => (ow_old (by have := HB.size; have := HLZ.out; omega)).trans (HF k_ hk_), (r_fresh HR2 hb 13), (r_fresh HR3 hb 13), (r_fresh HS3 hb 13), (r_fresh HR4 hb 13), (r_lit f ho (Nat.le_trans HLZ.out HB.size) 13)⟩
        refine norm_ ?_ hN
        show _ = putAll _ _
        (simp only [putAll, ps]; first | done | rfl)
      intro ST111000
      refine join_ (σ := (Nat → Nat) × (Option Addr) × (Nat) × (Option Addr) × (Nat) × (Option Addr) × (Nat) × (Option Addr) × (Nat) × (Option Addr) × (Nat) × (Option Addr) × (Nat)) 10 (bb 24 128975) (fun s_ => [(72, (.slice s_.2.2.2.2.2.1 ([y1] : List Int).length s_.2.2.2.2.2.2.1)), (78, (.slice s_.2.2.2.2.2.2.2.2.2.1 ([y2] : List Int).length s_.2.2.2.2.2.2.2.2.2.2.1))]) (fun s_ w' => Below wz.heap.size wr w' ∧ (w'.heap[ga]? = some (.cells #[.int .i64 y0, .int .i64 y1, .int .i64 y2] 93 (0, 0)) ∧ s_.1 ga = 9) ∧ (∀ k_, k_ < wz.heap.size → s_.1 k_ = 9) ∧ Rz wz w' s_.1 2 (.slice U2 e2.length q2) e2 ∧ Rz wz w' s_.1 3 (.slice U3 e3.length q3) e3 ∧ Rz wz w' s_.1 12 (.slice s_.2.2.2.2.2.1 ([y1] : List Int).length s_.2.2.2.2.2.2.1) [y1] ∧ Rz wz w' s_.1 4 (.slice U4 e4.length q4) e4 ∧ Rz wz w' s_.1 13 (.slice s_.2.2.2.2.2.2.2.2.2.1 ([y2] : List Int).length s_.2.2.2.2.2.2.2.2.2.2.1) [y2]) ?_ ?_
      ·rintro ⟨f, S2, c2_, T2, d2, S3, c3_, T3, d3, S4, c4_, T4, d4⟩ W ⟨HB, HAR, HF, HR2, HR3, HS3, HR4, HS4⟩
       try dsimp only at *
       refine norm_ (a' := ?_) ?_ ?_
       rotate_left
       ·show putAll _ _ = _
        (simp only [putAll, ps]; first | done | rfl)
       refine zo 4 (some 66) (bb 24 128991) HT_ (fun K hK => ?_)
       refine lit1 (x := y0) (N := 66) ?hg ?hd ?hr ?_; (case hd => rfl); (case hg => rfl); (case hr => first | (go_simp; done) | (go_simp; rfl))
       intro s_v W1 ho hb
       have HB1 := below_mix HB hb (Nat.le_trans HLZ.out HB.size)
       have HAR1 := b_fresh HAR hb 11
       obtain ⟨As, cs, rfl⟩ := Kd.R_slice ho
       refine hK.out _ _ (SF.out _ HB1 HAR1.1) (fun hHeld => ?_)
       clear hK K
       refine nm ?_
       have hN := ST101010 ((ow f W.heap.size 11), As, cs, none, 0, S3, c3_, none, 0, S4, c4_, none, 0) W1 ⟨HB1, HAR1, fun k_ hk_ => (ow_old (by have := HB.size; have := HLZ.out; omega)).trans (HF k_ hk_), (r_fresh HR2 hb 11), (r_lit f ho (Nat.le_trans HLZ.out HB.size) 11), (r_fresh HR3 hb 11), (r_fresh HS3 hb 11), (r_fresh HR4 hb 11), (r_fresh HS4 hb 11)⟩
       refine norm_ ?_ hN
       show _ = putAll _ _
       (simp only [putAll, ps]; first | done | rfl)
      intro ST001010
      refine join_ (σ := (Nat → Nat) × (Option Addr) × (Nat) × (Option Addr) × (Nat) × (Option Addr) × (Nat) × (Option Addr) × (Nat) × (Option Addr) × (Nat) × (Option Addr) × (Nat)) 10 (bb 24 127967) (fun s_ => [(66, (.slice s_.2.1 ([y0] : List Int).length s_.2.2.1)), (78, (.slice s_.2.2.2.2.2.2.2.2.2.1 ([y2] : List Int).length s_.2.2.2.2.2.2.2.2.2.2.1))]) (fun s_ w' => Below wz.heap.size wr w' ∧ (w'.heap[ga]? = some (.cells #[.int .i64 y0, .int .i64 y1, .int .i64 y2] 93 (0, 0)) ∧ s_.1 ga = 9) ∧ (∀ k_, k_ < wz.heap.size → s_.1 k_ = 9) ∧ Rz wz w' s_.1 2 (.slice U2 e2.length q2) e2 ∧ Rz wz w' s_.1 11 (.slice s_.2.1 ([y0] : List Int).length s_.2.2.1) [y0] ∧ Rz wz w' s_.1 3 (.slice U3 e3.length q3) e3 ∧ Rz wz w' s_.1 4 (.slice U4 e4.length q4) e4 ∧ Rz wz w' s_.1 13 (.slice s_.2.2.2.2.2.2.2.2.2.1 ([y2] : List Int).length s_.2.2.2.2.2.2.2.2.2.2.1) [y2]) ?_ ?_
      ·rintro ⟨f, S2, c2_, T2, d2, S3, c3_, T3, d3, S4, c4_, T4, d4⟩ W ⟨HB, HAR, HF, HR2, HS2, HR3, HR4, HS4⟩
       try dsimp only at *
       refine norm_ (a' := ?_) ?_ ?_
       rotate_left
       ·show putAll _ _ = _
        (simp only [putAll, ps]; first | done | rfl)
       refine two_ (i := 5) (j := 10) (Ni := some 67) (Nj := some 72) (bb 24 127999) (bb 24 128991) rfl rfl rfl rfl (two_of HT_.out (by kernel_rfl)) (by decide) (by decide) (fun K hK => ?_) (fun K hK => ?_)
       ·refine app1 (f := f) (q := 2) (by rfl) (.tmp 63) (.tmp 66) rfl rfl rfl HR2 HS2 HB (Nat.le_trans HLZ.out HB.size) HEL.out.1 ?_
        intro u W1 ho HB1 hg_
        rw [← HXX.out.1] at ho
        obtain ⟨Au, cu, rfl⟩ := Kd.R_slice ho
        have HAR1 := b_app HAR HR2 (by decide) hg_ 2
        refine hK.out _ _ (SF.out _ HB1 HAR1.1) (fun hHeld => ?_)
        clear hK K
        refine nm ?_
        refine zu 18 (some 80) (bb 24 390143) HT_ ?_
        have hN := ST110010 ((ow f W.heap.size 2), S2, c2_, Au, cu, none, 0, none, 0, S4, c4_, none, 0) W1 ⟨HB1, HAR1, fun k_ hk_ => (ow_old (by have := HB.size; have := HLZ.out; omega)).trans (HF k_ hk_), ho, (r_app HR3 HR2 (by decide) hg_ 2), (r_app HR4 HR2 (by decide) hg_ 2), (r_app HS4 HR2 (by decide) hg_ 2)⟩
        refine norm_ ?_ hN
        show _ = putAll _ _
        (simp only [putAll, ps]; first | done | rfl)
       ·refine lit1 (x := y1) (N := 72) ?hg ?hd ?hr ?_; (case hd => rfl); (case hg => rfl); (case hr => first | (go_simp; done) | (go_simp; rfl))
        intro s_v W1 ho hb
        have HB1 := below_mix HB hb (Nat.le_trans HLZ.out HB.size)
        have HAR1 := b_fresh HAR hb 12
        obtain ⟨As, cs, rfl⟩ := Kd.R_slice ho
        refine hK.out _ _ (SF.out _ HB1 HAR1.1) (fun hHeld => ?_)
        clear hK K
        refine nm ?_
        have hN := ST101010 ((ow f W.heap.size 12), S2, c2_, none, 0, As, cs, none, 0, S4, c4_, none, 0) W1 ⟨HB1, HAR1, fun k_ hk_ => (ow_old (by have := HB.size; have := HLZ.out; omega)).trans (HF k_ hk_), (r_fresh HR2 hb 12), (r_fresh HS2 hb 12), (r_fresh HR3 hb 12), (r_lit f ho (Nat.le_trans HLZ.out HB.size) 12), (r_fresh HR4 hb 12), (r_fresh HS4 hb 12)⟩
        refine norm_ ?_ hN
        show _ = putAll _ _
        (simp only [putAll, ps]; first | done | rfl)
      intro ST100010
      refine join_ (σ := (Nat → Nat) × (Option Addr) × (Nat) × (Option Addr) × (Nat) × (Option Addr) × (Nat) × (Option Addr) × (Nat) × (Option Addr) × (Nat) × (Option Addr) × (Nat)) 10 (bb 24 63455) (fun s_ => [(66, (.slice s_.2.1 ([y0] : List Int).length s_.2.2.1)), (72, (.slice s_.2.2.2.2.2.1 ([y1] : List Int).length s_.2.2.2.2.2.2.1))]) (fun s_ w' => Below wz.heap.size wr w' ∧ (w'.heap[ga]? = some (.cells #[.int .i64 y0, .int .i64 y1, .int .i64 y2] 93 (0, 0)) ∧ s_.1 ga = 9) ∧ (∀ k_, k_ < wz.heap.size → s_.1 k_ = 9) ∧ Rz wz w' s_.1 2 (.slice U2 e2.length q2) e2 ∧ Rz wz w' s_.1 11 (.slice s_.2.1 ([y0] : List Int).length s_.2.2.1) [y0] ∧ Rz wz w' s_.1 3 (.slice U3 e3.length q3) e3 ∧ Rz wz w' s_.1 12 (.slice s_.2.2.2.2.2.1 ([y1] : List Int).length s_.2.2.2.2.2.2.1) [y1] ∧ Rz wz w' s_.1 4 (.slice U4 e4.length q4) e4) ?_ ?_
      ·rintro ⟨f, S2, c2_, T2, d2, S3, c3_, T3, d3, S4, c4_, T4, d4⟩ W ⟨HB, HAR, HF, HR2, HS2, HR3, HS3, HR4⟩
       try dsimp only at *
       refine norm_ (a' := ?_) ?_ ?_
       rotate_left
       ·show putAll _ _ = _
        (simp only [putAll, ps]; first | done | rfl)
       refine two_ (i := 5) (j := 16) (Ni := some 67) (Nj := some 78) (bb 24 63487) (bb 24 128991) rfl rfl rfl rfl (two_of HT_.out (by kernel_rfl)) (by decide) (by decide) (fun K hK => ?_) (fun K hK => ?_)
       ·refine app1 (f := f) (q := 2) (by rfl) (.tmp 63) (.tmp 66) rfl rfl rfl HR2 HS2 HB (Nat.le_trans HLZ.out HB.size) HEL.out.1 ?_
        intro u W1 ho HB1 hg_
        rw [← HXX.out.1] at ho
        obtain ⟨Au, cu, rfl⟩ := Kd.R_slice ho
        have HAR1 := b_app HAR HR2 (by decide) hg_ 2
        refine hK.out _ _ (SF.out _ HB1 HAR1.1) (fun hHeld => ?_)
        clear hK K
        refine nm ?_
        refine zu 18 (some 80) (bb 24 325631) HT_ ?_
        have hN := ST111000 ((ow f W.heap.size 2), S2, c2_, Au, cu, S3, c3_, none, 0, none, 0, none, 0) W1 ⟨HB1, HAR1, fun k_ hk_ => (ow_old (by have := HB.size; have := HLZ.out; omega)).trans (HF k_ hk_), ho, (r_app HR3 HR2 (by decide) hg_ 2), (r_app HS3 HR2 (by decide) hg_ 2), (r_app HR4 HR2 (by decide) hg_ 2)⟩
        refine norm_ ?_ hN
        show _ = putAll _ _
        (simp only [putAll, ps]; first | done | rfl)
       ·refine lit1 (x := y2) (N := 78) ?hg ?hd ?hr ?_; (case hd => rfl); (case hg => rfl); (case hr => first | (go_simp; done) | (go_simp; rfl))
        intro s_v W1 ho hb
        have HB1 := below_mix HB hb (Nat.le_trans HLZ.out HB.size)
        have HAR1 := b_fresh HAR hb 13
        obtain ⟨As, cs, rfl⟩ := Kd.R_slice ho
        refine hK.out _ _ (SF.out _ HB1 HAR1.1) (fun hHeld => ?_)
        clear hK K
        refine nm ?_
        have hN := ST101010 ((ow f W.heap.size 13), S2, c2_, none, 0, S3, c3_, none, 0, As, cs, none, 0) W1 ⟨HB1, HAR1, fun k_ hk_ => (ow_old (by have := HB.size; have := HLZ.out; omega)).trans (HF k_ hk_), (r_fresh HR2 hb 13), (r_fresh HS2 hb 13), (r_fresh HR3 hb 13), (r_fresh HS3 hb 13), (r_fresh HR4 hb 13), (r_lit f ho (Nat.le_trans HLZ.out HB.size) 13)⟩
        refine norm_ ?_ hN
        show _ = putAll _ _
        (simp only [putAll, ps]; first | done | rfl)
      intro ST101000
      refine join_ (σ := (Nat → Nat) × (Option Addr) × (Nat) × (Option Addr) × (Nat) × (Option Addr) × (Nat) × (Option Addr) × (Nat) × (Option Addr) × (Nat) × (Option Addr) × (Nat)) 9 (bb 24 324607) (fun s_ => [(66, (.slice s_.2.1 ([y0] : List Int).length s_.2.2.1)), (67, (.slice s_.2.2.2.1 x2.length s_.2.2.2.2.1)), (80, .pointer (some ⟨g6, 2, none⟩))]) (fun s_ w' => Below wz.heap.size wr w' ∧ (w'.heap[ga]? = some (.cells #[.int .i64 y0, .int .i64 y1, .int .i64 y2] 93 (0, 0)) ∧ s_.1 ga = 9) ∧ (∀ k_, k_ < wz.heap.size → s_.1 k_ = 9) ∧ Rz wz w' s_.1 2 (.slice s_.2.2.2.1 x2.length s_.2.2.2.2.1) x2 ∧ Rz wz w' s_.1 3 (.slice U3 e3.length q3) e3 ∧ Rz wz w' s_.1 4 (.slice U4 e4.length q4) e4) ?_ ?_
      ·rintro ⟨f, S2, c2_, T2, d2, S3, c3_, T3, d3, S4, c4_, T4, d4⟩ W ⟨HB, HAR, HF, HR2, HR3, HR4⟩
       try dsimp only at *
       refine norm_ (a' := ?_) ?_ ?_
       rotate_left
       ·show putAll _ _ = _
        (simp only [putAll, ps]; first | done | rfl)
       refine two_ (i := 10) (j := 16) (Ni := some 72) (Nj := some 78) (bb 24 325631) (bb 24 390143) rfl rfl rfl rfl (two_of HT_.out (by kernel_rfl)) (by decide) (by decide) (fun K hK => ?_) (fun K hK => ?_)
       ·refine lit1 (x := y1) (N := 72) ?hg ?hd ?hr ?_; (case hd => rfl); (case hg => rfl); (case hr => first | (go_simp; done) | (go_simp; rfl))
        intro s_v W1 ho hb
        have HB1 := below_mix HB hb (Nat.le_trans HLZ.out HB.size)
        have HAR1 := b_fresh HAR hb 12
        obtain ⟨As, cs, rfl⟩ := Kd.R_slice ho
        refine hK.out _ _ (SF.out _ HB1 HAR1.1) (fun hHeld => ?_)
        clear hK K
        refine nm ?_
        have hN := ST111000 ((ow f W.heap.size 12), S2, c2_, T2, d2, As, cs, none, 0, none, 0, none, 0) W1 ⟨HB1, HAR1, fun k_ hk_ => (ow_old (by have := HB.size; have := HLZ.out; omega)).trans (HF k_ hk_), (r_fresh HR2 hb 12), (r_fresh HR3 hb 12), (r_lit f ho (Nat.le_trans HLZ.out HB.size) 12), (r_fresh HR4 hb 12)⟩
        refine norm_ ?_ hN
        show _ = putAll _ _
        (simp only [putAll, ps]; first | done | rfl)
       ·refine lit1 (x := y2) (N := 78) ?hg ?hd ?hr ?_; (case hd => rfl); (case hg => rfl); (case hr => first | (go_simp; done) | (go_simp; rfl))
        intro s_v W1 ho hb
        have HB1 := below_mix HB hb (Nat.le_trans HLZ.out HB.size)
        have HAR1 := b_fresh HAR hb 13
        obtain ⟨As, cs, rfl⟩ := Kd.R_slice ho
        refine hK.out _ _ (SF.out _ HB1 HAR1.1) (fun hHeld => ?_)
        clear hK K
        refine nm ?_
        have hN := ST110010 ((ow f W.heap.size 13), S2, c2_, T2, d2, none, 0, none, 0, As, cs, none, 0) W1 ⟨HB1, HAR1, fun k_ hk_ => (ow_old (by have := HB.size; have := HLZ.out; omega)).trans (HF k_ hk_), (r_fresh HR2 hb 13), (r_fresh HR3 hb 13), (r_fresh HR4 hb 13), (r_lit f ho (Nat.le_trans HLZ.out HB.size) 13)⟩
        refine norm_ ?_ hN
        show _ = putAll _ _
        (simp only [putAll, ps]; first | done | rfl)
      intro ST110000
      refine join_ (σ := (Nat → Nat) × (Option Addr) × (Nat) × (Option Addr) × (Nat) × (Option Addr) × (Nat) × (Option Addr) × (Nat) × (Option Addr) × (Nat) × (Option Addr) × (Nat)) 11 (bb 24 127951) (fun s_ => [(78, (.slice s_.2.2.2.2.2.2.2.2.2.1 ([y2] : List Int).length s_.2.2.2.2.2.2.2.2.2.2.1))]) (fun s_ w' => Below wz.heap.size wr w' ∧ (w'.heap[ga]? = some (.cells #[.int .i64 y0, .int .i64 y1, .int .i64 y2] 93 (0, 0)) ∧ s_.1 ga = 9) ∧ (∀ k_, k_ < wz.heap.size → s_.1 k_ = 9) ∧ Rz wz w' s_.1 2 (.slice U2 e2.length q2) e2 ∧ Rz wz w' s_.1 3 (.slice U3 e3.length q3) e3 ∧ Rz wz w' s_.1 4 (.slice U4 e4.length q4) e4 ∧ Rz wz w' s_.1 13 (.slice s_.2.2.2.2.2.2.2.2.2.1 ([y2] : List Int).length s_.2.2.2.2.2.2.2.2.2.2.1) [y2]) ?_ ?_
      ·rintro ⟨f, S2, c2_, T2, d2, S3, c3_, T3, d3, S4, c4_, T4, d4⟩ W ⟨HB, HAR, HF, HR2, HR3, HR4, HS4⟩
       try dsimp only at *
       refine norm_ (a' := ?_) ?_ ?_
       rotate_left
       ·show putAll _ _ = _
        (simp only [putAll, ps]; first | done | rfl)
       refine two_ (i := 4) (j := 10) (Ni := some 66) (Nj := some 72) (bb 24 127967) (bb 24 128975) rfl rfl rfl rfl (two_of HT_.out (by kernel_rfl)) (by decide) (by decide) (fun K hK => ?_) (fun K hK => ?_)
       ·refine lit1 (x := y0) (N := 66) ?hg ?hd ?hr ?_; (case hd => rfl); (case hg => rfl); (case hr => first | (go_simp; done) | (go_simp; rfl))
        intro s_v W1 ho hb
        have HB1 := below_mix HB hb (Nat.le_trans HLZ.out HB.size)
        have HAR1 := b_fresh HAR hb 11
        obtain ⟨As, cs, rfl⟩ := Kd.R_slice ho
        refine hK.out _ _ (SF.out _ HB1 HAR1.1) (fun hHeld => ?_)
        clear hK K
        refine nm ?_
        have hN := ST100010 ((ow f W.heap.size 11), As, cs, none, 0, none, 0, none, 0, S4, c4_, none, 0) W1 ⟨HB1, HAR1, fun k_ hk_ => (ow_old (by have := HB.size; have := HLZ.out; omega)).trans (HF k_ hk_), (r_fresh HR2 hb 11), (r_lit f ho (Nat.le_trans HLZ.out HB.size) 11), (r_fresh HR3 hb 11), (r_fresh HR4 hb 11), (r_fresh HS4 hb 11)⟩
        refine norm_ ?_ hN
        show _ = putAll _ _
        (simp only [putAll, ps]; first | done | rfl)
       ·refine lit1 (x := y1) (N := 72) ?hg ?hd ?hr ?_; (case hd => rfl); (case hg => rfl); (case hr => first | (go_simp; done) | (go_simp; rfl))
        intro s_v W1 ho hb
        have HB1 := below_mix HB hb (Nat.le_trans HLZ.out HB.size)
        have HAR1 := b_fresh HAR hb 12
        obtain ⟨As, cs, rfl⟩ := Kd.R_slice ho
        refine hK.out _ _ (SF.out _ HB1 HAR1.1) (fun hHeld => ?_)
        clear hK K
        refine nm ?_
        have hN := ST001010 ((ow f W.heap.size 12), none, 0, none, 0, As, cs, none, 0, S4, c4_, none, 0) W1 ⟨HB1, HAR1, fun k_ hk_ => (ow_old (by have := HB.size; have := HLZ.out; omega)).trans (HF k_ hk_), (r_fresh HR2 hb 12), (r_fresh HR3 hb 12), (r_lit f ho (Nat.le_trans HLZ.out HB.size) 12), (r_fresh HR4 hb 12), (r_fresh HS4 hb 12)⟩
        refine norm_ ?_ hN
        show _ = putAll _ _
        (simp only [putAll, ps]; first | done | rfl)
      intro ST000010
      refine join_ (σ := (Nat → Nat) × (Option Addr) × (Nat) × (Option Addr) × (Nat) × (Option Addr) × (Nat) × (Option Addr) × (Nat) × (Option Addr) × (Nat) × (Option Addr) × (Nat)) 11 (bb 24 63439) (fun s_ => [(72, (.slice s_.2.2.2.2.2.1 ([y1] : List Int).length s_.2.2.2.2.2.2.1))]) (fun s_ w' => Below wz.heap.size wr w' ∧ (w'.heap[ga]? = some (.cells #[.int .i64 y0, .int .i64 y1, .int .i64 y2] 93 (0, 0)) ∧ s_.1 ga = 9) ∧ (∀ k_, k_ < wz.heap.size → s_.1 k_ = 9) ∧ Rz wz w' s_.1 2 (.slice U2 e2.length q2) e2 ∧ Rz wz w' s_.1 3 (.slice U3 e3.length q3) e3 ∧ Rz wz w' s_.1 12 (.slice s_.2.2.2.2.2.1 ([y1] : List Int).length s_.2.2.2.2.2.2.1) [y1] ∧ Rz wz w' s_.1 4 (.slice U4 e4.length q4) e4) ?_ ?_
      ·rintro ⟨f, S2, c2_, T2, d2, S3, c3_, T3, d3, S4, c4_, T4, d4⟩ W ⟨HB, HAR, HF, HR2, HR3, HS3, HR4⟩
       try dsimp only at *
       refine norm_ (a' := ?_) ?_ ?_
       rotate_left
       ·show putAll _ _ = _
        (simp only [putAll, ps]; first | done | rfl)
       refine two_ (i := 4) (j := 16) (Ni := some 66) (Nj := some 78) (bb 24 63455) (bb 24 128975) rfl rfl rfl rfl (two_of HT_.out (by kernel_rfl)) (by decide) (by decide) (fun K hK => ?_) (fun K hK => ?_)
       ·refine lit1 (x := y0) (N := 66) ?hg ?hd ?hr ?_; (case hd => rfl); (case hg => rfl); (case hr => first | (go_simp; done) | (go_simp; rfl))
        intro s_v W1 ho hb
        have HB1 := below_mix HB hb (Nat.le_trans HLZ.out HB.size)
        have HAR1 := b_fresh HAR hb 11
        obtain ⟨As, cs, rfl⟩ := Kd.R_slice ho
        refine hK.out _ _ (SF.out _ HB1 HAR1.1) (fun hHeld => ?_)
        clear hK K
        refine nm ?_
        have hN := ST101000 ((ow f W.heap.size 11), As, cs, none, 0, S3, c3_, none, 0, none, 0, none, 0) W1 ⟨HB1, HAR1, fun k_ hk_ => (ow_old (by have := HB.size; have := HLZ.out; omega)).trans (HF k_ hk_), (r_fresh HR2 hb 11), (r_lit f ho (Nat.le_trans HLZ.out HB.size) 11), (r_fresh HR3 hb 11), (r_fresh HS3 hb 11), (r_fresh HR4 hb 11)⟩
        refine norm_ ?_ hN
        show _ = putAll _ _
        (simp only [putAll, ps]; first | done | rfl)
       ·refine lit1 (x := y2) (N := 78) ?hg ?hd ?hr ?_; (case hd => rfl); (case hg => rfl); (case hr => first | (go_simp; done) | (go_simp; rfl))
        intro s_v W1 ho hb
        have HB1 := below_mix HB hb (Nat.le_trans HLZ.out HB.size)
        have HAR1 := b_fresh HAR hb 13
        obtain ⟨As, cs, rfl⟩ := Kd.R_slice ho
        refine hK.out _ _ (SF.out _ HB1 HAR1.1) (fun hHeld => ?_)
        clear hK K
        refine nm ?_
        have hN := ST001010 ((ow f W.heap.size 13), none, 0, none, 0, S3, c3_, none, 0, As, cs, none, 0) W1 ⟨HB1, HAR1, fun k_ hk_ => (ow_old (by have := HB.size; have := HLZ.out; omega)).trans (HF k_ hk_), (r_fresh HR2 hb 13), (r_fresh HR3 hb 13), (r_fresh HS3 hb 13), (r_fresh HR4 hb 13), (r_lit f ho (Nat.le_trans HLZ.out HB.size) 13)⟩
        refine norm_ ?_ hN
        show _ = putAll _ _
        (simp only [putAll, ps]; first | done | rfl)
      intro ST001000
      refine join_ (σ := (Nat → Nat) × (Option Addr) × (Nat) × (Option Addr) × (Nat) × (Option Addr) × (Nat) × (Option Addr) × (Nat) × (Option Addr) × (Nat) × (Option Addr) × (Nat)) 11 (bb 24 62431) (fun s_ => [(66, (.slice s_.2.1 ([y0] : List Int).length s_.2.2.1))]) (fun s_ w' => Below wz.heap.size wr w' ∧ (w'.heap[ga]? = some (.cells #[.int .i64 y0, .int .i64 y1, .int .i64 y2] 93 (0, 0)) ∧ s_.1 ga = 9) ∧ (∀ k_, k_ < wz.heap.size → s_.1 k_ = 9) ∧ Rz wz w' s_.1 2 (.slice U2 e2.length q2) e2 ∧ Rz wz w' s_.1 11 (.slice s_.2.1 ([y0] : List Int).length s_.2.2.1) [y0] ∧ Rz wz w' s_.1 3 (.slice U3 e3.length q3) e3 ∧ Rz wz w' s_.1 4 (.slice U4 e4.length q4) e4) ?_ ?_
      ·rintro ⟨f, S2, c2_, T2, d2, S3, c3_, T3, d3, S4, c4_, T4, d4⟩ W ⟨HB, HAR, HF, HR2, HS2, HR3, HR4⟩
       try dsimp only at *
       refine norm_ (a' := ?_) ?_ ?_
       rotate_left
       ·show putAll _ _ = _
        (simp only [putAll, ps]; first | done | rfl)
       refine three_ (i := 5) (j := 10) (k := 16) (Ni := some 67) (Nj := some 72) (Nk := some 78) (bb 24 62463) (bb 24 63455) (bb 24 127967) rfl rfl rfl rfl rfl rfl (three_of HT_.out (by kernel_rfl)) (by decide) (by decide) (by decide) (fun K hK => ?_) (fun K hK => ?_) (fun K hK => ?_)
       ·refine app1 (f := f) (q := 2) (by rfl) (.tmp 63) (.tmp 66) rfl rfl rfl HR2 HS2 HB (Nat.le_trans HLZ.out HB.size) HEL.out.1 ?_
        intro u W1 ho HB1 hg_
        rw [← HXX.out.1] at ho
        obtain ⟨Au, cu, rfl⟩ := Kd.R_slice ho
        have HAR1 := b_app HAR HR2 (by decide) hg_ 2
        refine hK.out _ _ (SF.out _ HB1 HAR1.1) (fun hHeld => ?_)
        clear hK K
        refine nm ?_
        refine zu 18 (some 80) (bb 24 324607) HT_ ?_
        have hN := ST110000 ((ow f W.heap.size 2), S2, c2_, Au, cu, none, 0, none, 0, none, 0, none, 0) W1 ⟨HB1, HAR1, fun k_ hk_ => (ow_old (by have := HB.size; have := HLZ.out; omega)).trans (HF k_ hk_), ho, (r_app HR3 HR2 (by decide) hg_ 2), (r_app HR4 HR2 (by decide) hg_ 2)⟩
        refine norm_ ?_ hN
        show _ = putAll _ _
        (simp only [putAll, ps]; first | done | rfl)
       ·refine lit1 (x := y1) (N := 72) ?hg ?hd ?hr ?_; (case hd => rfl); (case hg => rfl); (case hr => first | (go_simp; done) | (go_simp; rfl))
        intro s_v W1 ho hb
        have HB1 := below_mix HB hb (Nat.le_trans HLZ.out HB.size)
        have HAR1 := b_fresh HAR hb 12
        obtain ⟨As, cs, rfl⟩ := Kd.R_slice ho
        refine hK.out _ _ (SF.out _ HB1 HAR1.1) (fun hHeld => ?_)
        clear hK K
        refine nm ?_
        have hN := ST101000 ((ow f W.heap.size 12), S2, c2_, none, 0, As, cs, none, 0, none, 0, none, 0) W1 ⟨HB1, HAR1, fun k_ hk_ => (ow_old (by have := HB.size; have := HLZ.out; omega)).trans (HF k_ hk_), (r_fresh HR2 hb 12), (r_fresh HS2 hb 12), (r_fresh HR3 hb 12), (r_lit f ho (Nat.le_trans HLZ.out HB.size) 12), (r_fresh HR4 hb 12)⟩
        refine norm_ ?_ hN
        show _ = putAll _ _
        (simp only [putAll, ps]; first | done | rfl)
       ·refine lit1 (x := y2) (N := 78) ?hg ?hd ?hr ?_; (case hd => rfl); (case hg => rfl); (case hr => first | (go_simp; done) | (go_simp; rfl))
        intro s_v W1 ho hb
        have HB1 := below_mix HB hb (Nat.le_trans HLZ.out HB.size)
        have HAR1 := b_fresh HAR hb 13
        obtain ⟨As, cs, rfl⟩ := Kd.R_slice ho
        refine hK.out _ _ (SF.out _ HB1 HAR1.1) (fun hHeld => ?_)
        clear hK K
        refine nm ?_
        have hN := ST100010 ((ow f W.heap.size 13), S2, c2_, none, 0, none, 0, none, 0, As, cs, none, 0) W1 ⟨HB1, HAR1, fun k_ hk_ => (ow_old (by have := HB.size; have := HLZ.out; omega)).trans (HF k_ hk_), (r_fresh HR2 hb 13), (r_fresh HS2 hb 13), (r_fresh HR3 hb 13), (r_fresh HR4 hb 13), (r_lit f ho (Nat.le_trans HLZ.out HB.size) 13)⟩
        refine norm_ ?_ hN
        show _ = putAll _ _
        (simp only [putAll, ps]; first | done | rfl)
      intro ST100000
      generalize wd = W at *
      clear HOO
      generalize hf1 : f1 = f at HAR HF HR2 HR3 HR4
      refine three_ (i := 4) (j := 10) (k := 16) (Ni := some 66) (Nj := some 72) (Nk := some 78) (bb 24 62431) (bb 24 63439) (bb 24 127951) rfl rfl rfl rfl rfl rfl (three_of HT_.out (by kernel_rfl)) (by decide) (by decide) (by decide) (fun K hK => ?_) (fun K hK => ?_) (fun K hK => ?_)
      ·refine lit1 (x := y0) (N := 66) ?hg ?hd ?hr ?_; (case hd => rfl); (case hg => rfl); (case hr => first | (go_simp; done) | (go_simp; rfl))
       intro s_v W1 ho hb
       have HB1 := below_mix HB hb (Nat.le_trans HLZ.out HB.size)
       have HAR1 := b_fresh HAR hb 11
       obtain ⟨As, cs, rfl⟩ := Kd.R_slice ho
       refine hK.out _ _ (SF.out _ HB1 HAR1.1) (fun hHeld => ?_)
       clear hK K
       refine nm ?_
       have hN := ST100000 ((ow f W.heap.size 11), As, cs, none, 0, none, 0, none, 0, none, 0, none, 0) W1 ⟨HB1, HAR1, fun k_ hk_ => (ow_old (by have := HB.size; have := HLZ.out; omega)).trans (HF k_ hk_), (r_fresh HR2 hb 11), (r_lit f ho (Nat.le_trans HLZ.out HB.size) 11), (r_fresh HR3 hb 11), (r_fresh HR4 hb 11)⟩
       refine norm_ ?_ hN
       show _ = putAll _ _
       (simp only [putAll, ps]; first | done | rfl)
      ·refine lit1 (x := y1) (N := 72) ?hg ?hd ?hr ?_; (case hd => rfl); (case hg => rfl); (case hr => first | (go_simp; done) | (go_simp; rfl))
       intro s_v W1 ho hb
       have HB1 := below_mix HB hb (Nat.le_trans HLZ.out HB.size)
       have HAR1 := b_fresh HAR hb 12
       obtain ⟨As, cs, rfl⟩ := Kd.R_slice ho
       refine hK.out _ _ (SF.out _ HB1 HAR1.1) (fun hHeld => ?_)
       clear hK K
       refine nm ?_
       have hN := ST001000 ((ow f W.heap.size 12), none, 0, none, 0, As, cs, none, 0, none, 0, none, 0) W1 ⟨HB1, HAR1, fun k_ hk_ => (ow_old (by have := HB.size; have := HLZ.out; omega)).trans (HF k_ hk_), (r_fresh HR2 hb 12), (r_fresh HR3 hb 12), (r_lit f ho (Nat.le_trans HLZ.out HB.size) 12), (r_fresh HR4 hb 12)⟩
       refine norm_ ?_ hN
       show _ = putAll _ _
       (simp only [putAll, ps]; first | done | rfl)
      ·refine lit1 (x := y2) (N := 78) ?hg ?hd ?hr ?_; (case hd => rfl); (case hg => rfl); (case hr => first | (go_simp; done) | (go_simp; rfl))
       intro s_v W1 ho hb
       have HB1 := below_mix HB hb (Nat.le_trans HLZ.out HB.size)
       have HAR1 := b_fresh HAR hb 13
       obtain ⟨As, cs, rfl⟩ := Kd.R_slice ho
       refine hK.out _ _ (SF.out _ HB1 HAR1.1) (fun hHeld => ?_)
       clear hK K
       refine nm ?_
       have hN := ST000010 ((ow f W.heap.size 13), none, 0, none, 0, none, 0, none, 0, As, cs, none, 0) W1 ⟨HB1, HAR1, fun k_ hk_ => (ow_old (by have := HB.size; have := HLZ.out; omega)).trans (HF k_ hk_), (r_fresh HR2 hb 13), (r_fresh HR3 hb 13), (r_fresh HR4 hb 13), (r_lit f ho (Nat.le_trans HLZ.out HB.size) 13)⟩
       refine norm_ ?_ hN
       show _ = putAll _ _
       (simp only [putAll, ps]; first | done | rfl)
     rintro ⟨f, S2, c2_, T2, d2, S3, c3_, T3, d3, S4, c4_, T4, d4⟩ W ⟨HB, HAR, HF, HR2, HR3, HR4⟩
     try dsimp only at *
     refine norm_ (a' := ?_) ?_ ?_
     rotate_left
     ·show putAll _ _ = _
      (simp only [putAll, ps]; first | done | rfl)
     have K1 : W.heap[g6]? = some (.cells #[.slice Ak kk.length ck, .int .i64 cnt, .slice U2 e2.length q2, .slice U3 e3.length q3, .slice U4 e4.length q4] 30 (0, 0)) := (HB.block g6 HG6Z.out.1).trans HY6.out
     have K2 : (W.setCells g6 2 [(.slice T2 x2.length d2)]).heap[g6]? = some (.cells #[.slice Ak kk.length ck, .int .i64 cnt, (.slice T2 x2.length d2), .slice U3 e3.length q3, .slice U4 e4.length q4] 30 (0, 0)) := blk_put K1 2 _ rfl
     have K3 : ((W.setCells g6 2 [(.slice T2 x2.length d2)]).setCells g6 3 [(.slice T3 x3.length d3)]).heap[g6]? = some (.cells #[.slice Ak kk.length ck, .int .i64 cnt, (.slice T2 x2.length d2), (.slice T3 x3.length d3), .slice U4 e4.length q4] 30 (0, 0)) := blk_put K2 3 _ rfl
     have K4 : (((W.setCells g6 2 [(.slice T2 x2.length d2)]).setCells g6 3 [(.slice T3 x3.length d3)]).setCells g6 4 [(.slice T4 x4.length d4)]).heap[g6]? = some (.cells #[.slice Ak kk.length ck, .int .i64 cnt, (.slice T2 x2.length d2), (.slice T3 x3.length d3), (.slice T4 x4.length d4)] 30 (0, 0)) := blk_put K3 4 _ rfl
     refine last_ (i := 19) (N := none) (bb 24 1048575) rfl rfl (one_of HT_.out (by kernel_rfl)) (by decide) (fun K hK => ?_)
     refine skip_ (w1 := (W.setCells g6 2 [(.slice T2 x2.length d2)])) rfl rfl (box_runO (t := 22) (p := .tmp 80) (x := .tmp 67) rfl 2 K1 (by simp) rfl rfl rfl (by rfl) (by intro q_ hq_; rcases List.mem_singleton.1 hq_ with rfl; rfl)) ?_
     refine hK.out _ _ ?_
     clear hK K
     refine zu 20 (some 81) (bb 24 2097151) HT_ ?_
     refine last_ (i := 21) (N := none) (bb 24 4194303) rfl rfl (one_of HT_.out (by kernel_rfl)) (by decide) (fun K hK => ?_)
     refine skip_ (w1 := ((W.setCells g6 2 [(.slice T2 x2.length d2)]).setCells g6 3 [(.slice T3 x3.length d3)])) rfl rfl (box_runO (t := 22) (p := .tmp 81) (x := .tmp 73) rfl 3 K2 (by simp) rfl rfl rfl (by rfl) (by intro q_ hq_; rcases List.mem_singleton.1 hq_ with rfl; rfl)) ?_
     refine hK.out _ _ ?_
     clear hK K
     refine zu 22 (some 82) (bb 24 8388607) HT_ ?_
     refine last_ (i := 23) (N := none) (bb 24 16777215) rfl rfl (one_of HT_.out (by kernel_rfl)) (by decide) (fun K hK => ?_)
     refine skip_ (w1 := (((W.setCells g6 2 [(.slice T2 x2.length d2)]).setCells g6 3 [(.slice T3 x3.length d3)]).setCells g6 4 [(.slice T4 x4.length d4)])) rfl rfl (box_runO (t := 22) (p := .tmp 82) (x := .tmp 79) rfl 4 K3 (by simp) rfl rfl rfl (by rfl) (by intro q_ hq_; rcases List.mem_singleton.1 hq_ with rfl; rfl)) ?_
     refine hK.out _ _ ?_
     clear hK K
     refine done_ (done_of HT_.out (by kernel_rfl)) ?_
     have hfar : ∀ k, k ≠ g6 → (((W.setCells g6 2 [(.slice T2 x2.length d2)]).setCells g6 3 [(.slice T3 x3.length d3)]).setCells g6 4 [(.slice T4 x4.length d4)]).heap[k]? = W.heap[k]? := fun k hk => (setCells_far _ _ k hk).trans ((setCells_far _ _ k hk).trans (setCells_far _ _ k hk))
     have hbel : Below w.heap.size w (((W.setCells g6 2 [(.slice T2 x2.length d2)]).setCells g6 3 [(.slice T3 x3.length d3)]).setCells g6 4 [(.slice T4 x4.length d4)]) := box_farO _ _ HGW.out.2.1 (box_farO _ _ HGW.out.2.1 (box_farO _ _ HGW.out.2.1 (below_mix HA.out.bel HB (Nat.le_trans ZB.out.size (Nat.le_refl _)))))
     have HON : Aside0 (InnO w wb wz g5 g6 (.slice Ak kk.length ck) cnt b (N + 2) f (.slice T2 x2.length d2) (.slice T3 x3.length d3) (.slice T4 x4.length d4) (j + 1) (((W.setCells g6 2 [(.slice T2 x2.length d2)]).setCells g6 3 [(.slice T3 x3.length d3)]).setCells g6 4 [(.slice T4 x4.length d4)])) := ⟨⟨?kept, hbel, K4, ?left, HF, ?r2, ?r3, ?r4, ?ok⟩⟩
     case kept => exact Kept.setCell (p := ⟨g6, 4, none⟩) (Kept.setCell (p := ⟨g6, 3, none⟩) (Kept.setCell (p := ⟨g6, 2, none⟩) (Kept.then_ (S2 := fun k => wz.heap.size ≤ k) HKW.out ⟨HB.size, fun i _ hn => HB.block i (by omega)⟩ (fun k hk => .inr hk)) (.inl (.inr rfl)) _) (.inl (.inr rfl)) _) (.inl (.inr rfl)) _
     case left =>
      obtain ⟨Aq, cq, l5, l1, l2⟩ := HA.out.left
      rw [show p + 8 * 3 = N + 2 + 24 * (j + 1) by have := HP.out; omega] at l5 l1 l2
      exact ⟨Aq, cq, ((hfar g5 h56).trans (HB.block g5 HG6Z.out.2)).trans l5, l1, l2⟩
     case r2 => rw [show eightsOf b (N + 2) (j + 1) = x2 by rw [eightsOf_succ, HXX.out.1, HE.out.1, HYS.out.1, HP.out]]; exact r_box (r_box (r_box HR2 (HF g6 HG6Z.out.1) (by decide) _ _) (HF g6 HG6Z.out.1) (by decide) _ _) (HF g6 HG6Z.out.1) (by decide) _ _
     case r3 => rw [show eightsOf b (N + 2 + 8) (j + 1) = x3 by rw [eightsOf_succ, HXX.out.2.1, HE.out.2.1, HYS.out.2.1, HP.out, show N + 2 + 24 * j + 8 = N + 2 + 8 + 24 * j by omega]]; exact r_box (r_box (r_box HR3 (HF g6 HG6Z.out.1) (by decide) _ _) (HF g6 HG6Z.out.1) (by decide) _ _) (HF g6 HG6Z.out.1) (by decide) _ _
     case r4 => rw [show eightsOf b (N + 2 + 16) (j + 1) = x4 by rw [eightsOf_succ, HXX.out.2.2, HE.out.2.2, HYS.out.2.2, HP.out, show N + 2 + 24 * j + 16 = N + 2 + 16 + 24 * j by omega]]; exact r_box (r_box (r_box HR4 (HF g6 HG6Z.out.1) (by decide) _ _) (HF g6 HG6Z.out.1) (by decide) _ _) (HF g6 HG6Z.out.1) (by decide) _ _
     case ok => exact HO.out.ok.snoc (by have := HSP.out; rw [HYS.out.2.1, HYS.out.2.2, HP.out] at this; exact this)
     clear hfar hbel K1 K2 K3 K4 HB HAR HF HR2 HR3 HR4 hHeld HT_ HW_
     generalize (((W.setCells g6 2 [(.slice T2 x2.length d2)]).setCells g6 3 [(.slice T3 x3.length d3)]).setCells g6 4 [(.slice T4 x4.length d4)]) = wn at *
     have hwjj := hwj
     go_wp2
     go_roundg k1
     case measure => have := HJ.out; omega
     case rel => exact ⟨j + 1, f, _, _, _, by first | rfl | simp [hwj], ⟨by have := HJ.out; have := HHJ.out; omega, by have := HHJ.out; omega⟩, HON⟩
  ·have hd1 : decide ((j : Int) < meas) = false := decide_eq_false (by omega)
   have hjm : j = m := by have := HJ.out.2; omega
   subst hjm
   clear hj hmm
   obtain ⟨U2, q2, rfl⟩ := Kd.R_slice HO.out.r2
   obtain ⟨U3, q3, rfl⟩ := Kd.R_slice HO.out.r3
   obtain ⟨U4, q4, rfl⟩ := Kd.R_slice HO.out.r4
   obtain ⟨e2, he2⟩ : ∃ e, e = eightsOf b (N + 2) j := ⟨_, rfl⟩
   obtain ⟨e3, he3⟩ : ∃ e, e = eightsOf b (N + 2 + 8) j := ⟨_, rfl⟩
   obtain ⟨e4, he4⟩ : ∃ e, e = eightsOf b (N + 2 + 16) j := ⟨_, rfl⟩
   have r2 := HO.out.r2
   have r3 := HO.out.r3
   have r4 := HO.out.r4
   have Y6 := HO.out.b6
   rw [← he2] at r2 Y6
   rw [← he3] at r3 Y6
   rw [← he4] at r4 Y6
   obtain ⟨Aq, cq, l5, l1, l2⟩ := HO.out.left
   have HZ0 : oneR cards meas s b = ((kk, cnt, e2, e3, e4), b.drop (N + 2 + 24 * j), decide (cnt ≥ 1) && decide (cnt ≤ 300)) := by
    unfold oneR
    rw [← HNN.out.1, ← HMM.out.1, if_pos ⟨HKO.out, HO.out.ok⟩, HKK.out.1, HCNT.out, he2, he3, he4]
   obtain ⟨lq, hlq⟩ : ∃ l, l = b.drop (N + 2 + 24 * j) := ⟨_, rfl⟩
   rw [← hlq] at HZ0 l5 l1 l2
   have HEL : e2.length ≤ 1000 ∧ e3.length ≤ 1000 ∧ e4.length ≤ 1000 := by rw [he2, he3, he4, eightsOf_length, eightsOf_length, eightsOf_length]; have := HMM.out.2; have := HM.out.2; omega
   have HOWN : Aside0 (cell_own.f kk cnt e2 e3 e4 = some (kk, cnt, e2, e3, e4)) := ⟨by
    unfold cell_own.f slices_Clone_int_int.f
    rw [if_pos (by have := HKK.out.2; have := HNN.out.2; omega), if_pos (by omega), if_pos (by omega), if_pos (by omega)]
    rfl⟩
   have keepZ : ∀ {k : Nat} {o : Obj}, wz.heap[k]? = some o → k ≠ g5 → k ≠ g6 → wr.heap[k]? = some o := fun {k o} h e5 e6 => blk_kept h HO.out.kept (fun e => by rcases e with e | e; exact e5 e; exact e6 e)
   have RK : Kd.R (Kd.int .i64) 3 wr w.heap.size (fun k => wl.heap.size ≤ k ∧ k < wz.heap.size) (.slice Ak kk.length ck) kk := Kd.R_step ZK.out (fun k hk _ => HO.out.kept.2 k hk.2 (fun e => by have h1 := hk.1; have := HGW.out; rcases e with e | e <;> omega))
   have HRK := am (Kd.R_reads' RK).2
   have HR2 := am (Kd.R_reads' r2).2
   have HR3 := am (Kd.R_reads' r3).2
   have HR4 := am (Kd.R_reads' r4).2
   have HY6 := am Y6
   have HY5 := am l5
   have HL12 := am (And.intro l1 l2)
   have HK7 := am (keepZ Z7.out h75 h76)
   have HK8 := am (keepZ Z8.out h85 h86)
   have HKD := am (keepZ ZD.out HDG.out.1 HDG.out.2.1)
   have HBO := am HO.out.bel
   have HGZ : Aside0 (g6 < wr.heap.size ∧ g7 < wr.heap.size ∧ g8 < wr.heap.size ∧ D < wr.heap.size) := ⟨⟨blk_lt Y6, blk_lt HK7.out, blk_lt HK8.out, blk_lt HKD.out⟩⟩
   have HZ1 := am HZ0
   clear he2 he3 he4 r2 r3 r4 Y6 l5 l1 l2 HZ0 hlq keepZ RK HEL HO HJ Z3 Z5 Z6 Z7 Z8 ZD ZK ZB
   generalize wr = wo at *
   have G0 := am (bc HY6 0)
   have G1 := am (bc HY6 1)
   have G2 := am (bc HY6 2)
   have G3 := am (bc HY6 3)
   have G4 := am (bc HY6 4)
   have G5 := am (bc HY5 0)
   obtain ⟨ge, hge⟩ : ∃ ge, decide (cnt ≥ 1) = ge := ⟨_, rfl⟩
   obtain ⟨b9, hb9⟩ : ∃ b9, decide (cnt ≤ 300) = b9 := ⟨_, rfl⟩
   have hge2 : decide (1 ≤ cnt) = ge := hge
   obtain ⟨bz, hbz⟩ : ∃ bz, (ge && b9) = bz := ⟨_, rfl⟩
   have HZ : Aside0 (oneR cards meas s b = ((kk, cnt, e2, e3, e4), lq, bz)) := ⟨by rw [HZ1.out, hge, hb9, hbz]⟩
   go_wp2
   refine start_ (n := 14) (S := fun w' => w'.cell? ⟨g5, 0, none⟩ = some (.slice Aq lq.length cq) ∧ True) (ds := []) (bb 14 0) (by kernel_rfl) rfl rfl ⟨G5.out, trivial⟩ (fun hHeld => ?_)
   refine with_tabW cell_one.tab21 cell_one.bits21 (fun HT_ HW_ => ?_)
   have HB : Below wo.heap.size wo wo.drew := below_drew (Below.refl _ _)
   generalize wo.drew = wd at HB hHeld ⊢
   refine zk 2 (some 86) (bb 14 4) HT_ HW_ hHeld ?_
   refine zu 3 (some 87) (bb 14 12) HT_ ?_
   refine join_ (σ := (Option Addr) × (Nat) × (Option Addr) × (Nat) × (Option Addr) × (Nat) × (Option Addr) × (Nat)) 8 (bb 14 63) (fun s_ => [(84, .agg #[.slice Ak kk.length ck, .int .i64 cnt, .slice U2 e2.length q2, .slice U3 e3.length q3, .slice U4 e4.length q4]), (85, .agg #[(.slice s_.1 kk.length s_.2.1), .int .i64 cnt, (.slice s_.2.2.1 e2.length s_.2.2.2.1), (.slice s_.2.2.2.2.1 e3.length s_.2.2.2.2.2.1), (.slice s_.2.2.2.2.2.2.1 e4.length s_.2.2.2.2.2.2.2)]), (88, .int .i64 cnt), (89, .bool ge)]) (fun s_ w' => Below wo.heap.size wo w' ∧ Kd.R (Kd.int .i64) 3 w' wo.heap.size (fun k_ => some k_ ≠ ((.slice s_.2.2.1 e2.length s_.2.2.2.1) : Value).ownBlock ∧ some k_ ≠ ((.slice s_.2.2.2.2.1 e3.length s_.2.2.2.2.2.1) : Value).ownBlock ∧ some k_ ≠ ((.slice s_.2.2.2.2.2.2.1 e4.length s_.2.2.2.2.2.2.2) : Value).ownBlock) (.slice s_.1 kk.length s_.2.1) kk ∧ Kd.R (Kd.int .i64) 3 w' wo.heap.size (fun k_ => some k_ ≠ ((.slice s_.1 kk.length s_.2.1) : Value).ownBlock ∧ some k_ ≠ ((.slice s_.2.2.2.2.1 e3.length s_.2.2.2.2.2.1) : Value).ownBlock ∧ some k_ ≠ ((.slice s_.2.2.2.2.2.2.1 e4.length s_.2.2.2.2.2.2.2) : Value).ownBlock) (.slice s_.2.2.1 e2.length s_.2.2.2.1) e2 ∧ Kd.R (Kd.int .i64) 3 w' wo.heap.size (fun k_ => some k_ ≠ ((.slice s_.1 kk.length s_.2.1) : Value).ownBlock ∧ some k_ ≠ ((.slice s_.2.2.1 e2.length s_.2.2.2.1) : Value).ownBlock ∧ some k_ ≠ ((.slice s_.2.2.2.2.2.2.1 e4.length s_.2.2.2.2.2.2.2) : Value).ownBlock) (.slice s_.2.2.2.2.1 e3.length s_.2.2.2.2.2.1) e3 ∧ Kd.R (Kd.int .i64) 3 w' wo.heap.size (fun k_ => some k_ ≠ ((.slice s_.1 kk.length s_.2.1) : Value).ownBlock ∧ some k_ ≠ ((.slice s_.2.2.1 e2.length s_.2.2.2.1) : Value).ownBlock ∧ some k_ ≠ ((.slice s_.2.2.2.2.1 e3.length s_.2.2.2.2.2.1) : Value).ownBlock) (.slice s_.2.2.2.2.2.2.1 e4.length s_.2.2.2.2.2.2.2) e4) ?_ ?_
   rotate_left
   ·intro ST111
    refine join_ (σ := (Option Addr) × (Nat) × (Option Addr) × (Nat) × (Option Addr) × (Nat) × (Option Addr) × (Nat)) 9 (bb 14 61) (fun s_ => [(84, .agg #[.slice Ak kk.length ck, .int .i64 cnt, .slice U2 e2.length q2, .slice U3 e3.length q3, .slice U4 e4.length q4]), (88, .int .i64 cnt), (89, .bool ge)]) (fun s_ w' => Below wo.heap.size wo w') ?_ ?_
    ·rintro ⟨B0, b0, B2, b2, B3, b3, B4, b4⟩ W HB
     try dsimp only at *
     refine norm_ (a' := ?_) ?_ ?_
     rotate_left
     ·show putAll _ _ = _
      (simp only [putAll, ps]; first | done | rfl)
     refine zo 1 (some 85) (bb 14 63) HT_ (fun K hK => ?_)
     refine goes_ Try.func48 (by kernel_rfl) rfl #[.agg #[.slice Ak kk.length ck, .int .i64 cnt, .slice U2 e2.length q2, .slice U3 e3.length q3, .slice U4 e4.length q4]] (by rfl) rfl rfl (by (try simp only [List.map_toArray, List.map_cons, List.map_nil]); first | done | rfl) ?_
     with_reducible refine (cell_own.calls Ak ck kk cnt U2 q2 e2 U3 q3 e3 U4 q4 e4 kk cnt e2 e3 e4 W (Kd.C_below HRK.out.2 HB) HRK.out.1 (Kd.C_below HR2.out.2 HB) HR2.out.1 (Kd.C_below HR3.out.2 HB) HR3.out.1 (Kd.C_below HR4.out.2 HB) HR4.out.1 HOWN.out).mono ?_
     rintro e W1 ⟨v0, v2, v3, v4, rfl, p0, p2, p3, p4, hb⟩
     obtain ⟨D0, d0, rfl⟩ := Kd.R_slice p0
     obtain ⟨D2, d2, rfl⟩ := Kd.R_slice p2
     obtain ⟨D3, d3, rfl⟩ := Kd.R_slice p3
     obtain ⟨D4, d4, rfl⟩ := Kd.R_slice p4
     have HB1 := below_step HB hb
     refine ⟨_, rfl, ?_⟩
     refine hK.out _ _ ⟨(Below.cell HB1 (World.block_lt_of_cell? wo _ G5.out)).trans G5.out, trivial⟩ (fun hHeld => ?_)
     clear hK K
     refine nm ?_
     have hN := ST111 (D0, d0, D2, d2, D3, d3, D4, d4) W1 ⟨HB1, Kd.R_lower p0 HB.size, Kd.R_lower p2 HB.size, Kd.R_lower p3 HB.size, Kd.R_lower p4 HB.size⟩
     refine norm_ ?_ hN
     show _ = putAll _ _
     (simp only [putAll, ps]; first | done | rfl)
    intro ST110
    refine join_ (σ := (Option Addr) × (Nat) × (Option Addr) × (Nat) × (Option Addr) × (Nat) × (Option Addr) × (Nat)) 10 (bb 14 15) (fun s_ => [(84, .agg #[.slice Ak kk.length ck, .int .i64 cnt, .slice U2 e2.length q2, .slice U3 e3.length q3, .slice U4 e4.length q4]), (85, .agg #[(.slice s_.1 kk.length s_.2.1), .int .i64 cnt, (.slice s_.2.2.1 e2.length s_.2.2.2.1), (.slice s_.2.2.2.2.1 e3.length s_.2.2.2.2.2.1), (.slice s_.2.2.2.2.2.2.1 e4.length s_.2.2.2.2.2.2.2)])]) (fun s_ w' => Below wo.heap.size wo w' ∧ Kd.R (Kd.int .i64) 3 w' wo.heap.size (fun k_ => some k_ ≠ ((.slice s_.2.2.1 e2.length s_.2.2.2.1) : Value).ownBlock ∧ some k_ ≠ ((.slice s_.2.2.2.2.1 e3.length s_.2.2.2.2.2.1) : Value).ownBlock ∧ some k_ ≠ ((.slice s_.2.2.2.2.2.2.1 e4.length s_.2.2.2.2.2.2.2) : Value).ownBlock) (.slice s_.1 kk.length s_.2.1) kk ∧ Kd.R (Kd.int .i64) 3 w' wo.heap.size (fun k_ => some k_ ≠ ((.slice s_.1 kk.length s_.2.1) : Value).ownBlock ∧ some k_ ≠ ((.slice s_.2.2.2.2.1 e3.length s_.2.2.2.2.2.1) : Value).ownBlock ∧ some k_ ≠ ((.slice s_.2.2.2.2.2.2.1 e4.length s_.2.2.2.2.2.2.2) : Value).ownBlock) (.slice s_.2.2.1 e2.length s_.2.2.2.1) e2 ∧ Kd.R (Kd.int .i64) 3 w' wo.heap.size (fun k_ => some k_ ≠ ((.slice s_.1 kk.length s_.2.1) : Value).ownBlock ∧ some k_ ≠ ((.slice s_.2.2.1 e2.length s_.2.2.2.1) : Value).ownBlock ∧ some k_ ≠ ((.slice s_.2.2.2.2.2.2.1 e4.length s_.2.2.2.2.2.2.2) : Value).ownBlock) (.slice s_.2.2.2.2.1 e3.length s_.2.2.2.2.2.1) e3 ∧ Kd.R (Kd.int .i64) 3 w' wo.heap.size (fun k_ => some k_ ≠ ((.slice s_.1 kk.length s_.2.1) : Value).ownBlock ∧ some k_ ≠ ((.slice s_.2.2.1 e2.length s_.2.2.2.1) : Value).ownBlock ∧ some k_ ≠ ((.slice s_.2.2.2.2.1 e3.length s_.2.2.2.2.2.1) : Value).ownBlock) (.slice s_.2.2.2.2.2.2.1 e4.length s_.2.2.2.2.2.2.2) e4) ?_ ?_
    ·rintro ⟨B0, b0, B2, b2, B3, b3, B4, b4⟩ W ⟨HB, HP0, HP2, HP3, HP4⟩
     try dsimp only at *
     refine norm_ (a' := ?_) ?_ ?_
     rotate_left
     ·show putAll _ _ = _
      (simp only [putAll, ps]; first | done | rfl)
     refine zo 4 (some 88) (bb 14 31) HT_ (fun K hK => ?_)
     have gc1 := (Below.cell HB (World.block_lt_of_cell? wo _ G1.out)).trans G1.out
     refine value_ (v := .int .i64 cnt) (w1 := W) rfl rfl (by go_simp; first | done | rfl) ?_
     clear gc1
     have HB1 := HB
     refine hK.out _ _ ⟨(Below.cell HB1 (World.block_lt_of_cell? wo _ G5.out)).trans G5.out, trivial⟩ (fun hHeld => ?_)
     clear hK K
     refine nm ?_
     refine zu 5 (some 89) (bb 14 63) HT_ ?_
     have hN := ST111 (B0, b0, B2, b2, B3, b3, B4, b4) W ⟨HB1, HP0, HP2, HP3, HP4⟩
     refine norm_ ?_ hN
     show _ = putAll _ _
     (simp only [putAll, ps]; first | done | rfl)
    intro ST101
    refine join_ (σ := (Option Addr) × (Nat) × (Option Addr) × (Nat) × (Option Addr) × (Nat) × (Option Addr) × (Nat)) 10 (bb 14 60) (fun s_ => [(88, .int .i64 cnt), (89, .bool ge)]) (fun s_ w' => Below wo.heap.size wo w') ?_ ?_
    ·rintro ⟨B0, b0, B2, b2, B3, b3, B4, b4⟩ W HB
     try dsimp only at *
     refine norm_ (a' := ?_) ?_ ?_
     rotate_left
     ·show putAll _ _ = _
      (simp only [putAll, ps]; first | done | rfl)
     refine zo 0 (some 84) (bb 14 61) HT_ (fun K hK => ?_)
     have gc0 := (Below.cell HB (World.block_lt_of_cell? wo _ G0.out)).trans G0.out
     have gc1 := (Below.cell HB (World.block_lt_of_cell? wo _ G1.out)).trans G1.out
     have gc2 := (Below.cell HB (World.block_lt_of_cell? wo _ G2.out)).trans G2.out
     have gc3 := (Below.cell HB (World.block_lt_of_cell? wo _ G3.out)).trans G3.out
     have gc4 := (Below.cell HB (World.block_lt_of_cell? wo _ G4.out)).trans G4.out
     refine value_ (v := .agg #[.slice Ak kk.length ck, .int .i64 cnt, .slice U2 e2.length q2, .slice U3 e3.length q3, .slice U4 e4.length q4]) (w1 := W) rfl rfl (by go_simp; first | done | rfl) ?_
     clear gc0 gc1 gc2 gc3 gc4
     have HB1 := HB
     refine hK.out _ _ ⟨(Below.cell HB1 (World.block_lt_of_cell? wo _ G5.out)).trans G5.out, trivial⟩ (fun hHeld => ?_)
     clear hK K
     refine nm ?_
     have hN := ST110 (none, 0, none, 0, none, 0, none, 0) W (HB1)
     refine norm_ ?_ hN
     show _ = putAll _ _
     (simp only [putAll, ps]; first | done | rfl)
    intro ST010
    refine join_ (σ := (Option Addr) × (Nat) × (Option Addr) × (Nat) × (Option Addr) × (Nat) × (Option Addr) × (Nat)) 11 (bb 14 13) (fun s_ => [(84, .agg #[.slice Ak kk.length ck, .int .i64 cnt, .slice U2 e2.length q2, .slice U3 e3.length q3, .slice U4 e4.length q4])]) (fun s_ w' => Below wo.heap.size wo w') ?_ ?_
    ·rintro ⟨B0, b0, B2, b2, B3, b3, B4, b4⟩ W HB
     try dsimp only at *
     refine norm_ (a' := ?_) ?_ ?_
     rotate_left
     ·show putAll _ _ = _
      (simp only [putAll, ps]; first | done | rfl)
     refine two_ (i := 1) (j := 4) (Ni := some 85) (Nj := some 88) (bb 14 15) (bb 14 29) rfl rfl rfl rfl (two_of HT_.out (by kernel_rfl)) (by decide) (by decide) (fun K hK => ?_) (fun K hK => ?_)
     ·refine goes_ Try.func48 (by kernel_rfl) rfl #[.agg #[.slice Ak kk.length ck, .int .i64 cnt, .slice U2 e2.length q2, .slice U3 e3.length q3, .slice U4 e4.length q4]] (by rfl) rfl rfl (by (try simp only [List.map_toArray, List.map_cons, List.map_nil]); first | done | rfl) ?_
      with_reducible refine (cell_own.calls Ak ck kk cnt U2 q2 e2 U3 q3 e3 U4 q4 e4 kk cnt e2 e3 e4 W (Kd.C_below HRK.out.2 HB) HRK.out.1 (Kd.C_below HR2.out.2 HB) HR2.out.1 (Kd.C_below HR3.out.2 HB) HR3.out.1 (Kd.C_below HR4.out.2 HB) HR4.out.1 HOWN.out).mono ?_
      rintro e W1 ⟨v0, v2, v3, v4, rfl, p0, p2, p3, p4, hb⟩
      obtain ⟨D0, d0, rfl⟩ := Kd.R_slice p0
      obtain ⟨D2, d2, rfl⟩ := Kd.R_slice p2
      obtain ⟨D3, d3, rfl⟩ := Kd.R_slice p3
      obtain ⟨D4, d4, rfl⟩ := Kd.R_slice p4
      have HB1 := below_step HB hb
      refine ⟨_, rfl, ?_⟩
      refine hK.out _ _ ⟨(Below.cell HB1 (World.block_lt_of_cell? wo _ G5.out)).trans G5.out, trivial⟩ (fun hHeld => ?_)
      clear hK K
      refine nm ?_
      have hN := ST101 (D0, d0, D2, d2, D3, d3, D4, d4) W1 ⟨HB1, Kd.R_lower p0 HB.size, Kd.R_lower p2 HB.size, Kd.R_lower p3 HB.size, Kd.R_lower p4 HB.size⟩
      refine norm_ ?_ hN
      show _ = putAll _ _
      (simp only [putAll, ps]; first | done | rfl)
     ·have gc1 := (Below.cell HB (World.block_lt_of_cell? wo _ G1.out)).trans G1.out
      refine value_ (v := .int .i64 cnt) (w1 := W) rfl rfl (by go_simp; first | done | rfl) ?_
      clear gc1
      have HB1 := HB
      refine hK.out _ _ ⟨(Below.cell HB1 (World.block_lt_of_cell? wo _ G5.out)).trans G5.out, trivial⟩ (fun hHeld => ?_)
      clear hK K
      refine nm ?_
      refine zu 5 (some 89) (bb 14 61) HT_ ?_
      have hN := ST110 (none, 0, none, 0, none, 0, none, 0) W (HB1)
      refine norm_ ?_ hN
      show _ = putAll _ _
      (simp only [putAll, ps]; first | done | rfl)
    intro ST100
    generalize wd = W at *
    refine two_ (i := 0) (j := 4) (Ni := some 84) (Nj := some 88) (bb 14 13) (bb 14 28) rfl rfl rfl rfl (two_of HT_.out (by kernel_rfl)) (by decide) (by decide) (fun K hK => ?_) (fun K hK => ?_)
    ·have gc0 := (Below.cell HB (World.block_lt_of_cell? wo _ G0.out)).trans G0.out
     have gc1 := (Below.cell HB (World.block_lt_of_cell? wo _ G1.out)).trans G1.out
     have gc2 := (Below.cell HB (World.block_lt_of_cell? wo _ G2.out)).trans G2.out
     have gc3 := (Below.cell HB (World.block_lt_of_cell? wo _ G3.out)).trans G3.out
     have gc4 := (Below.cell HB (World.block_lt_of_cell? wo _ G4.out)).trans G4.out
     refine value_ (v := .agg #[.slice Ak kk.length ck, .int .i64 cnt, .slice U2 e2.length q2, .slice U3 e3.length q3, .slice U4 e4.length q4]) (w1 := W) rfl rfl (by go_simp; first | done | rfl) ?_
     clear gc0 gc1 gc2 gc3 gc4
     have HB1 := HB
     refine hK.out _ _ ⟨(Below.cell HB1 (World.block_lt_of_cell? wo _ G5.out)).trans G5.out, trivial⟩ (fun hHeld => ?_)
     clear hK K
     refine nm ?_
     have hN := ST100 (none, 0, none, 0, none, 0, none, 0) W (HB1)
     refine norm_ ?_ hN
     show _ = putAll _ _
     (simp only [putAll, ps]; first | done | rfl)
    ·have gc1 := (Below.cell HB (World.block_lt_of_cell? wo _ G1.out)).trans G1.out
     refine value_ (v := .int .i64 cnt) (w1 := W) rfl rfl (by go_simp; first | done | rfl) ?_
     clear gc1
     have HB1 := HB
     refine hK.out _ _ ⟨(Below.cell HB1 (World.block_lt_of_cell? wo _ G5.out)).trans G5.out, trivial⟩ (fun hHeld => ?_)
     clear hK K
     refine nm ?_
     refine zu 5 (some 89) (bb 14 60) HT_ ?_
     have hN := ST010 (none, 0, none, 0, none, 0, none, 0) W (HB1)
     refine norm_ ?_ hN
     show _ = putAll _ _
     (simp only [putAll, ps]; first | done | rfl)
   rintro ⟨B0, b0, B2, b2, B3, b3, B4, b4⟩ W ⟨HB, HP0, HP2, HP3, HP4⟩
   try dsimp only at *
   refine norm_ (a' := ?_) ?_ ?_
   rotate_left
   ·show putAll _ _ = _
    (simp only [putAll, ps]; first | done | rfl)
   have P6 := (HB.block g6 HGZ.out.1).trans HY6.out
   have Q60 : (W.setCell ⟨g6, 0, none⟩ (.slice B0 kk.length b0)).heap[g6]? = some (.cells #[.slice B0 kk.length b0, .int .i64 cnt, .slice U2 e2.length q2, .slice U3 e3.length q3, .slice U4 e4.length q4] 30 (0, 0)) := blk_put P6 0 _ rfl
   have Q61 : ((W.setCell ⟨g6, 0, none⟩ (.slice B0 kk.length b0)).setCell ⟨g6, 1, none⟩ (.int .i64 cnt)).heap[g6]? = some (.cells #[.slice B0 kk.length b0, .int .i64 cnt, .slice U2 e2.length q2, .slice U3 e3.length q3, .slice U4 e4.length q4] 30 (0, 0)) := blk_put Q60 1 _ rfl
   have Q62 : (((W.setCell ⟨g6, 0, none⟩ (.slice B0 kk.length b0)).setCell ⟨g6, 1, none⟩ (.int .i64 cnt)).setCell ⟨g6, 2, none⟩ (.slice B2 e2.length b2)).heap[g6]? = some (.cells #[.slice B0 kk.length b0, .int .i64 cnt, .slice B2 e2.length b2, .slice U3 e3.length q3, .slice U4 e4.length q4] 30 (0, 0)) := blk_put Q61 2 _ rfl
   have Q63 : ((((W.setCell ⟨g6, 0, none⟩ (.slice B0 kk.length b0)).setCell ⟨g6, 1, none⟩ (.int .i64 cnt)).setCell ⟨g6, 2, none⟩ (.slice B2 e2.length b2)).setCell ⟨g6, 3, none⟩ (.slice B3 e3.length b3)).heap[g6]? = some (.cells #[.slice B0 kk.length b0, .int .i64 cnt, .slice B2 e2.length b2, .slice B3 e3.length b3, .slice U4 e4.length q4] 30 (0, 0)) := blk_put Q62 3 _ rfl
   have Q64 : (((((W.setCell ⟨g6, 0, none⟩ (.slice B0 kk.length b0)).setCell ⟨g6, 1, none⟩ (.int .i64 cnt)).setCell ⟨g6, 2, none⟩ (.slice B2 e2.length b2)).setCell ⟨g6, 3, none⟩ (.slice B3 e3.length b3)).setCell ⟨g6, 4, none⟩ (.slice B4 e4.length b4)).heap[g6]? = some (.cells #[.slice B0 kk.length b0, .int .i64 cnt, .slice B2 e2.length b2, .slice B3 e3.length b3, .slice B4 e4.length b4] 30 (0, 0)) := blk_put Q63 4 _ rfl
   have Q6 : (W.setCells g6 0 [.slice B0 kk.length b0, .int .i64 cnt, .slice B2 e2.length b2, .slice B3 e3.length b3, .slice B4 e4.length b4]).heap[g6]? = some (.cells #[.slice B0 kk.length b0, .int .i64 cnt, .slice B2 e2.length b2, .slice B3 e3.length b3, .slice B4 e4.length b4] 30 (0, 0)) := Q64
   clear Q60 Q61 Q62 Q63 Q64
   have G5w := (Below.cell HB (World.block_lt_of_cell? wo _ G5.out)).trans G5.out
   have s1 : (W.setCells g6 0 [.slice B0 kk.length b0, .int .i64 cnt, .slice B2 e2.length b2, .slice B3 e3.length b3, .slice B4 e4.length b4]).cell? ⟨g5, 0, none⟩ = some (.slice Aq lq.length cq) := (World.cell?_of_block (setCells_far _ _ g5 h56)).trans G5w
   have P7 : (W.setCells g6 0 [.slice B0 kk.length b0, .int .i64 cnt, .slice B2 e2.length b2, .slice B3 e3.length b3, .slice B4 e4.length b4]).heap[g7]? = some (.cells #[.slice none 0 0] 51 (0, 0)) := (setCells_far _ _ _ h76).trans ((HB.block g7 HGZ.out.2.1).trans HK7.out)
   have P80 : (W.setCells g6 0 [.slice B0 kk.length b0, .int .i64 cnt, .slice B2 e2.length b2, .slice B3 e3.length b3, .slice B4 e4.length b4]).heap[g8]? = some (.cells #[.bool false] 4 (0, 0)) := (setCells_far _ _ _ h86).trans ((HB.block g8 HGZ.out.2.2.1).trans HK8.out)
   have far1 : ∀ k, k ≠ g6 → (W.setCells g6 0 [.slice B0 kk.length b0, .int .i64 cnt, .slice B2 e2.length b2, .slice B3 e3.length b3, .slice B4 e4.length b4]).heap[k]? = W.heap[k]? := fun k hk => setCells_far _ _ k hk
   have bel1 : Below w.heap.size w (W.setCells g6 0 [.slice B0 kk.length b0, .int .i64 cnt, .slice B2 e2.length b2, .slice B3 e3.length b3, .slice B4 e4.length b4]) := box_farO _ _ HGW.out.2.1 (below_step HBO.out HB)
   obtain ⟨X1, hX1⟩ : ∃ X, X = (W.setCells g6 0 [.slice B0 kk.length b0, .int .i64 cnt, .slice B2 e2.length b2, .slice B3 e3.length b3, .slice B4 e4.length b4]) := ⟨_, rfl⟩
   rw [← hX1] at Q6 s1 P7 P80 far1 bel1
   have HX1 := am hX1
   clear hX1
   have s2 : (X1.setCells g7 0 [.slice Aq lq.length cq]).cell? ⟨g5, 0, none⟩ = some (.slice Aq lq.length cq) := (World.cell?_of_block (setCells_far _ _ g5 h57)).trans s1
   have Q7 : (X1.setCells g7 0 [.slice Aq lq.length cq]).heap[g7]? = some (.cells #[.slice Aq lq.length cq] 51 (0, 0)) := blk_put P7 0 _ rfl
   have P8 : (X1.setCells g7 0 [.slice Aq lq.length cq]).heap[g8]? = some (.cells #[.bool false] 4 (0, 0)) := (setCells_far _ _ _ h87).trans P80
   have far2 : ∀ k, k ≠ g7 → (X1.setCells g7 0 [.slice Aq lq.length cq]).heap[k]? = X1.heap[k]? := fun k hk => setCells_far _ _ k hk
   have bel2 : Below w.heap.size w (X1.setCells g7 0 [.slice Aq lq.length cq]) := box_farO _ _ HGW.out.2.2.1 bel1
   obtain ⟨X2, hX2⟩ : ∃ X, X = X1.setCells g7 0 [.slice Aq lq.length cq] := ⟨_, rfl⟩
   rw [← hX2] at s2 Q7 P8 far2 bel2
   have HX2 := am hX2
   clear hX2
   have s3 : (X2.setCells g8 0 [.bool bz]).cell? ⟨g5, 0, none⟩ = some (.slice Aq lq.length cq) := (World.cell?_of_block (setCells_far _ _ g5 h58)).trans s2
   have Q8 : (X2.setCells g8 0 [.bool bz]).heap[g8]? = some (.cells #[.bool bz] 4 (0, 0)) := blk_put P8 0 _ rfl
   have far3 : ∀ k, k ≠ g8 → (X2.setCells g8 0 [.bool bz]).heap[k]? = X2.heap[k]? := fun k hk => setCells_far _ _ k hk
   have bel3 : Below w.heap.size w (X2.setCells g8 0 [.bool bz]) := box_farO _ _ HGW.out.2.2.2.1 bel2
   obtain ⟨X3, hX3⟩ : ∃ X, X = X2.setCells g8 0 [.bool bz] := ⟨_, rfl⟩
   rw [← hX3] at s3 Q8 far3 bel3
   have HX3 := am hX3
   clear hX3
   have hfar : ∀ k, k ≠ g6 → k ≠ g7 → k ≠ g8 → X3.heap[k]? = W.heap[k]? := fun k e6 e7 e8 => (far3 k e8).trans ((far2 k e7).trans (far1 k e6))
   have hF6 := (far3 g6 h68).trans ((far2 g6 h67).trans Q6)
   have hF7 := (far3 g7 h78).trans Q7
   have hDg := HDG.out
   have hKF : X3.heap[D]? = some (.deferred (some [])) := (hfar D hDg.2.1 hDg.2.2.1 hDg.2.2.2.1).trans ((HB.block D HGZ.out.2.2.2).trans HKD.out)
   have hFB := bel3
   have hmv : ∀ {ok : Nat → Prop} {v : Value} {xs : List Int}, Kd.R (Kd.int .i64) 3 W wo.heap.size ok v xs → Kd.R (Kd.int .i64) 3 X3 w.heap.size ok v xs := fun h => Kd.R_mono (Kd.R_lower (Kd.R_step (Kd.R_bound h) (fun k hk _ => hfar k (by have := hk.2.1; have := HGZ.out; omega) (by have := hk.2.1; have := HGZ.out; omega) (by have := hk.2.1; have := HGZ.out; omega))) HBO.out.size) (fun _ hk => hk.1)
   have HF6 := am hF6
   have HF7 := am hF7
   have HF8 := am Q8
   have HKF := am hKF
   have HFB := am hFB
   have HQ0 := am (hmv HP0)
   have HQ2 := am (hmv HP2)
   have HQ3 := am (hmv HP3)
   have HQ4 := am (hmv HP4)
   clear hfar hF6 hF7 hKF hFB hmv HP0 HP2 HP3 HP4 P80 Q6 Q7 Q8 far1 far2 far3 bel1 bel2 bel3 G5w
   cases ge
   ·have e3 : bz = false := by rw [← hbz]; rfl
    subst e3
    refine zu 6 (some 90) (bb 14 127) HT_ ?_
    refine zn 7 (some 91) (bb 14 255) HT_ ?_
    refine zn 8 (some 92) (bb 14 511) HT_ ?_
    refine zn 9 (some 93) (bb 14 1023) HT_ ?_
    refine zu 10 (some 94) (bb 14 2047) HT_ ?_
    refine zo 11 none (bb 14 4095) HT_ (fun K hK => ?_)
    refine skip_ (w1 := X1) rfl rfl (by rw [HX1.out]; exact box_runO (t := 30) (p := .tmp 6) (x := .tmp 85) rfl 0 P6 (by simp) rfl rfl rfl (by rfl) (by intro q_ hq_; simp at hq_; rcases hq_ with rfl | rfl | rfl | rfl | rfl <;> rfl)) ?_
    refine hK.out _ _ ⟨s1, trivial⟩ (fun hHeld => ?_)
    clear hK K
    refine zo 12 none (bb 14 8191) HT_ (fun K hK => ?_)
    refine skip_ (w1 := X2) rfl rfl (by rw [HX2.out]; exact box_runO (t := 51) (p := .tmp 7) (x := .tmp 86) rfl 0 P7 (by simp) rfl rfl rfl (by rfl) (by intro q_ hq_; rcases List.mem_singleton.1 hq_ with rfl; rfl)) ?_
    refine hK.out _ _ ⟨s2, trivial⟩ (fun hHeld => ?_)
    clear hK K
    refine zo 13 none (bb 14 16383) HT_ (fun K hK => ?_)
    refine skip_ (w1 := X3) rfl rfl (by rw [HX3.out]; exact box_runO (t := 4) (p := .tmp 8) (x := .tmp 94) rfl 0 P8 (by simp) rfl rfl rfl (by rfl) (by intro q_ hq_; rcases List.mem_singleton.1 hq_ with rfl; rfl)) ?_
    refine hK.out _ _ ⟨s3, trivial⟩ (fun hHeld => ?_)
    clear hK K
    refine done_ (done_of HT_.out (by kernel_rfl)) ?_
    clear P6 P7 P8 s1 s2 s3 HX1 HX2 HX3 HB hHeld HT_ HW_
    generalize X3 = F at *
    go_wp2
    have hDg := HDG.out
    have q7 : (F.putObj D (.deferred none)).heap[g7]? = _ := (World.putObj_heap_other hDg.2.2.1.symm).trans HF7.out
    have q8 : (F.putObj D (.deferred none)).heap[g8]? = _ := (World.putObj_heap_other hDg.2.2.2.1.symm).trans HF8.out
    refine ret_marks rfl HKF.out (results_ccc rfl _ _ g6 g7 g8 30 #[.slice B0 kk.length b0, .int .i64 cnt, .slice B2 e2.length b2, .slice B3 e3.length b3, .slice B4 e4.length b4] (.slice Aq lq.length cq) (.bool false) _ _ _ rfl ((World.putObj_heap_other hDg.2.1.symm).trans HF6.out) Try.underlying30 rfl (by kernel_rfl) rfl ((blk_cell q7 0).trans rfl) Try.underlying51 rfl rfl ((blk_cell q8 0).trans rfl) Try.underlying4 rfl) ?hst ?hR
    case hst =>
     rintro ⟨v0, v2, v3, v4, A', c', e, r0, r2, r3, r4, hle, hC, hb⟩
     exact ⟨v0, v2, v3, v4, A', c', e, R_mark r0 rfl HKF.out, R_mark r2 rfl HKF.out, R_mark r3 rfl HKF.out, R_mark r4 rfl HKF.out, hle, hC, below_mark hb hDg.2.2.2.2⟩
    case hR =>
     rw [HZ.out]
     exact ⟨_, _, _, _, Aq, cq, rfl, HQ0.out, HQ2.out, HQ3.out, HQ4.out, HL12.out.1, HL12.out.2, HFB.out⟩
   ·have e3 : bz = b9 := by rw [← hbz]; rfl
    subst e3
    refine zu 6 (some 90) (bb 14 127) HT_ ?_
    refine zu 7 (some 91) (bb 14 255) HT_ ?_
    refine zo 8 (some 92) (bb 14 511) HT_ (fun K hK => ?_)
    have gc1 := (Below.cell HB (World.block_lt_of_cell? wo _ G1.out)).trans G1.out
    refine value_ (v := .int .i64 cnt) (w1 := W) rfl rfl (by go_simp; first | done | rfl) ?_
    clear gc1
    refine hK.out _ _ ⟨(Below.cell HB (World.block_lt_of_cell? wo _ G5.out)).trans G5.out, trivial⟩ (fun hHeld => ?_)
    clear hK K
    refine nm ?_
    refine zu 9 (some 93) (bb 14 1023) HT_ ?_
    refine zu 10 (some 94) (bb 14 2047) HT_ ?_
    refine zo 11 none (bb 14 4095) HT_ (fun K hK => ?_)
    refine skip_ (w1 := X1) rfl rfl (by rw [HX1.out]; exact box_runO (t := 30) (p := .tmp 6) (x := .tmp 85) rfl 0 P6 (by simp) rfl rfl rfl (by rfl) (by intro q_ hq_; simp at hq_; rcases hq_ with rfl | rfl | rfl | rfl | rfl <;> rfl)) ?_
    refine hK.out _ _ ⟨s1, trivial⟩ (fun hHeld => ?_)
    clear hK K
    refine zo 12 none (bb 14 8191) HT_ (fun K hK => ?_)
    refine skip_ (w1 := X2) rfl rfl (by rw [HX2.out]; exact box_runO (t := 51) (p := .tmp 7) (x := .tmp 86) rfl 0 P7 (by simp) rfl rfl rfl (by rfl) (by intro q_ hq_; rcases List.mem_singleton.1 hq_ with rfl; rfl)) ?_
    refine hK.out _ _ ⟨s2, trivial⟩ (fun hHeld => ?_)
    clear hK K
    refine zo 13 none (bb 14 16383) HT_ (fun K hK => ?_)
    refine skip_ (w1 := X3) rfl rfl (by rw [HX3.out]; exact box_runO (t := 4) (p := .tmp 8) (x := .tmp 94) rfl 0 P8 (by simp) rfl rfl rfl (by rfl) (by intro q_ hq_; rcases List.mem_singleton.1 hq_ with rfl; rfl)) ?_
    refine hK.out _ _ ⟨s3, trivial⟩ (fun hHeld => ?_)
    clear hK K
    refine done_ (done_of HT_.out (by kernel_rfl)) ?_
    clear P6 P7 P8 s1 s2 s3 HX1 HX2 HX3 HB hHeld HT_ HW_
    generalize X3 = F at *
    go_wp2
    have hDg := HDG.out
    have q7 : (F.putObj D (.deferred none)).heap[g7]? = _ := (World.putObj_heap_other hDg.2.2.1.symm).trans HF7.out
    have q8 : (F.putObj D (.deferred none)).heap[g8]? = _ := (World.putObj_heap_other hDg.2.2.2.1.symm).trans HF8.out
    refine ret_marks rfl HKF.out (results_ccc rfl _ _ g6 g7 g8 30 #[.slice B0 kk.length b0, .int .i64 cnt, .slice B2 e2.length b2, .slice B3 e3.length b3, .slice B4 e4.length b4] (.slice Aq lq.length cq) (.bool bz) _ _ _ rfl ((World.putObj_heap_other hDg.2.1.symm).trans HF6.out) Try.underlying30 rfl (by kernel_rfl) rfl ((blk_cell q7 0).trans rfl) Try.underlying51 rfl rfl ((blk_cell q8 0).trans rfl) Try.underlying4 rfl) ?hst ?hR
    case hst =>
     rintro ⟨v0, v2, v3, v4, A', c', e, r0, r2, r3, r4, hle, hC, hb⟩
     exact ⟨v0, v2, v3, v4, A', c', e, R_mark r0 rfl HKF.out, R_mark r2 rfl HKF.out, R_mark r3 rfl HKF.out, R_mark r4 rfl HKF.out, hle, hC, below_mark hb hDg.2.2.2.2⟩
    case hR =>
     rw [HZ.out]
     exact ⟨_, _, _, _, Aq, cq, rfl, HQ0.out, HQ2.out, HQ3.out, HQ4.out, HL12.out.1, HL12.out.2, HFB.out⟩
 case stop =>
  rintro D c pre W hD hp ⟨rfl, ⟨p, x, rfl, hbad⟩, h6, h7, h8, hB⟩ hK
  have hzero : oneR cards meas s b = (([], 0, [], [], []), [], false) := by
   unfold oneR
   rw [if_neg]
   rintro ⟨hk, _⟩
   obtain ⟨t, ht⟩ := hp
   have h1 : p.length < (dimsM s).length := by rw [← ht, List.length_append, List.length_append, List.length_singleton]; omega
   have h2 := hk p.length h1
   have h3 : ((dimsM s)[p.length]) = x := by simp [← ht]
   rw [h3] at h2
   omega
  have HZ := am hzero
  clear hzero
  have hDg : D ≠ g6 ∧ D ≠ g7 ∧ D ≠ g8 ∧ w.heap.size ≤ D := by have := blk_lt L6.out; have := blk_lt L7.out; have := blk_lt L8.out; have := HGS.out; omega
  have q7 : (W.putObj D (.deferred none)).heap[g7]? = _ := (World.putObj_heap_other hDg.2.1.symm).trans h7
  have q8 : (W.putObj D (.deferred none)).heap[g8]? = _ := (World.putObj_heap_other hDg.2.2.1.symm).trans h8
  refine (wpIn_wide (n := 6)).2 ?_
  go_wp2
  refine ret_marks rfl hK (results_ccc rfl _ _ g6 g7 g8 30 #[.slice none 0 0, .int .i64 0, .slice none 0 0, .slice none 0 0, .slice none 0 0] (.slice none 0 0) (.bool false) _ _ _ rfl ((World.putObj_heap_other hDg.1.symm).trans h6) Try.underlying30 rfl (by kernel_rfl) rfl ((blk_cell q7 0).trans rfl) Try.underlying51 rfl rfl ((blk_cell q8 0).trans rfl) Try.underlying4 rfl) ?hst ?hR
  case hst =>
   rintro ⟨v0, v2, v3, v4, A', c', e, r0, r2, r3, r4, hle, hC, hb⟩
   exact ⟨v0, v2, v3, v4, A', c', e, R_mark r0 rfl hK, R_mark r2 rfl hK, R_mark r3 rfl hK, R_mark r4 rfl hK, hle, hC, below_mark hb hDg.2.2.2⟩
  case hR =>
   rw [HZ.out]
   exact ⟨_, _, _, _, none, 0, rfl, Kd.R_nil _ _ _ _ _, Kd.R_nil _ _ _ _ _, Kd.R_nil _ _ _ _ _, Kd.R_nil _ _ _ _ _, Nat.le_refl _, (Kd.R_reads' (Kd.R_nil (Kd.int .u8) 5 wb 0 (fun _ => True))).2.2, hB⟩
end Go.Proofs.Ytmkjkkmilopcpaa.Q
namespace Go.Proofs.Ytmkjkkmilopcpaa.Q
open Go.RowKit Go.Proofs.YtmkjkkmilopcpaaW.PrintWords Go.Proofs.YtmkjkkmilopcpaaW.PrintLast Go.Proofs.YtmkjkkmilopcpaaW.PrintMore
attribute [local go_sem] max2_int min2_int max_two min_two max_three min_three max_four min_four
set_option linter.unusedVariables false
attribute [local go_sem] Oper.semAt_some
set_option linter.unusedSimpArgs false
def cell_Of.f (l0_0 : List Int) (l0_1 : List Int) (a1 : Int) : Option (List Int × Int × List Int × List Int × List Int) := (slices_Clone_int_int.f l0_1).bind fun t139 => ((slices_Clone_int_int.f l0_1).bind fun t142 => ((slices_Clone_int_int.f l0_1).bind fun t145 => ((cell_dims.f l0_0 a1).bind fun t149 => ((slices_Clone_int_int.f t149).bind fun t152 => (some (t152, 1, t139, t142, t145))))))
def cell_Of.T5 : Bool × List (List Nat × List Nat) := (true, [([], []), ([0], [0]), ([], []), ([2], [2]), ([], []), ([3, 4], [3, 4]), ([5], [5]), ([6], [6]), ([1, 7], [1, 7]), ([0, 1, 2, 3, 4, 5, 6, 7, 8], []), ([9, 8, 8, 0, 1, 2, 3, 4, 5, 6, 7, 8], [8, 9])])
def cell_Of.B5 : List Nat := [0, 1, 0, 4, 0, 28, 60, 124, 255, 511, 1023]
theorem cell_Of.tab5 : rtab .any (opsOf Try.f28 5) = cell_Of.T5 := by kernel_rfl
theorem cell_Of.bits5 : waitsOk cell_Of.T5.2 cell_Of.B5 = true := by kernel_rfl
def cell_Of.T1 : Bool × List (List Nat × List Nat) := (true, [([], []), ([0], [0]), ([1], [1]), ([], []), ([3], [3]), ([4, 2], [4]), ([], []), ([6], [6]), ([7, 5], [7]), ([2, 5, 8], [2, 5, 8]), ([], []), ([10, 9, 8, 0, 1, 2, 3, 4, 5, 6, 7, 8, 9, 10], [9, 10])])
def cell_Of.B1 : List Nat := [0, 1, 3, 0, 8, 31, 0, 64, 255, 511, 0, 2047]
theorem cell_Of.tab1 : rtab .any (opsOf Try.f28 1) = cell_Of.T1 := by kernel_rfl
theorem cell_Of.bits1 : waitsOk cell_Of.T1.2 cell_Of.B1 = true := by kernel_rfl
set_option maxHeartbeats 8000000 in
set_option maxRecDepth 100000 in
theorem cell_Of.calls (A0_0 : Option Addr) (c0_0 : Nat) (l0_0 : List Int) (A0_1 : Option Addr) (c0_1 : Nat) (l0_1 : List Int) (a1 : Int) (r1 : List Int) (r2 : Int) (r3 : List Int) (r4 : List Int) (r5 : List Int) (w : World) (hr0_0 : Kd.C (Kd.int .i64) w A0_0 l0_0.length l0_0) (hc0_0 : l0_0.length ≤ c0_0) (hr0_1 : Kd.C (Kd.int .i64) w A0_1 l0_1.length l0_1) (hc0_1 : l0_1.length ≤ c0_1) (h : cell_Of.f l0_0 l0_1 a1 = some (r1, r2, r3, r4, r5)) :
  Calls Try.prog 28 #[.agg #[.slice A0_0 l0_0.length c0_0, .slice A0_1 l0_1.length c0_1], .int .i64 a1] w fun e w' => ∃ v0_ v2_ v3_ v4_ : Value, e = .returned (.agg #[v0_, .int .i64 r2, v2_, v3_, v4_]) ∧ Kd.R (Kd.int .i64) 3 w' w.heap.size (fun k_ => some k_ ≠ (v2_ : Value).ownBlock ∧ some k_ ≠ (v3_ : Value).ownBlock ∧ some k_ ≠ (v4_ : Value).ownBlock) v0_ r1 ∧ Kd.R (Kd.int .i64) 3 w' w.heap.size (fun k_ => some k_ ≠ (v0_ : Value).ownBlock ∧ some k_ ≠ (v3_ : Value).ownBlock ∧ some k_ ≠ (v4_ : Value).ownBlock) v2_ r3 ∧ Kd.R (Kd.int .i64) 3 w' w.heap.size (fun k_ => some k_ ≠ (v0_ : Value).ownBlock ∧ some k_ ≠ (v2_ : Value).ownBlock ∧ some k_ ≠ (v4_ : Value).ownBlock) v3_ r4 ∧ Kd.R (Kd.int .i64) 3 w' w.heap.size (fun k_ => some k_ ≠ (v0_ : Value).ownBlock ∧ some k_ ≠ (v2_ : Value).ownBlock ∧ some k_ ≠ (v3_ : Value).ownBlock) v4_ r5 ∧ Below w.heap.size w w' := by
 have hu45 := Try.underlying45
 have hu30 := Try.underlying30
 have HR0_0 := am hr0_0
 have HC0_0 := am hc0_0
 clear hr0_0 hc0_0
 have HR0_1 := am hr0_1
 have HC0_1 := am hc0_1
 clear hr0_1 hc0_1
 have HB := am (Below.refl w.heap.size w)
 have H : ((slices_Clone_int_int.f l0_1).bind fun t139 => ((slices_Clone_int_int.f l0_1).bind fun t142 => ((slices_Clone_int_int.f l0_1).bind fun t145 => ((cell_dims.f l0_0 a1).bind fun t149 => ((slices_Clone_int_int.f t149).bind fun t152 => (some (t152, 1, t139, t142, t145))))))) = some (r1, r2, r3, r4, r5) := h
 clear h
 replace H := Option.bind_eq_some_iff.mp H
 obtain ⟨t139, A30, H⟩ := H
 replace H : ((slices_Clone_int_int.f l0_1).bind fun t142 => ((slices_Clone_int_int.f l0_1).bind fun t145 => ((cell_dims.f l0_0 a1).bind fun t149 => ((slices_Clone_int_int.f t149).bind fun t152 => (some (t152, 1, t139, t142, t145)))))) = some (r1, r2, r3, r4, r5) := H
 have A3 := am A30
 clear A30
 replace H := Option.bind_eq_some_iff.mp H
 obtain ⟨t142, A40, H⟩ := H
 replace H : ((slices_Clone_int_int.f l0_1).bind fun t145 => ((cell_dims.f l0_0 a1).bind fun t149 => ((slices_Clone_int_int.f t149).bind fun t152 => (some (t152, 1, t139, t142, t145))))) = some (r1, r2, r3, r4, r5) := H
 have A4 := am A40
 clear A40
 replace H := Option.bind_eq_some_iff.mp H
 obtain ⟨t145, A50, H⟩ := H
 replace H : ((cell_dims.f l0_0 a1).bind fun t149 => ((slices_Clone_int_int.f t149).bind fun t152 => (some (t152, 1, t139, t142, t145)))) = some (r1, r2, r3, r4, r5) := H
 have A5 := am A50
 clear A50
 replace H := Option.bind_eq_some_iff.mp H
 obtain ⟨t149, A60, H⟩ := H
 replace H : ((slices_Clone_int_int.f t149).bind fun t152 => (some (t152, 1, t139, t142, t145))) = some (r1, r2, r3, r4, r5) := H
 have A6 := am A60
 clear A60
 replace H := Option.bind_eq_some_iff.mp H
 obtain ⟨t152, A70, H⟩ := H
 replace H : (some (t152, 1, t139, t142, t145)) = some (r1, r2, r3, r4, r5) := H
 have A7 := am A70
 clear A70
 simp only [Option.some.injEq, Prod.mk.injEq] at H
 obtain ⟨rfl, rfl, rfl, rfl, rfl⟩ := H
 refine calls_marks Try.func28 rfl ?_
 simp only [Try.ntmps28, List.size_toArray, List.length_cons, List.length_nil, Nat.reduceAdd, Nat.reduceSub, Array.replicate_succ, Array.replicate_zero, List.push_toArray, List.append_toArray, List.nil_append, List.cons_append]
 try go_wp2_with (first | ((with_reducible refine gate_dst (N := 2) rfl ?_); refine zX #[.slice A0_0 l0_0.length c0_0, .slice A0_1 l0_1.length c0_1] 45 ?_; intro gb137 hg w8 hbox hb; have n0_ := am (below_step (wmv HB.out) hb); have n1_ := am (hbox); have n2_ := am ((by rw [hg]; exact (below_size (wmv HB.out)) : w.heap.size ≤ gb137)); have n3_ := am ((by rw [hg]; exact (below_size (wmv HB.out)) : w.heap.size ≤ gb137)); clear HB; revert n0_ n1_ n2_ n3_; intro HB BK137 GW137 GE137; clear hb hbox hg) | ((with_reducible refine gate_dst (N := 4) rfl ?_); refine zX #[.slice none 0 0, .int .i64 0, .slice none 0 0, .slice none 0 0, .slice none 0 0] 30 ?_; intro gb138 hg w9 hbox hb; have n0_ := am (blk_below (bmv BK137.out) hb); have n1_ := am (below_step (wmv HB.out) hb); have n2_ := am (hbox); have n3_ := am ((by rw [hg]; exact (below_size (wmv HB.out)) : w.heap.size ≤ gb138)); have n4_ := am ((by rw [hg]; exact (below_size (wmv HB.out)) : w.heap.size ≤ gb138)); have n5_ := am ((by rw [hg]; exact Nat.ne_of_lt (blk_lt (bmv BK137.out)) : gb137 ≠ gb138)); have n6_ := am ((by rw [hg]; exact Nat.ne_of_gt (blk_lt (bmv BK137.out)) : gb138 ≠ gb137)); clear BK137 HB; revert n0_ n1_ n2_ n3_ n4_ n5_ n6_; intro BK137 HB BK138 GW138 GE138 NB137_138 NB138_137; clear hb hbox hg))
 have n0_ := am (blk_drew BK137.out)
 have n1_ := am (blk_drew BK138.out)
 have n2_ := am (below_drew1 HB.out)
 clear BK137 BK138 HB
 revert n0_ n1_ n2_
 intro BK137 BK138 HB
 refine start_ (n := 12) (S := fun w' => w'.cell? ⟨gb137, 0, none⟩ = some (.slice A0_0 l0_0.length c0_0) ∧ w'.cell? ⟨gb137, 1, none⟩ = some (.slice A0_1 l0_1.length c0_1)) (ds := []) (bb 12 0) (by kernel_rfl) rfl rfl ⟨bc BK137 0, bc BK137 1⟩ (fun hHeld => ?_); refine with_tabW cell_Of.tab1 cell_Of.bits1 (fun HT_ HW_ => ?_)
 generalize w9.drew = w10 at BK137 BK138 HB hHeld ⊢
 refine zu 0 (some 7) (bb 12 1) HT_ ?_
 refine zu 3 (some 10) (bb 12 9) HT_ ?_
 refine zu 6 (some 13) (bb 12 73) HT_ ?_
 refine zk 1 (some 8) (bb 12 75) HT_ HW_ hHeld ?_
 refine zk 4 (some 11) (bb 12 91) HT_ HW_ hHeld ?_
 refine zk 7 (some 14) (bb 12 219) HT_ HW_ hHeld ?_
 refine join_ (σ := Value × Value × Value × Nat) 1 (bb 12 2047) (fun s_ => [(9, s_.1), (12, s_.2.1), (15, s_.2.2.1), (5, .pointer (some ⟨s_.2.2.2, 0, none⟩)), (16, .agg #[.slice none 0 0, .int .i64 1, s_.1, s_.2.1, s_.2.2.1])]) (fun s_ w' => (w'.cell? ⟨gb137, 0, none⟩ = some (.slice A0_0 l0_0.length c0_0) ∧ w'.cell? ⟨gb137, 1, none⟩ = some (.slice A0_1 l0_1.length c0_1)) ∧ (Kd.R (Kd.int .i64) 3 w' w.heap.size (fun k_ => some k_ ≠ (s_.2.1 : Value).ownBlock ∧ some k_ ≠ (s_.2.2.1 : Value).ownBlock) s_.1 t139) ∧ (Kd.R (Kd.int .i64) 3 w' w.heap.size (fun k_ => some k_ ≠ (s_.1 : Value).ownBlock ∧ some k_ ≠ (s_.2.2.1 : Value).ownBlock) s_.2.1 t142) ∧ (Kd.R (Kd.int .i64) 3 w' w.heap.size (fun k_ => some k_ ≠ (s_.1 : Value).ownBlock ∧ some k_ ≠ (s_.2.1 : Value).ownBlock) s_.2.2.1 t145) ∧ (w'.heap[gb137]? = some (.cells #[.slice A0_0 l0_0.length c0_0, .slice A0_1 l0_1.length c0_1] 45 (0, 0))) ∧ (w'.heap[gb138]? = some (.cells #[.slice none 0 0, .int .i64 0, .slice none 0 0, .slice none 0 0, .slice none 0 0] 30 (0, 0))) ∧ (w'.heap[s_.2.2.2]? = some (.cells #[.slice none 0 0, .int .i64 0, .slice none 0 0, .slice none 0 0, .slice none 0 0] 30 (0, 0))) ∧ (w.heap.size ≤ s_.2.2.2) ∧ (w.heap.size ≤ s_.2.2.2) ∧ (gb137 ≠ s_.2.2.2) ∧ (s_.2.2.2 ≠ gb137) ∧ (gb138 ≠ s_.2.2.2) ∧ (s_.2.2.2 ≠ gb138) ∧ (Below w.heap.size w w')) ?_ ?_
 rotate_left
 ·intro hCont
  refine two_ (i := 2) (j := 10) (Ni := some 9) (Nj := some 5) (bb 12 223) (bb 12 1243) rfl rfl rfl rfl (two_of HT_.out (by kernel_rfl)) (by decide) (by decide) (fun K hK => ?_) (fun K hK => ?_)
  ·skip
   refine goes_ Try.func40 (by kernel_rfl) rfl #[.slice A0_1 l0_1.length c0_1] (by rfl) rfl rfl zm ?_
   with_reducible refine (slices_Clone_int_int.calls _ _ l0_1 t139 _ ?side1 ?side2 A3.out).mono ?_
   (case side1 => exact Kd.Cw HR0_1.out HB.out)
   (case side2 => exact HC0_1.out)
   rintro e w11 ⟨v140, rfl, ho0, hb⟩
   refine ⟨_, rfl, ?_⟩
   have n0_ := am (Kd.R_lower ho0 (below_size (wmv HB.out)))
   have n1_ := am (blk_below (bmv BK137.out) hb)
   have n2_ := am (blk_below (bmv BK138.out) hb)
   have n3_ := am (below_step (wmv HB.out) hb)
   clear BK137 BK138 HB
   revert n0_ n1_ n2_ n3_
   intro HO141 BK137 BK138 HB
   (try clear hb)
   (try clear hb2)
   (try clear hk)
   (try clear hi)
   (try clear ho0)
   refine hK.out _ _ ⟨bc BK137 0, bc BK137 1⟩ (fun hHeld => ?_)
   clear hK K
   refine nm ?_
   refine two_ (i := 5) (j := 10) (Ni := some 12) (Nj := some 5) (bb 12 255) (bb 12 1247) rfl rfl rfl rfl (two_of HT_.out (by kernel_rfl)) (by decide) (by decide) (fun K hK => ?_) (fun K hK => ?_)
   ·skip
    refine goes_ Try.func40 (by kernel_rfl) rfl #[.slice A0_1 l0_1.length c0_1] (by rfl) rfl rfl zm ?_
    with_reducible refine (slices_Clone_int_int.calls _ _ l0_1 t142 _ ?side1 ?side2 A4.out).mono ?_
    (case side1 => exact Kd.Cw HR0_1.out HB.out)
    (case side2 => exact HC0_1.out)
    rintro e w12 ⟨v143, rfl, ho0, hb⟩
    refine ⟨_, rfl, ?_⟩
    have n0_ := am (Kd.R_elder' (Kd.R_mv HO141.out) (Kd.R_base ho0) hb)
    have n1_ := am (Kd.R_lower (Kd.R_new' ho0 (Kd.R_lt (Kd.R_mv HO141.out))) (below_size (wmv HB.out)))
    have n2_ := am (blk_below (bmv BK137.out) hb)
    have n3_ := am (blk_below (bmv BK138.out) hb)
    have n4_ := am (below_step (wmv HB.out) hb)
    clear HO141 BK137 BK138 HB
    revert n0_ n1_ n2_ n3_ n4_
    intro HO141 HO144 BK137 BK138 HB
    (try clear hb)
    (try clear hb2)
    (try clear hk)
    (try clear hi)
    (try clear ho0)
    refine hK.out _ _ ⟨bc BK137 0, bc BK137 1⟩ (fun hHeld => ?_)
    clear hK K
    refine nm ?_
    refine two_ (i := 8) (j := 10) (Ni := some 15) (Nj := some 5) (bb 12 511) (bb 12 1279) rfl rfl rfl rfl (two_of HT_.out (by kernel_rfl)) (by decide) (by decide) (fun K hK => ?_) (fun K hK => ?_)
    ·skip
     refine goes_ Try.func40 (by kernel_rfl) rfl #[.slice A0_1 l0_1.length c0_1] (by rfl) rfl rfl zm ?_
     with_reducible refine (slices_Clone_int_int.calls _ _ l0_1 t145 _ ?side1 ?side2 A5.out).mono ?_
     (case side1 => exact Kd.Cw HR0_1.out HB.out)
     (case side2 => exact HC0_1.out)
     rintro e w13 ⟨v146, rfl, ho0, hb⟩
     refine ⟨_, rfl, ?_⟩
     have n0_ := am (Kd.R_elder' (Kd.R_mv HO141.out) (Kd.R_base ho0) hb)
     have n1_ := am (Kd.R_elder' (Kd.R_mv HO144.out) (Kd.R_base ho0) hb)
     have n2_ := am (Kd.R_lower (Kd.R_new' (Kd.R_new' ho0 (Kd.R_lt (Kd.R_mv HO141.out))) (Kd.R_lt (Kd.R_mv HO144.out))) (below_size (wmv HB.out)))
     have n3_ := am (blk_below (bmv BK137.out) hb)
     have n4_ := am (blk_below (bmv BK138.out) hb)
     have n5_ := am (below_step (wmv HB.out) hb)
     clear HO141 HO144 BK137 BK138 HB
     revert n0_ n1_ n2_ n3_ n4_ n5_
     intro HO141 HO144 HO147 BK137 BK138 HB
     (try clear hb)
     (try clear hb2)
     (try clear hk)
     (try clear hi)
     (try clear ho0)
     obtain ⟨Ao14, co14, eo14⟩ := Kd.R_slice HO147.out
     (first | subst eo14 | (injection eo14 with f1_ f2_ f3_; have f4_ := f1_.symm; have f5_ := f3_.symm; clear f1_ f2_ f3_; subst f4_; subst f5_))
     obtain ⟨Ao15, co15, eo15⟩ := Kd.R_slice HO144.out
     (first | subst eo15 | (injection eo15 with f1_ f2_ f3_; have f4_ := f1_.symm; have f5_ := f3_.symm; clear f1_ f2_ f3_; subst f4_; subst f5_))
     obtain ⟨Ao16, co16, eo16⟩ := Kd.R_slice HO141.out
     (first | subst eo16 | (injection eo16 with f1_ f2_ f3_; have f4_ := f1_.symm; have f5_ := f3_.symm; clear f1_ f2_ f3_; subst f4_; subst f5_))
     refine hK.out _ _ ⟨bc BK137 0, bc BK137 1⟩ (fun hHeld => ?_)
     clear hK K
     refine nm ?_
     refine zu 9 (some 16) (bb 12 1023) HT_ ?_
     refine zo 10 (some 5) (bb 12 2047) HT_ (fun K hK => ?_)
     refine box_step ?hg (N := 5) ?hd (cs := #[.slice none 0 0, .int .i64 0, .slice none 0 0, .slice none 0 0, .slice none 0 0]) (t := 30) ?hr ?_; (case hd => rfl); (case hg => rfl); (case hr => first | (go_simp; done) | (go_simp; rfl))
     intro gb148 hg w17 hbox hb
     have n0_ := am (Kd.R_below (Kd.R_mv HO141.out) hb)
     have n1_ := am (Kd.R_below (Kd.R_mv HO144.out) hb)
     have n2_ := am (Kd.R_below (Kd.R_mv HO147.out) hb)
     have n3_ := am (blk_below (bmv BK137.out) hb)
     have n4_ := am (blk_below (bmv BK138.out) hb)
     have n5_ := am (below_step (wmv HB.out) hb)
     have n6_ := am (hbox)
     have n7_ := am ((by rw [hg]; exact (below_size (wmv HB.out)) : w.heap.size ≤ gb148))
     have n8_ := am ((by rw [hg]; exact (below_size (wmv HB.out)) : w.heap.size ≤ gb148))
     have n9_ := am ((by rw [hg]; exact Nat.ne_of_lt (blk_lt (bmv BK137.out)) : gb137 ≠ gb148))
     have n10_ := am ((by rw [hg]; exact Nat.ne_of_gt (blk_lt (bmv BK137.out)) : gb148 ≠ gb137))
     have n11_ := am ((by rw [hg]; exact Nat.ne_of_lt (blk_lt (bmv BK138.out)) : gb138 ≠ gb148))
     have n12_ := am ((by rw [hg]; exact Nat.ne_of_gt (blk_lt (bmv BK138.out)) : gb148 ≠ gb138))
     clear HO141 HO144 HO147 BK137 BK138 HB
     revert n0_ n1_ n2_ n3_ n4_ n5_ n6_ n7_ n8_ n9_ n10_ n11_ n12_
     intro HO141 HO144 HO147 BK137 BK138 HB BK148 GW148 GE148 NB137_148 NB148_137 NB138_148 NB148_138
     clear hb hbox hg
     refine hK.out _ _ ⟨bc BK137 0, bc BK137 1⟩ (fun hHeld => ?_)
     clear hK K
     refine nm ?_
     exact norm_ (by simp only [putAll, Act.put, List.setIfInBounds_toArray, List.set_cons_zero, List.set_cons_succ]) (hCont (.slice Ao16 t139.length co16, .slice Ao15 t142.length co15, .slice Ao14 t145.length co14, gb148) _ ⟨hHeld, (Kd.R_mv (Kd.R_mono HO141.out (fun _ hk => ⟨hk.1.2, hk.2⟩))), (Kd.R_mv (Kd.R_mono HO144.out (fun _ hk => ⟨hk.1.2, hk.2⟩))), (Kd.R_mv (Kd.R_mono HO147.out (fun _ hk => ⟨hk.1.2, hk.2⟩))), (bmv BK137.out), (bmv BK138.out), (bmv BK148.out), GW148.out, GE148.out, NB137_148.out, NB148_137.out, NB138_148.out, NB148_138.out, (wmv HB.out)⟩)
    ·skip
     refine box_step ?hg (N := 5) ?hd (cs := #[.slice none 0 0, .int .i64 0, .slice none 0 0, .slice none 0 0, .slice none 0 0]) (t := 30) ?hr ?_; (case hd => rfl); (case hg => rfl); (case hr => first | (go_simp; done) | (go_simp; rfl))
     intro gb148 hg w13 hbox hb
     have n0_ := am (Kd.R_below (Kd.R_mv HO141.out) hb)
     have n1_ := am (Kd.R_below (Kd.R_mv HO144.out) hb)
     have n2_ := am (blk_below (bmv BK137.out) hb)
     have n3_ := am (blk_below (bmv BK138.out) hb)
     have n4_ := am (below_step (wmv HB.out) hb)
     have n5_ := am (hbox)
     have n6_ := am ((by rw [hg]; exact (below_size (wmv HB.out)) : w.heap.size ≤ gb148))
     have n7_ := am ((by rw [hg]; exact (below_size (wmv HB.out)) : w.heap.size ≤ gb148))
     have n8_ := am ((by rw [hg]; exact Nat.ne_of_lt (blk_lt (bmv BK137.out)) : gb137 ≠ gb148))
     have n9_ := am ((by rw [hg]; exact Nat.ne_of_gt (blk_lt (bmv BK137.out)) : gb148 ≠ gb137))
     have n10_ := am ((by rw [hg]; exact Nat.ne_of_lt (blk_lt (bmv BK138.out)) : gb138 ≠ gb148))
     have n11_ := am ((by rw [hg]; exact Nat.ne_of_gt (blk_lt (bmv BK138.out)) : gb148 ≠ gb138))
     clear HO141 HO144 BK137 BK138 HB
     revert n0_ n1_ n2_ n3_ n4_ n5_ n6_ n7_ n8_ n9_ n10_ n11_
     intro HO141 HO144 BK137 BK138 HB BK148 GW148 GE148 NB137_148 NB148_137 NB138_148 NB148_138
     clear hb hbox hg
     refine hK.out _ _ ⟨bc BK137 0, bc BK137 1⟩ (fun hHeld => ?_)
     clear hK K
     refine nm ?_
     refine zo 8 (some 15) (bb 12 1535) HT_ (fun K hK => ?_)
     refine goes_ Try.func40 (by kernel_rfl) rfl #[.slice A0_1 l0_1.length c0_1] (by rfl) rfl rfl zm ?_
     with_reducible refine (slices_Clone_int_int.calls _ _ l0_1 t145 _ ?side1 ?side2 A5.out).mono ?_
     (case side1 => exact Kd.Cw HR0_1.out HB.out)
     (case side2 => exact HC0_1.out)
     rintro e w14 ⟨v146, rfl, ho0, hb⟩
     refine ⟨_, rfl, ?_⟩
     have n0_ := am (Kd.R_elder' (Kd.R_mv HO141.out) (Kd.R_base ho0) hb)
     have n1_ := am (Kd.R_elder' (Kd.R_mv HO144.out) (Kd.R_base ho0) hb)
     have n2_ := am (Kd.R_lower (Kd.R_new' (Kd.R_new' ho0 (Kd.R_lt (Kd.R_mv HO141.out))) (Kd.R_lt (Kd.R_mv HO144.out))) (below_size (wmv HB.out)))
     have n3_ := am (blk_below (bmv BK137.out) hb)
     have n4_ := am (blk_below (bmv BK138.out) hb)
     have n5_ := am (blk_below (bmv BK148.out) hb)
     have n6_ := am (below_step (wmv HB.out) hb)
     clear HO141 HO144 BK137 BK138 BK148 HB
     revert n0_ n1_ n2_ n3_ n4_ n5_ n6_
     intro HO141 HO144 HO147 BK137 BK138 BK148 HB
     (try clear hb)
     (try clear hb2)
     (try clear hk)
     (try clear hi)
     (try clear ho0)
     obtain ⟨Ao15, co15, eo15⟩ := Kd.R_slice HO147.out
     (first | subst eo15 | (injection eo15 with f1_ f2_ f3_; have f4_ := f1_.symm; have f5_ := f3_.symm; clear f1_ f2_ f3_; subst f4_; subst f5_))
     obtain ⟨Ao16, co16, eo16⟩ := Kd.R_slice HO144.out
     (first | subst eo16 | (injection eo16 with f1_ f2_ f3_; have f4_ := f1_.symm; have f5_ := f3_.symm; clear f1_ f2_ f3_; subst f4_; subst f5_))
     obtain ⟨Ao17, co17, eo17⟩ := Kd.R_slice HO141.out
     (first | subst eo17 | (injection eo17 with f1_ f2_ f3_; have f4_ := f1_.symm; have f5_ := f3_.symm; clear f1_ f2_ f3_; subst f4_; subst f5_))
     refine hK.out _ _ ⟨bc BK137 0, bc BK137 1⟩ (fun hHeld => ?_)
     clear hK K
     refine nm ?_
     refine zu 9 (some 16) (bb 12 2047) HT_ ?_
     exact norm_ (by simp only [putAll, Act.put, List.setIfInBounds_toArray, List.set_cons_zero, List.set_cons_succ]) (hCont (.slice Ao17 t139.length co17, .slice Ao16 t142.length co16, .slice Ao15 t145.length co15, gb148) _ ⟨hHeld, (Kd.R_mv (Kd.R_mono HO141.out (fun _ hk => ⟨hk.1.2, hk.2⟩))), (Kd.R_mv (Kd.R_mono HO144.out (fun _ hk => ⟨hk.1.2, hk.2⟩))), (Kd.R_mv (Kd.R_mono HO147.out (fun _ hk => ⟨hk.1.2, hk.2⟩))), (bmv BK137.out), (bmv BK138.out), (bmv BK148.out), GW148.out, GE148.out, NB137_148.out, NB148_137.out, NB138_148.out, NB148_138.out, (wmv HB.out)⟩)
   ·skip
    refine box_step ?hg (N := 5) ?hd (cs := #[.slice none 0 0, .int .i64 0, .slice none 0 0, .slice none 0 0, .slice none 0 0]) (t := 30) ?hr ?_; (case hd => rfl); (case hg => rfl); (case hr => first | (go_simp; done) | (go_simp; rfl))
    intro gb148 hg w12 hbox hb
    have n0_ := am (Kd.R_below (Kd.R_mv HO141.out) hb)
    have n1_ := am (blk_below (bmv BK137.out) hb)
    have n2_ := am (blk_below (bmv BK138.out) hb)
    have n3_ := am (below_step (wmv HB.out) hb)
    have n4_ := am (hbox)
    have n5_ := am ((by rw [hg]; exact (below_size (wmv HB.out)) : w.heap.size ≤ gb148))
    have n6_ := am ((by rw [hg]; exact (below_size (wmv HB.out)) : w.heap.size ≤ gb148))
    have n7_ := am ((by rw [hg]; exact Nat.ne_of_lt (blk_lt (bmv BK137.out)) : gb137 ≠ gb148))
    have n8_ := am ((by rw [hg]; exact Nat.ne_of_gt (blk_lt (bmv BK137.out)) : gb148 ≠ gb137))
    have n9_ := am ((by rw [hg]; exact Nat.ne_of_lt (blk_lt (bmv BK138.out)) : gb138 ≠ gb148))
    have n10_ := am ((by rw [hg]; exact Nat.ne_of_gt (blk_lt (bmv BK138.out)) : gb148 ≠ gb138))
    clear HO141 BK137 BK138 HB
    revert n0_ n1_ n2_ n3_ n4_ n5_ n6_ n7_ n8_ n9_ n10_
    intro HO141 BK137 BK138 HB BK148 GW148 GE148 NB137_148 NB148_137 NB138_148 NB148_138
    clear hb hbox hg
    refine hK.out _ _ ⟨bc BK137 0, bc BK137 1⟩ (fun hHeld => ?_)
    clear hK K
    refine nm ?_
    refine zo 5 (some 12) (bb 12 1279) HT_ (fun K hK => ?_)
    refine goes_ Try.func40 (by kernel_rfl) rfl #[.slice A0_1 l0_1.length c0_1] (by rfl) rfl rfl zm ?_
    with_reducible refine (slices_Clone_int_int.calls _ _ l0_1 t142 _ ?side1 ?side2 A4.out).mono ?_
    (case side1 => exact Kd.Cw HR0_1.out HB.out)
    (case side2 => exact HC0_1.out)
    rintro e w13 ⟨v143, rfl, ho0, hb⟩
    refine ⟨_, rfl, ?_⟩
    have n0_ := am (Kd.R_elder' (Kd.R_mv HO141.out) (Kd.R_base ho0) hb)
    have n1_ := am (Kd.R_lower (Kd.R_new' ho0 (Kd.R_lt (Kd.R_mv HO141.out))) (below_size (wmv HB.out)))
    have n2_ := am (blk_below (bmv BK137.out) hb)
    have n3_ := am (blk_below (bmv BK138.out) hb)
    have n4_ := am (blk_below (bmv BK148.out) hb)
    have n5_ := am (below_step (wmv HB.out) hb)
    clear HO141 BK137 BK138 BK148 HB
    revert n0_ n1_ n2_ n3_ n4_ n5_
    intro HO141 HO144 BK137 BK138 BK148 HB
    (try clear hb)
    (try clear hb2)
    (try clear hk)
    (try clear hi)
    (try clear ho0)
    refine hK.out _ _ ⟨bc BK137 0, bc BK137 1⟩ (fun hHeld => ?_)
    clear hK K
    refine nm ?_
    refine zo 8 (some 15) (bb 12 1535) HT_ (fun K hK => ?_)
    refine goes_ Try.func40 (by kernel_rfl) rfl #[.slice A0_1 l0_1.length c0_1] (by rfl) rfl rfl zm ?_
    with_reducible refine (slices_Clone_int_int.calls _ _ l0_1 t145 _ ?side1 ?side2 A5.out).mono ?_
    (case side1 => exact Kd.Cw HR0_1.out HB.out)
    (case side2 => exact HC0_1.out)
    rintro e w14 ⟨v146, rfl, ho0, hb⟩
    refine ⟨_, rfl, ?_⟩
    have n0_ := am (Kd.R_elder' (Kd.R_mv HO141.out) (Kd.R_base ho0) hb)
    have n1_ := am (Kd.R_elder' (Kd.R_mv HO144.out) (Kd.R_base ho0) hb)
    have n2_ := am (Kd.R_lower (Kd.R_new' (Kd.R_new' ho0 (Kd.R_lt (Kd.R_mv HO141.out))) (Kd.R_lt (Kd.R_mv HO144.out))) (below_size (wmv HB.out)))
    have n3_ := am (blk_below (bmv BK137.out) hb)
    have n4_ := am (blk_below (bmv BK138.out) hb)
    have n5_ := am (blk_below (bmv BK148.out) hb)
    have n6_ := am (below_step (wmv HB.out) hb)
    clear HO141 HO144 BK137 BK138 BK148 HB
    revert n0_ n1_ n2_ n3_ n4_ n5_ n6_
    intro HO141 HO144 HO147 BK137 BK138 BK148 HB
    (try clear hb)
    (try clear hb2)
    (try clear hk)
    (try clear hi)
    (try clear ho0)
    obtain ⟨Ao15, co15, eo15⟩ := Kd.R_slice HO147.out
    (first | subst eo15 | (injection eo15 with f1_ f2_ f3_; have f4_ := f1_.symm; have f5_ := f3_.symm; clear f1_ f2_ f3_; subst f4_; subst f5_))
    obtain ⟨Ao16, co16, eo16⟩ := Kd.R_slice HO144.out
    (first | subst eo16 | (injection eo16 with f1_ f2_ f3_; have f4_ := f1_.symm; have f5_ := f3_.symm; clear f1_ f2_ f3_; subst f4_; subst f5_))
    obtain ⟨Ao17, co17, eo17⟩ := Kd.R_slice HO141.out
    (first | subst eo17 | (injection eo17 with f1_ f2_ f3_; have f4_ := f1_.symm; have f5_ := f3_.symm; clear f1_ f2_ f3_; subst f4_; subst f5_))
    refine hK.out _ _ ⟨bc BK137 0, bc BK137 1⟩ (fun hHeld => ?_)
    clear hK K
    refine nm ?_
    refine zu 9 (some 16) (bb 12 2047) HT_ ?_
    exact norm_ (by simp only [putAll, Act.put, List.setIfInBounds_toArray, List.set_cons_zero, List.set_cons_succ]) (hCont (.slice Ao17 t139.length co17, .slice Ao16 t142.length co16, .slice Ao15 t145.length co15, gb148) _ ⟨hHeld, (Kd.R_mv (Kd.R_mono HO141.out (fun _ hk => ⟨hk.1.2, hk.2⟩))), (Kd.R_mv (Kd.R_mono HO144.out (fun _ hk => ⟨hk.1.2, hk.2⟩))), (Kd.R_mv (Kd.R_mono HO147.out (fun _ hk => ⟨hk.1.2, hk.2⟩))), (bmv BK137.out), (bmv BK138.out), (bmv BK148.out), GW148.out, GE148.out, NB137_148.out, NB148_137.out, NB138_148.out, NB148_138.out, (wmv HB.out)⟩)
  ·skip
   refine box_step ?hg (N := 5) ?hd (cs := #[.slice none 0 0, .int .i64 0, .slice none 0 0, .slice none 0 0, .slice none 0 0]) (t := 30) ?hr ?_; (case hd => rfl); (case hg => rfl); (case hr => first | (go_simp; done) | (go_simp; rfl))
   intro gb148 hg w11 hbox hb
   have n0_ := am (blk_below (bmv BK137.out) hb)
   have n1_ := am (blk_below (bmv BK138.out) hb)
   have n2_ := am (below_step (wmv HB.out) hb)
   have n3_ := am (hbox)
   have n4_ := am ((by rw [hg]; exact (below_size (wmv HB.out)) : w.heap.size ≤ gb148))
   have n5_ := am ((by rw [hg]; exact (below_size (wmv HB.out)) : w.heap.size ≤ gb148))
   have n6_ := am ((by rw [hg]; exact Nat.ne_of_lt (blk_lt (bmv BK137.out)) : gb137 ≠ gb148))
   have n7_ := am ((by rw [hg]; exact Nat.ne_of_gt (blk_lt (bmv BK137.out)) : gb148 ≠ gb137))
   have n8_ := am ((by rw [hg]; exact Nat.ne_of_lt (blk_lt (bmv BK138.out)) : gb138 ≠ gb148))
   have n9_ := am ((by rw [hg]; exact Nat.ne_of_gt (blk_lt (bmv BK138.out)) : gb148 ≠ gb138))
   clear BK137 BK138 HB
   revert n0_ n1_ n2_ n3_ n4_ n5_ n6_ n7_ n8_ n9_
   intro BK137 BK138 HB BK148 GW148 GE148 NB137_148 NB148_137 NB138_148 NB148_138
   clear hb hbox hg
   refine hK.out _ _ ⟨bc BK137 0, bc BK137 1⟩ (fun hHeld => ?_)
   clear hK K
   refine nm ?_
   refine zo 2 (some 9) (bb 12 1247) HT_ (fun K hK => ?_)
   refine goes_ Try.func40 (by kernel_rfl) rfl #[.slice A0_1 l0_1.length c0_1] (by rfl) rfl rfl zm ?_
   with_reducible refine (slices_Clone_int_int.calls _ _ l0_1 t139 _ ?side1 ?side2 A3.out).mono ?_
   (case side1 => exact Kd.Cw HR0_1.out HB.out)
   (case side2 => exact HC0_1.out)
   rintro e w12 ⟨v140, rfl, ho0, hb⟩
   refine ⟨_, rfl, ?_⟩
   have n0_ := am (Kd.R_lower ho0 (below_size (wmv HB.out)))
   have n1_ := am (blk_below (bmv BK137.out) hb)
   have n2_ := am (blk_below (bmv BK138.out) hb)
   have n3_ := am (blk_below (bmv BK148.out) hb)
   have n4_ := am (below_step (wmv HB.out) hb)
   clear BK137 BK138 BK148 HB
   revert n0_ n1_ n2_ n3_ n4_
   intro HO141 BK137 BK138 BK148 HB
   (try clear hb)
   (try clear hb2)
   (try clear hk)
   (try clear hi)
   (try clear ho0)
   refine hK.out _ _ ⟨bc BK137 0, bc BK137 1⟩ (fun hHeld => ?_)
   clear hK K
   refine nm ?_
   refine zo 5 (some 12) (bb 12 1279) HT_ (fun K hK => ?_)
   refine goes_ Try.func40 (by kernel_rfl) rfl #[.slice A0_1 l0_1.length c0_1] (by rfl) rfl rfl zm ?_
   with_reducible refine (slices_Clone_int_int.calls _ _ l0_1 t142 _ ?side1 ?side2 A4.out).mono ?_
   (case side1 => exact Kd.Cw HR0_1.out HB.out)
   (case side2 => exact HC0_1.out)
   rintro e w13 ⟨v143, rfl, ho0, hb⟩
   refine ⟨_, rfl, ?_⟩
   have n0_ := am (Kd.R_elder' (Kd.R_mv HO141.out) (Kd.R_base ho0) hb)
   have n1_ := am (Kd.R_lower (Kd.R_new' ho0 (Kd.R_lt (Kd.R_mv HO141.out))) (below_size (wmv HB.out)))
   have n2_ := am (blk_below (bmv BK137.out) hb)
   have n3_ := am (blk_below (bmv BK138.out) hb)
   have n4_ := am (blk_below (bmv BK148.out) hb)
   have n5_ := am (below_step (wmv HB.out) hb)
   clear HO141 BK137 BK138 BK148 HB
   revert n0_ n1_ n2_ n3_ n4_ n5_
   intro HO141 HO144 BK137 BK138 BK148 HB
   (try clear hb)
   (try clear hb2)
   (try clear hk)
   (try clear hi)
   (try clear ho0)
   refine hK.out _ _ ⟨bc BK137 0, bc BK137 1⟩ (fun hHeld => ?_)
   clear hK K
   refine nm ?_
   refine zo 8 (some 15) (bb 12 1535) HT_ (fun K hK => ?_)
   refine goes_ Try.func40 (by kernel_rfl) rfl #[.slice A0_1 l0_1.length c0_1] (by rfl) rfl rfl zm ?_
   with_reducible refine (slices_Clone_int_int.calls _ _ l0_1 t145 _ ?side1 ?side2 A5.out).mono ?_
   (case side1 => exact Kd.Cw HR0_1.out HB.out)
   (case side2 => exact HC0_1.out)
   rintro e w14 ⟨v146, rfl, ho0, hb⟩
   refine ⟨_, rfl, ?_⟩
   have n0_ := am (Kd.R_elder' (Kd.R_mv HO141.out) (Kd.R_base ho0) hb)
   have n1_ := am (Kd.R_elder' (Kd.R_mv HO144.out) (Kd.R_base ho0) hb)
   have n2_ := am (Kd.R_lower (Kd.R_new' (Kd.R_new' ho0 (Kd.R_lt (Kd.R_mv HO141.out))) (Kd.R_lt (Kd.R_mv HO144.out))) (below_size (wmv HB.out)))
   have n3_ := am (blk_below (bmv BK137.out) hb)
   have n4_ := am (blk_below (bmv BK138.out) hb)
   have n5_ := am (blk_below (bmv BK148.out) hb)
   have n6_ := am (below_step (wmv HB.out) hb)
   clear HO141 HO144 BK137 BK138 BK148 HB
   revert n0_ n1_ n2_ n3_ n4_ n5_ n6_
   intro HO141 HO144 HO147 BK137 BK138 BK148 HB
   (try clear hb)
   (try clear hb2)
   (try clear hk)
   (try clear hi)
   (try clear ho0)
   obtain ⟨Ao15, co15, eo15⟩ := Kd.R_slice HO147.out
   (first | subst eo15 | (injection eo15 with f1_ f2_ f3_; have f4_ := f1_.symm; have f5_ := f3_.symm; clear f1_ f2_ f3_; subst f4_; subst f5_))
   obtain ⟨Ao16, co16, eo16⟩ := Kd.R_slice HO144.out
   (first | subst eo16 | (injection eo16 with f1_ f2_ f3_; have f4_ := f1_.symm; have f5_ := f3_.symm; clear f1_ f2_ f3_; subst f4_; subst f5_))
   obtain ⟨Ao17, co17, eo17⟩ := Kd.R_slice HO141.out
   (first | subst eo17 | (injection eo17 with f1_ f2_ f3_; have f4_ := f1_.symm; have f5_ := f3_.symm; clear f1_ f2_ f3_; subst f4_; subst f5_))
   refine hK.out _ _ ⟨bc BK137 0, bc BK137 1⟩ (fun hHeld => ?_)
   clear hK K
   refine nm ?_
   refine zu 9 (some 16) (bb 12 2047) HT_ ?_
   exact norm_ (by simp only [putAll, Act.put, List.setIfInBounds_toArray, List.set_cons_zero, List.set_cons_succ]) (hCont (.slice Ao17 t139.length co17, .slice Ao16 t142.length co16, .slice Ao15 t145.length co15, gb148) _ ⟨hHeld, (Kd.R_mv (Kd.R_mono HO141.out (fun _ hk => ⟨hk.1.2, hk.2⟩))), (Kd.R_mv (Kd.R_mono HO144.out (fun _ hk => ⟨hk.1.2, hk.2⟩))), (Kd.R_mv (Kd.R_mono HO147.out (fun _ hk => ⟨hk.1.2, hk.2⟩))), (bmv BK137.out), (bmv BK138.out), (bmv BK148.out), GW148.out, GE148.out, NB137_148.out, NB148_137.out, NB138_148.out, NB148_138.out, (wmv HB.out)⟩)
 rintro ⟨v140, v143, v146, gb148⟩ w18 ⟨hS_, h0_, h1_, h2_, h3_, h4_, h5_, h6_, h7_, h8_, h9_, h10_, h11_, h12_⟩
 have n0_ : Aside0 (Kd.R (Kd.int .i64) 3 w18 w.heap.size (fun k_ => some k_ ≠ (v143 : Value).ownBlock ∧ some k_ ≠ (v146 : Value).ownBlock) v140 t139) := ⟨h0_⟩
 have n1_ : Aside0 (Kd.R (Kd.int .i64) 3 w18 w.heap.size (fun k_ => some k_ ≠ (v140 : Value).ownBlock ∧ some k_ ≠ (v146 : Value).ownBlock) v143 t142) := ⟨h1_⟩
 have n2_ : Aside0 (Kd.R (Kd.int .i64) 3 w18 w.heap.size (fun k_ => some k_ ≠ (v140 : Value).ownBlock ∧ some k_ ≠ (v143 : Value).ownBlock) v146 t145) := ⟨h2_⟩
 have n3_ : Aside0 (w18.heap[gb137]? = some (.cells #[.slice A0_0 l0_0.length c0_0, .slice A0_1 l0_1.length c0_1] 45 (0, 0))) := ⟨h3_⟩
 have n4_ : Aside0 (w18.heap[gb138]? = some (.cells #[.slice none 0 0, .int .i64 0, .slice none 0 0, .slice none 0 0, .slice none 0 0] 30 (0, 0))) := ⟨h4_⟩
 have n5_ : Aside0 (w18.heap[gb148]? = some (.cells #[.slice none 0 0, .int .i64 0, .slice none 0 0, .slice none 0 0, .slice none 0 0] 30 (0, 0))) := ⟨h5_⟩
 have n6_ : Aside0 (w.heap.size ≤ gb148) := ⟨h6_⟩
 have n7_ : Aside0 (w.heap.size ≤ gb148) := ⟨h7_⟩
 have n8_ : Aside0 (gb137 ≠ gb148) := ⟨h8_⟩
 have n9_ : Aside0 (gb148 ≠ gb137) := ⟨h9_⟩
 have n10_ : Aside0 (gb138 ≠ gb148) := ⟨h10_⟩
 have n11_ : Aside0 (gb148 ≠ gb138) := ⟨h11_⟩
 have n12_ : Aside0 (Below w.heap.size w w18) := ⟨h12_⟩
 clear BK137
 clear BK138
 clear HB
 clear h0_ h1_ h2_ h3_ h4_ h5_ h6_ h7_ h8_ h9_ h10_ h11_ h12_
 revert n0_ n1_ n2_ n3_ n4_ n5_ n6_ n7_ n8_ n9_ n10_ n11_ n12_
 intro HO141 HO144 HO147 BK137 BK138 BK148 GW148 GE148 NB137_148 NB148_137 NB138_148 NB148_138 HB
 have hHeld : w18.cell? ⟨gb137, 0, none⟩ = some (.slice A0_0 l0_0.length c0_0) ∧ w18.cell? ⟨gb137, 1, none⟩ = some (.slice A0_1 l0_1.length c0_1) := hS_
 obtain ⟨Ao19, co19, eo19⟩ := Kd.R_slice HO147.out
 (first | subst eo19 | (injection eo19 with f1_ f2_ f3_; have f4_ := f1_.symm; have f5_ := f3_.symm; clear f1_ f2_ f3_; subst f4_; subst f5_))
 obtain ⟨Ao20, co20, eo20⟩ := Kd.R_slice HO144.out
 (first | subst eo20 | (injection eo20 with f1_ f2_ f3_; have f4_ := f1_.symm; have f5_ := f3_.symm; clear f1_ f2_ f3_; subst f4_; subst f5_))
 obtain ⟨Ao21, co21, eo21⟩ := Kd.R_slice HO141.out
 (first | subst eo21 | (injection eo21 with f1_ f2_ f3_; have f4_ := f1_.symm; have f5_ := f3_.symm; clear f1_ f2_ f3_; subst f4_; subst f5_))
 refine norm_ (a' := ?_) ?_ ?_
 rotate_left
 ·simp only [putAll, Act.put, List.setIfInBounds_toArray, List.set_cons_zero, List.set_cons_succ]
  rfl
 refine zo 11 none (bb 12 4095) HT_ (fun K hK => ?_)
 have hs22 : w18.cell? ⟨gb148, 0, none⟩ = some (.slice none 0 0) := (blk_cell BK148.out 0).trans rfl
 have hfs22 := blk_frozen BK148.out 0
 have hns22_0 := NB137_148.out
 have hns22_1 := NB138_148.out
 have hms22_0 := NB148_137.out
 have hms22_1 := NB148_138.out
 have hs23 : w18.cell? ⟨gb148, 1, none⟩ = some (.int .i64 0) := (blk_cell BK148.out 1).trans rfl
 have hfs23 := blk_frozen BK148.out 1
 have hns23_0 := NB137_148.out
 have hns23_1 := NB138_148.out
 have hms23_0 := NB148_137.out
 have hms23_1 := NB148_138.out
 have hs24 : w18.cell? ⟨gb148, 2, none⟩ = some (.slice none 0 0) := (blk_cell BK148.out 2).trans rfl
 have hfs24 := blk_frozen BK148.out 2
 have hns24_0 := NB137_148.out
 have hns24_1 := NB138_148.out
 have hms24_0 := NB148_137.out
 have hms24_1 := NB148_138.out
 have hs25 : w18.cell? ⟨gb148, 3, none⟩ = some (.slice none 0 0) := (blk_cell BK148.out 3).trans rfl
 have hfs25 := blk_frozen BK148.out 3
 have hns25_0 := NB137_148.out
 have hns25_1 := NB138_148.out
 have hms25_0 := NB148_137.out
 have hms25_1 := NB148_138.out
 have hs26 : w18.cell? ⟨gb148, 4, none⟩ = some (.slice none 0 0) := (blk_cell BK148.out 4).trans rfl
 have hfs26 := blk_frozen BK148.out 4
 have hns26_0 := NB137_148.out
 have hns26_1 := NB138_148.out
 have hms26_0 := NB148_137.out
 have hms26_1 := NB148_138.out
 refine skip_ (w1 := ?_) (by rfl) rfl ?_ ?_
 rotate_left
 ·go_simp
  rfl
 refine hK.out _ _ ⟨((cell_far (p := ⟨gb148, _, none⟩) NB137_148.out _).trans (((cell_far (p := ⟨gb148, _, none⟩) NB137_148.out _).trans (((cell_far (p := ⟨gb148, _, none⟩) NB137_148.out _).trans (((cell_far (p := ⟨gb148, _, none⟩) NB137_148.out _).trans (((cell_far (p := ⟨gb148, _, none⟩) NB137_148.out _).trans (hHeld.1)))))))))), ((cell_far (p := ⟨gb148, _, none⟩) NB137_148.out _).trans (((cell_far (p := ⟨gb148, _, none⟩) NB137_148.out _).trans (((cell_far (p := ⟨gb148, _, none⟩) NB137_148.out _).trans (((cell_far (p := ⟨gb148, _, none⟩) NB137_148.out _).trans (((cell_far (p := ⟨gb148, _, none⟩) NB137_148.out _).trans (hHeld.2))))))))))⟩ (fun hHeld => ?_)
 clear hK K
 refine done_ (done_of HT_.out (by kernel_rfl)) ?_
 have hnb27 := NB137_138.out
 have hnc27 := NB138_137.out
 have hnb28 := NB137_148.out
 have hnc28 := NB148_137.out
 have hcz29_0 : w18.cell? ⟨gb137, 0, none⟩ = some (.slice A0_0 l0_0.length c0_0) := (blk_cell BK137.out 0).trans rfl
 have hcz29_1 : w18.cell? ⟨gb137, 1, none⟩ = some (.slice A0_1 l0_1.length c0_1) := (blk_cell BK137.out 1).trans rfl
 have hfz29_0 := blk_frozen BK137.out 0
 have hfz29_1 := blk_frozen BK137.out 1
 go_wp2_with (fail)
 refine name_world ?_
 intro w30 hw30
 have hb := below_of_eq hw30
 have ho0 := nil_of_eq 3 hw30
 have n0_ := am (Kd.R_elder' (Kd.R_mv (Kd.R_mono (Kd.R_far (p := ⟨gb148, 4, none⟩) (Kd.R_far (p := ⟨gb148, 3, none⟩) (Kd.R_far (p := ⟨gb148, 2, none⟩) (Kd.R_far (p := ⟨gb148, 1, none⟩) (Kd.R_far (p := ⟨gb148, 0, none⟩) (Kd.R_types HO141.out BK148.out (by decide)) (fun _ hk => hk.2) (.slice none 0 0)) (fun _ hk => hk.2) (.int .i64 1)) (fun _ hk => hk.2) (.slice Ao21 t139.length co21)) (fun _ hk => hk.2) (.slice Ao20 t142.length co20)) (fun _ hk => hk.2) (.slice Ao19 t145.length co19)) (fun _ h_ => h_.1))) (Kd.R_base ho0) hb)
 have n1_ := am (Kd.R_elder' (Kd.R_mv (Kd.R_mono (Kd.R_far (p := ⟨gb148, 4, none⟩) (Kd.R_far (p := ⟨gb148, 3, none⟩) (Kd.R_far (p := ⟨gb148, 2, none⟩) (Kd.R_far (p := ⟨gb148, 1, none⟩) (Kd.R_far (p := ⟨gb148, 0, none⟩) (Kd.R_types HO144.out BK148.out (by decide)) (fun _ hk => hk.2) (.slice none 0 0)) (fun _ hk => hk.2) (.int .i64 1)) (fun _ hk => hk.2) (.slice Ao21 t139.length co21)) (fun _ hk => hk.2) (.slice Ao20 t142.length co20)) (fun _ hk => hk.2) (.slice Ao19 t145.length co19)) (fun _ h_ => h_.1))) (Kd.R_base ho0) hb)
 have n2_ := am (Kd.R_elder' (Kd.R_mv (Kd.R_mono (Kd.R_far (p := ⟨gb148, 4, none⟩) (Kd.R_far (p := ⟨gb148, 3, none⟩) (Kd.R_far (p := ⟨gb148, 2, none⟩) (Kd.R_far (p := ⟨gb148, 1, none⟩) (Kd.R_far (p := ⟨gb148, 0, none⟩) (Kd.R_types HO147.out BK148.out (by decide)) (fun _ hk => hk.2) (.slice none 0 0)) (fun _ hk => hk.2) (.int .i64 1)) (fun _ hk => hk.2) (.slice Ao21 t139.length co21)) (fun _ hk => hk.2) (.slice Ao20 t142.length co20)) (fun _ hk => hk.2) (.slice Ao19 t145.length co19)) (fun _ h_ => h_.1))) (Kd.R_base ho0) hb)
 have n3_ := am (Kd.R_lower (Kd.R_new' (Kd.R_new' (Kd.R_new' ho0 (Kd.R_lt (Kd.R_mv (Kd.R_mono (Kd.R_far (p := ⟨gb148, 4, none⟩) (Kd.R_far (p := ⟨gb148, 3, none⟩) (Kd.R_far (p := ⟨gb148, 2, none⟩) (Kd.R_far (p := ⟨gb148, 1, none⟩) (Kd.R_far (p := ⟨gb148, 0, none⟩) (Kd.R_types HO141.out BK148.out (by decide)) (fun _ hk => hk.2) (.slice none 0 0)) (fun _ hk => hk.2) (.int .i64 1)) (fun _ hk => hk.2) (.slice Ao21 t139.length co21)) (fun _ hk => hk.2) (.slice Ao20 t142.length co20)) (fun _ hk => hk.2) (.slice Ao19 t145.length co19)) (fun _ h_ => h_.1))))) (Kd.R_lt (Kd.R_mv (Kd.R_mono (Kd.R_far (p := ⟨gb148, 4, none⟩) (Kd.R_far (p := ⟨gb148, 3, none⟩) (Kd.R_far (p := ⟨gb148, 2, none⟩) (Kd.R_far (p := ⟨gb148, 1, none⟩) (Kd.R_far (p := ⟨gb148, 0, none⟩) (Kd.R_types HO144.out BK148.out (by decide)) (fun _ hk => hk.2) (.slice none 0 0)) (fun _ hk => hk.2) (.int .i64 1)) (fun _ hk => hk.2) (.slice Ao21 t139.length co21)) (fun _ hk => hk.2) (.slice Ao20 t142.length co20)) (fun _ hk => hk.2) (.slice Ao19 t145.length co19)) (fun _ h_ => h_.1))))) (Kd.R_lt (Kd.R_mv (Kd.R_mono (Kd.R_far (p := ⟨gb148, 4, none⟩) (Kd.R_far (p := ⟨gb148, 3, none⟩) (Kd.R_far (p := ⟨gb148, 2, none⟩) (Kd.R_far (p := ⟨gb148, 1, none⟩) (Kd.R_far (p := ⟨gb148, 0, none⟩) (Kd.R_types HO147.out BK148.out (by decide)) (fun _ hk => hk.2) (.slice none 0 0)) (fun _ hk => hk.2) (.int .i64 1)) (fun _ hk => hk.2) (.slice Ao21 t139.length co21)) (fun _ hk => hk.2) (.slice Ao20 t142.length co20)) (fun _ hk => hk.2) (.slice Ao19 t145.length co19)) (fun _ h_ => h_.1))))) (below_size (zw HB)))
 have n4_ := am (blk_below (g := gb137) (o := .cells #[.slice A0_0 l0_0.length c0_0, .slice A0_1 l0_1.length c0_1] 45 (0, 0)) (by refine zq ?_; refine blk_far ?_ NB137_148.out _; refine zq ?_; refine blk_far ?_ NB137_148.out _; refine zq ?_; refine blk_far ?_ NB137_148.out _; refine zq ?_; refine blk_far ?_ NB137_148.out _; refine zq ?_; refine blk_far ?_ NB137_148.out _; refine zq ?_; exact BK137.out) hb)
 have n5_ := am (blk_below (g := gb138) (o := .cells #[.slice none 0 0, .int .i64 0, .slice none 0 0, .slice none 0 0, .slice none 0 0] 30 (0, 0)) (by refine zq ?_; refine blk_far ?_ NB138_148.out _; refine zq ?_; refine blk_far ?_ NB138_148.out _; refine zq ?_; refine blk_far ?_ NB138_148.out _; refine zq ?_; refine blk_far ?_ NB138_148.out _; refine zq ?_; refine blk_far ?_ NB138_148.out _; refine zq ?_; exact BK138.out) hb)
 have n6_ := am (blk_below (g := gb148) (o := .cells #[.slice none 0 0, .int .i64 1, .slice Ao21 t139.length co21, .slice Ao20 t142.length co20, .slice Ao19 t145.length co19] 30 (0, 0)) (by refine zq ?_; refine blk_put (cs := #[.slice none 0 0, .int .i64 1, .slice Ao21 t139.length co21, .slice Ao20 t142.length co20, .slice none 0 0]) ?_ 4 _ rfl; refine zq ?_; refine blk_put (cs := #[.slice none 0 0, .int .i64 1, .slice Ao21 t139.length co21, .slice none 0 0, .slice none 0 0]) ?_ 3 _ rfl; refine zq ?_; refine blk_put (cs := #[.slice none 0 0, .int .i64 1, .slice none 0 0, .slice none 0 0, .slice none 0 0]) ?_ 2 _ rfl; refine zq ?_; refine blk_put (cs := #[.slice none 0 0, .int .i64 0, .slice none 0 0, .slice none 0 0, .slice none 0 0]) ?_ 1 _ rfl; refine zq ?_; refine blk_put (cs := #[.slice none 0 0, .int .i64 0, .slice none 0 0, .slice none 0 0, .slice none 0 0]) ?_ 0 _ rfl; refine zq ?_; exact BK148.out) hb)
 have n7_ := am (below_step (zw HB) hb)
 clear HO141 HO144 HO147 BK137 BK138 BK148 HB
 revert n0_ n1_ n2_ n3_ n4_ n5_ n6_ n7_
 intro HO141 HO144 HO147 HO151 BK137 BK138 BK148 HB
 (try clear hb)
 (try clear hb2)
 (try clear hk)
 (try clear hi)
 (try clear ho0)
 clear hw30
 refine ((callsIn_wide (n := 3)).1 (dims_in Fence.wide 3 trivial rfl a1 _)).mono ?_
 rintro e W1 ⟨rfl, rfl⟩
 go_wp2_with (fail)
 obtain ⟨wl, hwl⟩ : ∃ wl, wl = w30.alloc (.cells #[.int .i64 a1] 3) := ⟨_, rfl⟩
 have hcl : wl.cell? ⟨w30.heap.size, 0, none⟩ = some (.int .i64 a1) := by rw [hwl]; simp
 have hsl : wl.heap.size = w30.heap.size + 1 := by rw [hwl]; simp
 have hBl : Below w30.heap.size w30 wl := by rw [hwl]; exact below_alloc (Below.refl _ _) _
 rw [← hwl]
 refine (wpIn_wide (n := 6)).1 ?_
 refine wpIn_rangeFunc_ownG rfl (by omega) (gf := 66) (lb := #[.pointer (some ⟨w30.heap.size, 0, none⟩)]) rfl trivial (enters_of Try.func66 (by kernel_rfl) rfl) (dims_stops Fence.wide 5 trivial rfl (by omega) w30.heap.size a1 wl (by omega) hcl) keepsBox_t keepsBox_b (Below.refl _ _) (fun _ => rfl) (KeysI w wl gb148 30 (fun v => #[v, .int .i64 1, .slice Ao21 t139.length co21, .slice Ao20 t142.length co20, .slice Ao19 t145.length co19]) (fun pre => (pre.filter fun i => decide (i < l0_0.length)).map fun i : Nat => rd l0_0 (i : Int))) (fun _ _ _ => False) (keysI_own (by have := below_size HB.out; omega)) (fun _ _ _ _ _ hs _ _ => hs) ?init (fun x : Nat => { tmps := #[.agg #[.slice A0_0 l0_0.length c0_0, .slice A0_1 l0_1.length c0_1], .int .i64 a1, .pointer (some ⟨gb137, 0, none⟩), undef, .pointer (some ⟨gb138, 0, none⟩), .pointer (some ⟨gb148, 0, none⟩), (.int .i64 (x : Int)), .pointer (some ⟨gb137, 1, none⟩), .slice A0_1 l0_1.length c0_1, .slice Ao21 t139.length co21, .pointer (some ⟨gb137, 1, none⟩), .slice A0_1 l0_1.length c0_1, .slice Ao20 t142.length co20, .pointer (some ⟨gb137, 1, none⟩), .slice A0_1 l0_1.length c0_1, .slice Ao19 t145.length co19, .agg #[.slice none 0 0, .int .i64 1, .slice Ao21 t139.length co21, .slice Ao20 t142.length co20, .slice Ao19 t145.length co19], .int .i64 a1, .func (.func 66) #[] #[.pointer (some ⟨w30.heap.size, 0, none⟩)], (.int .i64 (x : Int)), undef, undef, undef, undef, undef, undef, undef, undef, undef, undef, undef, undef, undef, undef, undef, undef, undef, undef, undef, undef], defers := [] }) ?assign ?body ?done ?stop
 case init => exact ⟨.slice none 0 0, Kd.R_nil _ _ _ _ _, blk_below BK148.out hBl, Kept.refl _ _, HB.out.trans (hBl.mono (below_size HB.out))⟩
 case assign =>
  intro l x W K hK
  gi_wp2
  exact hK
 case stop =>
  rintro D c pre W _ _ h _
  exact h.elim
 case body =>
  rintro l pre x W ⟨v, hR, hc, hk, hB0⟩ hpre
  have b137 : W.heap[gb137]? = _ := (hk.2 gb137 (by have := blk_lt BK137.out; omega) hnb28).trans (blk_below BK137.out hBl)
  have h148 : gb148 < w30.heap.size := blk_lt BK148.out
  have hca := (blk_cell b137 0).trans rfl
  have hcc := (blk_cell hc 0).trans rfl
  have hfc := blk_frozen hc 0
  have HG5 := am (show gb148 < wl.heap.size ∧ gb148 < w30.heap.size ∧ w30.heap.size < wl.heap.size ∧ w30.heap.size ≠ gb148 by omega)
  have HR5 := am hR
  have HC5 := am hc
  have HK5 := am hk
  clear HB HO141 HO144 HO147 HO151 BK138 BK148
  clear BK137
  have BK137 := am b137
  have HB := am hB0
  have HX0 : (0 : Int) ≤ (x : Int) := by omega
  obtain ⟨xs, hxs⟩ : ∃ xs : List Int, xs = ((pre.filter fun i => decide (i < l0_0.length)).map fun i : Nat => rd l0_0 (i : Int)) := ⟨_, rfl⟩
  have hlen : xs.length < 4 := by
    rw [hxs, List.length_map]
    exact Nat.lt_of_le_of_lt (List.length_filter_le _ _) hpre
  have HL := am hlen
  replace hR : Kd.R (Kd.int .i64) 3 W w.heap.size (fun k => wl.heap.size ≤ k) v xs := by rw [hxs]; exact hR
  have hl5 : x < l0_0.length → xs ++ [rd l0_0 (x : Int)] = (((pre ++ [x]).filter fun i => decide (i < l0_0.length)).map fun i : Nat => rd l0_0 (i : Int)) := fun h => by
    rw [hxs, List.filter_append, List.map_append]
    simp [h]
  have hl6 : ¬ x < l0_0.length → ((pre.filter fun i => decide (i < l0_0.length)).map fun i : Nat => rd l0_0 (i : Int)) = (((pre ++ [x]).filter fun i => decide (i < l0_0.length)).map fun i : Nat => rd l0_0 (i : Int)) := fun h => by
    rw [List.filter_append, List.map_append]
    simp [h]
  by_cases hx : (x : Int) < (l0_0.length : Int)
  · have HL5 := am (hl5 (by omega))
    clear hl5 hl6 hxs hlen hpre
    generalize hxi : (x : Int) = xi at HL5 HX0 hx ⊢
    obtain ⟨adr, eadr, hw⟩ := Kd.at_int HR0_0.out xi HX0 hx
    subst eadr
    have HX := am (zc HB hw)
    have HOv := am hR
    have BK148 := am hc
    have HKv := am hk
    clear hR hc hk b137 hB0 hxi
    have hx1 : decide (xi < (l0_0.length : Int)) = true := decide_eq_true hx
    have hX0 : (0 ≤ xi) = True := eq_true HX0
    have hx2 : (xi < (l0_0.length : Int)) = True := eq_true hx
    clear hwl hsl hcl hBl
    gi_wp2
    refine start_round (n := 11) (S := fun w' => w'.cell? ⟨gb148, 0, none⟩ = some v ∧ w'.cell? ⟨gb137, 0, none⟩ = some (.slice (some adr) l0_0.length c0_0) ∧ w'.cell? (adr.add xi.toNat) = some (.int .i64 (rd l0_0 xi))) (ds := [10]) (bb 11 0) (by kernel_rfl) (by kernel_rfl) (by rintro ⟨a, w, h⟩; exact h) rfl rfl ⟨bc BK148 0, bc BK137 0, HX.out⟩ (fun hHeld => ?_); refine with_tabW cell_Of.tab5 cell_Of.bits5 (fun HT_ HW_ => ?_)
    have n0_ := am (Kd.R_drew HOv.out)
    have n1_ := am (blk_drew BK137.out)
    have n3_ := am (blk_drew BK148.out)
    have n4_ := am (below_drew1 HB.out)
    have n5_ := am (Kept.drew HKv.out)
    have n6_ : Aside0 (W.drew.heap.size = W.heap.size ∧ ∀ k : Nat, W.drew.heap[k]? = W.heap[k]?) := am ⟨rfl, fun _ => rfl⟩
    clear HOv BK137 BK148 HB HKv HX
    revert n0_ n1_ n3_ n4_ n5_ n6_
    intro HOv BK137 BK148 HB HKv HF5
    generalize W.drew = w19 at HOv BK137 BK148 HB HKv HF5 hHeld ⊢
    refine zu 0 (some 25) (bb 11 1) HT_ ?_
    refine zu 2 (some 27) (bb 11 5) HT_ ?_
    refine zu 4 (some 29) (bb 11 21) HT_ ?_
    refine zk 1 (some 26) (bb 11 23) HT_ HW_ hHeld ?_
    refine zk 3 (some 28) (bb 11 31) HT_ HW_ hHeld ?_
    refine zu 5 (some 30) (bb 11 63) HT_ ?_
    refine zk 6 (some 31) (bb 11 127) HT_ HW_ hHeld ?_
    refine zo 7 (some 32) (bb 11 255) HT_ (fun K hK => ?_)
    refine value_ (w1 := ?_) (v := ?_) (by rfl) rfl ?_ ?_
    rotate_left 2
    ·go_simp
     constructor
     ·rfl
     ·rfl
    refine hK.out _ _ ⟨(blk_cell (blk_alloc BK148.out _) 0).trans rfl, (blk_cell (blk_alloc BK137.out _) 0).trans rfl, (World.cell?_alloc_lt _ _ _ (World.block_lt_of_cell? _ _ (zc HB hw))).trans (zc HB hw)⟩ (fun hHeld => ?_)
    clear hK K
    refine nm ?_
    refine zo 8 (some 33) (bb 11 511) HT_ (fun K hK => ?_)
    refine Kd.R_append_step (Kd.int .i64) (w0 := w) w.heap.size (by rfl) (.tmp 26) (.tmp 32) 22 3 (.int .i64 0) 8 rfl Try.underlying22 info3 rfl (by decide) (by omega) v xs (rd l0_0 xi) [.int .i64 (rd l0_0 xi)] (fun k => wl.heap.size ≤ k) (fun _ => False) rfl rfl ?aP (fun _ hk => hk.elim) ?aF ?aO ?aB ?aS ?aL ?_
    (case aP => exact rfl)
    (case aB => exact (wmv HB.out))
    (case aF => exact (fun k hk => by have := HKv.out.1; omega))
    (case aO => exact (Kd.R_mv HOv.out))
    (case aS => exact (below_size (wmv HB.out)))
    (case aL => have := HL.out; omega)
    intro v241 w20 ho hb hg hat
    have hb0 := HB.out
    have HL7 := HL5.out
    obtain ⟨ys, hys⟩ : ∃ ys : List Int, ys = xs ++ [rd l0_0 xi] := ⟨_, rfl⟩
    rw [← hys] at ho HL7
    have HL8 := am HL7
    clear HL7 hys
    obtain ⟨Ao22, co22, eo22⟩ := Kd.R_slice ho
    subst eo22
    have hkeep := keysI_step (Bn := w30.heap.size) (pre' := pre ++ [x]) (cs := fun v => #[v, .int .i64 1, .slice Ao21 t139.length co21, .slice Ao20 t142.length co20, .slice Ao19 t145.length co19]) (ks := fun pre => (pre.filter fun i => decide (i < l0_0.length)).map fun i : Nat => rd l0_0 (i : Int)) HR5.out HC5.out HK5.out (by have := HF5.out.1; omega) (fun k => .inl (HF5.out.2 k)) hg ho hb HL8.out (by decide) HG5.out.1 GE148.out HG5.out.2.2.1 HG5.out.2.2.2 rfl
    have HKeep := am hkeep
    clear hkeep
    have n0_ := am (blk_grown (bmv BK137.out) hg (Kd.R_ne HOv.out BK137.out (by decide)))
    have n2_ := am (blk_grown (bmv BK148.out) hg (Kd.R_ne HOv.out BK148.out (by decide)))
    have n3_ := am (hb)
    clear BK137 BK148 HB HOv
    revert n0_ n2_ n3_
    intro BK137 BK148 HB
    clear ho hb hg hat hb0
    refine hK.out _ _ ⟨bc BK148 0, bc BK137 0, (zc HB hw)⟩ (fun hHeld => ?_)
    clear hK K
    refine nm ?_
    refine zu 9 (some 34) (bb 11 1023) HT_ ?_
    refine last_ (i := 10) (N := none) (bb 11 2047) rfl rfl (one_of HT_.out (by kernel_rfl)) (by decide) (fun K hK => ?_)
    have hs22 : w20.cell? ⟨gb148, 0, none⟩ = some (v) := (blk_cell BK148.out 0).trans rfl
    have hfs22 := blk_frozen BK148.out 0
    have hns22_0 := NB137_148.out
    have hms22_0 := NB148_137.out
    refine skip_ (w1 := ?_) (by rfl) rfl ?_ ?_
    rotate_left
    ·go_simp
     rfl
    refine hK.out _ _ ?_
    clear hK K
    refine done_ (done_of HT_.out (by kernel_rfl)) ?_
    exact HKeep.out
  · have h6 := hl6 (by omega)
    have hI := keysI_skip (Bn := w30.heap.size) (cs := fun v => #[v, .int .i64 1, .slice Ao21 t139.length co21, .slice Ao20 t142.length co20, .slice Ao19 t145.length co19]) (ks := fun pre : List Nat => (pre.filter fun i => decide (i < l0_0.length)).map fun i : Nat => rd l0_0 (i : Int)) (pre' := pre ++ [x]) ⟨v, HR5.out, HC5.out, HK5.out, hB0⟩ h6
    have HI := am hI
    clear hI hl5 hl6 h6 hR hc hk hxs hwl hsl hcl hBl
    gi_wp2
    exact HI.out
 case done =>
  rintro D ys W hD rfl ⟨v, hR, hc, hk, hB0⟩ hK
  have e149 : ((dimsL a1).filter fun i => decide (i < l0_0.length)).map (fun i : Nat => rd l0_0 (i : Int)) = t149 := Option.some.inj A6.out
  replace hR : Kd.R (Kd.int .i64) 3 W w.heap.size (fun k => wl.heap.size ≤ k) v t149 := by rw [← e149]; exact hR
  obtain ⟨Ao31, co31, eo31⟩ := Kd.R_slice hR
  subst eo31
  have hk30 : Kept w30 W (fun k => k = gb148) := (Kept.of_below hBl _).then_ hk (fun k h => Or.inl h)
  obtain ⟨wb, hwb⟩ : ∃ wb, wb = W.setCell ⟨gb148, 0, none⟩ (.slice none 0 0) := ⟨_, rfl⟩
  have hkb : Kept w30 wb (fun k => k = gb148) := by rw [hwb]; exact hk30.setCell (.inl rfl) _
  have hvk : ∀ k, (Value.slice Ao31 t149.length co31).ownBlock = some k → w30.heap.size < k := fun k hk => by have := hR.1 k hk; omega
  have b148 : wb.heap[gb148]? = some (.cells #[.slice none 0 0, .int .i64 1, .slice Ao21 t139.length co21, .slice Ao20 t142.length co20, .slice Ao19 t145.length co19] 30 (0, 0)) := by rw [hwb]; exact blk_put hc 0 _ rfl
  have n0_ := am (Kd.R_mono (Kd.R_kept (Kd.R_types (Kd.R_bound HO141.out) BK148.out (by decide)) hkb (fun k hk he => hk.2 he)) (ok' := fun k => _ ∧ some k ≠ (Value.slice Ao31 t149.length co31).ownBlock) (fun k hk => ⟨hk.1.1.1, fun e => by have := hvk k e.symm; have := hk.1.2.2.1; omega⟩))
  have n1_ := am (Kd.R_mono (Kd.R_kept (Kd.R_types (Kd.R_bound HO144.out) BK148.out (by decide)) hkb (fun k hk he => hk.2 he)) (ok' := fun k => _ ∧ some k ≠ (Value.slice Ao31 t149.length co31).ownBlock) (fun k hk => ⟨hk.1.1.1, fun e => by have := hvk k e.symm; have := hk.1.2.2.1; omega⟩))
  have n2_ := am (Kd.R_mono (Kd.R_kept (Kd.R_types (Kd.R_bound HO147.out) BK148.out (by decide)) hkb (fun k hk he => hk.2 he)) (ok' := fun k => _ ∧ some k ≠ (Value.slice Ao31 t149.length co31).ownBlock) (fun k hk => ⟨hk.1.1.1, fun e => by have := hvk k e.symm; have := hk.1.2.2.1; omega⟩))
  have n3_ : Aside0 (Kd.R (Kd.int .i64) 3 wb w.heap.size (fun k_ => (((True ∧ some k_ ≠ (.slice Ao21 t139.length co21 : Value).ownBlock) ∧ some k_ ≠ (.slice Ao20 t142.length co20 : Value).ownBlock) ∧ some k_ ≠ (.slice Ao19 t145.length co19 : Value).ownBlock)) (.slice Ao31 t149.length co31) t149) := am (by
    rw [hwb]
    have hg148 := blk_lt BK148.out
    refine Kd.R_mono (Kd.R_far hR (p := ⟨gb148, 0, none⟩) (fun k hk => by simp only []; omega) _) (fun k hk => ⟨⟨⟨trivial, fun e => ?_⟩, fun e => ?_⟩, fun e => ?_⟩)
    · have := Kd.R_lt HO141.out k e.symm; omega
    · have := Kd.R_lt HO144.out k e.symm; omega
    · have := Kd.R_lt HO147.out k e.symm; omega)
  have n4_ := am (blk_kept BK137.out hkb hnb28)
  have n5_ := am (blk_kept BK138.out hkb NB138_148.out)
  have n6_ := am b148
  have n7_ : Aside0 (Below w.heap.size w wb) := am (by rw [hwb]; exact below_set hB0 GE148.out)
  have eW : W = wb.setCell ⟨gb148, 0, none⟩ (.slice Ao31 t149.length co31) := by rw [hwb]; exact (setCell_back hc rfl _).symm
  have hD' : w30.heap.size < D := by have : w30.heap.size + 1 ≤ D := by rw [← hsl]; exact hD
                                     omega
  have h148' := blk_lt BK148.out
  have hD148 : D ≠ gb148 := by omega
  clear HO141 HO144 HO147 HO151 BK137 BK138 BK148 HB
  clear hR hc hB0 hvk b148 hkb hk30 hwb hk
  revert n0_ n1_ n2_ n3_ n4_ n5_ n6_ n7_
  intro HO141 HO144 HO147 HO151 BK137 BK138 BK148 HB
  have HD := am (show D ≠ gb148 from hD148)
  have HDge := am (show w.heap.size ≤ D by have := GE148.out; omega)
  have HD138 := am (show gb138 ≠ D from fun e => by have h1 := BK138.out; rw [e] at h1; rw [eW, Below.heap_setCell _ _ _ _ hD148] at hK; rw [hK] at h1; cases h1)
  have HDD := am (show wb.heap[D]? = some (.deferred (some [])) from by rw [eW, Below.heap_setCell _ _ _ _ hD148] at hK; exact hK)
  clear hK hD hD' hD148 h148' e149 hcl hsl hBl hwl
  subst eW
  have hnb32 := NB148_138.out
  have hnc32 := NB138_148.out
  have hcz33_0 : wb.cell? ⟨gb148, 0, none⟩ = some (.slice none 0 0) := (blk_cell BK148.out 0).trans rfl
  have hcz33_1 : wb.cell? ⟨gb148, 1, none⟩ = some (.int .i64 1) := (blk_cell BK148.out 1).trans rfl
  have hcz33_2 : wb.cell? ⟨gb148, 2, none⟩ = some (.slice Ao21 t139.length co21) := (blk_cell BK148.out 2).trans rfl
  have hcz33_3 : wb.cell? ⟨gb148, 3, none⟩ = some (.slice Ao20 t142.length co20) := (blk_cell BK148.out 3).trans rfl
  have hcz33_4 : wb.cell? ⟨gb148, 4, none⟩ = some (.slice Ao19 t145.length co19) := (blk_cell BK148.out 4).trans rfl
  have hfz33_0 := blk_frozen BK148.out 0
  have hfz33_1 := blk_frozen BK148.out 1
  have hfz33_2 := blk_frozen BK148.out 2
  have hfz33_3 := blk_frozen BK148.out 3
  have hfz33_4 := blk_frozen BK148.out 4
  go_wp2_with (first | (go_at_call 40; (with_reducible refine (slices_Clone_int_int.calls _ _ t149 t152 _ ?side1 ?side2 A7.out).mono ?_); (case side1 => refine (Kd.R_reads' (e := 3) (base := w.heap.size) (ok := fun k_ => (((True ∧ some k_ ≠ (.slice Ao21 t139.length co21 : Value).ownBlock) ∧ some k_ ≠ (.slice Ao20 t142.length co20 : Value).ownBlock) ∧ some k_ ≠ (.slice Ao19 t145.length co19 : Value).ownBlock)) (n := t149.length) (c := co31) ?_).2.2; exact (by refine zr ?_; exact (Kd.R_mono (Kd.R_far (p := ⟨gb148, 0, none⟩) (Kd.R_types HO151.out BK148.out (by decide)) (fun _ hk => hk.2) (.slice Ao31 t149.length co31)) (fun _ h_ => h_.1)))); (case side2 => exact (Kd.R_reads' HO151.out).2.1); rintro e w34 ⟨v153, rfl, ho0, hb⟩; have nD_ := am (blk_below (g := D) (o := .deferred (some [])) (by refine zq ?_; refine (Below.heap_setCell _ _ _ _ HD.out).trans ?_; refine zq ?_; exact HDD.out) hb); clear HDD; have HDD := nD_; clear nD_; have n0_ := am (Kd.R_elder' (by refine zr ?_; exact (Kd.R_mono (Kd.R_far (p := ⟨gb148, 0, none⟩) (Kd.R_types HO141.out BK148.out (by decide)) (fun _ hk => hk.2) (.slice Ao31 t149.length co31)) (fun _ h_ => h_.1))) (Kd.R_base ho0) hb); have n1_ := am (Kd.R_elder' (by refine zr ?_; exact (Kd.R_mono (Kd.R_far (p := ⟨gb148, 0, none⟩) (Kd.R_types HO144.out BK148.out (by decide)) (fun _ hk => hk.2) (.slice Ao31 t149.length co31)) (fun _ h_ => h_.1))) (Kd.R_base ho0) hb); have n2_ := am (Kd.R_elder' (by refine zr ?_; exact (Kd.R_mono (Kd.R_far (p := ⟨gb148, 0, none⟩) (Kd.R_types HO147.out BK148.out (by decide)) (fun _ hk => hk.2) (.slice Ao31 t149.length co31)) (fun _ h_ => h_.1))) (Kd.R_base ho0) hb); have n3_ := am (Kd.R_elder' (by refine zr ?_; exact (Kd.R_mono (Kd.R_far (p := ⟨gb148, 0, none⟩) (Kd.R_types HO151.out BK148.out (by decide)) (fun _ hk => hk.2) (.slice Ao31 t149.length co31)) (fun _ h_ => h_.1))) (Kd.R_base ho0) hb); have n4_ := am (Kd.R_lower (Kd.R_new' (Kd.R_new' (Kd.R_new' (Kd.R_new' ho0 (Kd.R_lt (by refine zr ?_; exact (Kd.R_mono (Kd.R_far (p := ⟨gb148, 0, none⟩) (Kd.R_types HO141.out BK148.out (by decide)) (fun _ hk => hk.2) (.slice Ao31 t149.length co31)) (fun _ h_ => h_.1))))) (Kd.R_lt (by refine zr ?_; exact (Kd.R_mono (Kd.R_far (p := ⟨gb148, 0, none⟩) (Kd.R_types HO144.out BK148.out (by decide)) (fun _ hk => hk.2) (.slice Ao31 t149.length co31)) (fun _ h_ => h_.1))))) (Kd.R_lt (by refine zr ?_; exact (Kd.R_mono (Kd.R_far (p := ⟨gb148, 0, none⟩) (Kd.R_types HO147.out BK148.out (by decide)) (fun _ hk => hk.2) (.slice Ao31 t149.length co31)) (fun _ h_ => h_.1))))) (Kd.R_lt (by refine zr ?_; exact (Kd.R_mono (Kd.R_far (p := ⟨gb148, 0, none⟩) (Kd.R_types HO151.out BK148.out (by decide)) (fun _ hk => hk.2) (.slice Ao31 t149.length co31)) (fun _ h_ => h_.1))))) (below_size (zw HB))); have n5_ := am (blk_below (g := gb137) (o := .cells #[.slice A0_0 l0_0.length c0_0, .slice A0_1 l0_1.length c0_1] 45 (0, 0)) (by refine zq ?_; refine blk_far ?_ NB137_148.out _; refine zq ?_; exact BK137.out) hb); have n6_ := am (blk_below (g := gb138) (o := .cells #[.slice none 0 0, .int .i64 0, .slice none 0 0, .slice none 0 0, .slice none 0 0] 30 (0, 0)) (by refine zq ?_; refine blk_far ?_ NB138_148.out _; refine zq ?_; exact BK138.out) hb); have n7_ := am (blk_below (g := gb148) (o := .cells #[.slice Ao31 t149.length co31, .int .i64 1, .slice Ao21 t139.length co21, .slice Ao20 t142.length co20, .slice Ao19 t145.length co19] 30 (0, 0)) (by refine zq ?_; refine blk_put (cs := #[.slice none 0 0, .int .i64 1, .slice Ao21 t139.length co21, .slice Ao20 t142.length co20, .slice Ao19 t145.length co19]) ?_ 0 _ rfl; refine zq ?_; exact BK148.out) hb); have n8_ := am (below_step (zw HB) hb); clear HO141 HO144 HO147 HO151 BK137 BK138 BK148 HB; revert n0_ n1_ n2_ n3_ n4_ n5_ n6_ n7_ n8_; intro HO141 HO144 HO147 HO151 HO154 BK137 BK138 BK148 HB; (try clear hb); (try clear hb2); (try clear hk); (try clear hi); (try clear ho0); obtain ⟨Ao35, co35, eo35⟩ := Kd.R_slice HO154.out; subst eo35; have hcz36_0 : w34.cell? ⟨gb148, 0, none⟩ = some (.slice Ao31 t149.length co31) := (blk_cell BK148.out 0).trans rfl; have hcz36_1 : w34.cell? ⟨gb148, 1, none⟩ = some (.int .i64 1) := (blk_cell BK148.out 1).trans rfl; have hcz36_2 : w34.cell? ⟨gb148, 2, none⟩ = some (.slice Ao21 t139.length co21) := (blk_cell BK148.out 2).trans rfl; have hcz36_3 : w34.cell? ⟨gb148, 3, none⟩ = some (.slice Ao20 t142.length co20) := (blk_cell BK148.out 3).trans rfl; have hcz36_4 : w34.cell? ⟨gb148, 4, none⟩ = some (.slice Ao19 t145.length co19) := (blk_cell BK148.out 4).trans rfl; have hfz36_0 := blk_frozen BK148.out 0; have hfz36_1 := blk_frozen BK148.out 1; have hfz36_2 := blk_frozen BK148.out 2; have hfz36_3 := blk_frozen BK148.out 3; have hfz36_4 := blk_frozen BK148.out 4; have hcz37_0 : w34.cell? ⟨gb138, 0, none⟩ = some (.slice none 0 0) := (blk_cell BK138.out 0).trans rfl; have hcz37_1 : w34.cell? ⟨gb138, 1, none⟩ = some (.int .i64 0) := (blk_cell BK138.out 1).trans rfl; have hcz37_2 : w34.cell? ⟨gb138, 2, none⟩ = some (.slice none 0 0) := (blk_cell BK138.out 2).trans rfl; have hcz37_3 : w34.cell? ⟨gb138, 3, none⟩ = some (.slice none 0 0) := (blk_cell BK138.out 3).trans rfl; have hcz37_4 : w34.cell? ⟨gb138, 4, none⟩ = some (.slice none 0 0) := (blk_cell BK138.out 4).trans rfl; have hfz37_0 := blk_frozen BK138.out 0; have hfz37_1 := blk_frozen BK138.out 1; have hfz37_2 := blk_frozen BK138.out 2; have hfz37_3 := blk_frozen BK138.out 3; have hfz37_4 := blk_frozen BK138.out 4))
  have hDf := (Below.heap_setCell (((((w34.setCell ⟨gb148, 0, none⟩ (.slice Ao35 t152.length co35)).setCell ⟨gb138, 0, none⟩ (.slice Ao35 t152.length co35)).setCell ⟨gb138, 1, none⟩ (.int .i64 1)).setCell ⟨gb138, 2, none⟩ (.slice Ao21 t139.length co21)).setCell ⟨gb138, 3, none⟩ (.slice Ao20 t142.length co20)) ⟨gb138, 4, none⟩ (.slice Ao19 t145.length co19) D (Ne.symm HD138.out)).trans ((Below.heap_setCell _ _ _ _ (Ne.symm HD138.out)).trans ((Below.heap_setCell _ _ _ _ (Ne.symm HD138.out)).trans ((Below.heap_setCell _ _ _ _ (Ne.symm HD138.out)).trans ((Below.heap_setCell _ _ _ _ (Ne.symm HD138.out)).trans ((Below.heap_setCell _ _ _ _ HD.out).trans HDD.out)))))
  refine ret_marks rfl hDf (results_cell_row rfl _ _ gb138 30 #[.slice Ao35 t152.length co35, .int .i64 1, .slice Ao21 t139.length co21, .slice Ao20 t142.length co20, .slice Ao19 t145.length co19] (0, 0) _ rfl ((World.putObj_heap_other HD138.out).trans (by refine zq ?_; refine blk_put (cs := #[.slice Ao35 t152.length co35, .int .i64 1, .slice Ao21 t139.length co21, .slice Ao20 t142.length co20, .slice none 0 0]) ?_ 4 _ rfl; refine zq ?_; refine blk_put (cs := #[.slice Ao35 t152.length co35, .int .i64 1, .slice Ao21 t139.length co21, .slice none 0 0, .slice none 0 0]) ?_ 3 _ rfl; refine zq ?_; refine blk_put (cs := #[.slice Ao35 t152.length co35, .int .i64 1, .slice none 0 0, .slice none 0 0, .slice none 0 0]) ?_ 2 _ rfl; refine zq ?_; refine blk_put (cs := #[.slice Ao35 t152.length co35, .int .i64 0, .slice none 0 0, .slice none 0 0, .slice none 0 0]) ?_ 1 _ rfl; refine zq ?_; refine blk_put (cs := #[.slice none 0 0, .int .i64 0, .slice none 0 0, .slice none 0 0, .slice none 0 0]) ?_ 0 _ rfl; refine zq ?_; refine blk_far ?_ NB138_148.out _; refine zq ?_; exact BK138.out)) Try.underlying30 rfl (by kernel_rfl)) ?hst ?hR
  case hst =>
   rintro ⟨v0, v2, v3, v4, e, h0, h2, h3, h4, hb⟩
   exact ⟨v0, v2, v3, v4, e, R_mark h0 rfl hDf, R_mark h2 rfl hDf, R_mark h3 rfl hDf, R_mark h4 rfl hDf, below_mark hb HDge.out⟩
  case hR =>
   exact ⟨_, _, _, _, by first | rfl | (simp [errW_none, errW_some] <;> rfl) | (simp [*, errW_none, errW_some] <;> rfl), by refine zr ?_; exact Kd.R_mono (Kd.R_far (p := ⟨gb138, 4, none⟩) (Kd.R_far (p := ⟨gb138, 3, none⟩) (Kd.R_far (p := ⟨gb138, 2, none⟩) (Kd.R_far (p := ⟨gb138, 1, none⟩) (Kd.R_far (p := ⟨gb138, 0, none⟩) (Kd.R_far (p := ⟨gb148, 0, none⟩) (Kd.R_types (Kd.R_types HO154.out BK148.out (by decide)) BK138.out (by decide)) (fun _ hk => hk.1.2) (.slice Ao35 t152.length co35)) (fun _ hk => hk.2) (.slice Ao35 t152.length co35)) (fun _ hk => hk.2) (.int .i64 1)) (fun _ hk => hk.2) (.slice Ao21 t139.length co21)) (fun _ hk => hk.2) (.slice Ao20 t142.length co20)) (fun _ hk => hk.2) (.slice Ao19 t145.length co19)) (fun _ hk => ⟨hk.1.1.1.1.1.2, ⟨hk.1.1.1.1.2, hk.1.1.1.2⟩⟩), by refine zr ?_; exact Kd.R_mono (Kd.R_far (p := ⟨gb138, 4, none⟩) (Kd.R_far (p := ⟨gb138, 3, none⟩) (Kd.R_far (p := ⟨gb138, 2, none⟩) (Kd.R_far (p := ⟨gb138, 1, none⟩) (Kd.R_far (p := ⟨gb138, 0, none⟩) (Kd.R_far (p := ⟨gb148, 0, none⟩) (Kd.R_types (Kd.R_types HO141.out BK148.out (by decide)) BK138.out (by decide)) (fun _ hk => hk.1.2) (.slice Ao35 t152.length co35)) (fun _ hk => hk.2) (.slice Ao35 t152.length co35)) (fun _ hk => hk.2) (.int .i64 1)) (fun _ hk => hk.2) (.slice Ao21 t139.length co21)) (fun _ hk => hk.2) (.slice Ao20 t142.length co20)) (fun _ hk => hk.2) (.slice Ao19 t145.length co19)) (fun _ hk => ⟨hk.1.1.2, ⟨hk.1.1.1.1.1, hk.1.1.1.1.2⟩⟩), by refine zr ?_; exact Kd.R_mono (Kd.R_far (p := ⟨gb138, 4, none⟩) (Kd.R_far (p := ⟨gb138, 3, none⟩) (Kd.R_far (p := ⟨gb138, 2, none⟩) (Kd.R_far (p := ⟨gb138, 1, none⟩) (Kd.R_far (p := ⟨gb138, 0, none⟩) (Kd.R_far (p := ⟨gb148, 0, none⟩) (Kd.R_types (Kd.R_types HO144.out BK148.out (by decide)) BK138.out (by decide)) (fun _ hk => hk.1.2) (.slice Ao35 t152.length co35)) (fun _ hk => hk.2) (.slice Ao35 t152.length co35)) (fun _ hk => hk.2) (.int .i64 1)) (fun _ hk => hk.2) (.slice Ao21 t139.length co21)) (fun _ hk => hk.2) (.slice Ao20 t142.length co20)) (fun _ hk => hk.2) (.slice Ao19 t145.length co19)) (fun _ hk => ⟨hk.1.1.2, ⟨hk.1.1.1.1.1, hk.1.1.1.1.2⟩⟩), by refine zr ?_; exact Kd.R_mono (Kd.R_far (p := ⟨gb138, 4, none⟩) (Kd.R_far (p := ⟨gb138, 3, none⟩) (Kd.R_far (p := ⟨gb138, 2, none⟩) (Kd.R_far (p := ⟨gb138, 1, none⟩) (Kd.R_far (p := ⟨gb138, 0, none⟩) (Kd.R_far (p := ⟨gb148, 0, none⟩) (Kd.R_types (Kd.R_types HO147.out BK148.out (by decide)) BK138.out (by decide)) (fun _ hk => hk.1.2) (.slice Ao35 t152.length co35)) (fun _ hk => hk.2) (.slice Ao35 t152.length co35)) (fun _ hk => hk.2) (.int .i64 1)) (fun _ hk => hk.2) (.slice Ao21 t139.length co21)) (fun _ hk => hk.2) (.slice Ao20 t142.length co20)) (fun _ hk => hk.2) (.slice Ao19 t145.length co19)) (fun _ hk => ⟨hk.1.1.2, ⟨hk.1.1.1.1.1, hk.1.1.1.1.2⟩⟩), zw HB⟩
end Go.Proofs.Ytmkjkkmilopcpaa.Q
