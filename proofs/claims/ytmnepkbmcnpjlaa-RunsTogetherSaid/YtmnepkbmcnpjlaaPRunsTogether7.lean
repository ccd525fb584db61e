-- packed by wip/tools/pack.py (a program of this session) out of its own texts
import Derived.ArgAppend
import Derived.Below
import Derived.BigQuiet
import Derived.Deep.AppendLies
import Derived.Deep.CutBlock
import Derived.Deep.DeepCutAuto
import Derived.Deep.Draws
import Derived.Deep.LoopGhost
import Derived.Deep.OwnRows
import Derived.Deep.QuietTactic
import Derived.Deep.RegionHeld3
import Derived.KernelRfl
import Derived.Laws.BitsLemmas
import Derived.Laws.BytesArg
import Derived.Laws.IdiomCopy
import Derived.Laws.MakeOwn
import Derived.Laws.OwnMore
import Derived.Laws.Rows
import Derived.Laws.Slices
import Derived.Lib.AppendStr
import Derived.Lib.ConvBytes
import Derived.Maps.AppendAt
import Derived.OrdersHeld
import Derived.OwnWalk
import Derived.RowKit
import Derived.RowKit3
import Derived.Tactics
import Derived.Test.YtmnepkbmcnpjlaaProg
import Derived.WalkKit
import Derived.WideLaws
import Derived.Test.YtmnepkbmcnpjlaaPRunsTogether1
import Derived.Test.YtmnepkbmcnpjlaaPRunsTogether3
import Derived.Test.YtmnepkbmcnpjlaaPRunsTogether4
import Derived.Test.YtmnepkbmcnpjlaaPRunsTogether5
import Derived.Test.YtmnepkbmcnpjlaaPRunsTogether6
namespace Go.Proofs.Ytmnepkbmcnpjlaa.Q
open Go.RowKit Go.Proofs.YtmnepkbmcnpjlaaW.PrintWords Go.Proofs.YtmnepkbmcnpjlaaW.PrintLast Go.Proofs.YtmnepkbmcnpjlaaW.PrintMore
attribute [local go_sem] max2_int min2_int max_two min_two max_three min_three max_four min_four
set_option linter.unusedVariables false
set_option linter.unusedSimpArgs false
def bsf_R1.l0 : Nat → List (S41) → Int → Int → Int → List Int → Int → List Int → List Int → List Int → Option (Int × Bool)
 | 0, _, _, _, _, _, _, _, _, _ => none
 | k + 1, x0, x8, x9, x10, x111000, x111001, x111002, x111003, x111004 => if x9 < x10 then (if 0 ≤ (wrap64 ((IntKind.u64.wrap (wrap64 (x9 + x10))) / 2)) then (if (wrap64 ((IntKind.u64.wrap (wrap64 (x9 + x10))) / 2)) < (x0.length : Int) then ((runs_by.f k ((rd_T41 x0 (wrap64 ((IntKind.u64.wrap (wrap64 (x9 + x10))) / 2))).f0) ((rd_T41 x0 (wrap64 ((IntKind.u64.wrap (wrap64 (x9 + x10))) / 2))).f1) ((rd_T41 x0 (wrap64 ((IntKind.u64.wrap (wrap64 (x9 + x10))) / 2))).f2) ((rd_T41 x0 (wrap64 ((IntKind.u64.wrap (wrap64 (x9 + x10))) / 2))).f3) ((rd_T41 x0 (wrap64 ((IntKind.u64.wrap (wrap64 (x9 + x10))) / 2))).f4) x111000 x111001 x111002 x111003 x111004).bind fun t112 => (if t112 < 0 then (bsf_R1.l0 k x0 x8 (wrap64 ((wrap64 ((IntKind.u64.wrap (wrap64 (x9 + x10))) / 2)) + 1)) x10 x111000 x111001 x111002 x111003 x111004) else (bsf_R1.l0 k x0 x8 x9 (wrap64 ((IntKind.u64.wrap (wrap64 (x9 + x10))) / 2)) x111000 x111001 x111002 x111003 x111004))) else (none)) else (none)) else (if x9 < x8 then (if 0 ≤ x9 then (if x9 < (x0.length : Int) then ((runs_by.f k ((rd_T41 x0 x9).f0) ((rd_T41 x0 x9).f1) ((rd_T41 x0 x9).f2) ((rd_T41 x0 x9).f3) ((rd_T41 x0 x9).f4) x111000 x111001 x111002 x111003 x111004).bind fun t114 => (some (x9, (t114 == 0)))) else (none)) else (none)) else (some (x9, false)))
def bsf_R1.f (k : Nat) (l0 : List (S41)) (l1_0 : List Int) (a1_1 : Int) (l1_2 : List Int) (l1_3 : List Int) (l1_4 : List Int) : Option (Int × Bool) := bsf_R1.l0 k l0 (l0.length : Int) 0 (l0.length : Int) l1_0 a1_1 l1_2 l1_3 l1_4
def bsf_R1.T5 : Bool × List (List Nat × List Nat) := (true, [([], []), ([], []), ([], []), ([1, 2], [1, 2]), ([3], [3]), ([], []), ([0, 4, 5], [0, 4, 5]), ([6], [6])])
def bsf_R1.B5 : List Nat := [0, 0, 0, 6, 14, 0, 63, 127]
theorem bsf_R1.tab5 : rtab .any (opsOf Try.f37 5) = bsf_R1.T5 := by kernel_rfl
theorem bsf_R1.bits5 : waitsOk bsf_R1.T5.2 bsf_R1.B5 = true := by kernel_rfl
def bsf_R1.T8 : Bool × List (List Nat × List Nat) := (true, [([], []), ([], []), ([], []), ([1, 2], [1, 2]), ([3], [3]), ([4], [4]), ([4], [4]), ([4], [4]), ([6, 7, 4], [4, 6, 7]), ([8, 4], [4, 8]), ([4], [4]), ([5, 9, 10, 4, 4], [4, 5, 9, 10]), ([11, 4], [4, 11]), ([4, 12], [4, 12]), ([0, 11, 0], [0]), ([13, 14, 0, 1, 2, 3, 4, 5, 6, 7, 8, 9, 10, 11, 12, 13, 14], [13])])
def bsf_R1.B8 : List Nat := [0, 0, 0, 6, 14, 30, 30, 30, 222, 478, 30, 2046, 4094, 8190, 4095, 32767]
theorem bsf_R1.tab8 : rtab .any (opsOf Try.f37 8) = bsf_R1.T8 := by kernel_rfl
theorem bsf_R1.bits8 : waitsOk bsf_R1.T8.2 bsf_R1.B8 = true := by kernel_rfl
set_option maxHeartbeats 8000000 in
set_option maxRecDepth 100000 in
theorem bsf_R1.calls (k : Nat) (A0 : Option Addr) (c0 : Nat) (l0 : List (S41)) (A1_0 : Option Addr) (c1_0 : Nat) (l1_0 : List Int) (a1_1 : Int) (A1_2 : Option Addr) (c1_2 : Nat) (l1_2 : List Int) (A1_3 : Option Addr) (c1_3 : Nat) (l1_3 : List Int) (A1_4 : Option Addr) (c1_4 : Nat) (l1_4 : List Int) (r1 : Int) (r2 : Bool) (w : World) (hr0 : Kd.C k41 w A0 l0.length l0) (hc0 : l0.length ≤ c0) (hr1_0 : Kd.C (Kd.int .i64) w A1_0 l1_0.length l1_0) (hc1_0 : l1_0.length ≤ c1_0) (hr1_2 : Kd.C (Kd.int .i64) w A1_2 l1_2.length l1_2) (hc1_2 : l1_2.length ≤ c1_2) (hr1_3 : Kd.C (Kd.int .i64) w A1_3 l1_3.length l1_3) (hc1_3 : l1_3.length ≤ c1_3) (hr1_4 : Kd.C (Kd.int .i64) w A1_4 l1_4.length l1_4) (hc1_4 : l1_4.length ≤ c1_4) (h : bsf_R1.f k l0 l1_0 a1_1 l1_2 l1_3 l1_4 = some (r1, r2)) :
  Calls Try.prog 37 #[.slice A0 l0.length c0, .agg #[.slice A1_0 l1_0.length c1_0, .int .i64 a1_1, .slice A1_2 l1_2.length c1_2, .slice A1_3 l1_3.length c1_3, .slice A1_4 l1_4.length c1_4], .func (.func 34) #[] #[]] w fun e w' => e = .returned (.tuple #[.int .i64 r1, .bool r2]) ∧ Below w.heap.size w w' := by
 have hu41 := Try.underlying41
 have HR0 := Aside0.mk hr0
 have HC0 := Aside0.mk hc0
 clear hr0 hc0
 have HR1_0 := Aside0.mk hr1_0
 have HC1_0 := Aside0.mk hc1_0
 clear hr1_0 hc1_0
 have HR1_2 := Aside0.mk hr1_2
 have HC1_2 := Aside0.mk hc1_2
 clear hr1_2 hc1_2
 have HR1_3 := Aside0.mk hr1_3
 have HC1_3 := Aside0.mk hc1_3
 clear hr1_3 hc1_3
 have HR1_4 := Aside0.mk hr1_4
 have HC1_4 := Aside0.mk hc1_4
 clear hr1_4 hc1_4
 have HB := Aside0.mk (Below.refl w.heap.size w)
 have H : (bsf_R1.l0 k l0 (l0.length : Int) 0 (l0.length : Int) l1_0 a1_1 l1_2 l1_3 l1_4) = some (r1, r2) := h
 clear h
 have H' := Aside0.mk H
 clear H
 go_enter Try.func37, Try.ntmps37
 go_wp2_with (first | ((with_reducible refine gate_dst (N := 4) rfl ?_); refine box_event ?hg (N := 4) ?hd (cs := #[.slice A1_0 l1_0.length c1_0, .int .i64 a1_1, .slice A1_2 l1_2.length c1_2, .slice A1_3 l1_3.length c1_3, .slice A1_4 l1_4.length c1_4]) (t := 41) ?hr ?_; (case hd => rfl); (case hg => rfl); (case hr => first | (go_simp; done) | (go_simp; rfl)); intro gb110 hg w3 hbox hb; have n0_ := Aside0.mk (below_step (wmv HB.out) hb); have n1_ := Aside0.mk (hbox); have n2_ := Aside0.mk ((by rw [hg]; exact (below_size (wmv HB.out)) : w.heap.size ≤ gb110)); have n3_ := Aside0.mk ((by rw [hg]; exact (below_size (wmv HB.out)) : w.heap.size ≤ gb110)); clear HB; revert n0_ n1_ n2_ n3_; intro HB BK110 GW110 GE110; clear hb hbox hg))
 go_loopg [9, 10] k (fun kq v9 v10 w' => ∃ (x9_1 : Int) (x10_1 : Int), v9 = .int .i64 x9_1 ∧ v10 = .int .i64 x10_1 ∧ Aside0 (bsf_R1.l0 kq l0 (l0.length : Int) x9_1 x10_1 l1_0 a1_1 l1_2 l1_3 l1_4 = some (r1, r2)) ∧ Aside0 (kq ≤ k) ∧ Aside0 (w'.heap[gb110]? = some (.cells #[(.slice A1_0 l1_0.length c1_0), .int .i64 a1_1, (.slice A1_2 l1_2.length c1_2), (.slice A1_3 l1_3.length c1_3), (.slice A1_4 l1_4.length c1_4)] 41 (0, 0))) ∧ Aside0 (Below w.heap.size w w'))
 case atStart => exact ⟨(0), ((l0.length : Int)), (by first | rfl | (simp; done) | (simp [*]; done)), (by first | rfl | (simp; done) | (simp [*]; done)), H', ⟨Nat.le_refl _⟩, ⟨by (with_reducible repeat (first | refine blk_drewN ?_ _ | refine blk_drew ?_ | refine blk_alloc ?_ _)); exact BK110.out⟩, ⟨by repeat (first | (with_reducible first | exact HB.out | apply below_alloc | apply pw_below_drewN | apply below_drew1 | refine below_set ?_ GE110.out) | exact HB.out)⟩⟩
 case round =>
  clear H'
  try clear c1
  try clear p2
  obtain ⟨x9_1, x10_1, rfl, rfl, HA, HK1, BK110, HB⟩ := hrel
  cases gk with
  | zero => exact absurd HA.out (by simp [bsf_R1.l0])
  | succ k1 =>
   have H := HA.out
   clear HA
   simp only [bsf_R1.l0] at H
   by_cases c4 : x9_1 < x10_1
   ·rw [if_pos c4] at H
    have c4b0 : decide (x9_1 < x10_1) = true := decide_eq_true c4
    clear c4
    obtain ⟨ji5, hji5⟩ : ∃ j_ : Int, (wrap64 ((IntKind.u64.wrap (wrap64 (x9_1 + x10_1))) / 2)) = j_ := ⟨_, rfl⟩
    replace H : (if 0 ≤ (ji5) then (if (ji5) < (l0.length : Int) then ((runs_by.f k1 ((rd_T41 l0 (ji5)).f0) ((rd_T41 l0 (ji5)).f1) ((rd_T41 l0 (ji5)).f2) ((rd_T41 l0 (ji5)).f3) ((rd_T41 l0 (ji5)).f4) l1_0 a1_1 l1_2 l1_3 l1_4).bind fun t112 => (if t112 < 0 then (bsf_R1.l0 k1 l0 (l0.length : Int) (wrap64 ((ji5) + 1)) x10_1 l1_0 a1_1 l1_2 l1_3 l1_4) else (bsf_R1.l0 k1 l0 (l0.length : Int) x9_1 ji5 l1_0 a1_1 l1_2 l1_3 l1_4))) else (none)) else (none)) = some (r1, r2) := by first | (rw [hji5] at H; exact H) | (simp only [hji5] at H ⊢; exact H)
    have hji5w : (IntKind.i64.wrap ((IntKind.u64.wrap (wrap64 (x9_1 + x10_1))) / 2)) = ji5 := (i64_w _).trans hji5
    by_cases c6 : 0 ≤ (ji5)
    ·rw [if_pos c6] at H
     have c6b0 : decide (0 ≤ (ji5)) = true := decide_eq_true c6
     clear c6
     by_cases c7 : (ji5) < (l0.length : Int)
     ·rw [if_pos c7] at H
      have c7b0 : decide ((ji5) < (l0.length : Int)) = true := decide_eq_true c7
      clear c7
      replace H := Option.bind_eq_some_iff.mp H
      obtain ⟨t112, A80, H⟩ := H
      replace H : (if t112 < 0 then (bsf_R1.l0 k1 l0 (l0.length : Int) (wrap64 ((ji5) + 1)) x10_1 l1_0 a1_1 l1_2 l1_3 l1_4) else (bsf_R1.l0 k1 l0 (l0.length : Int) x9_1 ji5 l1_0 a1_1 l1_2 l1_3 l1_4)) = some (r1, r2) := H
      have A8 := Aside0.mk A80
      clear A80
      by_cases c9 : t112 < 0
      ·rw [if_pos c9] at H
       have c9b0 : decide (t112 < 0) = true := decide_eq_true c9
       clear c9
       have H' := Aside0.mk H
       clear H
       try go_wp2
       have n0_ := Aside0.mk (blk_drew BK110.out)
       have n1_ := Aside0.mk (below_drew1 HB.out)
       clear BK110 HB
       revert n0_ n1_
       intro BK110 HB
       have p111 : 0 ≤ ((ji5) : Int) := of_decide_eq_true (by first | (with_reducible assumption) | assumption)
       have q111 : (ji5) < (l0.length : Int) := of_decide_eq_true (by first | (with_reducible assumption) | assumption)
       obtain ⟨ad111, A111_0, c111_0, A111_2, c111_2, A111_3, c111_3, A111_4, c111_4, e111, hx111_0, hx111_1, hx111_2, hx111_3, hx111_4, hl111_0, hi111_0, hl111_2, hi111_2, hl111_3, hi111_3, hl111_4, hi111_4⟩ := at_T41 HR0.out (ji5) p111 q111
       have hw111_4 := hx111_4
       have hw111_3 := hx111_3
       have hw111_2 := hx111_2
       have hw111_1 := hx111_1
       have hw111_0 := hx111_0
       cases e111
       replace hx111_0 := (HB.out.cell (World.block_lt_of_cell? w _ hx111_0)).trans hx111_0
       replace hx111_1 := (HB.out.cell (World.block_lt_of_cell? w _ hx111_1)).trans hx111_1
       replace hx111_2 := (HB.out.cell (World.block_lt_of_cell? w _ hx111_2)).trans hx111_2
       replace hx111_3 := (HB.out.cell (World.block_lt_of_cell? w _ hx111_3)).trans hx111_3
       replace hx111_4 := (HB.out.cell (World.block_lt_of_cell? w _ hx111_4)).trans hx111_4
       have HR111_0 := Aside0.mk hi111_0
       have HC111_0 := Aside0.mk hl111_0
       clear hi111_0 hl111_0
       have HR111_2 := Aside0.mk hi111_2
       have HC111_2 := Aside0.mk hl111_2
       clear hi111_2 hl111_2
       have HR111_3 := Aside0.mk hi111_3
       have HC111_3 := Aside0.mk hl111_3
       clear hi111_3 hl111_3
       have HR111_4 := Aside0.mk hi111_4
       have HC111_4 := Aside0.mk hl111_4
       clear hi111_4 hl111_4
       replace p111 := eq_true p111
       replace q111 := eq_true q111
       refine start_ (n := 8) (S := fun w' => w'.cell? ⟨gb110, 0, none⟩ = some (.slice A1_0 l1_0.length c1_0) ∧ w'.cell? ⟨gb110, 1, none⟩ = some (.int .i64 a1_1) ∧ w'.cell? ⟨gb110, 2, none⟩ = some (.slice A1_2 l1_2.length c1_2) ∧ w'.cell? ⟨gb110, 3, none⟩ = some (.slice A1_3 l1_3.length c1_3) ∧ w'.cell? ⟨gb110, 4, none⟩ = some (.slice A1_4 l1_4.length c1_4) ∧ w'.cell? (ad111.add (((ji5)).toNat * 5)) = some (.slice A111_0 ((rd_T41 l0 (ji5)).f0).length c111_0) ∧ w'.cell? ⟨(ad111.add (((ji5)).toNat * 5)).block, (ad111.add (((ji5)).toNat * 5)).off + 1, none⟩ = some (.int .i64 ((rd_T41 l0 (ji5)).f1)) ∧ w'.cell? ⟨(ad111.add (((ji5)).toNat * 5)).block, (ad111.add (((ji5)).toNat * 5)).off + 2, none⟩ = some (.slice A111_2 ((rd_T41 l0 (ji5)).f2).length c111_2) ∧ w'.cell? ⟨(ad111.add (((ji5)).toNat * 5)).block, (ad111.add (((ji5)).toNat * 5)).off + 3, none⟩ = some (.slice A111_3 ((rd_T41 l0 (ji5)).f3).length c111_3) ∧ w'.cell? ⟨(ad111.add (((ji5)).toNat * 5)).block, (ad111.add (((ji5)).toNat * 5)).off + 4, none⟩ = some (.slice A111_4 ((rd_T41 l0 (ji5)).f4).length c111_4)) (ds := []) #[false, false, false, false, false, false, false, false] (by kernel_rfl) rfl rfl ⟨(blk_cell BK110.out 0).trans rfl, (blk_cell BK110.out 1).trans rfl, (blk_cell BK110.out 2).trans rfl, (blk_cell BK110.out 3).trans rfl, (blk_cell BK110.out 4).trans rfl, ((HB.out.cell (World.block_lt_of_cell? w _ hw111_0)).trans hw111_0), ((HB.out.cell (World.block_lt_of_cell? w _ hw111_1)).trans hw111_1), ((HB.out.cell (World.block_lt_of_cell? w _ hw111_2)).trans hw111_2), ((HB.out.cell (World.block_lt_of_cell? w _ hw111_3)).trans hw111_3), ((HB.out.cell (World.block_lt_of_cell? w _ hw111_4)).trans hw111_4)⟩ (fun hHeld => ?_); refine with_tabW bsf_R1.tab5 bsf_R1.bits5 (fun HT_ HW_ => ?_)
       generalize wr.drew = w10 at BK110 HB HR111_0 HR111_2 HR111_3 HR111_4 hx111_0 hx111_1 hx111_2 hx111_3 hx111_4 hHeld ⊢
       refine pure_ (i := 0) (N := some 24) (v := ?_) (a' := ?_) #[true, false, false, false, false, false, false, false] rfl rfl (any_of HT_.out (by kernel_rfl)) (fun _ _ _ h => h) (Or.inl ⟨by rfl, ?_⟩) ?_ ?_
       rotate_left
       ·intro w'
        go_simp
        with_reducible rfl
       rotate_left
       ·simp only [ps]
        rfl
       refine pure_ (i := 1) (N := some 25) (v := ?_) (a' := ?_) #[true, true, false, false, false, false, false, false] rfl rfl (any_of HT_.out (by kernel_rfl)) (fun _ _ _ h => h) (Or.inl ⟨by rfl, ?_⟩) ?_ ?_
       rotate_left
       ·intro w'
        go_simp
        with_reducible rfl
       rotate_left
       ·simp only [ps]
        rfl
       refine pure_ (i := 2) (N := some 26) (v := ?_) (a' := ?_) #[true, true, true, false, false, false, false, false] rfl rfl (any_of HT_.out (by kernel_rfl)) (fun _ _ _ h => h) (Or.inl ⟨by rfl, ?_⟩) ?_ ?_
       rotate_left
       ·intro w'
        go_simp
        with_reducible rfl
       rotate_left
       ·simp only [ps]
        rfl
       refine pure_ (i := 3) (N := some 27) (v := ?_) (a' := ?_) #[true, true, true, true, false, false, false, false] rfl rfl (any_of HT_.out (by kernel_rfl)) (fun _ _ _ h => h) (Or.inl ⟨by rfl, ?_⟩) ?_ ?_
       rotate_left
       ·intro w'
        go_simp
        with_reducible rfl
       rotate_left
       ·simp only [ps]
        rfl
       refine take_ (i := 4) (N := some 28) (v := ?_) (a' := ?_) #[true, true, true, true, true, false, false, false] rfl rfl (take_ofW HT_.out HW_.out (by kernel_rfl)) (fun _ _ _ h => h) (Or.inl ⟨by rfl, ?_⟩) hHeld ?_ ?_
       rotate_left
       ·rintro w' ⟨s0, s1, s2, s3, s4, s5, s6, s7, s8, s9⟩
        go_simp
        with_reducible rfl
       rotate_left
       ·simp only [ps]
        rfl
       refine take_ (i := 5) (N := some 29) (v := ?_) (a' := ?_) #[true, true, true, true, true, true, false, false] rfl rfl (take_ofW HT_.out HW_.out (by kernel_rfl)) (fun _ _ _ h => h) (Or.inl ⟨by rfl, ?_⟩) hHeld ?_ ?_
       rotate_left
       ·rintro w' ⟨s0, s1, s2, s3, s4, s5, s6, s7, s8, s9⟩
        go_simp
        with_reducible rfl
       rotate_left
       ·simp only [ps]
        rfl
       refine one_ (i := 6) (N := some 30) #[true, true, true, true, true, true, true, false] rfl rfl (one_of HT_.out (by kernel_rfl)) (by decide) (fun K hK => ?_)
       refine goesv_ Try.func34 (by kernel_rfl) rfl #[.agg #[.slice A111_0 ((rd_T41 l0 (ji5)).f0).length c111_0, .int .i64 ((rd_T41 l0 (ji5)).f1), .slice A111_2 ((rd_T41 l0 (ji5)).f2).length c111_2, .slice A111_3 ((rd_T41 l0 (ji5)).f3).length c111_3, .slice A111_4 ((rd_T41 l0 (ji5)).f4).length c111_4], .agg #[.slice A1_0 l1_0.length c1_0, .int .i64 a1_1, .slice A1_2 l1_2.length c1_2, .slice A1_3 l1_3.length c1_3, .slice A1_4 l1_4.length c1_4]] (by rfl) rfl rfl (by (try simp only [List.map_toArray, List.map_cons, List.map_nil]); first | done | (simp only [hji5]; rfl) | rfl | (simp only [List.length_drop, List.length_take]; rfl)) ?_
       with_reducible refine (runs_by.calls k1 _ _ ((rd_T41 l0 (ji5)).f0) ((rd_T41 l0 (ji5)).f1) _ _ ((rd_T41 l0 (ji5)).f2) _ _ ((rd_T41 l0 (ji5)).f3) _ _ ((rd_T41 l0 (ji5)).f4) _ _ l1_0 a1_1 _ _ l1_2 _ _ l1_3 _ _ l1_4 t112 _ ?side1 ?side2 ?side3 ?side4 ?side5 ?side6 ?side7 ?side8 ?side9 ?side10 ?side11 ?side12 ?side13 ?side14 ?side15 ?side16 A8.out).mono ?_
       (case side1 => exact Kd.Cw HR111_0.out HB.out)
       (case side2 => exact HC111_0.out)
       (case side3 => exact Kd.Cw HR111_2.out HB.out)
       (case side4 => exact HC111_2.out)
       (case side5 => exact Kd.Cw HR111_3.out HB.out)
       (case side6 => exact HC111_3.out)
       (case side7 => exact Kd.Cw HR111_4.out HB.out)
       (case side8 => exact HC111_4.out)
       (case side9 => exact Kd.Cw HR1_0.out HB.out)
       (case side10 => exact HC1_0.out)
       (case side11 => exact Kd.Cw HR1_2.out HB.out)
       (case side12 => exact HC1_2.out)
       (case side13 => exact Kd.Cw HR1_3.out HB.out)
       (case side14 => exact HC1_3.out)
       (case side15 => exact Kd.Cw HR1_4.out HB.out)
       (case side16 => exact HC1_4.out)
       rintro e w11 ⟨rfl, hb⟩
       refine ⟨_, rfl, ?_⟩
       have n0_ := Aside0.mk (blk_below (bmv BK110.out) hb)
       have n1_ := Aside0.mk (below_step (wmv HB.out) hb)
       clear BK110 HB
       revert n0_ n1_
       intro BK110 HB
       (try clear hb)
       (try clear hb2)
       (try clear hk)
       (try clear hi)
       refine hK.out _ _ ⟨(blk_cell BK110.out 0).trans rfl, (blk_cell BK110.out 1).trans rfl, (blk_cell BK110.out 2).trans rfl, (blk_cell BK110.out 3).trans rfl, (blk_cell BK110.out 4).trans rfl, ((HB.out.cell (World.block_lt_of_cell? w _ hw111_0)).trans hw111_0), ((HB.out.cell (World.block_lt_of_cell? w _ hw111_1)).trans hw111_1), ((HB.out.cell (World.block_lt_of_cell? w _ hw111_2)).trans hw111_2), ((HB.out.cell (World.block_lt_of_cell? w _ hw111_3)).trans hw111_3), ((HB.out.cell (World.block_lt_of_cell? w _ hw111_4)).trans hw111_4)⟩ (fun hHeld => ?_)
       clear hK K
       refine norm_ (a' := ?_) ?_ ?_
       rotate_left
       ·show Act.put _ (some 30) _ = _
        simp only [ps]
        rfl
       refine pure_ (i := 7) (N := some 31) (v := ?_) (a' := ?_) #[true, true, true, true, true, true, true, true] rfl rfl (any_of HT_.out (by kernel_rfl)) (fun _ _ _ h => h) (Or.inl ⟨by rfl, ?_⟩) ?_ ?_
       rotate_left
       ·intro w'
        go_simp
        with_reducible rfl
       rotate_left
       ·simp only [ps]
        rfl
       refine done_ (done_of HT_.out (by kernel_rfl)) ?_
       try go_wp2
       go_roundg k1
       case measure => have := HK1.out; omega
       case rel => exact ⟨(wrap64 ((ji5) + 1)), (x10_1), (by first | rfl | (simp; done) | (simp only [← hji5] <;> (first | rfl | simp)) | (simp [*]; done)), (by first | rfl | (simp; done) | (simp [*]; done)), H', ⟨by have := HK1.out; omega⟩, ⟨by (with_reducible repeat (first | refine blk_drewN ?_ _ | refine blk_drew ?_ | refine blk_alloc ?_ _)); exact BK110.out⟩, ⟨by repeat (first | (with_reducible first | exact HB.out | apply below_alloc | apply pw_below_drewN | apply below_drew1 | refine below_set ?_ GE110.out) | exact HB.out)⟩⟩
      ·rw [if_neg c9] at H
       have c9b0 : decide (t112 < 0) = false := decide_eq_false c9
       clear c9
       have H' := Aside0.mk H
       clear H
       try go_wp2
       have n0_ := Aside0.mk (blk_drew BK110.out)
       have n1_ := Aside0.mk (below_drew1 HB.out)
       clear BK110 HB
       revert n0_ n1_
       intro BK110 HB
       have p111 : 0 ≤ ((ji5) : Int) := of_decide_eq_true (by first | (with_reducible assumption) | assumption)
       have q111 : (ji5) < (l0.length : Int) := of_decide_eq_true (by first | (with_reducible assumption) | assumption)
       obtain ⟨ad111, A111_0, c111_0, A111_2, c111_2, A111_3, c111_3, A111_4, c111_4, e111, hx111_0, hx111_1, hx111_2, hx111_3, hx111_4, hl111_0, hi111_0, hl111_2, hi111_2, hl111_3, hi111_3, hl111_4, hi111_4⟩ := at_T41 HR0.out (ji5) p111 q111
       have hw111_4 := hx111_4
       have hw111_3 := hx111_3
       have hw111_2 := hx111_2
       have hw111_1 := hx111_1
       have hw111_0 := hx111_0
       cases e111
       replace hx111_0 := (HB.out.cell (World.block_lt_of_cell? w _ hx111_0)).trans hx111_0
       replace hx111_1 := (HB.out.cell (World.block_lt_of_cell? w _ hx111_1)).trans hx111_1
       replace hx111_2 := (HB.out.cell (World.block_lt_of_cell? w _ hx111_2)).trans hx111_2
       replace hx111_3 := (HB.out.cell (World.block_lt_of_cell? w _ hx111_3)).trans hx111_3
       replace hx111_4 := (HB.out.cell (World.block_lt_of_cell? w _ hx111_4)).trans hx111_4
       have HR111_0 := Aside0.mk hi111_0
       have HC111_0 := Aside0.mk hl111_0
       clear hi111_0 hl111_0
       have HR111_2 := Aside0.mk hi111_2
       have HC111_2 := Aside0.mk hl111_2
       clear hi111_2 hl111_2
       have HR111_3 := Aside0.mk hi111_3
       have HC111_3 := Aside0.mk hl111_3
       clear hi111_3 hl111_3
       have HR111_4 := Aside0.mk hi111_4
       have HC111_4 := Aside0.mk hl111_4
       clear hi111_4 hl111_4
       replace p111 := eq_true p111
       replace q111 := eq_true q111
       refine start_ (n := 8) (S := fun w' => w'.cell? ⟨gb110, 0, none⟩ = some (.slice A1_0 l1_0.length c1_0) ∧ w'.cell? ⟨gb110, 1, none⟩ = some (.int .i64 a1_1) ∧ w'.cell? ⟨gb110, 2, none⟩ = some (.slice A1_2 l1_2.length c1_2) ∧ w'.cell? ⟨gb110, 3, none⟩ = some (.slice A1_3 l1_3.length c1_3) ∧ w'.cell? ⟨gb110, 4, none⟩ = some (.slice A1_4 l1_4.length c1_4) ∧ w'.cell? (ad111.add (((ji5)).toNat * 5)) = some (.slice A111_0 ((rd_T41 l0 (ji5)).f0).length c111_0) ∧ w'.cell? ⟨(ad111.add (((ji5)).toNat * 5)).block, (ad111.add (((ji5)).toNat * 5)).off + 1, none⟩ = some (.int .i64 ((rd_T41 l0 (ji5)).f1)) ∧ w'.cell? ⟨(ad111.add (((ji5)).toNat * 5)).block, (ad111.add (((ji5)).toNat * 5)).off + 2, none⟩ = some (.slice A111_2 ((rd_T41 l0 (ji5)).f2).length c111_2) ∧ w'.cell? ⟨(ad111.add (((ji5)).toNat * 5)).block, (ad111.add (((ji5)).toNat * 5)).off + 3, none⟩ = some (.slice A111_3 ((rd_T41 l0 (ji5)).f3).length c111_3) ∧ w'.cell? ⟨(ad111.add (((ji5)).toNat * 5)).block, (ad111.add (((ji5)).toNat * 5)).off + 4, none⟩ = some (.slice A111_4 ((rd_T41 l0 (ji5)).f4).length c111_4)) (ds := []) #[false, false, false, false, false, false, false, false] (by kernel_rfl) rfl rfl ⟨(blk_cell BK110.out 0).trans rfl, (blk_cell BK110.out 1).trans rfl, (blk_cell BK110.out 2).trans rfl, (blk_cell BK110.out 3).trans rfl, (blk_cell BK110.out 4).trans rfl, ((HB.out.cell (World.block_lt_of_cell? w _ hw111_0)).trans hw111_0), ((HB.out.cell (World.block_lt_of_cell? w _ hw111_1)).trans hw111_1), ((HB.out.cell (World.block_lt_of_cell? w _ hw111_2)).trans hw111_2), ((HB.out.cell (World.block_lt_of_cell? w _ hw111_3)).trans hw111_3), ((HB.out.cell (World.block_lt_of_cell? w _ hw111_4)).trans hw111_4)⟩ (fun hHeld => ?_); refine with_tabW bsf_R1.tab5 bsf_R1.bits5 (fun HT_ HW_ => ?_)
       generalize wr.drew = w12 at BK110 HB HR111_0 HR111_2 HR111_3 HR111_4 hx111_0 hx111_1 hx111_2 hx111_3 hx111_4 hHeld ⊢
       refine pure_ (i := 0) (N := some 24) (v := ?_) (a' := ?_) #[true, false, false, false, false, false, false, false] rfl rfl (any_of HT_.out (by kernel_rfl)) (fun _ _ _ h => h) (Or.inl ⟨by rfl, ?_⟩) ?_ ?_
       rotate_left
       ·intro w'
        go_simp
        with_reducible rfl
       rotate_left
       ·simp only [ps]
        rfl
       refine pure_ (i := 1) (N := some 25) (v := ?_) (a' := ?_) #[true, true, false, false, false, false, false, false] rfl rfl (any_of HT_.out (by kernel_rfl)) (fun _ _ _ h => h) (Or.inl ⟨by rfl, ?_⟩) ?_ ?_
       rotate_left
       ·intro w'
        go_simp
        with_reducible rfl
       rotate_left
       ·simp only [ps]
        rfl
       refine pure_ (i := 2) (N := some 26) (v := ?_) (a' := ?_) #[true, true, true, false, false, false, false, false] rfl rfl (any_of HT_.out (by kernel_rfl)) (fun _ _ _ h => h) (Or.inl ⟨by rfl, ?_⟩) ?_ ?_
       rotate_left
       ·intro w'
        go_simp
        with_reducible rfl
       rotate_left
       ·simp only [ps]
        rfl
       refine pure_ (i := 3) (N := some 27) (v := ?_) (a' := ?_) #[true, true, true, true, false, false, false, false] rfl rfl (any_of HT_.out (by kernel_rfl)) (fun _ _ _ h => h) (Or.inl ⟨by rfl, ?_⟩) ?_ ?_
       rotate_left
       ·intro w'
        go_simp
        with_reducible rfl
       rotate_left
       ·simp only [ps]
        rfl
       refine take_ (i := 4) (N := some 28) (v := ?_) (a' := ?_) #[true, true, true, true, true, false, false, false] rfl rfl (take_ofW HT_.out HW_.out (by kernel_rfl)) (fun _ _ _ h => h) (Or.inl ⟨by rfl, ?_⟩) hHeld ?_ ?_
       rotate_left
       ·rintro w' ⟨s0, s1, s2, s3, s4, s5, s6, s7, s8, s9⟩
        go_simp
        with_reducible rfl
       rotate_left
       ·simp only [ps]
        rfl
       refine take_ (i := 5) (N := some 29) (v := ?_) (a' := ?_) #[true, true, true, true, true, true, false, false] rfl rfl (take_ofW HT_.out HW_.out (by kernel_rfl)) (fun _ _ _ h => h) (Or.inl ⟨by rfl, ?_⟩) hHeld ?_ ?_
       rotate_left
       ·rintro w' ⟨s0, s1, s2, s3, s4, s5, s6, s7, s8, s9⟩
        go_simp
        with_reducible rfl
       rotate_left
       ·simp only [ps]
        rfl
       refine one_ (i := 6) (N := some 30) #[true, true, true, true, true, true, true, false] rfl rfl (one_of HT_.out (by kernel_rfl)) (by decide) (fun K hK => ?_)
       refine goesv_ Try.func34 (by kernel_rfl) rfl #[.agg #[.slice A111_0 ((rd_T41 l0 (ji5)).f0).length c111_0, .int .i64 ((rd_T41 l0 (ji5)).f1), .slice A111_2 ((rd_T41 l0 (ji5)).f2).length c111_2, .slice A111_3 ((rd_T41 l0 (ji5)).f3).length c111_3, .slice A111_4 ((rd_T41 l0 (ji5)).f4).length c111_4], .agg #[.slice A1_0 l1_0.length c1_0, .int .i64 a1_1, .slice A1_2 l1_2.length c1_2, .slice A1_3 l1_3.length c1_3, .slice A1_4 l1_4.length c1_4]] (by rfl) rfl rfl (by (try simp only [List.map_toArray, List.map_cons, List.map_nil]); first | done | (simp only [hji5]; rfl) | rfl | (simp only [List.length_drop, List.length_take]; rfl)) ?_
       with_reducible refine (runs_by.calls k1 _ _ ((rd_T41 l0 (ji5)).f0) ((rd_T41 l0 (ji5)).f1) _ _ ((rd_T41 l0 (ji5)).f2) _ _ ((rd_T41 l0 (ji5)).f3) _ _ ((rd_T41 l0 (ji5)).f4) _ _ l1_0 a1_1 _ _ l1_2 _ _ l1_3 _ _ l1_4 t112 _ ?side1 ?side2 ?side3 ?side4 ?side5 ?side6 ?side7 ?side8 ?side9 ?side10 ?side11 ?side12 ?side13 ?side14 ?side15 ?side16 A8.out).mono ?_
       (case side1 => exact Kd.Cw HR111_0.out HB.out)
       (case side2 => exact HC111_0.out)
       (case side3 => exact Kd.Cw HR111_2.out HB.out)
       (case side4 => exact HC111_2.out)
       (case side5 => exact Kd.Cw HR111_3.out HB.out)
       (case side6 => exact HC111_3.out)
       (case side7 => exact Kd.Cw HR111_4.out HB.out)
       (case side8 => exact HC111_4.out)
       (case side9 => exact Kd.Cw HR1_0.out HB.out)
       (case side10 => exact HC1_0.out)
       (case side11 => exact Kd.Cw HR1_2.out HB.out)
       (case side12 => exact HC1_2.out)
       (case side13 => exact Kd.Cw HR1_3.out HB.out)
       (case side14 => exact HC1_3.out)
       (case side15 => exact Kd.Cw HR1_4.out HB.out)
       (case side16 => exact HC1_4.out)
       rintro e w13 ⟨rfl, hb⟩
       refine ⟨_, rfl, ?_⟩
       have n0_ := Aside0.mk (blk_below (bmv BK110.out) hb)
       have n1_ := Aside0.mk (below_step (wmv HB.out) hb)
       clear BK110 HB
       revert n0_ n1_
       intro BK110 HB
       (try clear hb)
       (try clear hb2)
       (try clear hk)
       (try clear hi)
       refine hK.out _ _ ⟨(blk_cell BK110.out 0).trans rfl, (blk_cell BK110.out 1).trans rfl, (blk_cell BK110.out 2).trans rfl, (blk_cell BK110.out 3).trans rfl, (blk_cell BK110.out 4).trans rfl, ((HB.out.cell (World.block_lt_of_cell? w _ hw111_0)).trans hw111_0), ((HB.out.cell (World.block_lt_of_cell? w _ hw111_1)).trans hw111_1), ((HB.out.cell (World.block_lt_of_cell? w _ hw111_2)).trans hw111_2), ((HB.out.cell (World.block_lt_of_cell? w _ hw111_3)).trans hw111_3), ((HB.out.cell (World.block_lt_of_cell? w _ hw111_4)).trans hw111_4)⟩ (fun hHeld => ?_)
       clear hK K
       refine norm_ (a' := ?_) ?_ ?_
       rotate_left
       ·show Act.put _ (some 30) _ = _
        simp only [ps]
        rfl
       refine pure_ (i := 7) (N := some 31) (v := ?_) (a' := ?_) #[true, true, true, true, true, true, true, true] rfl rfl (any_of HT_.out (by kernel_rfl)) (fun _ _ _ h => h) (Or.inl ⟨by rfl, ?_⟩) ?_ ?_
       rotate_left
       ·intro w'
        go_simp
        with_reducible rfl
       rotate_left
       ·simp only [ps]
        rfl
       refine done_ (done_of HT_.out (by kernel_rfl)) ?_
       try go_wp2
       go_roundg k1
       case measure => have := HK1.out; omega
       case rel => exact ⟨(x9_1), (ji5), (by first | rfl | (simp; done) | (simp [*]; done)), (by first | rfl | (simp; done) | (simp only [← hji5] <;> (first | rfl | simp)) | (simp [*]; done)), H', ⟨by have := HK1.out; omega⟩, ⟨by (with_reducible repeat (first | refine blk_drewN ?_ _ | refine blk_drew ?_ | refine blk_alloc ?_ _)); exact BK110.out⟩, ⟨by repeat (first | (with_reducible first | exact HB.out | apply below_alloc | apply pw_below_drewN | apply below_drew1 | refine below_set ?_ GE110.out) | exact HB.out)⟩⟩
     ·rw [if_neg c7] at H
      exact absurd H (by simp)
    ·rw [if_neg c6] at H
     exact absurd H (by simp)
   ·rw [if_neg c4] at H
    have c4b0 : decide (x9_1 < x10_1) = false := decide_eq_false c4
    clear c4
    by_cases c14 : x9_1 < (l0.length : Int)
    ·rw [if_pos c14] at H
     have c14b0 : decide (x9_1 < (l0.length : Int)) = true := decide_eq_true c14
     clear c14
     by_cases c15 : 0 ≤ x9_1
     ·rw [if_pos c15] at H
      have c15b0 : decide (0 ≤ x9_1) = true := decide_eq_true c15
      clear c15
      by_cases c16 : x9_1 < (l0.length : Int)
      ·rw [if_pos c16] at H
       have c16b0 : decide (x9_1 < (l0.length : Int)) = true := decide_eq_true c16
       clear c16
       replace H := Option.bind_eq_some_iff.mp H
       obtain ⟨t114, A170, H⟩ := H
       replace H : (some (x9_1, (t114 == 0))) = some (r1, r2) := H
       have A17 := Aside0.mk A170
       clear A170
       simp only [Option.some.injEq, Prod.mk.injEq] at H
       obtain ⟨rfl, rfl⟩ := H
       try go_wp2
       have n0_ := Aside0.mk (blk_drew BK110.out)
       have n1_ := Aside0.mk (below_drew1 HB.out)
       clear BK110 HB
       revert n0_ n1_
       intro BK110 HB
       have p113 : 0 ≤ (x9_1 : Int) := of_decide_eq_true (by first | (with_reducible assumption) | assumption)
       have q113 : x9_1 < (l0.length : Int) := of_decide_eq_true (by first | (with_reducible assumption) | assumption)
       obtain ⟨ad113, A113_0, c113_0, A113_2, c113_2, A113_3, c113_3, A113_4, c113_4, e113, hx113_0, hx113_1, hx113_2, hx113_3, hx113_4, hl113_0, hi113_0, hl113_2, hi113_2, hl113_3, hi113_3, hl113_4, hi113_4⟩ := at_T41 HR0.out x9_1 p113 q113
       have hw113_4 := hx113_4
       have hw113_3 := hx113_3
       have hw113_2 := hx113_2
       have hw113_1 := hx113_1
       have hw113_0 := hx113_0
       cases e113
       replace hx113_0 := (HB.out.cell (World.block_lt_of_cell? w _ hx113_0)).trans hx113_0
       replace hx113_1 := (HB.out.cell (World.block_lt_of_cell? w _ hx113_1)).trans hx113_1
       replace hx113_2 := (HB.out.cell (World.block_lt_of_cell? w _ hx113_2)).trans hx113_2
       replace hx113_3 := (HB.out.cell (World.block_lt_of_cell? w _ hx113_3)).trans hx113_3
       replace hx113_4 := (HB.out.cell (World.block_lt_of_cell? w _ hx113_4)).trans hx113_4
       have HR113_0 := Aside0.mk hi113_0
       have HC113_0 := Aside0.mk hl113_0
       clear hi113_0 hl113_0
       have HR113_2 := Aside0.mk hi113_2
       have HC113_2 := Aside0.mk hl113_2
       clear hi113_2 hl113_2
       have HR113_3 := Aside0.mk hi113_3
       have HC113_3 := Aside0.mk hl113_3
       clear hi113_3 hl113_3
       have HR113_4 := Aside0.mk hi113_4
       have HC113_4 := Aside0.mk hl113_4
       clear hi113_4 hl113_4
       replace p113 := eq_true p113
       replace q113 := eq_true q113
       refine start_ (n := 16) (S := fun w' => w'.cell? ⟨gb110, 0, none⟩ = some (.slice A1_0 l1_0.length c1_0) ∧ w'.cell? ⟨gb110, 1, none⟩ = some (.int .i64 a1_1) ∧ w'.cell? ⟨gb110, 2, none⟩ = some (.slice A1_2 l1_2.length c1_2) ∧ w'.cell? ⟨gb110, 3, none⟩ = some (.slice A1_3 l1_3.length c1_3) ∧ w'.cell? ⟨gb110, 4, none⟩ = some (.slice A1_4 l1_4.length c1_4) ∧ w'.cell? (ad113.add ((x9_1).toNat * 5)) = some (.slice A113_0 ((rd_T41 l0 x9_1).f0).length c113_0) ∧ w'.cell? ⟨(ad113.add ((x9_1).toNat * 5)).block, (ad113.add ((x9_1).toNat * 5)).off + 1, none⟩ = some (.int .i64 ((rd_T41 l0 x9_1).f1)) ∧ w'.cell? ⟨(ad113.add ((x9_1).toNat * 5)).block, (ad113.add ((x9_1).toNat * 5)).off + 2, none⟩ = some (.slice A113_2 ((rd_T41 l0 x9_1).f2).length c113_2) ∧ w'.cell? ⟨(ad113.add ((x9_1).toNat * 5)).block, (ad113.add ((x9_1).toNat * 5)).off + 3, none⟩ = some (.slice A113_3 ((rd_T41 l0 x9_1).f3).length c113_3) ∧ w'.cell? ⟨(ad113.add ((x9_1).toNat * 5)).block, (ad113.add ((x9_1).toNat * 5)).off + 4, none⟩ = some (.slice A113_4 ((rd_T41 l0 x9_1).f4).length c113_4)) (ds := []) #[false, false, false, false, false, false, false, false, false, false, false, false, false, false, false, false] (by kernel_rfl) rfl rfl ⟨(blk_cell BK110.out 0).trans rfl, (blk_cell BK110.out 1).trans rfl, (blk_cell BK110.out 2).trans rfl, (blk_cell BK110.out 3).trans rfl, (blk_cell BK110.out 4).trans rfl, ((HB.out.cell (World.block_lt_of_cell? w _ hw113_0)).trans hw113_0), ((HB.out.cell (World.block_lt_of_cell? w _ hw113_1)).trans hw113_1), ((HB.out.cell (World.block_lt_of_cell? w _ hw113_2)).trans hw113_2), ((HB.out.cell (World.block_lt_of_cell? w _ hw113_3)).trans hw113_3), ((HB.out.cell (World.block_lt_of_cell? w _ hw113_4)).trans hw113_4)⟩ (fun hHeld => ?_); refine with_tabW bsf_R1.tab8 bsf_R1.bits8 (fun HT_ HW_ => ?_)
       generalize wr.drew = w18 at BK110 HB HR113_0 HR113_2 HR113_3 HR113_4 hx113_0 hx113_1 hx113_2 hx113_3 hx113_4 hHeld ⊢
       refine pure_ (i := 0) (N := some 35) (v := ?_) (a' := ?_) #[true, false, false, false, false, false, false, false, false, false, false, false, false, false, false, false] rfl rfl (any_of HT_.out (by kernel_rfl)) (fun _ _ _ h => h) (Or.inl ⟨by rfl, ?_⟩) ?_ ?_
       rotate_left
       ·intro w'
        go_simp
        with_reducible rfl
       rotate_left
       ·simp only [ps]
        rfl
       refine pure_ (i := 1) (N := some 36) (v := ?_) (a' := ?_) #[true, true, false, false, false, false, false, false, false, false, false, false, false, false, false, false] rfl rfl (any_of HT_.out (by kernel_rfl)) (fun _ _ _ h => h) (Or.inl ⟨by rfl, ?_⟩) ?_ ?_
       rotate_left
       ·intro w'
        go_simp
        with_reducible rfl
       rotate_left
       ·simp only [ps]
        rfl
       refine pure_ (i := 2) (N := some 37) (v := ?_) (a' := ?_) #[true, true, true, false, false, false, false, false, false, false, false, false, false, false, false, false] rfl rfl (any_of HT_.out (by kernel_rfl)) (fun _ _ _ h => h) (Or.inl ⟨by rfl, ?_⟩) ?_ ?_
       rotate_left
       ·intro w'
        go_simp
        with_reducible rfl
       rotate_left
       ·simp only [ps]
        rfl
       refine pure_ (i := 3) (N := some 38) (v := ?_) (a' := ?_) #[true, true, true, true, false, false, false, false, false, false, false, false, false, false, false, false] rfl rfl (any_of HT_.out (by kernel_rfl)) (fun _ _ _ h => h) (Or.inl ⟨by rfl, ?_⟩) ?_ ?_
       rotate_left
       ·intro w'
        go_simp
        with_reducible rfl
       rotate_left
       ·simp only [ps]
        rfl
       refine pure_ (i := 4) (N := some 39) (v := ?_) (a' := ?_) #[true, true, true, true, true, false, false, false, false, false, false, false, false, false, false, false] rfl rfl (any_of HT_.out (by kernel_rfl)) (fun _ _ _ h => h) (Or.inl ⟨by rfl, ?_⟩) ?_ ?_
       rotate_left
       ·intro w'
        go_simp
        with_reducible rfl
       rotate_left
       ·simp only [ps]
        rfl
       refine pure_ (i := 5) (N := some 40) (v := ?_) (a' := ?_) #[true, true, true, true, true, true, false, false, false, false, false, false, false, false, false, false] rfl rfl (any_of HT_.out (by kernel_rfl)) (fun _ _ _ h => h) (Or.inl ⟨by rfl, ?_⟩) ?_ ?_
       rotate_left
       ·intro w'
        go_simp
        with_reducible rfl
       rotate_left
       ·simp only [ps]
        rfl
       refine pure_ (i := 6) (N := some 41) (v := ?_) (a' := ?_) #[true, true, true, true, true, true, true, false, false, false, false, false, false, false, false, false] rfl rfl (any_of HT_.out (by kernel_rfl)) (fun _ _ _ h => h) (Or.inl ⟨by rfl, ?_⟩) ?_ ?_
       rotate_left
       ·intro w'
        go_simp
        with_reducible rfl
       rotate_left
       ·simp only [ps]
        rfl
       refine pure_ (i := 7) (N := some 42) (v := ?_) (a' := ?_) #[true, true, true, true, true, true, true, true, false, false, false, false, false, false, false, false] rfl rfl (any_of HT_.out (by kernel_rfl)) (fun _ _ _ h => h) (Or.inl ⟨by rfl, ?_⟩) ?_ ?_
       rotate_left
       ·intro w'
        go_simp
        with_reducible rfl
       rotate_left
       ·simp only [ps]
        rfl
       refine pure_ (i := 8) (N := some 43) (v := ?_) (a' := ?_) #[true, true, true, true, true, true, true, true, true, false, false, false, false, false, false, false] rfl rfl (any_of HT_.out (by kernel_rfl)) (fun _ _ _ h => h) (Or.inl ⟨by rfl, ?_⟩) ?_ ?_
       rotate_left
       ·intro w'
        go_simp
        with_reducible rfl
       rotate_left
       ·simp only [ps]
        rfl
       refine take_ (i := 9) (N := some 44) (v := ?_) (a' := ?_) #[true, true, true, true, true, true, true, true, true, true, false, false, false, false, false, false] rfl rfl (take_ofW HT_.out HW_.out (by kernel_rfl)) (fun _ _ _ h => h) (Or.inl ⟨by rfl, ?_⟩) hHeld ?_ ?_
       rotate_left
       ·rintro w' ⟨s0, s1, s2, s3, s4, s5, s6, s7, s8, s9⟩
        go_simp
        with_reducible rfl
       rotate_left
       ·simp only [ps]
        rfl
       refine take_ (i := 10) (N := some 45) (v := ?_) (a' := ?_) #[true, true, true, true, true, true, true, true, true, true, true, false, false, false, false, false] rfl rfl (take_ofW HT_.out HW_.out (by kernel_rfl)) (fun _ _ _ h => h) (Or.inl ⟨by rfl, ?_⟩) hHeld ?_ ?_
       rotate_left
       ·rintro w' ⟨s0, s1, s2, s3, s4, s5, s6, s7, s8, s9⟩
        go_simp
        with_reducible rfl
       rotate_left
       ·simp only [ps]
        rfl
       refine one_ (i := 11) (N := some 46) #[true, true, true, true, true, true, true, true, true, true, true, true, false, false, false, false] rfl rfl (one_of HT_.out (by kernel_rfl)) (by decide) (fun K hK => ?_)
       refine goesv_ Try.func34 (by kernel_rfl) rfl #[.agg #[.slice A113_0 ((rd_T41 l0 x9_1).f0).length c113_0, .int .i64 ((rd_T41 l0 x9_1).f1), .slice A113_2 ((rd_T41 l0 x9_1).f2).length c113_2, .slice A113_3 ((rd_T41 l0 x9_1).f3).length c113_3, .slice A113_4 ((rd_T41 l0 x9_1).f4).length c113_4], .agg #[.slice A1_0 l1_0.length c1_0, .int .i64 a1_1, .slice A1_2 l1_2.length c1_2, .slice A1_3 l1_3.length c1_3, .slice A1_4 l1_4.length c1_4]] (by rfl) rfl rfl (by (try simp only [List.map_toArray, List.map_cons, List.map_nil]); first | done | rfl | (simp only [List.length_drop, List.length_take]; rfl)) ?_
       with_reducible refine (runs_by.calls k1 _ _ ((rd_T41 l0 x9_1).f0) ((rd_T41 l0 x9_1).f1) _ _ ((rd_T41 l0 x9_1).f2) _ _ ((rd_T41 l0 x9_1).f3) _ _ ((rd_T41 l0 x9_1).f4) _ _ l1_0 a1_1 _ _ l1_2 _ _ l1_3 _ _ l1_4 t114 _ ?side1 ?side2 ?side3 ?side4 ?side5 ?side6 ?side7 ?side8 ?side9 ?side10 ?side11 ?side12 ?side13 ?side14 ?side15 ?side16 A17.out).mono ?_
       (case side1 => exact Kd.Cw HR113_0.out HB.out)
       (case side2 => exact HC113_0.out)
       (case side3 => exact Kd.Cw HR113_2.out HB.out)
       (case side4 => exact HC113_2.out)
       (case side5 => exact Kd.Cw HR113_3.out HB.out)
       (case side6 => exact HC113_3.out)
       (case side7 => exact Kd.Cw HR113_4.out HB.out)
       (case side8 => exact HC113_4.out)
       (case side9 => exact Kd.Cw HR1_0.out HB.out)
       (case side10 => exact HC1_0.out)
       (case side11 => exact Kd.Cw HR1_2.out HB.out)
       (case side12 => exact HC1_2.out)
       (case side13 => exact Kd.Cw HR1_3.out HB.out)
       (case side14 => exact HC1_3.out)
       (case side15 => exact Kd.Cw HR1_4.out HB.out)
       (case side16 => exact HC1_4.out)
       rintro e w19 ⟨rfl, hb⟩
       refine ⟨_, rfl, ?_⟩
       have n0_ := Aside0.mk (blk_below (bmv BK110.out) hb)
       have n1_ := Aside0.mk (below_step (wmv HB.out) hb)
       clear BK110 HB
       revert n0_ n1_
       intro BK110 HB
       (try clear hb)
       (try clear hb2)
       (try clear hk)
       (try clear hi)
       refine hK.out _ _ ⟨(blk_cell BK110.out 0).trans rfl, (blk_cell BK110.out 1).trans rfl, (blk_cell BK110.out 2).trans rfl, (blk_cell BK110.out 3).trans rfl, (blk_cell BK110.out 4).trans rfl, ((HB.out.cell (World.block_lt_of_cell? w _ hw113_0)).trans hw113_0), ((HB.out.cell (World.block_lt_of_cell? w _ hw113_1)).trans hw113_1), ((HB.out.cell (World.block_lt_of_cell? w _ hw113_2)).trans hw113_2), ((HB.out.cell (World.block_lt_of_cell? w _ hw113_3)).trans hw113_3), ((HB.out.cell (World.block_lt_of_cell? w _ hw113_4)).trans hw113_4)⟩ (fun hHeld => ?_)
       clear hK K
       refine norm_ (a' := ?_) ?_ ?_
       rotate_left
       ·show Act.put _ (some 46) _ = _
        simp only [ps]
        rfl
       refine pure_ (i := 12) (N := some 47) (v := ?_) (a' := ?_) #[true, true, true, true, true, true, true, true, true, true, true, true, true, false, false, false] rfl rfl (any_of HT_.out (by kernel_rfl)) (fun _ _ _ h => h) (Or.inl ⟨by rfl, ?_⟩) ?_ ?_
       rotate_left
       ·intro w'
        go_simp
        with_reducible rfl
       rotate_left
       ·simp only [ps]
        rfl
       refine pure_ (i := 13) (N := some 48) (v := ?_) (a' := ?_) #[true, true, true, true, true, true, true, true, true, true, true, true, true, true, false, false] rfl rfl (any_of HT_.out (by kernel_rfl)) (fun _ _ _ h => h) (Or.inl ⟨by rfl, ?_⟩) ?_ ?_
       rotate_left
       ·intro w'
        go_simp
        with_reducible rfl
       rotate_left
       ·simp only [ps]
        rfl
       refine pure_ (i := 14) (N := some 6) (v := ?_) (a' := ?_) #[true, true, true, true, true, true, true, true, true, true, true, true, true, true, true, false] rfl rfl (any_of HT_.out (by kernel_rfl)) (fun _ _ _ h => h) (Or.inl ⟨by rfl, ?_⟩) ?_ ?_
       rotate_left
       ·intro w'
        go_simp
        with_reducible rfl
       rotate_left
       ·simp only [ps]
        rfl
       refine pure_ (i := 15) (N := some 7) (v := ?_) (a' := ?_) #[true, true, true, true, true, true, true, true, true, true, true, true, true, true, true, true] rfl rfl (any_of HT_.out (by kernel_rfl)) (fun _ _ _ h => h) (Or.inl ⟨by rfl, ?_⟩) ?_ ?_
       rotate_left
       ·intro w'
        go_simp
        with_reducible rfl
       rotate_left
       ·simp only [ps]
        rfl
       refine done_ (done_of HT_.out (by kernel_rfl)) ?_
       try go_wp2
       go_ret2
       exact ⟨by first | rfl | (simp [errW_none, errW_some] <;> rfl) | (simp [*, errW_none, errW_some] <;> rfl), by repeat (first | (with_reducible first | exact HB.out | apply below_alloc | apply pw_below_drewN | apply below_drew1 | refine below_set ?_ GE110.out) | exact HB.out)⟩
      ·rw [if_neg c16] at H
       exact absurd H (by simp)
     ·rw [if_neg c15] at H
      exact absurd H (by simp)
    ·rw [if_neg c14] at H
     have c14b0 : decide (x9_1 < (l0.length : Int)) = false := decide_eq_false c14
     clear c14
     simp only [Option.some.injEq, Prod.mk.injEq] at H
     obtain ⟨rfl, rfl⟩ := H
     try go_wp2
     have n0_ := Aside0.mk (blk_drew BK110.out)
     have n1_ := Aside0.mk (below_drew1 HB.out)
     clear BK110 HB
     revert n0_ n1_
     intro BK110 HB
     refine start_ (n := 16) (S := fun w' => True) (ds := []) #[false, false, false, false, false, false, false, false, false, false, false, false, false, false, false, false] (by kernel_rfl) rfl rfl trivial (fun hHeld => ?_); refine with_tabW bsf_R1.tab8 bsf_R1.bits8 (fun HT_ HW_ => ?_)
     generalize wr.drew = w20 at BK110 HB hHeld ⊢
     refine pure_ (i := 0) (N := some 35) (v := ?_) (a' := ?_) #[true, false, false, false, false, false, false, false, false, false, false, false, false, false, false, false] rfl rfl (any_of HT_.out (by kernel_rfl)) (fun _ _ _ h => h) (Or.inl ⟨by rfl, ?_⟩) ?_ ?_
     rotate_left
     ·intro w'
      go_simp
      with_reducible rfl
     rotate_left
     ·simp only [ps]
      rfl
     refine pure_ (i := 1) (N := some 36) (v := ?_) (a' := ?_) #[true, true, false, false, false, false, false, false, false, false, false, false, false, false, false, false] rfl rfl (any_of HT_.out (by kernel_rfl)) (fun _ _ _ h => h) (Or.inl ⟨by rfl, ?_⟩) ?_ ?_
     rotate_left
     ·intro w'
      go_simp
      with_reducible rfl
     rotate_left
     ·simp only [ps]
      rfl
     refine pure_ (i := 2) (N := some 37) (v := ?_) (a' := ?_) #[true, true, true, false, false, false, false, false, false, false, false, false, false, false, false, false] rfl rfl (any_of HT_.out (by kernel_rfl)) (fun _ _ _ h => h) (Or.inl ⟨by rfl, ?_⟩) ?_ ?_
     rotate_left
     ·intro w'
      go_simp
      with_reducible rfl
     rotate_left
     ·simp only [ps]
      rfl
     refine pure_ (i := 3) (N := some 38) (v := ?_) (a' := ?_) #[true, true, true, true, false, false, false, false, false, false, false, false, false, false, false, false] rfl rfl (any_of HT_.out (by kernel_rfl)) (fun _ _ _ h => h) (Or.inl ⟨by rfl, ?_⟩) ?_ ?_
     rotate_left
     ·intro w'
      go_simp
      with_reducible rfl
     rotate_left
     ·simp only [ps]
      rfl
     refine pure_ (i := 4) (N := some 39) (v := ?_) (a' := ?_) #[true, true, true, true, true, false, false, false, false, false, false, false, false, false, false, false] rfl rfl (any_of HT_.out (by kernel_rfl)) (fun _ _ _ h => h) (Or.inl ⟨by rfl, ?_⟩) ?_ ?_
     rotate_left
     ·intro w'
      go_simp
      with_reducible rfl
     rotate_left
     ·simp only [ps]
      rfl
     refine pure_ (i := 5) (N := some 40) (v := undef) (a' := ?_) #[true, true, true, true, true, true, false, false, false, false, false, false, false, false, false, false] rfl rfl (any_of HT_.out (by kernel_rfl)) (fun _ _ _ h => h) (Or.inr ⟨by rfl, rfl⟩) ?_ ?_
     rotate_left
     ·simp only [ps]
      rfl
     refine pure_ (i := 6) (N := some 41) (v := undef) (a' := ?_) #[true, true, true, true, true, true, true, false, false, false, false, false, false, false, false, false] rfl rfl (any_of HT_.out (by kernel_rfl)) (fun _ _ _ h => h) (Or.inr ⟨by rfl, rfl⟩) ?_ ?_
     rotate_left
     ·simp only [ps]
      rfl
     refine pure_ (i := 7) (N := some 42) (v := undef) (a' := ?_) #[true, true, true, true, true, true, true, true, false, false, false, false, false, false, false, false] rfl rfl (any_of HT_.out (by kernel_rfl)) (fun _ _ _ h => h) (Or.inr ⟨by rfl, rfl⟩) ?_ ?_
     rotate_left
     ·simp only [ps]
      rfl
     refine pure_ (i := 8) (N := some 43) (v := undef) (a' := ?_) #[true, true, true, true, true, true, true, true, true, false, false, false, false, false, false, false] rfl rfl (any_of HT_.out (by kernel_rfl)) (fun _ _ _ h => h) (Or.inr ⟨by rfl, rfl⟩) ?_ ?_
     rotate_left
     ·simp only [ps]
      rfl
     refine pure_ (i := 9) (N := some 44) (v := undef) (a' := ?_) #[true, true, true, true, true, true, true, true, true, true, false, false, false, false, false, false] rfl rfl (any_of HT_.out (by kernel_rfl)) (fun _ _ _ h => h) (Or.inr ⟨by rfl, rfl⟩) ?_ ?_
     rotate_left
     ·simp only [ps]
      rfl
     refine pure_ (i := 10) (N := some 45) (v := undef) (a' := ?_) #[true, true, true, true, true, true, true, true, true, true, true, false, false, false, false, false] rfl rfl (any_of HT_.out (by kernel_rfl)) (fun _ _ _ h => h) (Or.inr ⟨by rfl, rfl⟩) ?_ ?_
     rotate_left
     ·simp only [ps]
      rfl
     refine pure_ (i := 11) (N := some 46) (v := undef) (a' := ?_) #[true, true, true, true, true, true, true, true, true, true, true, true, false, false, false, false] rfl rfl (any_of HT_.out (by kernel_rfl)) (fun _ _ _ h => h) (Or.inr ⟨by rfl, rfl⟩) ?_ ?_
     rotate_left
     ·simp only [ps]
      rfl
     refine pure_ (i := 12) (N := some 47) (v := undef) (a' := ?_) #[true, true, true, true, true, true, true, true, true, true, true, true, true, false, false, false] rfl rfl (any_of HT_.out (by kernel_rfl)) (fun _ _ _ h => h) (Or.inr ⟨by rfl, rfl⟩) ?_ ?_
     rotate_left
     ·simp only [ps]
      rfl
     refine pure_ (i := 13) (N := some 48) (v := ?_) (a' := ?_) #[true, true, true, true, true, true, true, true, true, true, true, true, true, true, false, false] rfl rfl (any_of HT_.out (by kernel_rfl)) (fun _ _ _ h => h) (Or.inl ⟨by rfl, ?_⟩) ?_ ?_
     rotate_left
     ·intro w'
      go_simp
      with_reducible rfl
     rotate_left
     ·simp only [ps]
      rfl
     refine pure_ (i := 14) (N := some 6) (v := ?_) (a' := ?_) #[true, true, true, true, true, true, true, true, true, true, true, true, true, true, true, false] rfl rfl (any_of HT_.out (by kernel_rfl)) (fun _ _ _ h => h) (Or.inl ⟨by rfl, ?_⟩) ?_ ?_
     rotate_left
     ·intro w'
      go_simp
      with_reducible rfl
     rotate_left
     ·simp only [ps]
      rfl
     refine pure_ (i := 15) (N := some 7) (v := ?_) (a' := ?_) #[true, true, true, true, true, true, true, true, true, true, true, true, true, true, true, true] rfl rfl (any_of HT_.out (by kernel_rfl)) (fun _ _ _ h => h) (Or.inl ⟨by rfl, ?_⟩) ?_ ?_
     rotate_left
     ·intro w'
      go_simp
      with_reducible rfl
     rotate_left
     ·simp only [ps]
      rfl
     refine done_ (done_of HT_.out (by kernel_rfl)) ?_
     try go_wp2
     go_ret2
     exact ⟨by first | rfl | (simp [errW_none, errW_some] <;> rfl) | (simp [*, errW_none, errW_some] <;> rfl), by repeat (first | (with_reducible first | exact HB.out | apply below_alloc | apply pw_below_drewN | apply below_drew1 | refine below_set ?_ GE110.out) | exact HB.out)⟩
def cell_Group_1.f (k : Nat) (l0_0 : List Int) (a0_1 : Int) (l0_2 : List Int) (l0_3 : List Int) (l0_4 : List Int) (l1_0 : List Int) (a1_1 : Int) (l1_2 : List Int) (l1_3 : List Int) (l1_4 : List Int) : Option (Int) := (cell_Less.f k l0_0 l1_0).bind fun t117 => (some t117)
set_option maxHeartbeats 8000000 in
set_option maxRecDepth 100000 in
theorem cell_Group_1.calls (k : Nat) (A0_0 : Option Addr) (c0_0 : Nat) (l0_0 : List Int) (a0_1 : Int) (A0_2 : Option Addr) (c0_2 : Nat) (l0_2 : List Int) (A0_3 : Option Addr) (c0_3 : Nat) (l0_3 : List Int) (A0_4 : Option Addr) (c0_4 : Nat) (l0_4 : List Int) (A1_0 : Option Addr) (c1_0 : Nat) (l1_0 : List Int) (a1_1 : Int) (A1_2 : Option Addr) (c1_2 : Nat) (l1_2 : List Int) (A1_3 : Option Addr) (c1_3 : Nat) (l1_3 : List Int) (A1_4 : Option Addr) (c1_4 : Nat) (l1_4 : List Int) (r : Int) (w : World) (hr0_0 : Kd.C (Kd.int .i64) w A0_0 l0_0.length l0_0) (hc0_0 : l0_0.length ≤ c0_0) (hr0_2 : Kd.C (Kd.int .i64) w A0_2 l0_2.length l0_2) (hc0_2 : l0_2.length ≤ c0_2) (hr0_3 : Kd.C (Kd.int .i64) w A0_3 l0_3.length l0_3) (hc0_3 : l0_3.length ≤ c0_3) (hr0_4 : Kd.C (Kd.int .i64) w A0_4 l0_4.length l0_4) (hc0_4 : l0_4.length ≤ c0_4) (hr1_0 : Kd.C (Kd.int .i64) w A1_0 l1_0.length l1_0) (hc1_0 : l1_0.length ≤ c1_0) (hr1_2 : Kd.C (Kd.int .i64) w A1_2 l1_2.length l1_2) (hc1_2 : l1_2.length ≤ c1_2) (hr1_3 : Kd.C (Kd.int .i64) w A1_3 l1_3.length l1_3) (hc1_3 : l1_3.length ≤ c1_3) (hr1_4 : Kd.C (Kd.int .i64) w A1_4 l1_4.length l1_4) (hc1_4 : l1_4.length ≤ c1_4) (h : cell_Group_1.f k l0_0 a0_1 l0_2 l0_3 l0_4 l1_0 a1_1 l1_2 l1_3 l1_4 = some r) :
  Calls Try.prog 53 #[.agg #[.slice A0_0 l0_0.length c0_0, .int .i64 a0_1, .slice A0_2 l0_2.length c0_2, .slice A0_3 l0_3.length c0_3, .slice A0_4 l0_4.length c0_4], .agg #[.slice A1_0 l1_0.length c1_0, .int .i64 a1_1, .slice A1_2 l1_2.length c1_2, .slice A1_3 l1_3.length c1_3, .slice A1_4 l1_4.length c1_4]] w fun e w' => e = .returned (.int .i64 r) ∧ Below w.heap.size w w' := by
 have hu41 := Try.underlying41
 have HR0_0 := Aside0.mk hr0_0
 have HC0_0 := Aside0.mk hc0_0
 clear hr0_0 hc0_0
 have HR0_2 := Aside0.mk hr0_2
 have HC0_2 := Aside0.mk hc0_2
 clear hr0_2 hc0_2
 have HR0_3 := Aside0.mk hr0_3
 have HC0_3 := Aside0.mk hc0_3
 clear hr0_3 hc0_3
 have HR0_4 := Aside0.mk hr0_4
 have HC0_4 := Aside0.mk hc0_4
 clear hr0_4 hc0_4
 have HR1_0 := Aside0.mk hr1_0
 have HC1_0 := Aside0.mk hc1_0
 clear hr1_0 hc1_0
 have HR1_2 := Aside0.mk hr1_2
 have HC1_2 := Aside0.mk hc1_2
 clear hr1_2 hc1_2
 have HR1_3 := Aside0.mk hr1_3
 have HC1_3 := Aside0.mk hc1_3
 clear hr1_3 hc1_3
 have HR1_4 := Aside0.mk hr1_4
 have HC1_4 := Aside0.mk hc1_4
 clear hr1_4 hc1_4
 have HB := Aside0.mk (Below.refl w.heap.size w)
 have H : ((cell_Less.f k l0_0 l1_0).bind fun t117 => (some t117)) = some r := h
 clear h
 replace H := Option.bind_eq_some_iff.mp H
 obtain ⟨t117, A30, H⟩ := H
 replace H : (some t117) = some r := H
 have A3 := Aside0.mk A30
 clear A30
 obtain rfl := Option.some.inj H
 go_enter Try.func53, Try.ntmps53
 go_wp2_with (first | ((with_reducible refine gate_dst (N := 2) rfl ?_); refine box_event ?hg (N := 2) ?hd (cs := #[.slice A0_0 l0_0.length c0_0, .int .i64 a0_1, .slice A0_2 l0_2.length c0_2, .slice A0_3 l0_3.length c0_3, .slice A0_4 l0_4.length c0_4]) (t := 41) ?hr ?_; (case hd => rfl); (case hg => rfl); (case hr => first | (go_simp; done) | (go_simp; rfl)); intro gb115 hg w4 hbox hb; have n0_ := Aside0.mk (below_step (by repeat (first | (with_reducible first | exact HB.out | apply below_alloc | apply pw_below_drewN | apply below_drew1) | exact HB.out)) hb); have n1_ := Aside0.mk (hbox); have n2_ := Aside0.mk ((by rw [hg]; exact (below_size (by repeat (first | (with_reducible first | exact HB.out | apply below_alloc | apply pw_below_drewN | apply below_drew1) | exact HB.out))) : w.heap.size ≤ gb115)); have n3_ := Aside0.mk ((by rw [hg]; exact (below_size (by repeat (first | (with_reducible first | exact HB.out | apply below_alloc | apply pw_below_drewN | apply below_drew1) | exact HB.out))) : w.heap.size ≤ gb115)); clear HB; revert n0_ n1_ n2_ n3_; intro HB BK115 GW115 GE115; clear hb hbox hg) | ((with_reducible refine gate_dst (N := 3) rfl ?_); refine box_event ?hg (N := 3) ?hd (cs := #[.slice A1_0 l1_0.length c1_0, .int .i64 a1_1, .slice A1_2 l1_2.length c1_2, .slice A1_3 l1_3.length c1_3, .slice A1_4 l1_4.length c1_4]) (t := 41) ?hr ?_; (case hd => rfl); (case hg => rfl); (case hr => first | (go_simp; done) | (go_simp; rfl)); intro gb116 hg w5 hbox hb; have n0_ := Aside0.mk (blk_below (g := gb115) (o := .cells #[.slice A0_0 l0_0.length c0_0, .int .i64 a0_1, .slice A0_2 l0_2.length c0_2, .slice A0_3 l0_3.length c0_3, .slice A0_4 l0_4.length c0_4] 41 (0, 0)) (by (with_reducible repeat (first | refine blk_drewN ?_ _ | refine blk_drew ?_ | refine blk_alloc ?_ _)); exact BK115.out) hb); have n1_ := Aside0.mk (below_step (by repeat (first | (with_reducible first | exact HB.out | apply below_alloc | apply pw_below_drewN | apply below_drew1 | refine below_set ?_ GE115.out) | exact HB.out)) hb); have n2_ := Aside0.mk (hbox); have n3_ := Aside0.mk ((by rw [hg]; exact (below_size (by repeat (first | (with_reducible first | exact HB.out | apply below_alloc | apply pw_below_drewN | apply below_drew1 | refine below_set ?_ GE115.out) | exact HB.out))) : w.heap.size ≤ gb116)); have n4_ := Aside0.mk ((by rw [hg]; exact (below_size (by repeat (first | (with_reducible first | exact HB.out | apply below_alloc | apply pw_below_drewN | apply below_drew1 | refine below_set ?_ GE115.out) | exact HB.out))) : w.heap.size ≤ gb116)); have n5_ := Aside0.mk ((by rw [hg]; exact Nat.ne_of_lt (blk_lt (g := gb115) (o := .cells #[.slice A0_0 l0_0.length c0_0, .int .i64 a0_1, .slice A0_2 l0_2.length c0_2, .slice A0_3 l0_3.length c0_3, .slice A0_4 l0_4.length c0_4] 41 (0, 0)) (by (with_reducible repeat (first | refine blk_drewN ?_ _ | refine blk_drew ?_ | refine blk_alloc ?_ _)); exact BK115.out)) : gb115 ≠ gb116)); have n6_ := Aside0.mk ((by rw [hg]; exact Nat.ne_of_gt (blk_lt (g := gb115) (o := .cells #[.slice A0_0 l0_0.length c0_0, .int .i64 a0_1, .slice A0_2 l0_2.length c0_2, .slice A0_3 l0_3.length c0_3, .slice A0_4 l0_4.length c0_4] 41 (0, 0)) (by (with_reducible repeat (first | refine blk_drewN ?_ _ | refine blk_drew ?_ | refine blk_alloc ?_ _)); exact BK115.out)) : gb116 ≠ gb115)); clear BK115 HB; revert n0_ n1_ n2_ n3_ n4_ n5_ n6_; intro BK115 HB BK116 GW116 GE116 NB115_116 NB116_115; clear hb hbox hg; have hnb6 := NB115_116.out; have hnc6 := NB116_115.out; have hcz7_0 : w5.cell? ⟨gb115, 0, none⟩ = some (.slice A0_0 l0_0.length c0_0) := (blk_cell BK115.out 0).trans rfl; have hcz7_1 : w5.cell? ⟨gb115, 1, none⟩ = some (.int .i64 a0_1) := (blk_cell BK115.out 1).trans rfl; have hcz7_2 : w5.cell? ⟨gb115, 2, none⟩ = some (.slice A0_2 l0_2.length c0_2) := (blk_cell BK115.out 2).trans rfl; have hcz7_3 : w5.cell? ⟨gb115, 3, none⟩ = some (.slice A0_3 l0_3.length c0_3) := (blk_cell BK115.out 3).trans rfl; have hcz7_4 : w5.cell? ⟨gb115, 4, none⟩ = some (.slice A0_4 l0_4.length c0_4) := (blk_cell BK115.out 4).trans rfl; have hfz7_0 := blk_frozen BK115.out 0; have hfz7_1 := blk_frozen BK115.out 1; have hfz7_2 := blk_frozen BK115.out 2; have hfz7_3 := blk_frozen BK115.out 3; have hfz7_4 := blk_frozen BK115.out 4; have hcz8_0 : w5.cell? ⟨gb116, 0, none⟩ = some (.slice A1_0 l1_0.length c1_0) := (blk_cell BK116.out 0).trans rfl; have hcz8_1 : w5.cell? ⟨gb116, 1, none⟩ = some (.int .i64 a1_1) := (blk_cell BK116.out 1).trans rfl; have hcz8_2 : w5.cell? ⟨gb116, 2, none⟩ = some (.slice A1_2 l1_2.length c1_2) := (blk_cell BK116.out 2).trans rfl; have hcz8_3 : w5.cell? ⟨gb116, 3, none⟩ = some (.slice A1_3 l1_3.length c1_3) := (blk_cell BK116.out 3).trans rfl; have hcz8_4 : w5.cell? ⟨gb116, 4, none⟩ = some (.slice A1_4 l1_4.length c1_4) := (blk_cell BK116.out 4).trans rfl; have hfz8_0 := blk_frozen BK116.out 0; have hfz8_1 := blk_frozen BK116.out 1; have hfz8_2 := blk_frozen BK116.out 2; have hfz8_3 := blk_frozen BK116.out 3; have hfz8_4 := blk_frozen BK116.out 4) | ((with_reducible refine gate_callee (f := 44) rfl ?_); refine goesL_ (some 9) rfl rfl Try.func44 (by kernel_rfl) rfl #[.slice A0_0 l0_0.length c0_0, .slice A1_0 l1_0.length c1_0] rfl (by (try simp only [List.map_toArray, List.map_cons, List.map_nil]); first | done | rfl | (simp only [List.length_drop, List.length_take]; rfl)) ?_; (with_reducible refine (cell_Less.calls k _ _ l0_0 _ _ l1_0 t117 _ ?side1 ?side2 ?side3 ?side4 A3.out).mono ?_); (case side1 => repeat (first | exact (Kd.C_below HR0_0.out HB.out) | (with_reducible refine Kd.C_alloc ?_ _) | (with_reducible refine Kd.C_drewN ?_ _) | (with_reducible refine Kd.C_drew ?_))); (case side2 => exact HC0_0.out); (case side3 => repeat (first | exact (Kd.C_below HR1_0.out HB.out) | (with_reducible refine Kd.C_alloc ?_ _) | (with_reducible refine Kd.C_drewN ?_ _) | (with_reducible refine Kd.C_drew ?_))); (case side4 => exact HC1_0.out); rintro e w' ⟨rfl, ⟨nd, rfl⟩⟩; refine ⟨_, rfl, ?_⟩))
 go_ret
 exact ⟨by first | rfl | (simp [errW_none, errW_some] <;> rfl) | (simp [*, errW_none, errW_some] <;> rfl), by repeat (first | (with_reducible first | exact HB.out | apply below_alloc | apply pw_below_drewN | apply below_drew1 | refine below_set ?_ GE115.out | refine below_set ?_ GE116.out) | exact HB.out)⟩
end Go.Proofs.Ytmnepkbmcnpjlaa.Q
namespace Go.Proofs.Ytmnepkbmcnpjlaa.Q
open Go.RowKit Go.Proofs.YtmnepkbmcnpjlaaW.PrintWords Go.Proofs.YtmnepkbmcnpjlaaW.PrintLast Go.Proofs.YtmnepkbmcnpjlaaW.PrintMore
attribute [local go_sem] max2_int min2_int max_two min_two max_three min_three max_four min_four
set_option linter.unusedVariables false
set_option linter.unusedSimpArgs false
def bsf_G1.l0 : Nat → List (S41) → Int → Int → Int → List Int → Int → List Int → List Int → List Int → Option (Int × Bool)
 | 0, _, _, _, _, _, _, _, _, _ => none
 | k + 1, x0, x8, x9, x10, x119000, x119001, x119002, x119003, x119004 => if x9 < x10 then (if 0 ≤ (wrap64 ((IntKind.u64.wrap (wrap64 (x9 + x10))) / 2)) then (if (wrap64 ((IntKind.u64.wrap (wrap64 (x9 + x10))) / 2)) < (x0.length : Int) then ((cell_Group_1.f k ((rd_T41 x0 (wrap64 ((IntKind.u64.wrap (wrap64 (x9 + x10))) / 2))).f0) ((rd_T41 x0 (wrap64 ((IntKind.u64.wrap (wrap64 (x9 + x10))) / 2))).f1) ((rd_T41 x0 (wrap64 ((IntKind.u64.wrap (wrap64 (x9 + x10))) / 2))).f2) ((rd_T41 x0 (wrap64 ((IntKind.u64.wrap (wrap64 (x9 + x10))) / 2))).f3) ((rd_T41 x0 (wrap64 ((IntKind.u64.wrap (wrap64 (x9 + x10))) / 2))).f4) x119000 x119001 x119002 x119003 x119004).bind fun t120 => (if t120 < 0 then (bsf_G1.l0 k x0 x8 (wrap64 ((wrap64 ((IntKind.u64.wrap (wrap64 (x9 + x10))) / 2)) + 1)) x10 x119000 x119001 x119002 x119003 x119004) else (bsf_G1.l0 k x0 x8 x9 (wrap64 ((IntKind.u64.wrap (wrap64 (x9 + x10))) / 2)) x119000 x119001 x119002 x119003 x119004))) else (none)) else (none)) else (if x9 < x8 then (if 0 ≤ x9 then (if x9 < (x0.length : Int) then ((cell_Group_1.f k ((rd_T41 x0 x9).f0) ((rd_T41 x0 x9).f1) ((rd_T41 x0 x9).f2) ((rd_T41 x0 x9).f3) ((rd_T41 x0 x9).f4) x119000 x119001 x119002 x119003 x119004).bind fun t122 => (some (x9, (t122 == 0)))) else (none)) else (none)) else (some (x9, false)))
def bsf_G1.f (k : Nat) (l0 : List (S41)) (l1_0 : List Int) (a1_1 : Int) (l1_2 : List Int) (l1_3 : List Int) (l1_4 : List Int) : Option (Int × Bool) := bsf_G1.l0 k l0 (l0.length : Int) 0 (l0.length : Int) l1_0 a1_1 l1_2 l1_3 l1_4
def bsf_G1.T5 : Bool × List (List Nat × List Nat) := (true, [([], []), ([], []), ([], []), ([1, 2], [1, 2]), ([3], [3]), ([], []), ([0, 4, 5], [0, 4, 5]), ([6], [6])])
def bsf_G1.B5 : List Nat := [0, 0, 0, 6, 14, 0, 63, 127]
theorem bsf_G1.tab5 : rtab .any (opsOf Try.f37 5) = bsf_G1.T5 := by kernel_rfl
theorem bsf_G1.bits5 : waitsOk bsf_G1.T5.2 bsf_G1.B5 = true := by kernel_rfl
def bsf_G1.T8 : Bool × List (List Nat × List Nat) := (true, [([], []), ([], []), ([], []), ([1, 2], [1, 2]), ([3], [3]), ([4], [4]), ([4], [4]), ([4], [4]), ([6, 7, 4], [4, 6, 7]), ([8, 4], [4, 8]), ([4], [4]), ([5, 9, 10, 4, 4], [4, 5, 9, 10]), ([11, 4], [4, 11]), ([4, 12], [4, 12]), ([0, 11, 0], [0]), ([13, 14, 0, 1, 2, 3, 4, 5, 6, 7, 8, 9, 10, 11, 12, 13, 14], [13])])
def bsf_G1.B8 : List Nat := [0, 0, 0, 6, 14, 30, 30, 30, 222, 478, 30, 2046, 4094, 8190, 4095, 32767]
theorem bsf_G1.tab8 : rtab .any (opsOf Try.f37 8) = bsf_G1.T8 := by kernel_rfl
theorem bsf_G1.bits8 : waitsOk bsf_G1.T8.2 bsf_G1.B8 = true := by kernel_rfl
set_option maxHeartbeats 8000000 in
set_option maxRecDepth 100000 in
theorem bsf_G1.calls (k : Nat) (A0 : Option Addr) (c0 : Nat) (l0 : List (S41)) (A1_0 : Option Addr) (c1_0 : Nat) (l1_0 : List Int) (a1_1 : Int) (A1_2 : Option Addr) (c1_2 : Nat) (l1_2 : List Int) (A1_3 : Option Addr) (c1_3 : Nat) (l1_3 : List Int) (A1_4 : Option Addr) (c1_4 : Nat) (l1_4 : List Int) (r1 : Int) (r2 : Bool) (w : World) (hr0 : Kd.C k41 w A0 l0.length l0) (hc0 : l0.length ≤ c0) (hr1_0 : Kd.C (Kd.int .i64) w A1_0 l1_0.length l1_0) (hc1_0 : l1_0.length ≤ c1_0) (hr1_2 : Kd.C (Kd.int .i64) w A1_2 l1_2.length l1_2) (hc1_2 : l1_2.length ≤ c1_2) (hr1_3 : Kd.C (Kd.int .i64) w A1_3 l1_3.length l1_3) (hc1_3 : l1_3.length ≤ c1_3) (hr1_4 : Kd.C (Kd.int .i64) w A1_4 l1_4.length l1_4) (hc1_4 : l1_4.length ≤ c1_4) (h : bsf_G1.f k l0 l1_0 a1_1 l1_2 l1_3 l1_4 = some (r1, r2)) :
  Calls Try.prog 37 #[.slice A0 l0.length c0, .agg #[.slice A1_0 l1_0.length c1_0, .int .i64 a1_1, .slice A1_2 l1_2.length c1_2, .slice A1_3 l1_3.length c1_3, .slice A1_4 l1_4.length c1_4], .func (.func 53) #[] #[]] w fun e w' => e = .returned (.tuple #[.int .i64 r1, .bool r2]) ∧ Below w.heap.size w w' := by
 have hu41 := Try.underlying41
 have HR0 := Aside0.mk hr0
 have HC0 := Aside0.mk hc0
 clear hr0 hc0
 have HR1_0 := Aside0.mk hr1_0
 have HC1_0 := Aside0.mk hc1_0
 clear hr1_0 hc1_0
 have HR1_2 := Aside0.mk hr1_2
 have HC1_2 := Aside0.mk hc1_2
 clear hr1_2 hc1_2
 have HR1_3 := Aside0.mk hr1_3
 have HC1_3 := Aside0.mk hc1_3
 clear hr1_3 hc1_3
 have HR1_4 := Aside0.mk hr1_4
 have HC1_4 := Aside0.mk hc1_4
 clear hr1_4 hc1_4
 have HB := Aside0.mk (Below.refl w.heap.size w)
 have H : (bsf_G1.l0 k l0 (l0.length : Int) 0 (l0.length : Int) l1_0 a1_1 l1_2 l1_3 l1_4) = some (r1, r2) := h
 clear h
 have H' := Aside0.mk H
 clear H
 go_enter Try.func37, Try.ntmps37
 go_wp2_with (first | ((with_reducible refine gate_dst (N := 4) rfl ?_); refine box_event ?hg (N := 4) ?hd (cs := #[.slice A1_0 l1_0.length c1_0, .int .i64 a1_1, .slice A1_2 l1_2.length c1_2, .slice A1_3 l1_3.length c1_3, .slice A1_4 l1_4.length c1_4]) (t := 41) ?hr ?_; (case hd => rfl); (case hg => rfl); (case hr => first | (go_simp; done) | (go_simp; rfl)); intro gb118 hg w3 hbox hb; have n0_ := Aside0.mk (below_step (wmv HB.out) hb); have n1_ := Aside0.mk (hbox); have n2_ := Aside0.mk ((by rw [hg]; exact (below_size (wmv HB.out)) : w.heap.size ≤ gb118)); have n3_ := Aside0.mk ((by rw [hg]; exact (below_size (wmv HB.out)) : w.heap.size ≤ gb118)); clear HB; revert n0_ n1_ n2_ n3_; intro HB BK118 GW118 GE118; clear hb hbox hg))
 go_loopg [9, 10] k (fun kq v9 v10 w' => ∃ (x9_1 : Int) (x10_1 : Int), v9 = .int .i64 x9_1 ∧ v10 = .int .i64 x10_1 ∧ Aside0 (bsf_G1.l0 kq l0 (l0.length : Int) x9_1 x10_1 l1_0 a1_1 l1_2 l1_3 l1_4 = some (r1, r2)) ∧ Aside0 (kq ≤ k) ∧ Aside0 (w'.heap[gb118]? = some (.cells #[(.slice A1_0 l1_0.length c1_0), .int .i64 a1_1, (.slice A1_2 l1_2.length c1_2), (.slice A1_3 l1_3.length c1_3), (.slice A1_4 l1_4.length c1_4)] 41 (0, 0))) ∧ Aside0 (Below w.heap.size w w'))
 case atStart => exact ⟨(0), ((l0.length : Int)), (by first | rfl | (simp; done) | (simp [*]; done)), (by first | rfl | (simp; done) | (simp [*]; done)), H', ⟨Nat.le_refl _⟩, ⟨by (with_reducible repeat (first | refine blk_drewN ?_ _ | refine blk_drew ?_ | refine blk_alloc ?_ _)); exact BK118.out⟩, ⟨by repeat (first | (with_reducible first | exact HB.out | apply below_alloc | apply pw_below_drewN | apply below_drew1 | refine below_set ?_ GE118.out) | exact HB.out)⟩⟩
 case round =>
  clear H'
  try clear c1
  try clear p2
  obtain ⟨x9_1, x10_1, rfl, rfl, HA, HK1, BK118, HB⟩ := hrel
  cases gk with
  | zero => exact absurd HA.out (by simp [bsf_G1.l0])
  | succ k1 =>
   have H := HA.out
   clear HA
   simp only [bsf_G1.l0] at H
   by_cases c4 : x9_1 < x10_1
   ·rw [if_pos c4] at H
    have c4b0 : decide (x9_1 < x10_1) = true := decide_eq_true c4
    clear c4
    obtain ⟨ji5, hji5⟩ : ∃ j_ : Int, (wrap64 ((IntKind.u64.wrap (wrap64 (x9_1 + x10_1))) / 2)) = j_ := ⟨_, rfl⟩
    replace H : (if 0 ≤ (ji5) then (if (ji5) < (l0.length : Int) then ((cell_Group_1.f k1 ((rd_T41 l0 (ji5)).f0) ((rd_T41 l0 (ji5)).f1) ((rd_T41 l0 (ji5)).f2) ((rd_T41 l0 (ji5)).f3) ((rd_T41 l0 (ji5)).f4) l1_0 a1_1 l1_2 l1_3 l1_4).bind fun t120 => (if t120 < 0 then (bsf_G1.l0 k1 l0 (l0.length : Int) (wrap64 ((ji5) + 1)) x10_1 l1_0 a1_1 l1_2 l1_3 l1_4) else (bsf_G1.l0 k1 l0 (l0.length : Int) x9_1 ji5 l1_0 a1_1 l1_2 l1_3 l1_4))) else (none)) else (none)) = some (r1, r2) := by first | (rw [hji5] at H; exact H) | (simp only [hji5] at H ⊢; exact H)
    have hji5w : (IntKind.i64.wrap ((IntKind.u64.wrap (wrap64 (x9_1 + x10_1))) / 2)) = ji5 := (i64_w _).trans hji5
    by_cases c6 : 0 ≤ (ji5)
    ·rw [if_pos c6] at H
     have c6b0 : decide (0 ≤ (ji5)) = true := decide_eq_true c6
     clear c6
     by_cases c7 : (ji5) < (l0.length : Int)
     ·rw [if_pos c7] at H
      have c7b0 : decide ((ji5) < (l0.length : Int)) = true := decide_eq_true c7
      clear c7
      replace H := Option.bind_eq_some_iff.mp H
      obtain ⟨t120, A80, H⟩ := H
      replace H : (if t120 < 0 then (bsf_G1.l0 k1 l0 (l0.length : Int) (wrap64 ((ji5) + 1)) x10_1 l1_0 a1_1 l1_2 l1_3 l1_4) else (bsf_G1.l0 k1 l0 (l0.length : Int) x9_1 ji5 l1_0 a1_1 l1_2 l1_3 l1_4)) = some (r1, r2) := H
      have A8 := Aside0.mk A80
      clear A80
      by_cases c9 : t120 < 0
      ·rw [if_pos c9] at H
       have c9b0 : decide (t120 < 0) = true := decide_eq_true c9
       clear c9
       have H' := Aside0.mk H
       clear H
       try go_wp2
       have n0_ := Aside0.mk (blk_drew BK118.out)
       have n1_ := Aside0.mk (below_drew1 HB.out)
       clear BK118 HB
       revert n0_ n1_
       intro BK118 HB
       have p119 : 0 ≤ ((ji5) : Int) := of_decide_eq_true (by first | (with_reducible assumption) | assumption)
       have q119 : (ji5) < (l0.length : Int) := of_decide_eq_true (by first | (with_reducible assumption) | assumption)
       obtain ⟨ad119, A119_0, c119_0, A119_2, c119_2, A119_3, c119_3, A119_4, c119_4, e119, hx119_0, hx119_1, hx119_2, hx119_3, hx119_4, hl119_0, hi119_0, hl119_2, hi119_2, hl119_3, hi119_3, hl119_4, hi119_4⟩ := at_T41 HR0.out (ji5) p119 q119
       have hw119_4 := hx119_4
       have hw119_3 := hx119_3
       have hw119_2 := hx119_2
       have hw119_1 := hx119_1
       have hw119_0 := hx119_0
       cases e119
       replace hx119_0 := (HB.out.cell (World.block_lt_of_cell? w _ hx119_0)).trans hx119_0
       replace hx119_1 := (HB.out.cell (World.block_lt_of_cell? w _ hx119_1)).trans hx119_1
       replace hx119_2 := (HB.out.cell (World.block_lt_of_cell? w _ hx119_2)).trans hx119_2
       replace hx119_3 := (HB.out.cell (World.block_lt_of_cell? w _ hx119_3)).trans hx119_3
       replace hx119_4 := (HB.out.cell (World.block_lt_of_cell? w _ hx119_4)).trans hx119_4
       have HR119_0 := Aside0.mk hi119_0
       have HC119_0 := Aside0.mk hl119_0
       clear hi119_0 hl119_0
       have HR119_2 := Aside0.mk hi119_2
       have HC119_2 := Aside0.mk hl119_2
       clear hi119_2 hl119_2
       have HR119_3 := Aside0.mk hi119_3
       have HC119_3 := Aside0.mk hl119_3
       clear hi119_3 hl119_3
       have HR119_4 := Aside0.mk hi119_4
       have HC119_4 := Aside0.mk hl119_4
       clear hi119_4 hl119_4
       replace p119 := eq_true p119
       replace q119 := eq_true q119
       refine start_ (n := 8) (S := fun w' => w'.cell? ⟨gb118, 0, none⟩ = some (.slice A1_0 l1_0.length c1_0) ∧ w'.cell? ⟨gb118, 1, none⟩ = some (.int .i64 a1_1) ∧ w'.cell? ⟨gb118, 2, none⟩ = some (.slice A1_2 l1_2.length c1_2) ∧ w'.cell? ⟨gb118, 3, none⟩ = some (.slice A1_3 l1_3.length c1_3) ∧ w'.cell? ⟨gb118, 4, none⟩ = some (.slice A1_4 l1_4.length c1_4) ∧ w'.cell? (ad119.add (((ji5)).toNat * 5)) = some (.slice A119_0 ((rd_T41 l0 (ji5)).f0).length c119_0) ∧ w'.cell? ⟨(ad119.add (((ji5)).toNat * 5)).block, (ad119.add (((ji5)).toNat * 5)).off + 1, none⟩ = some (.int .i64 ((rd_T41 l0 (ji5)).f1)) ∧ w'.cell? ⟨(ad119.add (((ji5)).toNat * 5)).block, (ad119.add (((ji5)).toNat * 5)).off + 2, none⟩ = some (.slice A119_2 ((rd_T41 l0 (ji5)).f2).length c119_2) ∧ w'.cell? ⟨(ad119.add (((ji5)).toNat * 5)).block, (ad119.add (((ji5)).toNat * 5)).off + 3, none⟩ = some (.slice A119_3 ((rd_T41 l0 (ji5)).f3).length c119_3) ∧ w'.cell? ⟨(ad119.add (((ji5)).toNat * 5)).block, (ad119.add (((ji5)).toNat * 5)).off + 4, none⟩ = some (.slice A119_4 ((rd_T41 l0 (ji5)).f4).length c119_4)) (ds := []) #[false, false, false, false, false, false, false, false] (by kernel_rfl) rfl rfl ⟨(blk_cell BK118.out 0).trans rfl, (blk_cell BK118.out 1).trans rfl, (blk_cell BK118.out 2).trans rfl, (blk_cell BK118.out 3).trans rfl, (blk_cell BK118.out 4).trans rfl, ((HB.out.cell (World.block_lt_of_cell? w _ hw119_0)).trans hw119_0), ((HB.out.cell (World.block_lt_of_cell? w _ hw119_1)).trans hw119_1), ((HB.out.cell (World.block_lt_of_cell? w _ hw119_2)).trans hw119_2), ((HB.out.cell (World.block_lt_of_cell? w _ hw119_3)).trans hw119_3), ((HB.out.cell (World.block_lt_of_cell? w _ hw119_4)).trans hw119_4)⟩ (fun hHeld => ?_); refine with_tabW bsf_G1.tab5 bsf_G1.bits5 (fun HT_ HW_ => ?_)
       generalize wr.drew = w10 at BK118 HB HR119_0 HR119_2 HR119_3 HR119_4 hx119_0 hx119_1 hx119_2 hx119_3 hx119_4 hHeld ⊢
       refine pure_ (i := 0) (N := some 24) (v := ?_) (a' := ?_) #[true, false, false, false, false, false, false, false] rfl rfl (any_of HT_.out (by kernel_rfl)) (fun _ _ _ h => h) (Or.inl ⟨by rfl, ?_⟩) ?_ ?_
       rotate_left
       ·intro w'
        go_simp
        with_reducible rfl
       rotate_left
       ·simp only [ps]
        rfl
       refine pure_ (i := 1) (N := some 25) (v := ?_) (a' := ?_) #[true, true, false, false, false, false, false, false] rfl rfl (any_of HT_.out (by kernel_rfl)) (fun _ _ _ h => h) (Or.inl ⟨by rfl, ?_⟩) ?_ ?_
       rotate_left
       ·intro w'
        go_simp
        with_reducible rfl
       rotate_left
       ·simp only [ps]
        rfl
       refine pure_ (i := 2) (N := some 26) (v := ?_) (a' := ?_) #[true, true, true, false, false, false, false, false] rfl rfl (any_of HT_.out (by kernel_rfl)) (fun _ _ _ h => h) (Or.inl ⟨by rfl, ?_⟩) ?_ ?_
       rotate_left
       ·intro w'
        go_simp
        with_reducible rfl
       rotate_left
       ·simp only [ps]
        rfl
       refine pure_ (i := 3) (N := some 27) (v := ?_) (a' := ?_) #[true, true, true, true, false, false, false, false] rfl rfl (any_of HT_.out (by kernel_rfl)) (fun _ _ _ h => h) (Or.inl ⟨by rfl, ?_⟩) ?_ ?_
       rotate_left
       ·intro w'
        go_simp
        with_reducible rfl
       rotate_left
       ·simp only [ps]
        rfl
       refine take_ (i := 4) (N := some 28) (v := ?_) (a' := ?_) #[true, true, true, true, true, false, false, false] rfl rfl (take_ofW HT_.out HW_.out (by kernel_rfl)) (fun _ _ _ h => h) (Or.inl ⟨by rfl, ?_⟩) hHeld ?_ ?_
       rotate_left
       ·rintro w' ⟨s0, s1, s2, s3, s4, s5, s6, s7, s8, s9⟩
        go_simp
        with_reducible rfl
       rotate_left
       ·simp only [ps]
        rfl
       refine take_ (i := 5) (N := some 29) (v := ?_) (a' := ?_) #[true, true, true, true, true, true, false, false] rfl rfl (take_ofW HT_.out HW_.out (by kernel_rfl)) (fun _ _ _ h => h) (Or.inl ⟨by rfl, ?_⟩) hHeld ?_ ?_
       rotate_left
       ·rintro w' ⟨s0, s1, s2, s3, s4, s5, s6, s7, s8, s9⟩
        go_simp
        with_reducible rfl
       rotate_left
       ·simp only [ps]
        rfl
       refine one_ (i := 6) (N := some 30) #[true, true, true, true, true, true, true, false] rfl rfl (one_of HT_.out (by kernel_rfl)) (by decide) (fun K hK => ?_)
       refine goesv_ Try.func53 (by kernel_rfl) rfl #[.agg #[.slice A119_0 ((rd_T41 l0 (ji5)).f0).length c119_0, .int .i64 ((rd_T41 l0 (ji5)).f1), .slice A119_2 ((rd_T41 l0 (ji5)).f2).length c119_2, .slice A119_3 ((rd_T41 l0 (ji5)).f3).length c119_3, .slice A119_4 ((rd_T41 l0 (ji5)).f4).length c119_4], .agg #[.slice A1_0 l1_0.length c1_0, .int .i64 a1_1, .slice A1_2 l1_2.length c1_2, .slice A1_3 l1_3.length c1_3, .slice A1_4 l1_4.length c1_4]] (by rfl) rfl rfl (by (try simp only [List.map_toArray, List.map_cons, List.map_nil]); first | done | (simp only [hji5]; rfl) | rfl | (simp only [List.length_drop, List.length_take]; rfl)) ?_
       with_reducible refine (cell_Group_1.calls k1 _ _ ((rd_T41 l0 (ji5)).f0) ((rd_T41 l0 (ji5)).f1) _ _ ((rd_T41 l0 (ji5)).f2) _ _ ((rd_T41 l0 (ji5)).f3) _ _ ((rd_T41 l0 (ji5)).f4) _ _ l1_0 a1_1 _ _ l1_2 _ _ l1_3 _ _ l1_4 t120 _ ?side1 ?side2 ?side3 ?side4 ?side5 ?side6 ?side7 ?side8 ?side9 ?side10 ?side11 ?side12 ?side13 ?side14 ?side15 ?side16 A8.out).mono ?_
       (case side1 => exact Kd.Cw HR119_0.out HB.out)
       (case side2 => exact HC119_0.out)
       (case side3 => exact Kd.Cw HR119_2.out HB.out)
       (case side4 => exact HC119_2.out)
       (case side5 => exact Kd.Cw HR119_3.out HB.out)
       (case side6 => exact HC119_3.out)
       (case side7 => exact Kd.Cw HR119_4.out HB.out)
       (case side8 => exact HC119_4.out)
       (case side9 => exact Kd.Cw HR1_0.out HB.out)
       (case side10 => exact HC1_0.out)
       (case side11 => exact Kd.Cw HR1_2.out HB.out)
       (case side12 => exact HC1_2.out)
       (case side13 => exact Kd.Cw HR1_3.out HB.out)
       (case side14 => exact HC1_3.out)
       (case side15 => exact Kd.Cw HR1_4.out HB.out)
       (case side16 => exact HC1_4.out)
       rintro e w11 ⟨rfl, hb⟩
       refine ⟨_, rfl, ?_⟩
       have n0_ := Aside0.mk (blk_below (bmv BK118.out) hb)
       have n1_ := Aside0.mk (below_step (wmv HB.out) hb)
       clear BK118 HB
       revert n0_ n1_
       intro BK118 HB
       (try clear hb)
       (try clear hb2)
       (try clear hk)
       (try clear hi)
       refine hK.out _ _ ⟨(blk_cell BK118.out 0).trans rfl, (blk_cell BK118.out 1).trans rfl, (blk_cell BK118.out 2).trans rfl, (blk_cell BK118.out 3).trans rfl, (blk_cell BK118.out 4).trans rfl, ((HB.out.cell (World.block_lt_of_cell? w _ hw119_0)).trans hw119_0), ((HB.out.cell (World.block_lt_of_cell? w _ hw119_1)).trans hw119_1), ((HB.out.cell (World.block_lt_of_cell? w _ hw119_2)).trans hw119_2), ((HB.out.cell (World.block_lt_of_cell? w _ hw119_3)).trans hw119_3), ((HB.out.cell (World.block_lt_of_cell? w _ hw119_4)).trans hw119_4)⟩ (fun hHeld => ?_)
       clear hK K
       refine norm_ (a' := ?_) ?_ ?_
       rotate_left
       ·show Act.put _ (some 30) _ = _
        simp only [ps]
        rfl
       refine pure_ (i := 7) (N := some 31) (v := ?_) (a' := ?_) #[true, true, true, true, true, true, true, true] rfl rfl (any_of HT_.out (by kernel_rfl)) (fun _ _ _ h => h) (Or.inl ⟨by rfl, ?_⟩) ?_ ?_
       rotate_left
       ·intro w'
        go_simp
        with_reducible rfl
       rotate_left
       ·simp only [ps]
        rfl
       refine done_ (done_of HT_.out (by kernel_rfl)) ?_
       try go_wp2
       go_roundg k1
       case measure => have := HK1.out; omega
       case rel => exact ⟨(wrap64 ((ji5) + 1)), (x10_1), (by first | rfl | (simp; done) | (simp only [← hji5] <;> (first | rfl | simp)) | (simp [*]; done)), (by first | rfl | (simp; done) | (simp [*]; done)), H', ⟨by have := HK1.out; omega⟩, ⟨by (with_reducible repeat (first | refine blk_drewN ?_ _ | refine blk_drew ?_ | refine blk_alloc ?_ _)); exact BK118.out⟩, ⟨by repeat (first | (with_reducible first | exact HB.out | apply below_alloc | apply pw_below_drewN | apply below_drew1 | refine below_set ?_ GE118.out) | exact HB.out)⟩⟩
      ·rw [if_neg c9] at H
       have c9b0 : decide (t120 < 0) = false := decide_eq_false c9
       clear c9
       have H' := Aside0.mk H
       clear H
       try go_wp2
       have n0_ := Aside0.mk (blk_drew BK118.out)
       have n1_ := Aside0.mk (below_drew1 HB.out)
       clear BK118 HB
       revert n0_ n1_
       intro BK118 HB
       have p119 : 0 ≤ ((ji5) : Int) := of_decide_eq_true (by first | (with_reducible assumption) | assumption)
       have q119 : (ji5) < (l0.length : Int) := of_decide_eq_true (by first | (with_reducible assumption) | assumption)
       obtain ⟨ad119, A119_0, c119_0, A119_2, c119_2, A119_3, c119_3, A119_4, c119_4, e119, hx119_0, hx119_1, hx119_2, hx119_3, hx119_4, hl119_0, hi119_0, hl119_2, hi119_2, hl119_3, hi119_3, hl119_4, hi119_4⟩ := at_T41 HR0.out (ji5) p119 q119
       have hw119_4 := hx119_4
       have hw119_3 := hx119_3
       have hw119_2 := hx119_2
       have hw119_1 := hx119_1
       have hw119_0 := hx119_0
       cases e119
       replace hx119_0 := (HB.out.cell (World.block_lt_of_cell? w _ hx119_0)).trans hx119_0
       replace hx119_1 := (HB.out.cell (World.block_lt_of_cell? w _ hx119_1)).trans hx119_1
       replace hx119_2 := (HB.out.cell (World.block_lt_of_cell? w _ hx119_2)).trans hx119_2
       replace hx119_3 := (HB.out.cell (World.block_lt_of_cell? w _ hx119_3)).trans hx119_3
       replace hx119_4 := (HB.out.cell (World.block_lt_of_cell? w _ hx119_4)).trans hx119_4
       have HR119_0 := Aside0.mk hi119_0
       have HC119_0 := Aside0.mk hl119_0
       clear hi119_0 hl119_0
       have HR119_2 := Aside0.mk hi119_2
       have HC119_2 := Aside0.mk hl119_2
       clear hi119_2 hl119_2
       have HR119_3 := Aside0.mk hi119_3
       have HC119_3 := Aside0.mk hl119_3
       clear hi119_3 hl119_3
       have HR119_4 := Aside0.mk hi119_4
       have HC119_4 := Aside0.mk hl119_4
       clear hi119_4 hl119_4
       replace p119 := eq_true p119
       replace q119 := eq_true q119
       refine start_ (n := 8) (S := fun w' => w'.cell? ⟨gb118, 0, none⟩ = some (.slice A1_0 l1_0.length c1_0) ∧ w'.cell? ⟨gb118, 1, none⟩ = some (.int .i64 a1_1) ∧ w'.cell? ⟨gb118, 2, none⟩ = some (.slice A1_2 l1_2.length c1_2) ∧ w'.cell? ⟨gb118, 3, none⟩ = some (.slice A1_3 l1_3.length c1_3) ∧ w'.cell? ⟨gb118, 4, none⟩ = some (.slice A1_4 l1_4.length c1_4) ∧ w'.cell? (ad119.add (((ji5)).toNat * 5)) = some (.slice A119_0 ((rd_T41 l0 (ji5)).f0).length c119_0) ∧ w'.cell? ⟨(ad119.add (((ji5)).toNat * 5)).block, (ad119.add (((ji5)).toNat * 5)).off + 1, none⟩ = some (.int .i64 ((rd_T41 l0 (ji5)).f1)) ∧ w'.cell? ⟨(ad119.add (((ji5)).toNat * 5)).block, (ad119.add (((ji5)).toNat * 5)).off + 2, none⟩ = some (.slice A119_2 ((rd_T41 l0 (ji5)).f2).length c119_2) ∧ w'.cell? ⟨(ad119.add (((ji5)).toNat * 5)).block, (ad119.add (((ji5)).toNat * 5)).off + 3, none⟩ = some (.slice A119_3 ((rd_T41 l0 (ji5)).f3).length c119_3) ∧ w'.cell? ⟨(ad119.add (((ji5)).toNat * 5)).block, (ad119.add (((ji5)).toNat * 5)).off + 4, none⟩ = some (.slice A119_4 ((rd_T41 l0 (ji5)).f4).length c119_4)) (ds := []) #[false, false, false, false, false, false, false, false] (by kernel_rfl) rfl rfl ⟨(blk_cell BK118.out 0).trans rfl, (blk_cell BK118.out 1).trans rfl, (blk_cell BK118.out 2).trans rfl, (blk_cell BK118.out 3).trans rfl, (blk_cell BK118.out 4).trans rfl, ((HB.out.cell (World.block_lt_of_cell? w _ hw119_0)).trans hw119_0), ((HB.out.cell (World.block_lt_of_cell? w _ hw119_1)).trans hw119_1), ((HB.out.cell (World.block_lt_of_cell? w _ hw119_2)).trans hw119_2), ((HB.out.cell (World.block_lt_of_cell? w _ hw119_3)).trans hw119_3), ((HB.out.cell (World.block_lt_of_cell? w _ hw119_4)).trans hw119_4)⟩ (fun hHeld => ?_); refine with_tabW bsf_G1.tab5 bsf_G1.bits5 (fun HT_ HW_ => ?_)
       generalize wr.drew = w12 at BK118 HB HR119_0 HR119_2 HR119_3 HR119_4 hx119_0 hx119_1 hx119_2 hx119_3 hx119_4 hHeld ⊢
       refine pure_ (i := 0) (N := some 24) (v := ?_) (a' := ?_) #[true, false, false, false, false, false, false, false] rfl rfl (any_of HT_.out (by kernel_rfl)) (fun _ _ _ h => h) (Or.inl ⟨by rfl, ?_⟩) ?_ ?_
       rotate_left
       ·intro w'
        go_simp
        with_reducible rfl
       rotate_left
       ·simp only [ps]
        rfl
       refine pure_ (i := 1) (N := some 25) (v := ?_) (a' := ?_) #[true, true, false, false, false, false, false, false] rfl rfl (any_of HT_.out (by kernel_rfl)) (fun _ _ _ h => h) (Or.inl ⟨by rfl, ?_⟩) ?_ ?_
       rotate_left
       ·intro w'
        go_simp
        with_reducible rfl
       rotate_left
       ·simp only [ps]
        rfl
       refine pure_ (i := 2) (N := some 26) (v := ?_) (a' := ?_) #[true, true, true, false, false, false, false, false] rfl rfl (any_of HT_.out (by kernel_rfl)) (fun _ _ _ h => h) (Or.inl ⟨by rfl, ?_⟩) ?_ ?_
       rotate_left
       ·intro w'
        go_simp
        with_reducible rfl
       rotate_left
       ·simp only [ps]
        rfl
       refine pure_ (i := 3) (N := some 27) (v := ?_) (a' := ?_) #[true, true, true, true, false, false, false, false] rfl rfl (any_of HT_.out (by kernel_rfl)) (fun _ _ _ h => h) (Or.inl ⟨by rfl, ?_⟩) ?_ ?_
       rotate_left
       ·intro w'
        go_simp
        with_reducible rfl
       rotate_left
       ·simp only [ps]
        rfl
       refine take_ (i := 4) (N := some 28) (v := ?_) (a' := ?_) #[true, true, true, true, true, false, false, false] rfl rfl (take_ofW HT_.out HW_.out (by kernel_rfl)) (fun _ _ _ h => h) (Or.inl ⟨by rfl, ?_⟩) hHeld ?_ ?_
       rotate_left
       ·rintro w' ⟨s0, s1, s2, s3, s4, s5, s6, s7, s8, s9⟩
        go_simp
        with_reducible rfl
       rotate_left
       ·simp only [ps]
        rfl
       refine take_ (i := 5) (N := some 29) (v := ?_) (a' := ?_) #[true, true, true, true, true, true, false, false] rfl rfl (take_ofW HT_.out HW_.out (by kernel_rfl)) (fun _ _ _ h => h) (Or.inl ⟨by rfl, ?_⟩) hHeld ?_ ?_
       rotate_left
       ·rintro w' ⟨s0, s1, s2, s3, s4, s5, s6, s7, s8, s9⟩
        go_simp
        with_reducible rfl
       rotate_left
       ·simp only [ps]
        rfl
       refine one_ (i := 6) (N := some 30) #[true, true, true, true, true, true, true, false] rfl rfl (one_of HT_.out (by kernel_rfl)) (by decide) (fun K hK => ?_)
       refine goesv_ Try.func53 (by kernel_rfl) rfl #[.agg #[.slice A119_0 ((rd_T41 l0 (ji5)).f0).length c119_0, .int .i64 ((rd_T41 l0 (ji5)).f1), .slice A119_2 ((rd_T41 l0 (ji5)).f2).length c119_2, .slice A119_3 ((rd_T41 l0 (ji5)).f3).length c119_3, .slice A119_4 ((rd_T41 l0 (ji5)).f4).length c119_4], .agg #[.slice A1_0 l1_0.length c1_0, .int .i64 a1_1, .slice A1_2 l1_2.length c1_2, .slice A1_3 l1_3.length c1_3, .slice A1_4 l1_4.length c1_4]] (by rfl) rfl rfl (by (try simp only [List.map_toArray, List.map_cons, List.map_nil]); first | done | (simp only [hji5]; rfl) | rfl | (simp only [List.length_drop, List.length_take]; rfl)) ?_
       with_reducible refine (cell_Group_1.calls k1 _ _ ((rd_T41 l0 (ji5)).f0) ((rd_T41 l0 (ji5)).f1) _ _ ((rd_T41 l0 (ji5)).f2) _ _ ((rd_T41 l0 (ji5)).f3) _ _ ((rd_T41 l0 (ji5)).f4) _ _ l1_0 a1_1 _ _ l1_2 _ _ l1_3 _ _ l1_4 t120 _ ?side1 ?side2 ?side3 ?side4 ?side5 ?side6 ?side7 ?side8 ?side9 ?side10 ?side11 ?side12 ?side13 ?side14 ?side15 ?side16 A8.out).mono ?_
       (case side1 => exact Kd.Cw HR119_0.out HB.out)
       (case side2 => exact HC119_0.out)
       (case side3 => exact Kd.Cw HR119_2.out HB.out)
       (case side4 => exact HC119_2.out)
       (case side5 => exact Kd.Cw HR119_3.out HB.out)
       (case side6 => exact HC119_3.out)
       (case side7 => exact Kd.Cw HR119_4.out HB.out)
       (case side8 => exact HC119_4.out)
       (case side9 => exact Kd.Cw HR1_0.out HB.out)
       (case side10 => exact HC1_0.out)
       (case side11 => exact Kd.Cw HR1_2.out HB.out)
       (case side12 => exact HC1_2.out)
       (case side13 => exact Kd.Cw HR1_3.out HB.out)
       (case side14 => exact HC1_3.out)
       (case side15 => exact Kd.Cw HR1_4.out HB.out)
       (case side16 => exact HC1_4.out)
       rintro e w13 ⟨rfl, hb⟩
       refine ⟨_, rfl, ?_⟩
       have n0_ := Aside0.mk (blk_below (bmv BK118.out) hb)
       have n1_ := Aside0.mk (below_step (wmv HB.out) hb)
       clear BK118 HB
       revert n0_ n1_
       intro BK118 HB
       (try clear hb)
       (try clear hb2)
       (try clear hk)
       (try clear hi)
       refine hK.out _ _ ⟨(blk_cell BK118.out 0).trans rfl, (blk_cell BK118.out 1).trans rfl, (blk_cell BK118.out 2).trans rfl, (blk_cell BK118.out 3).trans rfl, (blk_cell BK118.out 4).trans rfl, ((HB.out.cell (World.block_lt_of_cell? w _ hw119_0)).trans hw119_0), ((HB.out.cell (World.block_lt_of_cell? w _ hw119_1)).trans hw119_1), ((HB.out.cell (World.block_lt_of_cell? w _ hw119_2)).trans hw119_2), ((HB.out.cell (World.block_lt_of_cell? w _ hw119_3)).trans hw119_3), ((HB.out.cell (World.block_lt_of_cell? w _ hw119_4)).trans hw119_4)⟩ (fun hHeld => ?_)
       clear hK K
       refine norm_ (a' := ?_) ?_ ?_
       rotate_left
       ·show Act.put _ (some 30) _ = _
        simp only [ps]
        rfl
       refine pure_ (i := 7) (N := some 31) (v := ?_) (a' := ?_) #[true, true, true, true, true, true, true, true] rfl rfl (any_of HT_.out (by kernel_rfl)) (fun _ _ _ h => h) (Or.inl ⟨by rfl, ?_⟩) ?_ ?_
       rotate_left
       ·intro w'
        go_simp
        with_reducible rfl
       rotate_left
       ·simp only [ps]
        rfl
       refine done_ (done_of HT_.out (by kernel_rfl)) ?_
       try go_wp2
       go_roundg k1
       case measure => have := HK1.out; omega
       case rel => exact ⟨(x9_1), (ji5), (by first | rfl | (simp; done) | (simp [*]; done)), (by first | rfl | (simp; done) | (simp only [← hji5] <;> (first | rfl | simp)) | (simp [*]; done)), H', ⟨by have := HK1.out; omega⟩, ⟨by (with_reducible repeat (first | refine blk_drewN ?_ _ | refine blk_drew ?_ | refine blk_alloc ?_ _)); exact BK118.out⟩, ⟨by repeat (first | (with_reducible first | exact HB.out | apply below_alloc | apply pw_below_drewN | apply below_drew1 | refine below_set ?_ GE118.out) | exact HB.out)⟩⟩
     ·rw [if_neg c7] at H
      exact absurd H (by simp)
    ·rw [if_neg c6] at H
     exact absurd H (by simp)
   ·rw [if_neg c4] at H
    have c4b0 : decide (x9_1 < x10_1) = false := decide_eq_false c4
    clear c4
    by_cases c14 : x9_1 < (l0.length : Int)
    ·rw [if_pos c14] at H
     have c14b0 : decide (x9_1 < (l0.length : Int)) = true := decide_eq_true c14
     clear c14
     by_cases c15 : 0 ≤ x9_1
     ·rw [if_pos c15] at H
      have c15b0 : decide (0 ≤ x9_1) = true := decide_eq_true c15
      clear c15
      by_cases c16 : x9_1 < (l0.length : Int)
      ·rw [if_pos c16] at H
       have c16b0 : decide (x9_1 < (l0.length : Int)) = true := decide_eq_true c16
       clear c16
       replace H := Option.bind_eq_some_iff.mp H
       obtain ⟨t122, A170, H⟩ := H
       replace H : (some (x9_1, (t122 == 0))) = some (r1, r2) := H
       have A17 := Aside0.mk A170
       clear A170
       simp only [Option.some.injEq, Prod.mk.injEq] at H
       obtain ⟨rfl, rfl⟩ := H
       try go_wp2
       have n0_ := Aside0.mk (blk_drew BK118.out)
       have n1_ := Aside0.mk (below_drew1 HB.out)
       clear BK118 HB
       revert n0_ n1_
       intro BK118 HB
       have p121 : 0 ≤ (x9_1 : Int) := of_decide_eq_true (by first | (with_reducible assumption) | assumption)
       have q121 : x9_1 < (l0.length : Int) := of_decide_eq_true (by first | (with_reducible assumption) | assumption)
       obtain ⟨ad121, A121_0, c121_0, A121_2, c121_2, A121_3, c121_3, A121_4, c121_4, e121, hx121_0, hx121_1, hx121_2, hx121_3, hx121_4, hl121_0, hi121_0, hl121_2, hi121_2, hl121_3, hi121_3, hl121_4, hi121_4⟩ := at_T41 HR0.out x9_1 p121 q121
       have hw121_4 := hx121_4
       have hw121_3 := hx121_3
       have hw121_2 := hx121_2
       have hw121_1 := hx121_1
       have hw121_0 := hx121_0
       cases e121
       replace hx121_0 := (HB.out.cell (World.block_lt_of_cell? w _ hx121_0)).trans hx121_0
       replace hx121_1 := (HB.out.cell (World.block_lt_of_cell? w _ hx121_1)).trans hx121_1
       replace hx121_2 := (HB.out.cell (World.block_lt_of_cell? w _ hx121_2)).trans hx121_2
       replace hx121_3 := (HB.out.cell (World.block_lt_of_cell? w _ hx121_3)).trans hx121_3
       replace hx121_4 := (HB.out.cell (World.block_lt_of_cell? w _ hx121_4)).trans hx121_4
       have HR121_0 := Aside0.mk hi121_0
       have HC121_0 := Aside0.mk hl121_0
       clear hi121_0 hl121_0
       have HR121_2 := Aside0.mk hi121_2
       have HC121_2 := Aside0.mk hl121_2
       clear hi121_2 hl121_2
       have HR121_3 := Aside0.mk hi121_3
       have HC121_3 := Aside0.mk hl121_3
       clear hi121_3 hl121_3
       have HR121_4 := Aside0.mk hi121_4
       have HC121_4 := Aside0.mk hl121_4
       clear hi121_4 hl121_4
       replace p121 := eq_true p121
       replace q121 := eq_true q121
       refine start_ (n := 16) (S := fun w' => w'.cell? ⟨gb118, 0, none⟩ = some (.slice A1_0 l1_0.length c1_0) ∧ w'.cell? ⟨gb118, 1, none⟩ = some (.int .i64 a1_1) ∧ w'.cell? ⟨gb118, 2, none⟩ = some (.slice A1_2 l1_2.length c1_2) ∧ w'.cell? ⟨gb118, 3, none⟩ = some (.slice A1_3 l1_3.length c1_3) ∧ w'.cell? ⟨gb118, 4, none⟩ = some (.slice A1_4 l1_4.length c1_4) ∧ w'.cell? (ad121.add ((x9_1).toNat * 5)) = some (.slice A121_0 ((rd_T41 l0 x9_1).f0).length c121_0) ∧ w'.cell? ⟨(ad121.add ((x9_1).toNat * 5)).block, (ad121.add ((x9_1).toNat * 5)).off + 1, none⟩ = some (.int .i64 ((rd_T41 l0 x9_1).f1)) ∧ w'.cell? ⟨(ad121.add ((x9_1).toNat * 5)).block, (ad121.add ((x9_1).toNat * 5)).off + 2, none⟩ = some (.slice A121_2 ((rd_T41 l0 x9_1).f2).length c121_2) ∧ w'.cell? ⟨(ad121.add ((x9_1).toNat * 5)).block, (ad121.add ((x9_1).toNat * 5)).off + 3, none⟩ = some (.slice A121_3 ((rd_T41 l0 x9_1).f3).length c121_3) ∧ w'.cell? ⟨(ad121.add ((x9_1).toNat * 5)).block, (ad121.add ((x9_1).toNat * 5)).off + 4, none⟩ = some (.slice A121_4 ((rd_T41 l0 x9_1).f4).length c121_4)) (ds := []) #[false, false, false, false, false, false, false, false, false, false, false, false, false, false, false, false] (by kernel_rfl) rfl rfl ⟨(blk_cell BK118.out 0).trans rfl, (blk_cell BK118.out 1).trans rfl, (blk_cell BK118.out 2).trans rfl, (blk_cell BK118.out 3).trans rfl, (blk_cell BK118.out 4).trans rfl, ((HB.out.cell (World.block_lt_of_cell? w _ hw121_0)).trans hw121_0), ((HB.out.cell (World.block_lt_of_cell? w _ hw121_1)).trans hw121_1), ((HB.out.cell (World.block_lt_of_cell? w _ hw121_2)).trans hw121_2), ((HB.out.cell (World.block_lt_of_cell? w _ hw121_3)).trans hw121_3), ((HB.out.cell (World.block_lt_of_cell? w _ hw121_4)).trans hw121_4)⟩ (fun hHeld => ?_); refine with_tabW bsf_G1.tab8 bsf_G1.bits8 (fun HT_ HW_ => ?_)
       generalize wr.drew = w18 at BK118 HB HR121_0 HR121_2 HR121_3 HR121_4 hx121_0 hx121_1 hx121_2 hx121_3 hx121_4 hHeld ⊢
       refine pure_ (i := 0) (N := some 35) (v := ?_) (a' := ?_) #[true, false, false, false, false, false, false, false, false, false, false, false, false, false, false, false] rfl rfl (any_of HT_.out (by kernel_rfl)) (fun _ _ _ h => h) (Or.inl ⟨by rfl, ?_⟩) ?_ ?_
       rotate_left
       ·intro w'
        go_simp
        with_reducible rfl
       rotate_left
       ·simp only [ps]
        rfl
       refine pure_ (i := 1) (N := some 36) (v := ?_) (a' := ?_) #[true, true, false, false, false, false, false, false, false, false, false, false, false, false, false, false] rfl rfl (any_of HT_.out (by kernel_rfl)) (fun _ _ _ h => h) (Or.inl ⟨by rfl, ?_⟩) ?_ ?_
       rotate_left
       ·intro w'
        go_simp
        with_reducible rfl
       rotate_left
       ·simp only [ps]
        rfl
       refine pure_ (i := 2) (N := some 37) (v := ?_) (a' := ?_) #[true, true, true, false, false, false, false, false, false, false, false, false, false, false, false, false] rfl rfl (any_of HT_.out (by kernel_rfl)) (fun _ _ _ h => h) (Or.inl ⟨by rfl, ?_⟩) ?_ ?_
       rotate_left
       ·intro w'
        go_simp
        with_reducible rfl
       rotate_left
       ·simp only [ps]
        rfl
       refine pure_ (i := 3) (N := some 38) (v := ?_) (a' := ?_) #[true, true, true, true, false, false, false, false, false, false, false, false, false, false, false, false] rfl rfl (any_of HT_.out (by kernel_rfl)) (fun _ _ _ h => h) (Or.inl ⟨by rfl, ?_⟩) ?_ ?_
       rotate_left
       ·intro w'
        go_simp
        with_reducible rfl
       rotate_left
       ·simp only [ps]
        rfl
       refine pure_ (i := 4) (N := some 39) (v := ?_) (a' := ?_) #[true, true, true, true, true, false, false, false, false, false, false, false, false, false, false, false] rfl rfl (any_of HT_.out (by kernel_rfl)) (fun _ _ _ h => h) (Or.inl ⟨by rfl, ?_⟩) ?_ ?_
       rotate_left
       ·intro w'
        go_simp
        with_reducible rfl
       rotate_left
       ·simp only [ps]
        rfl
       refine pure_ (i := 5) (N := some 40) (v := ?_) (a' := ?_) #[true, true, true, true, true, true, false, false, false, false, false, false, false, false, false, false] rfl rfl (any_of HT_.out (by kernel_rfl)) (fun _ _ _ h => h) (Or.inl ⟨by rfl, ?_⟩) ?_ ?_
       rotate_left
       ·intro w'
        go_simp
        with_reducible rfl
       rotate_left
       ·simp only [ps]
        rfl
       refine pure_ (i := 6) (N := some 41) (v := ?_) (a' := ?_) #[true, true, true, true, true, true, true, false, false, false, false, false, false, false, false, false] rfl rfl (any_of HT_.out (by kernel_rfl)) (fun _ _ _ h => h) (Or.inl ⟨by rfl, ?_⟩) ?_ ?_
       rotate_left
       ·intro w'
        go_simp
        with_reducible rfl
       rotate_left
       ·simp only [ps]
        rfl
       refine pure_ (i := 7) (N := some 42) (v := ?_) (a' := ?_) #[true, true, true, true, true, true, true, true, false, false, false, false, false, false, false, false] rfl rfl (any_of HT_.out (by kernel_rfl)) (fun _ _ _ h => h) (Or.inl ⟨by rfl, ?_⟩) ?_ ?_
       rotate_left
       ·intro w'
        go_simp
        with_reducible rfl
       rotate_left
       ·simp only [ps]
        rfl
       refine pure_ (i := 8) (N := some 43) (v := ?_) (a' := ?_) #[true, true, true, true, true, true, true, true, true, false, false, false, false, false, false, false] rfl rfl (any_of HT_.out (by kernel_rfl)) (fun _ _ _ h => h) (Or.inl ⟨by rfl, ?_⟩) ?_ ?_
       rotate_left
       ·intro w'
        go_simp
        with_reducible rfl
       rotate_left
       ·simp only [ps]
        rfl
       refine take_ (i := 9) (N := some 44) (v := ?_) (a' := ?_) #[true, true, true, true, true, true, true, true, true, true, false, false, false, false, false, false] rfl rfl (take_ofW HT_.out HW_.out (by kernel_rfl)) (fun _ _ _ h => h) (Or.inl ⟨by rfl, ?_⟩) hHeld ?_ ?_
       rotate_left
       ·rintro w' ⟨s0, s1, s2, s3, s4, s5, s6, s7, s8, s9⟩
        go_simp
        with_reducible rfl
       rotate_left
       ·simp only [ps]
        rfl
       refine take_ (i := 10) (N := some 45) (v := ?_) (a' := ?_) #[true, true, true, true, true, true, true, true, true, true, true, false, false, false, false, false] rfl rfl (take_ofW HT_.out HW_.out (by kernel_rfl)) (fun _ _ _ h => h) (Or.inl ⟨by rfl, ?_⟩) hHeld ?_ ?_
       rotate_left
       ·rintro w' ⟨s0, s1, s2, s3, s4, s5, s6, s7, s8, s9⟩
        go_simp
        with_reducible rfl
       rotate_left
       ·simp only [ps]
        rfl
       refine one_ (i := 11) (N := some 46) #[true, true, true, true, true, true, true, true, true, true, true, true, false, false, false, false] rfl rfl (one_of HT_.out (by kernel_rfl)) (by decide) (fun K hK => ?_)
       refine goesv_ Try.func53 (by kernel_rfl) rfl #[.agg #[.slice A121_0 ((rd_T41 l0 x9_1).f0).length c121_0, .int .i64 ((rd_T41 l0 x9_1).f1), .slice A121_2 ((rd_T41 l0 x9_1).f2).length c121_2, .slice A121_3 ((rd_T41 l0 x9_1).f3).length c121_3, .slice A121_4 ((rd_T41 l0 x9_1).f4).length c121_4], .agg #[.slice A1_0 l1_0.length c1_0, .int .i64 a1_1, .slice A1_2 l1_2.length c1_2, .slice A1_3 l1_3.length c1_3, .slice A1_4 l1_4.length c1_4]] (by rfl) rfl rfl (by (try simp only [List.map_toArray, List.map_cons, List.map_nil]); first | done | rfl | (simp only [List.length_drop, List.length_take]; rfl)) ?_
       with_reducible refine (cell_Group_1.calls k1 _ _ ((rd_T41 l0 x9_1).f0) ((rd_T41 l0 x9_1).f1) _ _ ((rd_T41 l0 x9_1).f2) _ _ ((rd_T41 l0 x9_1).f3) _ _ ((rd_T41 l0 x9_1).f4) _ _ l1_0 a1_1 _ _ l1_2 _ _ l1_3 _ _ l1_4 t122 _ ?side1 ?side2 ?side3 ?side4 ?side5 ?side6 ?side7 ?side8 ?side9 ?side10 ?side11 ?side12 ?side13 ?side14 ?side15 ?side16 A17.out).mono ?_
       (case side1 => exact Kd.Cw HR121_0.out HB.out)
       (case side2 => exact HC121_0.out)
       (case side3 => exact Kd.Cw HR121_2.out HB.out)
       (case side4 => exact HC121_2.out)
       (case side5 => exact Kd.Cw HR121_3.out HB.out)
       (case side6 => exact HC121_3.out)
       (case side7 => exact Kd.Cw HR121_4.out HB.out)
       (case side8 => exact HC121_4.out)
       (case side9 => exact Kd.Cw HR1_0.out HB.out)
       (case side10 => exact HC1_0.out)
       (case side11 => exact Kd.Cw HR1_2.out HB.out)
       (case side12 => exact HC1_2.out)
       (case side13 => exact Kd.Cw HR1_3.out HB.out)
       (case side14 => exact HC1_3.out)
       (case side15 => exact Kd.Cw HR1_4.out HB.out)
       (case side16 => exact HC1_4.out)
       rintro e w19 ⟨rfl, hb⟩
       refine ⟨_, rfl, ?_⟩
       have n0_ := Aside0.mk (blk_below (bmv BK118.out) hb)
       have n1_ := Aside0.mk (below_step (wmv HB.out) hb)
       clear BK118 HB
       revert n0_ n1_
       intro BK118 HB
       (try clear hb)
       (try clear hb2)
       (try clear hk)
       (try clear hi)
       refine hK.out _ _ ⟨(blk_cell BK118.out 0).trans rfl, (blk_cell BK118.out 1).trans rfl, (blk_cell BK118.out 2).trans rfl, (blk_cell BK118.out 3).trans rfl, (blk_cell BK118.out 4).trans rfl, ((HB.out.cell (World.block_lt_of_cell? w _ hw121_0)).trans hw121_0), ((HB.out.cell (World.block_lt_of_cell? w _ hw121_1)).trans hw121_1), ((HB.out.cell (World.block_lt_of_cell? w _ hw121_2)).trans hw121_2), ((HB.out.cell (World.block_lt_of_cell? w _ hw121_3)).trans hw121_3), ((HB.out.cell (World.block_lt_of_cell? w _ hw121_4)).trans hw121_4)⟩ (fun hHeld => ?_)
       clear hK K
       refine norm_ (a' := ?_) ?_ ?_
       rotate_left
       ·show Act.put _ (some 46) _ = _
        simp only [ps]
        rfl
       refine pure_ (i := 12) (N := some 47) (v := ?_) (a' := ?_) #[true, true, true, true, true, true, true, true, true, true, true, true, true, false, false, false] rfl rfl (any_of HT_.out (by kernel_rfl)) (fun _ _ _ h => h) (Or.inl ⟨by rfl, ?_⟩) ?_ ?_
       rotate_left
       ·intro w'
        go_simp
        with_reducible rfl
       rotate_left
       ·simp only [ps]
        rfl
       refine pure_ (i := 13) (N := some 48) (v := ?_) (a' := ?_) #[true, true, true, true, true, true, true, true, true, true, true, true, true, true, false, false] rfl rfl (any_of HT_.out (by kernel_rfl)) (fun _ _ _ h => h) (Or.inl ⟨by rfl, ?_⟩) ?_ ?_
       rotate_left
       ·intro w'
        go_simp
        with_reducible rfl
       rotate_left
       ·simp only [ps]
        rfl
       refine pure_ (i := 14) (N := some 6) (v := ?_) (a' := ?_) #[true, true, true, true, true, true, true, true, true, true, true, true, true, true, true, false] rfl rfl (any_of HT_.out (by kernel_rfl)) (fun _ _ _ h => h) (Or.inl ⟨by rfl, ?_⟩) ?_ ?_
       rotate_left
       ·intro w'
        go_simp
        with_reducible rfl
       rotate_left
       ·simp only [ps]
        rfl
       refine pure_ (i := 15) (N := some 7) (v := ?_) (a' := ?_) #[true, true, true, true, true, true, true, true, true, true, true, true, true, true, true, true] rfl rfl (any_of HT_.out (by kernel_rfl)) (fun _ _ _ h => h) (Or.inl ⟨by rfl, ?_⟩) ?_ ?_
       rotate_left
       ·intro w'
        go_simp
        with_reducible rfl
       rotate_left
       ·simp only [ps]
        rfl
       refine done_ (done_of HT_.out (by kernel_rfl)) ?_
       try go_wp2
       go_ret2
       exact ⟨by first | rfl | (simp [errW_none, errW_some] <;> rfl) | (simp [*, errW_none, errW_some] <;> rfl), by repeat (first | (with_reducible first | exact HB.out | apply below_alloc | apply pw_below_drewN | apply below_drew1 | refine below_set ?_ GE118.out) | exact HB.out)⟩
      ·rw [if_neg c16] at H
       exact absurd H (by simp)
     ·rw [if_neg c15] at H
      exact absurd H (by simp)
    ·rw [if_neg c14] at H
     have c14b0 : decide (x9_1 < (l0.length : Int)) = false := decide_eq_false c14
     clear c14
     simp only [Option.some.injEq, Prod.mk.injEq] at H
     obtain ⟨rfl, rfl⟩ := H
     try go_wp2
     have n0_ := Aside0.mk (blk_drew BK118.out)
     have n1_ := Aside0.mk (below_drew1 HB.out)
     clear BK118 HB
     revert n0_ n1_
     intro BK118 HB
     refine start_ (n := 16) (S := fun w' => True) (ds := []) #[false, false, false, false, false, false, false, false, false, false, false, false, false, false, false, false] (by kernel_rfl) rfl rfl trivial (fun hHeld => ?_); refine with_tabW bsf_G1.tab8 bsf_G1.bits8 (fun HT_ HW_ => ?_)
     generalize wr.drew = w20 at BK118 HB hHeld ⊢
     refine pure_ (i := 0) (N := some 35) (v := ?_) (a' := ?_) #[true, false, false, false, false, false, false, false, false, false, false, false, false, false, false, false] rfl rfl (any_of HT_.out (by kernel_rfl)) (fun _ _ _ h => h) (Or.inl ⟨by rfl, ?_⟩) ?_ ?_
     rotate_left
     ·intro w'
      go_simp
      with_reducible rfl
     rotate_left
     ·simp only [ps]
      rfl
     refine pure_ (i := 1) (N := some 36) (v := ?_) (a' := ?_) #[true, true, false, false, false, false, false, false, false, false, false, false, false, false, false, false] rfl rfl (any_of HT_.out (by kernel_rfl)) (fun _ _ _ h => h) (Or.inl ⟨by rfl, ?_⟩) ?_ ?_
     rotate_left
     ·intro w'
      go_simp
      with_reducible rfl
     rotate_left
     ·simp only [ps]
      rfl
     refine pure_ (i := 2) (N := some 37) (v := ?_) (a' := ?_) #[true, true, true, false, false, false, false, false, false, false, false, false, false, false, false, false] rfl rfl (any_of HT_.out (by kernel_rfl)) (fun _ _ _ h => h) (Or.inl ⟨by rfl, ?_⟩) ?_ ?_
     rotate_left
     ·intro w'
      go_simp
      with_reducible rfl
     rotate_left
     ·simp only [ps]
      rfl
     refine pure_ (i := 3) (N := some 38) (v := ?_) (a' := ?_) #[true, true, true, true, false, false, false, false, false, false, false, false, false, false, false, false] rfl rfl (any_of HT_.out (by kernel_rfl)) (fun _ _ _ h => h) (Or.inl ⟨by rfl, ?_⟩) ?_ ?_
     rotate_left
     ·intro w'
      go_simp
      with_reducible rfl
     rotate_left
     ·simp only [ps]
      rfl
     refine pure_ (i := 4) (N := some 39) (v := ?_) (a' := ?_) #[true, true, true, true, true, false, false, false, false, false, false, false, false, false, false, false] rfl rfl (any_of HT_.out (by kernel_rfl)) (fun _ _ _ h => h) (Or.inl ⟨by rfl, ?_⟩) ?_ ?_
     rotate_left
     ·intro w'
      go_simp
      with_reducible rfl
     rotate_left
     ·simp only [ps]
      rfl
     refine pure_ (i := 5) (N := some 40) (v := undef) (a' := ?_) #[true, true, true, true, true, true, false, false, false, false, false, false, false, false, false, false] rfl rfl (any_of HT_.out (by kernel_rfl)) (fun _ _ _ h => h) (Or.inr ⟨by rfl, rfl⟩) ?_ ?_
     rotate_left
     ·simp only [ps]
      rfl
     refine pure_ (i := 6) (N := some 41) (v := undef) (a' := ?_) #[true, true, true, true, true, true, true, false, false, false, false, false, false, false, false, false] rfl rfl (any_of HT_.out (by kernel_rfl)) (fun _ _ _ h => h) (Or.inr ⟨by rfl, rfl⟩) ?_ ?_
     rotate_left
     ·simp only [ps]
      rfl
     refine pure_ (i := 7) (N := some 42) (v := undef) (a' := ?_) #[true, true, true, true, true, true, true, true, false, false, false, false, false, false, false, false] rfl rfl (any_of HT_.out (by kernel_rfl)) (fun _ _ _ h => h) (Or.inr ⟨by rfl, rfl⟩) ?_ ?_
     rotate_left
     ·simp only [ps]
      rfl
     refine pure_ (i := 8) (N := some 43) (v := undef) (a' := ?_) #[true, true, true, true, true, true, true, true, true, false, false, false, false, false, false, false] rfl rfl (any_of HT_.out (by kernel_rfl)) (fun _ _ _ h => h) (Or.inr ⟨by rfl, rfl⟩) ?_ ?_
     rotate_left
     ·simp only [ps]
      rfl
     refine pure_ (i := 9) (N := some 44) (v := undef) (a' := ?_) #[true, true, true, true, true, true, true, true, true, true, false, false, false, false, false, false] rfl rfl (any_of HT_.out (by kernel_rfl)) (fun _ _ _ h => h) (Or.inr ⟨by rfl, rfl⟩) ?_ ?_
     rotate_left
     ·simp only [ps]
      rfl
     refine pure_ (i := 10) (N := some 45) (v := undef) (a' := ?_) #[true, true, true, true, true, true, true, true, true, true, true, false, false, false, false, false] rfl rfl (any_of HT_.out (by kernel_rfl)) (fun _ _ _ h => h) (Or.inr ⟨by rfl, rfl⟩) ?_ ?_
     rotate_left
     ·simp only [ps]
      rfl
     refine pure_ (i := 11) (N := some 46) (v := undef) (a' := ?_) #[true, true, true, true, true, true, true, true, true, true, true, true, false, false, false, false] rfl rfl (any_of HT_.out (by kernel_rfl)) (fun _ _ _ h => h) (Or.inr ⟨by rfl, rfl⟩) ?_ ?_
     rotate_left
     ·simp only [ps]
      rfl
     refine pure_ (i := 12) (N := some 47) (v := undef) (a' := ?_) #[true, true, true, true, true, true, true, true, true, true, true, true, true, false, false, false] rfl rfl (any_of HT_.out (by kernel_rfl)) (fun _ _ _ h => h) (Or.inr ⟨by rfl, rfl⟩) ?_ ?_
     rotate_left
     ·simp only [ps]
      rfl
     refine pure_ (i := 13) (N := some 48) (v := ?_) (a' := ?_) #[true, true, true, true, true, true, true, true, true, true, true, true, true, true, false, false] rfl rfl (any_of HT_.out (by kernel_rfl)) (fun _ _ _ h => h) (Or.inl ⟨by rfl, ?_⟩) ?_ ?_
     rotate_left
     ·intro w'
      go_simp
      with_reducible rfl
     rotate_left
     ·simp only [ps]
      rfl
     refine pure_ (i := 14) (N := some 6) (v := ?_) (a' := ?_) #[true, true, true, true, true, true, true, true, true, true, true, true, true, true, true, false] rfl rfl (any_of HT_.out (by kernel_rfl)) (fun _ _ _ h => h) (Or.inl ⟨by rfl, ?_⟩) ?_ ?_
     rotate_left
     ·intro w'
      go_simp
      with_reducible rfl
     rotate_left
     ·simp only [ps]
      rfl
     refine pure_ (i := 15) (N := some 7) (v := ?_) (a' := ?_) #[true, true, true, true, true, true, true, true, true, true, true, true, true, true, true, true] rfl rfl (any_of HT_.out (by kernel_rfl)) (fun _ _ _ h => h) (Or.inl ⟨by rfl, ?_⟩) ?_ ?_
     rotate_left
     ·intro w'
      go_simp
      with_reducible rfl
     rotate_left
     ·simp only [ps]
      rfl
     refine done_ (done_of HT_.out (by kernel_rfl)) ?_
     try go_wp2
     go_ret2
     exact ⟨by first | rfl | (simp [errW_none, errW_some] <;> rfl) | (simp [*, errW_none, errW_some] <;> rfl), by repeat (first | (with_reducible first | exact HB.out | apply below_alloc | apply pw_below_drewN | apply below_drew1 | refine below_set ?_ GE118.out) | exact HB.out)⟩
end Go.Proofs.Ytmnepkbmcnpjlaa.Q
namespace Go.Proofs.Ytmnepkbmcnpjlaa.Q
open Go.RowKit Go.Proofs.YtmnepkbmcnpjlaaW.PrintWords Go.Proofs.YtmnepkbmcnpjlaaW.PrintLast Go.Proofs.YtmnepkbmcnpjlaaW.PrintMore
set_option linter.unusedVariables false
set_option linter.unusedSimpArgs false
theorem w64 {x : Int} (h0 : -9223372036854775808 ≤ x) (h1 : x ≤ 9223372036854775807) : wrap64 x = x := by unfold wrap64; omega
theorem w64s {i n : Nat} (h : i < n) (hn : n ≤ 4611686018427387904) : wrap64 ((i : Int) + 1) = ((i + 1 : Nat) : Int) := by unfold wrap64; omega
theorem within2_eq (a n : Int) (h0 : 0 < n) (h1 : n ≤ 4611686018427387904) : hypercubelaw2_within.f a n = some (a % n) := by
 unfold hypercubelaw2_within.f
 rw [if_neg (by omega)]
 have hb := Int.emod_nonneg a (show n ≠ 0 by omega)
 have hl := Int.emod_lt_of_pos a h0
 by_cases ha : 0 ≤ a
 ·rw [Int.tmod_eq_emod_of_nonneg ha, if_neg (by omega)]
 ·have ht : Int.tmod a n = if a % n = 0 then 0 else a % n - n := by
   rw [Int.tmod_eq_emod]
   split
   ·rename_i h
    rcases h with h | h
    ·omega
    ·rw [Int.emod_eq_zero_of_dvd h]; simp
   ·rename_i h
    have : a % n ≠ 0 := fun e => h (.inr (Int.dvd_of_emod_eq_zero e))
    rw [if_neg this, Int.natAbs_of_nonneg (by omega)]
  by_cases hz : a % n = 0
  ·rw [ht, if_pos hz, if_neg (by omega), hz]
  ·rw [ht, if_neg hz, if_pos (by omega)]
   congr 1
   rw [w64 (by omega) (by omega)]
   omega
theorem rd_get {l : List Int} {i : Nat} (h : i < l.length) : rd l (i : Int) = l[i] := by simp [rd, List.getD_eq_getElem?_getD, h]
theorem drop_cons {α : Type} {l : List α} {i : Nat} (h : i < l.length) : l.drop i = l[i] :: l.drop (i + 1) := List.drop_eq_getElem_cons h
theorem dec_cons_eq {α : Type} [DecidableEq α] {x y : α} (l l' : List α) (h : x = y) : decide (x :: l = y :: l') = decide (l = l') := by subst h; simp
theorem dec_cons_ne {α : Type} [DecidableEq α] {x y : α} (l l' : List α) (h : ¬ x = y) : decide (x :: l = y :: l') = false := by simp [h]
theorem ints_l0 (a b : List Int) (hl : a.length = b.length) (hn : a.length ≤ 4611686018427387904) (d : Nat) : ∀ i : Nat, a.length - i = d → i ≤ a.length →
  Ev (fun k => hypercuberef1_Ints.l0 k a b (i : Int)) (decide (a.drop i = b.drop i)) := by
 induction d with
 | zero =>
  intro i hd hi
  have e1 : a.drop i = [] := List.drop_eq_nil_of_le (by omega)
  have e2 : b.drop i = [] := List.drop_eq_nil_of_le (by omega)
  rw [e1, e2]
  exact Ev.step (fun k => by simp only [hypercuberef1_Ints.l0]; rw [if_neg (by omega)]; rfl) (Ev.now _)
 | succ d ih =>
  intro i hd hi
  have ha : i < a.length := by omega
  have hb : i < b.length := by omega
  rw [drop_cons ha, drop_cons hb]
  by_cases he : a[i] = b[i]
  ·rw [dec_cons_eq _ _ he]
   exact Ev.step (fun k => by simp only [hypercuberef1_Ints.l0]; rw [if_pos (by omega), if_pos (by omega), if_pos (by omega), rd_get ha, rd_get hb, if_pos he, w64s ha hn]) (ih (i + 1) (by omega) (by omega))
  ·rw [dec_cons_ne _ _ he]
   exact Ev.step (fun k => by simp only [hypercuberef1_Ints.l0]; rw [if_pos (by omega), if_pos (by omega), if_pos (by omega), rd_get ha, rd_get hb, if_neg he]) (Ev.now _)
theorem ints_ev (a b : List Int) (hn : a.length ≤ 4611686018427387904) : Ev (fun k => hypercuberef1_Ints.f k a b) (decide (a = b)) := by
 by_cases hl : a.length = b.length
 ·have h := ints_l0 a b hl hn a.length 0 (by omega) (by omega)
  simp only [List.drop_zero] at h
  exact Ev.congr (fun k => by unfold hypercuberef1_Ints.f; rw [if_pos (by omega)]; rfl) h
 ·have : decide (a = b) = false := by
   rw [decide_eq_false_iff_not]; intro e; exact hl (by rw [e])
  rw [this]
  exact Ev.congr (fun k => by unfold hypercuberef1_Ints.f; rw [if_neg (by omega)]) (Ev.now _)
def lexC : List Int → List Int → Int
 | [], [] => 0
 | [], _ :: _ => -1
 | _ :: _, [] => 1
 | x :: xs, y :: ys => if x < y then -1 else if x > y then 1 else lexC xs ys
theorem lexC_nil_right (a : List Int) (h : a ≠ []) : lexC a [] = 1 := by cases a with
 | nil => exact absurd rfl h
 | cons => rfl
theorem lexC_nil_left (a : List Int) (h : a ≠ []) : lexC [] a = -1 := by cases a with
 | nil => exact absurd rfl h
 | cons => rfl
theorem lexC_swap : ∀ a b : List Int, lexC b a = 0 - lexC a b
 | [], [] => rfl
 | [], _ :: _ => rfl
 | _ :: _, [] => rfl
 | x :: xs, y :: ys => by
  have ih := lexC_swap xs ys
  unfold lexC
  repeat' split
  all_goals omega
theorem lexC_zero : ∀ a b : List Int, lexC a b = 0 ↔ a = b
 | [], [] => by simp [lexC]
 | [], _ :: _ => by simp [lexC]
 | _ :: _, [] => by simp [lexC]
 | x :: xs, y :: ys => by
  unfold lexC
  by_cases h1 : x < y
  ·rw [if_pos h1]; simp; omega
  ·by_cases h2 : x > y
   ·rw [if_neg h1, if_pos h2]; simp; omega
   ·rw [if_neg h1, if_neg h2]
    have : x = y := by omega
    subst this
    simp [lexC_zero xs ys]
theorem lexC_trans : ∀ a b c : List Int, lexC a b ≤ 0 → lexC b c ≤ 0 → lexC a c ≤ 0
 | [], _, [] => by simp [lexC]
 | [], _, _ :: _ => by simp [lexC]
 | _ :: _, [], _ => by simp [lexC]
 | _ :: _, _ :: _, [] => by simp [lexC]
 | x :: xs, y :: ys, z :: zs => by
  intro h1 h2
  unfold lexC at h1 h2 ⊢
  have ih := lexC_trans xs ys zs
  by_cases a1 : x < y
  ·by_cases a2 : y < z
   ·rw [if_pos (by omega)]; omega
   ·rw [if_neg a2] at h2
    by_cases a3 : y > z
    ·rw [if_pos a3] at h2; omega
    ·rw [if_pos (by omega)]; omega
  ·rw [if_neg a1] at h1
   by_cases a3 : x > y
   ·rw [if_pos a3] at h1; omega
   ·rw [if_neg a3] at h1
    by_cases a2 : y < z
    ·rw [if_pos (by omega)]; omega
    ·rw [if_neg a2] at h2
     by_cases a4 : y > z
     ·rw [if_pos a4] at h2; omega
     ·rw [if_neg a4] at h2
      rw [if_neg (by omega), if_neg (by omega)]
      exact ih h1 h2
theorem compare_eq (x y : Int) : cmp_Compare_int.f x y = some (if x < y then -1 else if x > y then 1 else 0) := by
 unfold cmp_Compare_int.f cmp_isNaN_int.f
 simp
 by_cases h1 : x < y
 ·simp [h1]
 ·by_cases h2 : y < x
  ·simp [h1, h2]
  ·simp [h1, h2]
theorem less_l0 (a b : List Int) (hn : a.length ≤ 4611686018427387904) (d : Nat) : ∀ i : Nat, a.length - i = d → i ≤ a.length → (i ≤ b.length) →
  Ev (fun k => slices_Compare_int_int.l0 k a b a (a.length : Int) (i : Int)) (lexC (a.drop i) (b.drop i)) := by
 induction d with
 | zero =>
  intro i hd hi hib
  have e1 : a.drop i = [] := List.drop_eq_nil_of_le (by omega)
  rw [e1]
  by_cases hb : i < b.length
  ·rw [lexC_nil_left _ (by rw [drop_cons hb]; exact List.cons_ne_nil _ _)]
   exact Ev.step (fun k => by simp only [slices_Compare_int_int.l0]; rw [if_neg (by omega), if_pos (by omega)]) (Ev.now _)
  ·have e2 : b.drop i = [] := List.drop_eq_nil_of_le (by omega)
   rw [e2]
   exact Ev.step (fun k => by simp only [slices_Compare_int_int.l0]; rw [if_neg (by omega), if_neg (by omega)]; rfl) (Ev.now _)
 | succ d ih =>
  intro i hd hi hib
  have ha : i < a.length := by omega
  by_cases hb : i < b.length
  ·rw [drop_cons ha, drop_cons hb]
   have h1 : ∀ k, slices_Compare_int_int.l0 (k + 1) a b a (a.length : Int) (i : Int) = (if (if a[i] < b[i] then (-1 : Int) else if a[i] > b[i] then 1 else 0) = 0 then slices_Compare_int_int.l0 k a b a (a.length : Int) ((i + 1 : Nat) : Int) else some (if a[i] < b[i] then (-1 : Int) else if a[i] > b[i] then 1 else 0)) := fun k => by
    simp only [slices_Compare_int_int.l0]
    rw [if_pos (by omega), if_pos (by omega), if_pos (by omega), if_neg (by omega), if_pos (by omega), rd_get ha, rd_get hb, compare_eq, Option.bind_some, w64s ha hn]
   unfold lexC
   by_cases c1 : a[i] < b[i]
   ·rw [if_pos c1]
    exact Ev.step (fun k => by rw [h1, if_pos c1, if_neg (by omega)]) (Ev.now _)
   ·by_cases c2 : a[i] > b[i]
    ·rw [if_neg c1, if_pos c2]
     exact Ev.step (fun k => by rw [h1, if_neg c1, if_pos c2, if_neg (by omega)]) (Ev.now _)
    ·rw [if_neg c1, if_neg c2]
     exact Ev.step (fun k => by rw [h1, if_neg c1, if_neg c2, if_pos rfl]) (ih (i + 1) (by omega) (by omega) (by omega))
  ·have e2 : b.drop i = [] := List.drop_eq_nil_of_le (by omega)
   rw [e2, lexC_nil_right _ (by rw [drop_cons ha]; exact List.cons_ne_nil _ _)]
   exact Ev.step (fun k => by simp only [slices_Compare_int_int.l0]; rw [if_pos (by omega), if_pos (by omega), if_pos (by omega), if_pos (by omega)]) (Ev.now _)
theorem cell_less_ev (a b : List Int) (hn : a.length ≤ 4611686018427387904) : Ev (fun k => cell_Less.f k a b) (lexC a b) := by
 have h := less_l0 a b hn a.length 0 (by omega) (by omega) (by omega)
 simp only [List.drop_zero] at h
 have h2 : Ev (fun k => slices_Compare_int_int.f k a b) (lexC a b) := Ev.congr (fun k => by unfold slices_Compare_int_int.f; rfl) h
 exact Ev.congr (fun k => by unfold cell_Less.f; rfl) (Ev.bind h2 (Ev.now _))
theorem ref_less_l0 (a b : List Int) (hn : a.length ≤ 4611686018427387904) (d : Nat) : ∀ i : Nat, a.length - i = d → i ≤ a.length → i ≤ b.length →
  Ev (fun k => hypercuberef2_Less.l0 k a b (i : Int)) (lexC (a.drop i) (b.drop i)) := by
 have hend : ∀ i : Nat, i ≤ a.length → i ≤ b.length → ¬ (i < a.length ∧ i < b.length) → Ev (fun k => hypercuberef2_Less.j1 k a b (i : Int) false) (lexC (a.drop i) (b.drop i)) := by
  intro i hi hib hno
  by_cases ha : i < a.length
  ·have hb : b.drop i = [] := List.drop_eq_nil_of_le (by omega)
   rw [hb, lexC_nil_right _ (by rw [drop_cons ha]; exact List.cons_ne_nil _ _)]
   exact Ev.step (fun k => by simp only [hypercuberef2_Less.j1]; rw [if_neg (by simp), if_neg (by omega), if_pos (by omega)]) (Ev.now _)
  ·have ha' : a.drop i = [] := List.drop_eq_nil_of_le (by omega)
   rw [ha']
   by_cases hb : i < b.length
   ·rw [lexC_nil_left _ (by rw [drop_cons hb]; exact List.cons_ne_nil _ _)]
    exact Ev.step (fun k => by simp only [hypercuberef2_Less.j1]; rw [if_neg (by simp), if_pos (by omega)]) (Ev.now _)
   ·have hb' : b.drop i = [] := List.drop_eq_nil_of_le (by omega)
    rw [hb']
    exact Ev.step (fun k => by simp only [hypercuberef2_Less.j1]; rw [if_neg (by simp), if_neg (by omega), if_neg (by omega)]; rfl) (Ev.now _)
 induction d with
 | zero =>
  intro i hd hi hib
  exact Ev.step (fun k => by simp only [hypercuberef2_Less.l0]; rw [if_neg (by omega)]) (hend i hi hib (by omega))
 | succ d ih =>
  intro i hd hi hib
  have ha : i < a.length := by omega
  by_cases hb : i < b.length
  ·rw [drop_cons ha, drop_cons hb]
   refine Ev.step (f := fun k => hypercuberef2_Less.j1 k a b (i : Int) true) (fun k => by simp only [hypercuberef2_Less.l0]; rw [if_pos (by omega), show decide ((i : Int) < (b.length : Int)) = true from decide_eq_true (by omega)]) ?_
   have h1 : ∀ k, hypercuberef2_Less.j1 (k + 1) a b (i : Int) true = (if a[i] < b[i] then some (-1) else if a[i] > b[i] then some 1 else hypercuberef2_Less.l0 k a b ((i + 1 : Nat) : Int)) := fun k => by
    simp only [hypercuberef2_Less.j1]
    rw [if_pos trivial, if_pos (by omega), if_pos (by omega), if_pos (by omega), rd_get ha, rd_get hb, w64s ha hn]
   unfold lexC
   by_cases c1 : a[i] < b[i]
   ·rw [if_pos c1]
    exact Ev.step (fun k => by rw [h1, if_pos c1]) (Ev.now _)
   ·by_cases c2 : a[i] > b[i]
    ·rw [if_neg c1, if_pos c2]
     exact Ev.step (fun k => by rw [h1, if_neg c1, if_pos c2]) (Ev.now _)
    ·rw [if_neg c1, if_neg c2]
     exact Ev.step (fun k => by rw [h1, if_neg c1, if_neg c2]) (ih (i + 1) (by omega) (by omega) (by omega))
  ·exact Ev.step (fun k => by simp only [hypercuberef2_Less.l0]; rw [if_pos (by omega), show decide ((i : Int) < (b.length : Int)) = false from decide_eq_false (by omega)]) (hend i hi hib (by omega))
theorem ref_less_ev (a b : List Int) (hn : a.length ≤ 4611686018427387904) : Ev (fun k => hypercuberef2_Less.f k a b) (lexC a b) := by
 have h := ref_less_l0 a b hn a.length 0 (by omega) (by omega) (by omega)
 simp only [List.drop_zero] at h
 exact Ev.congr (fun k => by unfold hypercuberef2_Less.f; rfl) h
end Go.Proofs.Ytmnepkbmcnpjlaa.Q
namespace Go.Proofs.Ytmnepkbmcnpjlaa.Q
open Go.RowKit Go.Proofs.YtmnepkbmcnpjlaaW.PrintWords Go.Proofs.YtmnepkbmcnpjlaaW.PrintLast Go.Proofs.YtmnepkbmcnpjlaaW.PrintMore
set_option linter.unusedVariables false
set_option linter.unusedSimpArgs false
theorem getD_ft {l : Array Bool} {j : Nat} (h : l.getD j false = true) : l.getD j true = true := by
 simp only [Array.getD_eq_getD_getElem?] at h ⊢
 cases e : l[j]? with
 | none => rw [e] at h; cases h
 | some b => rw [e] at h; exact h
theorem ready_at {md : Region.Mode} {ops : Array Oper} {l : Array Bool} {i : Nat} (h : i ∈ Region.ready md ops l) :
  i < ops.size ∧ l.getD i true = false ∧ ∀ o, ops[i]? = some o → ∀ e ∈ o.after, Region.binds md e = true → l.getD e.on true = true := by
 unfold Region.ready at h
 rw [List.mem_filter, List.mem_range] at h
 obtain ⟨h1, h2⟩ := h
 rw [Bool.and_eq_true] at h2
 refine ⟨h1, by simpa using h2.1, fun o ho e he hb => ?_⟩
 have h3 := h2.2
 rw [ho] at h3
 simp only [Option.map_some, Option.getD_some] at h3
 obtain ⟨j, hj, rfl⟩ := Array.mem_iff_getElem.1 he
 have := (Array.all_eq_true.1 h3) j hj
 rw [Bool.or_eq_true] at this
 rcases this with h | h
 ·rw [hb] at h; cases h
 ·exact getD_ft h
theorem getD_set {l : Array Bool} {i j : Nat} {d : Bool} (hi : i < l.size) : (l.setIfInBounds i true).getD j d = if i = j then true else l.getD j d := by
 simp only [Array.getD_eq_getD_getElem?, Array.getElem?_setIfInBounds]
 by_cases h : i = j
 ·subst h; simp [hi]
 ·simp [h]
theorem count_set_lt {l : Array Bool} {i : Nat} (h : l.getD i true = false) : ((l.setIfInBounds i true).toList.count false) + 1 = l.toList.count false := by
 have hi : i < l.size := by
  rcases Nat.lt_or_ge i l.size with h1 | h1
  ·exact h1
  ·simp [Array.getD_eq_getD_getElem?, Array.getElem?_eq_none h1] at h
 have hl : l.toList[i]'(by simpa using hi) = false := by
  simp [Array.getD_eq_getD_getElem?, hi] at h
  simpa using h
 have hpos : 0 < l.toList.count false := List.count_pos_iff.2 (hl ▸ List.getElem_mem _)
 have e := List.count_set (a := true) (b := false) (l := l.toList) (i := i) (by simpa using hi)
 rw [hl] at e
 have e1 : ((false == false) = true) := rfl
 have e2 : ¬ ((true == false) = true) := by decide
 rw [if_pos e1, if_neg e2] at e
 rw [Array.toList_setIfInBounds, e]
 omega
section
variable {P : Program} {md : Region.Mode} {ops : Array Oper} {Q : Exit → Act → World → Prop} {S : World → Prop} {ds : List Nat}
theorem anyLast_inv (Inv : Array Bool → Act → World → Prop)
  (hstep : ∀ l a w i, Inv l a w → i ∈ Region.ready md ops l → wpOp P ops Q i (fun a' w' => (i ∉ ds → S w → S w') ∧ Inv (l.setIfInBounds i true) a' w') a w)
  (hend : ∀ l a w, Inv l a w → Region.ready md ops l = [] → Q .normal a w) :
  ∀ (fuel : Nat) (l : Array Bool) (a : Act) (w : World), l.toList.count false ≤ fuel → Inv l a w → wpAnyLast P md ops Q S ds fuel l a w
 | 0, l, a, w, hc, h => by
  have hr : Region.ready md ops l = [] := by
   cases hr : Region.ready md ops l with
   | nil => rfl
   | cons i rs =>
    have hi := (ready_at (md := md) (ops := ops) (l := l) (i := i) (by rw [hr]; simp)).2.1
    have := count_set_lt hi
    omega
  exact ⟨hr, hend l a w h hr⟩
 | n + 1, l, a, w, hc, h => ⟨hend l a w h, fun i hi => wpOp_mono (fun a' w' hh => ⟨hh.1, anyLast_inv Inv hstep hend n _ a' w' (by have := count_set_lt (ready_at hi).2.1; omega) hh.2⟩) (hstep l a w i h hi)⟩
theorem none_left {l : Array Bool} (hsz : l.size = ops.size) (hlow : ∀ (i : Nat) (o : Oper), ops[i]? = some o → ∀ e ∈ o.after, e.on < i) (hr : Region.ready md ops l = []) : ∀ i, i < ops.size → l.getD i true = true := by
 intro i
 induction i using Nat.strongRecOn with
 | ind i ih =>
  intro hi
  by_cases hl : l.getD i true = true
  ·exact hl
  ·exfalso
   have hm : i ∈ Region.ready md ops l := by
    unfold Region.ready
    rw [List.mem_filter, List.mem_range]
    refine ⟨hi, ?_⟩
    rw [Bool.and_eq_true]
    refine ⟨by simpa using hl, ?_⟩
    rw [Array.getElem?_eq_getElem hi]
    simp only [Option.map_some, Option.getD_some]
    rw [Array.all_eq_true]
    intro j hj
    have hlt := hlow i _ (Array.getElem?_eq_getElem hi) _ (Array.getElem_mem hj)
    have := ih _ hlt (by omega)
    rw [Bool.or_eq_true]
    right
    simp only [Array.getD_eq_getD_getElem?] at this ⊢
    rw [Array.getElem?_eq_getElem (by omega)] at this ⊢
    simpa using this
   rw [hr] at hm
   cases hm
def lowB (ops : Array Oper) : Bool := ops.toList.zipIdx.all fun p => p.1.after.toList.all fun e => decide (e.on < p.2)
theorem low_of {ops : Array Oper} (h : lowB ops = true) : ∀ (i : Nat) (o : Oper), ops[i]? = some o → ∀ e ∈ o.after, e.on < i := by
 intro i o ho e he
 have hm : (o, i) ∈ ops.toList.zipIdx := by
  rw [List.mem_zipIdx_iff_getElem?]
  simpa using ho
 have h1 := List.all_eq_true.1 h _ hm
 have h2 := List.all_eq_true.1 h1 e (by simpa using he)
 simpa using h2
theorem op_now {i : Nat} {o : Oper} {a : Act} {w : World} {K : Act → World → Prop} (ho : ops[i]? = some o) (h : if Region.wanted o (yielded ops a.tmps) = true then Oper.wp P o a w K Q else K (a.put o.dst undef) w) : wpOp P ops Q i K a w := by
 unfold wpOp
 simp only [ho]
 split
 ·rename_i hw; rw [if_pos hw] at h; exact .inl h
 ·rename_i hw; rw [if_neg hw] at h; exact h
end
theorem eval_put_ne {a : Act} {d d' : Nat} {v : Value} (h : d ≠ d') : (a.put (some d) v).eval (.tmp d') = a.eval (.tmp d') := by
 simp [Act.put, Act.eval, Array.getD_eq_getD_getElem?, Array.getElem?_setIfInBounds_ne h]
theorem eval_put_same {a : Act} {d : Nat} {v : Value} (h : d < a.tmps.size) : (a.put (some d) v).eval (.tmp d) = v := by
 simp [Act.put, Act.eval, Array.getD_eq_getD_getElem?, h]
theorem put_size (a : Act) (d : Nat) (v : Value) : (a.put (some d) v).tmps.size = a.tmps.size := by simp [Act.put]
end Go.Proofs.Ytmnepkbmcnpjlaa.Q
namespace Go.Proofs.Ytmnepkbmcnpjlaa.Q
open Go.RowKit Go.Proofs.YtmnepkbmcnpjlaaW.PrintWords Go.Proofs.YtmnepkbmcnpjlaaW.PrintLast Go.Proofs.YtmnepkbmcnpjlaaW.PrintMore
set_option linter.unusedVariables false
set_option linter.unusedSimpArgs false
def hypercuberef2_Copy.f (l0_0 : List Int) (a0_1 : Int) (l0_2 : List Int) (l0_3 : List Int) (l0_4 : List Int) : Option (List Int × Int × List Int × List Int × List Int) :=
 if l0_0.length * 8 ≤ 140737488355328 ∧ l0_2.length * 8 ≤ 140737488355328 ∧ l0_3.length * 8 ≤ 140737488355328 ∧ l0_4.length * 8 ≤ 140737488355328 then some (l0_0, a0_1, l0_2, l0_3, l0_4) else none
def ref_Copy.T1 : Bool × List (List Nat × List Nat) := (true, [([], []), ([], []), ([1], [1]), ([0, 2], [0, 2]), ([], []), ([4], [4]), ([], []), ([], []), ([7], [7]), ([6, 8, 3], [6, 8]), ([], []), ([], []), ([11], [11]), ([10, 12, 9], [10, 12]), ([], []), ([], []), ([15], [15]), ([14, 16, 13], [14, 16]), ([3, 5, 9, 13, 17], [3, 5, 9, 13, 17]), ([18, 17, 0, 1, 2, 3, 4, 5, 6, 7, 8, 9, 10, 11, 12, 13, 14, 15, 16, 17, 18], [18])])
def ref_Copy.B1 : List Nat := [0, 0, 2, 7, 0, 16, 0, 0, 128, 463, 0, 0, 2048, 8143, 0, 0, 32768, 131023, 262143, 524287]
theorem ref_Copy.tab1 : rtab .any (opsOf Try.f42 1) = ref_Copy.T1 := by kernel_rfl
theorem ref_Copy.bits1 : waitsOk ref_Copy.T1.2 ref_Copy.B1 = true := by kernel_rfl
def RowSt (w0 : World) (l : Array Bool) (w : World) (f : Nat → Nat) (q B A : Nat) (vb va : Value) (y : List Int) : Prop :=
 (l.getD B true = true → l.getD A true = false → Kd.R (Kd.int .i64) 3 w w0.heap.size (fun k => f k = q) vb []) ∧ (l.getD A true = true → Kd.R (Kd.int .i64) 3 w w0.heap.size (fun k => f k = q) va y)
theorem R_refun {e base q : Nat} {f f' : Nat → Nat} {w w1 : World} {v : Value} {y : List Int} (h : Kd.R (Kd.int .i64) e w base (fun k => f k = q) v y) (hh : ∀ k, f k = q → k < w.heap.size → w1.heap[k]? = w.heap[k]?) (hf : ∀ k, k < w.heap.size → f' k = f k) : Kd.R (Kd.int .i64) e w1 base (fun k => f' k = q) v y :=
 Kd.R_mono (Kd.R_step (Kd.R_bound h) (fun k hk hlt => hh k hk.1 hlt)) (fun k hk => (hf k hk.2.2.1).trans hk.1)
theorem RowSt.keep {w0 w w1 : World} {l : Array Bool} {f f' : Nat → Nat} {q B A i : Nat} {vb va : Value} {y : List Int} (h : RowSt w0 l w f q B A vb va y) (hi : i < l.size) (hB : i ≠ B) (hA : i ≠ A) (hh : ∀ k, f k = q → k < w.heap.size → w1.heap[k]? = w.heap[k]?) (hf : ∀ k, k < w.heap.size → f' k = f k) : RowSt w0 (l.setIfInBounds i true) w1 f' q B A vb va y := by
 unfold RowSt at h ⊢
 rw [getD_set hi, getD_set hi, if_neg hB, if_neg hA]
 exact ⟨fun h1 h2 => R_refun (h.1 h1 h2) hh hf, fun h1 => R_refun (h.2 h1) hh hf⟩
theorem RowSt.made {w0 w w1 : World} {l : Array Bool} {f' : Nat → Nat} {q B A : Nat} {vb va : Value} {y : List Int} (hi : B < l.size) (hBA : B ≠ A) (hA : l.getD A true = false) (h : Kd.R (Kd.int .i64) 3 w1 w0.heap.size (fun k => f' k = q) vb []) : RowSt w0 (l.setIfInBounds B true) w1 f' q B A vb va y := by
 unfold RowSt
 rw [getD_set hi, getD_set hi, if_neg hBA, if_pos rfl]
 exact ⟨fun _ _ => h, fun h1 => (by rw [hA] at h1; cases h1)⟩
theorem RowSt.full {w0 w w1 : World} {l : Array Bool} {f' : Nat → Nat} {q B A : Nat} {vb va : Value} {y : List Int} (hi : A < l.size) (h : Kd.R (Kd.int .i64) 3 w1 w0.heap.size (fun k => f' k = q) va y) : RowSt w0 (l.setIfInBounds A true) w1 f' q B A vb va y := by
 unfold RowSt
 rw [getD_set hi, getD_set hi, if_pos rfl]
 exact ⟨fun _ h1 => (by cases h1), fun _ => h⟩
def OrdC (l : Array Bool) : Prop := ∀ A B, (A = 3 ∧ B = 0) ∨ (A = 9 ∧ B = 6) ∨ (A = 13 ∧ B = 10) ∨ (A = 17 ∧ B = 14) ∨ (A = 19 ∧ B = 18) → l.getD A true = true → l.getD B true = true
theorem ordC_set {l : Array Bool} {i : Nat} (hi : i < l.size) (h : OrdC l) (hn : ∀ B, (i = 3 ∧ B = 0) ∨ (i = 9 ∧ B = 6) ∨ (i = 13 ∧ B = 10) ∨ (i = 17 ∧ B = 14) ∨ (i = 19 ∧ B = 18) → l.getD B true = true) : OrdC (l.setIfInBounds i true) := by
 intro A B hAB h1
 rw [getD_set hi] at h1 ⊢
 split
 ·rfl
 ·by_cases c : i = A
  ·subst c
   exact hn B hAB
  ·rw [if_neg c] at h1
   exact h A B hAB h1
structure CInv (w0 : World) (xb rb : Nat) (XC : Array Value) (y0 y1 y2 y3 : List Int) (n : Int) (l : Array Bool) (a : Act) (w : World) : Prop where
 sz : l.size = 20
 old : ∀ j, j = 1 ∨ j = 2 ∨ j = 4 ∨ j = 5 ∨ j = 7 ∨ j = 8 ∨ j = 11 ∨ j = 12 ∨ j = 15 ∨ j = 16 → l.getD j true = true
 ord : OrdC l
 tsz : a.tmps.size = 22
 dfr : a.defers = []
 bel : Below w0.heap.size w0 w
 bx : w.heap[xb]? = some (.cells XC 41 (0, 0))
 e2 : a.eval (.tmp 2) = .pointer (some ⟨rb, 0, none⟩)
 e8 : a.eval (.tmp 8) = .int .i64 n
 rows : ∃ A0 c0 A1 c1 A2 c2 A3 c3, a.eval (.tmp 5) = .slice A0 y0.length c0 ∧ a.eval (.tmp 11) = .slice A1 y1.length c1 ∧ a.eval (.tmp 15) = .slice A2 y2.length c2 ∧ a.eval (.tmp 19) = .slice A3 y3.length c3 ∧
  (Kd.int .i64).C w0 A0 y0.length y0 ∧ (Kd.int .i64).C w0 A1 y1.length y1 ∧ (Kd.int .i64).C w0 A2 y2.length y2 ∧ (Kd.int .i64).C w0 A3 y3.length y3
 made : l.getD 19 true = false → w.heap[rb]? = some (.cells #[.slice none 0 0, .int .i64 0, .slice none 0 0, .slice none 0 0, .slice none 0 0] 41 (0, 0)) ∧ w0.heap.size ≤ rb ∧ ∃ f : Nat → Nat,
  RowSt w0 l w f 0 0 3 (a.eval (.tmp 3)) (a.eval (.tmp 6)) y0 ∧ RowSt w0 l w f 1 6 9 (a.eval (.tmp 9)) (a.eval (.tmp 12)) y1 ∧ RowSt w0 l w f 2 10 13 (a.eval (.tmp 13)) (a.eval (.tmp 16)) y2 ∧ RowSt w0 l w f 3 14 17 (a.eval (.tmp 17)) (a.eval (.tmp 20)) y3
 told : l.getD 18 true = true → l.getD 3 true = true ∧ l.getD 9 true = true ∧ l.getD 13 true = true ∧ l.getD 17 true = true ∧ a.eval (.tmp 21) = .agg #[a.eval (.tmp 6), .int .i64 n, a.eval (.tmp 12), a.eval (.tmp 16), a.eval (.tmp 20)]
 fin : l.getD 19 true = true → ∃ v0 v1 v2 v3 : Value, ∃ f : Nat → Nat, w.heap[rb]? = some (.cells #[v0, .int .i64 n, v1, v2, v3] 41 (0, 0)) ∧ Kd.R (Kd.int .i64) 3 w w0.heap.size (fun k => f k = 0) v0 y0 ∧ Kd.R (Kd.int .i64) 3 w w0.heap.size (fun k => f k = 1) v1 y1 ∧ Kd.R (Kd.int .i64) 3 w w0.heap.size (fun k => f k = 2) v2 y2 ∧ Kd.R (Kd.int .i64) 3 w w0.heap.size (fun k => f k = 3) v3 y3
theorem old_set {l : Array Bool} {i j : Nat} (hi : i < l.size) (h : l.getD j true = true) : (l.setIfInBounds i true).getD j true = true := by
 rw [getD_set hi]
 split
 ·rfl
 ·exact h
theorem bfalse {b : Bool} (h : b = true → False) : b = false := by
 cases b
 ·rfl
 ·exact (h rfl).elim
theorem blk_other {w w1 : World} {g : Nat} {o : Obj} (h : w.heap[g]? = some o) (hh : ∀ k, k < w.heap.size → w1.heap[k]? = w.heap[k]?) : w1.heap[g]? = some o := (hh g (blk_lt h)).trans h
theorem R_fresh (w0 w : World) (q : Nat) (hb : w0.heap.size ≤ w.heap.size) (f : Nat → Nat) : Kd.R (Kd.int .i64) 3 (w.alloc (.cells #[] 3)) w0.heap.size (fun k => (if k = w.heap.size then q else f k) = q) (.slice (some ⟨w.heap.size, 0, none⟩) 0 0) [] :=
 ⟨fun k hk => by simp only [Value.ownBlock, Option.some.injEq] at hk; subst hk; simp, [], ⟨rfl, .inr ⟨w.heap.size, 0, #[], rfl, hb, blk_new w _, Nat.le_refl _, Nat.zero_le _, rfl, rfl⟩⟩, Reps.none _ _⟩
section
variable {w0 : World} {xb rb : Nat} {XC : Array Value} {y0 y1 y2 y3 : List Int} {n : Int} {l : Array Bool} {a : Act} {w : World} {K : Act → World → Prop} {Q : Exit → Act → World → Prop}
theorem CInv.build (h : CInv w0 xb rb XC y0 y1 y2 y3 n l a w) (i d : Nat) (hid : (i = 0 ∧ d = 3) ∨ (i = 6 ∧ d = 9) ∨ (i = 10 ∧ d = 13) ∨ (i = 14 ∧ d = 17)) (hl : l.getD i true = false) :
  CInv w0 xb rb XC y0 y1 y2 y3 n (l.setIfInBounds i true) (a.put (some d) (.slice (some ⟨w.heap.size, 0, none⟩) 0 0)) (w.alloc (.cells #[] 3)) := by
 have hi : i < l.size := by rw [h.sz]; omega
 have h18 : l.getD 18 true = false := bfalse fun e => by
  obtain ⟨a3, a9, a13, a17, _⟩ := h.told e
  rcases hid with ⟨rfl, _⟩ | ⟨rfl, _⟩ | ⟨rfl, _⟩ | ⟨rfl, _⟩
  ·rw [h.ord 3 0 (by omega) a3] at hl; cases hl
  ·rw [h.ord 9 6 (by omega) a9] at hl; cases hl
  ·rw [h.ord 13 10 (by omega) a13] at hl; cases hl
  ·rw [h.ord 17 14 (by omega) a17] at hl; cases hl
 have h19 : l.getD 19 true = false := bfalse fun e => by rw [h.ord 19 18 (by omega) e] at h18; cases h18
 have hd : d < a.tmps.size := by rw [h.tsz]; omega
 have hw : ∀ k, k < w.heap.size → (w.alloc (.cells #[] 3)).heap[k]? = w.heap[k]? := fun k hk => Below.heap_alloc w _ k hk
 have ev : ∀ d', d ≠ d' → (a.put (some d) (.slice (some ⟨w.heap.size, 0, none⟩) 0 0)).eval (.tmp d') = a.eval (.tmp d') := fun d' hne => eval_put_ne hne
 have es : (a.put (some d) (.slice (some ⟨w.heap.size, 0, none⟩) 0 0)).eval (.tmp d) = .slice (some ⟨w.heap.size, 0, none⟩) 0 0 := eval_put_same hd
 obtain ⟨hr, hrb, f, r0, r1, r2, r3⟩ := h.made h19
 have hsz : w0.heap.size ≤ w.heap.size := h.bel.size
 refine ⟨by rw [Array.size_setIfInBounds]; exact h.sz, fun j hj => old_set hi (h.old j hj), ordC_set hi h.ord (fun B hB => by omega), by rw [put_size]; exact h.tsz, h.dfr, below_alloc h.bel _, blk_other h.bx hw, (ev 2 (by omega)).trans h.e2, (ev 8 (by omega)).trans h.e8, ?_, fun _ => ⟨blk_other hr hw, hrb, fun k => if k = w.heap.size then (if i = 0 then 0 else if i = 6 then 1 else if i = 10 then 2 else 3) else f k, ?_⟩, fun h2 => ?_, fun h2 => ?_⟩
 ·obtain ⟨A0, c0, A1, c1, A2, c2, A3, c3, x0, x1, x2, x3, z⟩ := h.rows
  exact ⟨A0, c0, A1, c1, A2, c2, A3, c3, (ev 5 (by omega)).trans x0, (ev 11 (by omega)).trans x1, (ev 15 (by omega)).trans x2, (ev 19 (by omega)).trans x3, z⟩
 ·have hf : ∀ k, k < w.heap.size → (if k = w.heap.size then (if i = 0 then 0 else if i = 6 then 1 else if i = 10 then 2 else 3) else f k) = f k := fun k hk => if_neg (by omega)
  rcases hid with ⟨rfl, rfl⟩ | ⟨rfl, rfl⟩ | ⟨rfl, rfl⟩ | ⟨rfl, rfl⟩
  ·rw [es, ev 6 (by omega), ev 9 (by omega), ev 12 (by omega), ev 13 (by omega), ev 16 (by omega), ev 17 (by omega), ev 20 (by omega)]
   exact ⟨RowSt.made (w := w) hi (by omega) (bfalse fun e => by rw [h.ord 3 0 (by omega) e] at hl; cases hl) (R_fresh w0 w 0 hsz f), r1.keep hi (by omega) (by omega) (fun k _ hk => hw k hk) hf, r2.keep hi (by omega) (by omega) (fun k _ hk => hw k hk) hf, r3.keep hi (by omega) (by omega) (fun k _ hk => hw k hk) hf⟩
  ·rw [es, ev 3 (by omega), ev 6 (by omega), ev 12 (by omega), ev 13 (by omega), ev 16 (by omega), ev 17 (by omega), ev 20 (by omega)]
   exact ⟨r0.keep hi (by omega) (by omega) (fun k _ hk => hw k hk) hf, RowSt.made (w := w) hi (by omega) (bfalse fun e => by rw [h.ord 9 6 (by omega) e] at hl; cases hl) (R_fresh w0 w 1 hsz f), r2.keep hi (by omega) (by omega) (fun k _ hk => hw k hk) hf, r3.keep hi (by omega) (by omega) (fun k _ hk => hw k hk) hf⟩
  ·rw [es, ev 3 (by omega), ev 6 (by omega), ev 9 (by omega), ev 12 (by omega), ev 16 (by omega), ev 17 (by omega), ev 20 (by omega)]
   exact ⟨r0.keep hi (by omega) (by omega) (fun k _ hk => hw k hk) hf, r1.keep hi (by omega) (by omega) (fun k _ hk => hw k hk) hf, RowSt.made (w := w) hi (by omega) (bfalse fun e => by rw [h.ord 13 10 (by omega) e] at hl; cases hl) (R_fresh w0 w 2 hsz f), r3.keep hi (by omega) (by omega) (fun k _ hk => hw k hk) hf⟩
  ·rw [es, ev 3 (by omega), ev 6 (by omega), ev 9 (by omega), ev 12 (by omega), ev 13 (by omega), ev 16 (by omega), ev 20 (by omega)]
   exact ⟨r0.keep hi (by omega) (by omega) (fun k _ hk => hw k hk) hf, r1.keep hi (by omega) (by omega) (fun k _ hk => hw k hk) hf, r2.keep hi (by omega) (by omega) (fun k _ hk => hw k hk) hf, RowSt.made (w := w) hi (by omega) (bfalse fun e => by rw [h.ord 17 14 (by omega) e] at hl; cases hl) (R_fresh w0 w 3 hsz f)⟩
 ·rw [getD_set hi, if_neg (by omega), h18] at h2; cases h2
 ·rw [getD_set hi, if_neg (by omega), h19] at h2; cases h2
theorem CInv.app (h : CInv w0 xb rb XC y0 y1 y2 y3 n l a w) (i d q : Nat) (hid : (i = 3 ∧ d = 6 ∧ q = 0) ∨ (i = 9 ∧ d = 12 ∧ q = 1) ∨ (i = 13 ∧ d = 16 ∧ q = 2) ∨ (i = 17 ∧ d = 20 ∧ q = 3)) (hl : l.getD i true = false) (hB : ∀ B, (i = 3 ∧ B = 0) ∨ (i = 9 ∧ B = 6) ∨ (i = 13 ∧ B = 10) ∨ (i = 17 ∧ B = 14) ∨ (i = 19 ∧ B = 18) → l.getD B true = true) (h18 : l.getD 18 true = false) (h19 : l.getD 19 true = false)
  {f f' : Nat → Nat} {v v1 : Value} {w1 : World} (hr : w.heap[rb]? = some (.cells #[.slice none 0 0, .int .i64 0, .slice none 0 0, .slice none 0 0, .slice none 0 0] 41 (0, 0))) (hrb : w0.heap.size ≤ rb) (hf : ∀ k, k < w.heap.size → f' k = f k)
  (r0 : RowSt w0 l w f 0 0 3 (a.eval (.tmp 3)) (a.eval (.tmp 6)) y0) (r1 : RowSt w0 l w f 1 6 9 (a.eval (.tmp 9)) (a.eval (.tmp 12)) y1) (r2 : RowSt w0 l w f 2 10 13 (a.eval (.tmp 13)) (a.eval (.tmp 16)) y2) (r3 : RowSt w0 l w f 3 14 17 (a.eval (.tmp 17)) (a.eval (.tmp 20)) y3)
  (hv : ∀ k, v.ownBlock = some k → f k = q ∧ ∃ cells, w.heap[k]? = some (.cells cells 3 (0, 0))) (hb : Below w0.heap.size w0 w1) (hg : w.grownBy w1 v.ownBlock)
  (ho : Kd.R (Kd.int .i64) 3 w1 w0.heap.size (fun k => f' k = q) v1 (if i = 3 then y0 else if i = 9 then y1 else if i = 13 then y2 else y3)) :
  CInv w0 xb rb XC y0 y1 y2 y3 n (l.setIfInBounds i true) (a.put (some d) v1) w1 := by
 have hi : i < l.size := by rw [h.sz]; omega
 have hd : d < a.tmps.size := by rw [h.tsz]; omega
 have ev : ∀ d', d ≠ d' → (a.put (some d) v1).eval (.tmp d') = a.eval (.tmp d') := fun d' hne => eval_put_ne hne
 have es : (a.put (some d) v1).eval (.tmp d) = v1 := eval_put_same hd
 have hfar : ∀ (g t : Nat) (cs : Array Value), w.heap[g]? = some (.cells cs t (0, 0)) → t ≠ 3 → w1.heap[g]? = some (.cells cs t (0, 0)) := fun g t cs hgc hne =>
  blk_grown hgc hg (fun e => by obtain ⟨_, cells, hc⟩ := hv g e.symm; rw [hgc] at hc; injection hc with hc; injection hc with _ hc; exact hne hc)
 have hw : ∀ q', q' ≠ q → ∀ k, f k = q' → k < w.heap.size → w1.heap[k]? = w.heap[k]? := fun q' hne k hk hlt => hg.block k hlt (fun e => by have := (hv k e.symm).1; omega)
 refine ⟨by rw [Array.size_setIfInBounds]; exact h.sz, fun j hj => old_set hi (h.old j hj), ordC_set hi h.ord hB, by rw [put_size]; exact h.tsz, h.dfr, hb, hfar _ _ _ h.bx (by decide), (ev 2 (by omega)).trans h.e2, (ev 8 (by omega)).trans h.e8, ?_, fun _ => ⟨hfar _ _ _ hr (by decide), hrb, f', ?_⟩, fun h2 => ?_, fun h2 => ?_⟩
 ·obtain ⟨A0, c0, A1, c1, A2, c2, A3, c3, x0, x1, x2, x3, z⟩ := h.rows
  exact ⟨A0, c0, A1, c1, A2, c2, A3, c3, (ev 5 (by omega)).trans x0, (ev 11 (by omega)).trans x1, (ev 15 (by omega)).trans x2, (ev 19 (by omega)).trans x3, z⟩
 ·rcases hid with ⟨rfl, rfl, rfl⟩ | ⟨rfl, rfl, rfl⟩ | ⟨rfl, rfl, rfl⟩ | ⟨rfl, rfl, rfl⟩
  ·rw [es, ev 3 (by omega), ev 9 (by omega), ev 12 (by omega), ev 13 (by omega), ev 16 (by omega), ev 17 (by omega), ev 20 (by omega)]
   exact ⟨RowSt.full (w := w) hi ho, r1.keep hi (by omega) (by omega) (hw 1 (by omega)) hf, r2.keep hi (by omega) (by omega) (hw 2 (by omega)) hf, r3.keep hi (by omega) (by omega) (hw 3 (by omega)) hf⟩
  ·rw [es, ev 3 (by omega), ev 6 (by omega), ev 9 (by omega), ev 13 (by omega), ev 16 (by omega), ev 17 (by omega), ev 20 (by omega)]
   exact ⟨r0.keep hi (by omega) (by omega) (hw 0 (by omega)) hf, RowSt.full (w := w) hi ho, r2.keep hi (by omega) (by omega) (hw 2 (by omega)) hf, r3.keep hi (by omega) (by omega) (hw 3 (by omega)) hf⟩
  ·rw [es, ev 3 (by omega), ev 6 (by omega), ev 9 (by omega), ev 12 (by omega), ev 13 (by omega), ev 17 (by omega), ev 20 (by omega)]
   exact ⟨r0.keep hi (by omega) (by omega) (hw 0 (by omega)) hf, r1.keep hi (by omega) (by omega) (hw 1 (by omega)) hf, RowSt.full (w := w) hi ho, r3.keep hi (by omega) (by omega) (hw 3 (by omega)) hf⟩
  ·rw [es, ev 3 (by omega), ev 6 (by omega), ev 9 (by omega), ev 12 (by omega), ev 13 (by omega), ev 16 (by omega), ev 17 (by omega)]
   exact ⟨r0.keep hi (by omega) (by omega) (hw 0 (by omega)) hf, r1.keep hi (by omega) (by omega) (hw 1 (by omega)) hf, r2.keep hi (by omega) (by omega) (hw 2 (by omega)) hf, RowSt.full (w := w) hi ho⟩
 ·rw [getD_set hi, if_neg (by omega), h18] at h2; cases h2
 ·rw [getD_set hi, if_neg (by omega), h19] at h2; cases h2
theorem CInv.tell (h : CInv w0 xb rb XC y0 y1 y2 y3 n l a w) (hl : l.getD 18 true = false) (h19 : l.getD 19 true = false) (a3 : l.getD 3 true = true) (a9 : l.getD 9 true = true) (a13 : l.getD 13 true = true) (a17 : l.getD 17 true = true) :
  CInv w0 xb rb XC y0 y1 y2 y3 n (l.setIfInBounds 18 true) (a.put (some 21) (.agg #[a.eval (.tmp 6), .int .i64 n, a.eval (.tmp 12), a.eval (.tmp 16), a.eval (.tmp 20)])) w := by
 have hi : 18 < l.size := by rw [h.sz]; omega
 have hd : 21 < a.tmps.size := by rw [h.tsz]; omega
 have ev : ∀ d' : Nat, (21 : Nat) ≠ d' → (a.put (some 21) (.agg #[a.eval (.tmp 6), .int .i64 n, a.eval (.tmp 12), a.eval (.tmp 16), a.eval (.tmp 20)])).eval (.tmp d') = a.eval (.tmp d') := fun d' hne => eval_put_ne hne
 have hg : ∀ j : Nat, (18 : Nat) ≠ j → (l.setIfInBounds 18 true).getD j true = l.getD j true := fun j hj => by rw [getD_set hi, if_neg hj]
 refine ⟨by rw [Array.size_setIfInBounds]; exact h.sz, fun j hj => old_set hi (h.old j hj), ordC_set hi h.ord (fun B hB => by omega), by rw [put_size]; exact h.tsz, h.dfr, h.bel, h.bx, (ev 2 (by omega)).trans h.e2, (ev 8 (by omega)).trans h.e8, ?_, fun _ => ?_, fun _ => ?_, fun h2 => ?_⟩
 ·obtain ⟨A0, c0, A1, c1, A2, c2, A3, c3, x0, x1, x2, x3, z⟩ := h.rows
  exact ⟨A0, c0, A1, c1, A2, c2, A3, c3, (ev 5 (by omega)).trans x0, (ev 11 (by omega)).trans x1, (ev 15 (by omega)).trans x2, (ev 19 (by omega)).trans x3, z⟩
 ·obtain ⟨hr, hrb, f, r0, r1, r2, r3⟩ := h.made h19
  refine ⟨hr, hrb, f, ?_⟩
  rw [ev 3 (by omega), ev 6 (by omega), ev 9 (by omega), ev 12 (by omega), ev 13 (by omega), ev 16 (by omega), ev 17 (by omega), ev 20 (by omega)]
  exact ⟨r0.keep hi (by omega) (by omega) (fun _ _ _ => rfl) (fun _ _ => rfl), r1.keep hi (by omega) (by omega) (fun _ _ _ => rfl) (fun _ _ => rfl), r2.keep hi (by omega) (by omega) (fun _ _ _ => rfl) (fun _ _ => rfl), r3.keep hi (by omega) (by omega) (fun _ _ _ => rfl) (fun _ _ => rfl)⟩
 ·rw [hg 3 (by omega), hg 9 (by omega), hg 13 (by omega), hg 17 (by omega), ev 6 (by omega), ev 12 (by omega), ev 16 (by omega), ev 20 (by omega)]
  exact ⟨a3, a9, a13, a17, eval_put_same hd⟩
 ·rw [hg 19 (by omega), h19] at h2; cases h2
theorem CInv.store (h : CInv w0 xb rb XC y0 y1 y2 y3 n l a w) (hl : l.getD 19 true = false) (hr : w.heap[rb]? = some (.cells #[.slice none 0 0, .int .i64 0, .slice none 0 0, .slice none 0 0, .slice none 0 0] 41 (0, 0))) (hrb : w0.heap.size ≤ rb) (h18 : l.getD 18 true = true) {f : Nat → Nat} {v0 v1 v2 v3 : Value}
  (r0 : Kd.R (Kd.int .i64) 3 w w0.heap.size (fun k => f k = 0) v0 y0) (r1 : Kd.R (Kd.int .i64) 3 w w0.heap.size (fun k => f k = 1) v1 y1) (r2 : Kd.R (Kd.int .i64) 3 w w0.heap.size (fun k => f k = 2) v2 y2) (r3 : Kd.R (Kd.int .i64) 3 w w0.heap.size (fun k => f k = 3) v3 y3) (hne : xb ≠ rb) :
  CInv w0 xb rb XC y0 y1 y2 y3 n (l.setIfInBounds 19 true) (a.put none undef) (w.setCells rb 0 [v0, .int .i64 n, v1, v2, v3]) := by
 have hi : 19 < l.size := by rw [h.sz]; omega
 have hg : ∀ j : Nat, (19 : Nat) ≠ j → (l.setIfInBounds 19 true).getD j true = l.getD j true := fun j hj => by rw [getD_set hi, if_neg hj]
 have hs : (l.setIfInBounds 19 true).getD 19 true = true := by rw [getD_set hi, if_pos rfl]
 obtain ⟨cur, c1, c2, c3⟩ := setCells_row [v0, .int .i64 n, v1, v2, v3] 0 w _ hr (by simp)
 obtain ⟨s1, s2, s3, s4⟩ := setCells_same rb [v0, .int .i64 n, v1, v2, v3] 0 w
 have hfar : ∀ k, k ≠ rb → (w.setCells rb 0 [v0, .int .i64 n, v1, v2, v3]).heap[k]? = w.heap[k]? := fun k hk => setCells_far _ _ k hk
 have hcur : cur = #[v0, .int .i64 n, v1, v2, v3] := by
  apply Array.toList_inj.mp
  rw [c3]
  simp
 have hR : ∀ {q : Nat} {v : Value} {y : List Int}, Kd.R (Kd.int .i64) 3 w w0.heap.size (fun k => f k = q) v y → Kd.R (Kd.int .i64) 3 (w.setCells rb 0 [v0, .int .i64 n, v1, v2, v3]) w0.heap.size (fun k => f k = q) v y := fun hv =>
  Kd.R_mono (Kd.R_step (Kd.R_types hv hr (by decide)) (fun k hk _ => hfar k hk.2)) (fun k hk => hk.1)
 refine ⟨by rw [Array.size_setIfInBounds]; exact h.sz, fun j hj => old_set hi (h.old j hj), ordC_set hi h.ord (fun B hB => by rw [show B = 18 by omega]; exact h18), h.tsz, h.dfr, h.bel.trans ⟨s1, s2, s3, by rw [s4]; exact Nat.le_refl _, fun k hk => hfar k (by omega)⟩, (hfar xb hne).trans h.bx, h.e2, h.e8, h.rows, fun h2 => (by rw [hs] at h2; cases h2), fun _ => ?_, fun _ => ?_⟩
 ·obtain ⟨a3, a9, a13, a17, e⟩ := h.told h18
  exact ⟨(hg 3 (by omega)).trans a3, (hg 9 (by omega)).trans a9, (hg 13 (by omega)).trans a13, (hg 17 (by omega)).trans a17, e⟩
 ·exact ⟨v0, v1, v2, v3, f, by rw [c1, hcur], hR r0, hR r1, hR r2, hR r3⟩
end
set_option maxHeartbeats 8000000 in
set_option maxRecDepth 100000 in
theorem hypercuberef2_Copy.calls (A0_0 : Option Addr) (c0_0 : Nat) (l0_0 : List Int) (a0_1 : Int) (A0_2 : Option Addr) (c0_2 : Nat) (l0_2 : List Int) (A0_3 : Option Addr) (c0_3 : Nat) (l0_3 : List Int) (A0_4 : Option Addr) (c0_4 : Nat) (l0_4 : List Int) (r1 : List Int) (r2 : Int) (r3 : List Int) (r4 : List Int) (r5 : List Int) (w : World) (hr0_0 : Kd.C (Kd.int .i64) w A0_0 l0_0.length l0_0) (hc0_0 : l0_0.length ≤ c0_0) (hr0_2 : Kd.C (Kd.int .i64) w A0_2 l0_2.length l0_2) (hc0_2 : l0_2.length ≤ c0_2) (hr0_3 : Kd.C (Kd.int .i64) w A0_3 l0_3.length l0_3) (hc0_3 : l0_3.length ≤ c0_3) (hr0_4 : Kd.C (Kd.int .i64) w A0_4 l0_4.length l0_4) (hc0_4 : l0_4.length ≤ c0_4) (h : hypercuberef2_Copy.f l0_0 a0_1 l0_2 l0_3 l0_4 = some (r1, r2, r3, r4, r5)) :
  Calls Try.prog 42 #[.agg #[.slice A0_0 l0_0.length c0_0, .int .i64 a0_1, .slice A0_2 l0_2.length c0_2, .slice A0_3 l0_3.length c0_3, .slice A0_4 l0_4.length c0_4]] w fun e w' => ∃ v0_ v2_ v3_ v4_ : Value, e = .returned (.agg #[v0_, .int .i64 r2, v2_, v3_, v4_]) ∧ Kd.R (Kd.int .i64) 3 w' w.heap.size (fun k_ => some k_ ≠ (v2_ : Value).ownBlock ∧ some k_ ≠ (v3_ : Value).ownBlock ∧ some k_ ≠ (v4_ : Value).ownBlock) v0_ r1 ∧ Kd.R (Kd.int .i64) 3 w' w.heap.size (fun k_ => some k_ ≠ (v0_ : Value).ownBlock ∧ some k_ ≠ (v3_ : Value).ownBlock ∧ some k_ ≠ (v4_ : Value).ownBlock) v2_ r3 ∧ Kd.R (Kd.int .i64) 3 w' w.heap.size (fun k_ => some k_ ≠ (v0_ : Value).ownBlock ∧ some k_ ≠ (v2_ : Value).ownBlock ∧ some k_ ≠ (v4_ : Value).ownBlock) v3_ r4 ∧ Kd.R (Kd.int .i64) 3 w' w.heap.size (fun k_ => some k_ ≠ (v0_ : Value).ownBlock ∧ some k_ ≠ (v2_ : Value).ownBlock ∧ some k_ ≠ (v3_ : Value).ownBlock) v4_ r5 ∧ Below w.heap.size w w' := by
 have hu30 := Try.underlying41
 unfold hypercuberef2_Copy.f at h
 have hlim : (l0_0.length * 8 ≤ 140737488355328 ∧ l0_2.length * 8 ≤ 140737488355328 ∧ l0_3.length * 8 ≤ 140737488355328 ∧ l0_4.length * 8 ≤ 140737488355328) ∧ (l0_0, a0_1, l0_2, l0_3, l0_4) = (r1, r2, r3, r4, r5) := by
  split at h
  · exact ⟨by assumption, Option.some.inj h⟩
  · cases h
 obtain ⟨hlim, he⟩ := hlim
 simp only [Prod.mk.injEq] at he
 obtain ⟨rfl, rfl, rfl, rfl, rfl⟩ := he
 have HL := Aside0.mk hlim
 have G0 := Aside0.mk hr0_0
 have G2 := Aside0.mk hr0_2
 have G3 := Aside0.mk hr0_3
 have G4 := Aside0.mk hr0_4
 clear h hlim hr0_0 hr0_2 hr0_3 hr0_4 hc0_0 hc0_2 hc0_3 hc0_4
 have HB := Aside0.mk (Below.refl w.heap.size w)
 go_enter Try.func42, Try.ntmps42
 go_wp2_with (first
  | ((with_reducible refine gate_dst (N := 1) rfl ?_); refine box_event ?hg (N := 1) ?hd (cs := #[.slice A0_0 l0_0.length c0_0, .int .i64 a0_1, .slice A0_2 l0_2.length c0_2, .slice A0_3 l0_3.length c0_3, .slice A0_4 l0_4.length c0_4]) (t := 41) ?hr ?_; (case hd => rfl); (case hg => rfl); (case hr => first | (go_simp; done) | (go_simp; rfl)); intro gx hg w3 hbox hb; have n0_ := Aside0.mk (below_step HB.out hb); have n1_ := Aside0.mk hbox; clear HB; revert n0_ n1_; intro HB BKx; clear hb hbox hg)
  | ((with_reducible refine gate_dst (N := 2) rfl ?_); refine box_event ?hg (N := 2) ?hd (cs := #[.slice none 0 0, .int .i64 0, .slice none 0 0, .slice none 0 0, .slice none 0 0]) (t := 41) ?hr ?_; (case hd => rfl); (case hg => rfl); (case hr => first | (go_simp; done) | (go_simp; rfl)); intro gr hg w4 hbox hb; have n0_ := Aside0.mk (below_step HB.out hb); have n1_ := Aside0.mk hbox; have n2_ := Aside0.mk (blk_below BKx.out hb); have n3_ := Aside0.mk (show w.heap.size ≤ gr by rw [hg]; exact HB.out.size); have NExr := Aside0.mk (show gx ≠ gr by rw [hg]; exact Nat.ne_of_lt (blk_lt BKx.out)); clear HB BKx; revert n0_ n1_ n2_ n3_; intro HB BKr BKx GEr; clear hb hbox hg))

 refine start_ (n := 20) (S := fun w' => w'.heap[gx]? = some (.cells #[.slice A0_0 l0_0.length c0_0, .int .i64 a0_1, .slice A0_2 l0_2.length c0_2, .slice A0_3 l0_3.length c0_3, .slice A0_4 l0_4.length c0_4] 41 (0, 0))) (ds := [19]) #[false, false, false, false, false, false, false, false, false, false, false, false, false, false, false, false, false, false, false, false] (by kernel_rfl) rfl rfl BKx.out (fun hHeld => ?_); refine with_tabW ref_Copy.tab1 ref_Copy.bits1 (fun HT_ HW_ => ?_)
 have n0_ := Aside0.mk (below_drew1 HB.out)
 have n1_ := Aside0.mk (blk_drew BKx.out)
 have n2_ := Aside0.mk (blk_drew BKr.out)
 clear HB BKx BKr
 revert n0_ n1_ n2_
 intro HB BKx BKr
 generalize w4.drew = w5 at HB BKx BKr hHeld ⊢
 refine pure_ (i := 1) (N := some 4) (v := ?_) (a' := ?_) #[false, true, false, false, false, false, false, false, false, false, false, false, false, false, false, false, false, false, false, false] rfl rfl (any_of HT_.out (by kernel_rfl)) (fun _ _ _ h => h) (Or.inl ⟨by rfl, ?_⟩) ?_ ?_
 rotate_left
 ·intro w'
  go_simp
  with_reducible rfl
 rotate_left
 ·simp only [ps]
  rfl
 refine pure_ (i := 4) (N := some 7) (v := ?_) (a' := ?_) #[false, true, false, false, true, false, false, false, false, false, false, false, false, false, false, false, false, false, false, false] rfl rfl (any_of HT_.out (by kernel_rfl)) (fun _ _ _ h => h) (Or.inl ⟨by rfl, ?_⟩) ?_ ?_
 rotate_left
 ·intro w'
  go_simp
  with_reducible rfl
 rotate_left
 ·simp only [ps]
  rfl
 refine pure_ (i := 7) (N := some 10) (v := ?_) (a' := ?_) #[false, true, false, false, true, false, false, true, false, false, false, false, false, false, false, false, false, false, false, false] rfl rfl (any_of HT_.out (by kernel_rfl)) (fun _ _ _ h => h) (Or.inl ⟨by rfl, ?_⟩) ?_ ?_
 rotate_left
 ·intro w'
  go_simp
  with_reducible rfl
 rotate_left
 ·simp only [ps]
  rfl
 refine pure_ (i := 11) (N := some 14) (v := ?_) (a' := ?_) #[false, true, false, false, true, false, false, true, false, false, false, true, false, false, false, false, false, false, false, false] rfl rfl (any_of HT_.out (by kernel_rfl)) (fun _ _ _ h => h) (Or.inl ⟨by rfl, ?_⟩) ?_ ?_
 rotate_left
 ·intro w'
  go_simp
  with_reducible rfl
 rotate_left
 ·simp only [ps]
  rfl
 refine pure_ (i := 15) (N := some 18) (v := ?_) (a' := ?_) #[false, true, false, false, true, false, false, true, false, false, false, true, false, false, false, true, false, false, false, false] rfl rfl (any_of HT_.out (by kernel_rfl)) (fun _ _ _ h => h) (Or.inl ⟨by rfl, ?_⟩) ?_ ?_
 rotate_left
 ·intro w'
  go_simp
  with_reducible rfl
 rotate_left
 ·simp only [ps]
  rfl
 refine take_ (i := 2) (N := some 5) (v := ?_) (a' := ?_) #[false, true, true, false, true, false, false, true, false, false, false, true, false, false, false, true, false, false, false, false] rfl rfl (take_ofW HT_.out HW_.out (by kernel_rfl)) (fun _ _ _ h => h) (Or.inl ⟨by rfl, ?_⟩) hHeld ?_ ?_
 rotate_left
 ·intro w' hs
  have s0 := (blk_cell hs 0).trans rfl
  have s1 := (blk_cell hs 1).trans rfl
  have s2 := (blk_cell hs 2).trans rfl
  have s3 := (blk_cell hs 3).trans rfl
  have s4 := (blk_cell hs 4).trans rfl
  clear hs
  go_simp
  with_reducible rfl
 rotate_left
 ·simp only [ps]
  rfl
 refine take_ (i := 5) (N := some 8) (v := ?_) (a' := ?_) #[false, true, true, false, true, true, false, true, false, false, false, true, false, false, false, true, false, false, false, false] rfl rfl (take_ofW HT_.out HW_.out (by kernel_rfl)) (fun _ _ _ h => h) (Or.inl ⟨by rfl, ?_⟩) hHeld ?_ ?_
 rotate_left
 ·intro w' hs
  have s0 := (blk_cell hs 0).trans rfl
  have s1 := (blk_cell hs 1).trans rfl
  have s2 := (blk_cell hs 2).trans rfl
  have s3 := (blk_cell hs 3).trans rfl
  have s4 := (blk_cell hs 4).trans rfl
  clear hs
  go_simp
  with_reducible rfl
 rotate_left
 ·simp only [ps]
  rfl
 refine take_ (i := 8) (N := some 11) (v := ?_) (a' := ?_) #[false, true, true, false, true, true, false, true, true, false, false, true, false, false, false, true, false, false, false, false] rfl rfl (take_ofW HT_.out HW_.out (by kernel_rfl)) (fun _ _ _ h => h) (Or.inl ⟨by rfl, ?_⟩) hHeld ?_ ?_
 rotate_left
 ·intro w' hs
  have s0 := (blk_cell hs 0).trans rfl
  have s1 := (blk_cell hs 1).trans rfl
  have s2 := (blk_cell hs 2).trans rfl
  have s3 := (blk_cell hs 3).trans rfl
  have s4 := (blk_cell hs 4).trans rfl
  clear hs
  go_simp
  with_reducible rfl
 rotate_left
 ·simp only [ps]
  rfl
 refine take_ (i := 12) (N := some 15) (v := ?_) (a' := ?_) #[false, true, true, false, true, true, false, true, true, false, false, true, true, false, false, true, false, false, false, false] rfl rfl (take_ofW HT_.out HW_.out (by kernel_rfl)) (fun _ _ _ h => h) (Or.inl ⟨by rfl, ?_⟩) hHeld ?_ ?_
 rotate_left
 ·intro w' hs
  have s0 := (blk_cell hs 0).trans rfl
  have s1 := (blk_cell hs 1).trans rfl
  have s2 := (blk_cell hs 2).trans rfl
  have s3 := (blk_cell hs 3).trans rfl
  have s4 := (blk_cell hs 4).trans rfl
  clear hs
  go_simp
  with_reducible rfl
 rotate_left
 ·simp only [ps]
  rfl
 refine take_ (i := 16) (N := some 19) (v := ?_) (a' := ?_) #[false, true, true, false, true, true, false, true, true, false, false, true, true, false, false, true, true, false, false, false] rfl rfl (take_ofW HT_.out HW_.out (by kernel_rfl)) (fun _ _ _ h => h) (Or.inl ⟨by rfl, ?_⟩) hHeld ?_ ?_
 rotate_left
 ·intro w' hs
  have s0 := (blk_cell hs 0).trans rfl
  have s1 := (blk_cell hs 1).trans rfl
  have s2 := (blk_cell hs 2).trans rfl
  have s3 := (blk_cell hs 3).trans rfl
  have s4 := (blk_cell hs 4).trans rfl
  clear hs
  go_simp
  with_reducible rfl
 rotate_left
 ·simp only [ps]
  rfl
 refine anyLast_inv (CInv w gx gr #[.slice A0_0 l0_0.length c0_0, .int .i64 a0_1, .slice A0_2 l0_2.length c0_2, .slice A0_3 l0_3.length c0_3, .slice A0_4 l0_4.length c0_4] l0_0 l0_2 l0_3 l0_4 a0_1) ?step ?last _ _ _ _ (by decide) ?init
 case init =>
  refine ⟨rfl, ?_, ?_, rfl, rfl, HB.out, BKx.out, rfl, rfl, ⟨_, _, _, _, _, _, _, _, rfl, rfl, rfl, rfl, G0.out, G2.out, G3.out, G4.out⟩, fun _ => ⟨BKr.out, GEr.out, fun _ => 0, ?_, ?_, ?_, ?_⟩, fun h => absurd h (by decide), fun h => absurd h (by decide)⟩
  · rintro j (rfl | rfl | rfl | rfl | rfl | rfl | rfl | rfl | rfl | rfl) <;> rfl
  · intro A B hAB h1
    rcases hAB with ⟨rfl, rfl⟩ | ⟨rfl, rfl⟩ | ⟨rfl, rfl⟩ | ⟨rfl, rfl⟩ | ⟨rfl, rfl⟩ <;> exact absurd h1 (by decide)
  all_goals exact ⟨fun h => absurd h (by decide), fun h => absurd h (by decide)⟩
 case step =>
  intro l a w' i hI hr
  clear HB BKx BKr hHeld HT_ HW_
  obtain ⟨hi, hl, hn⟩ := ready_at hr
  have hcase : i = 0 ∨ i = 3 ∨ i = 6 ∨ i = 9 ∨ i = 10 ∨ i = 13 ∨ i = 14 ∨ i = 17 ∨ i = 18 ∨ i = 19 := by
   have h20 : i < 20 := hi
   have hno : ¬ (i = 1 ∨ i = 2 ∨ i = 4 ∨ i = 5 ∨ i = 7 ∨ i = 8 ∨ i = 11 ∨ i = 12 ∨ i = 15 ∨ i = 16) := fun h => by rw [hI.old i h] at hl; cases hl
   omega
  clear hi hr
  rcases hcase with rfl | rfl | rfl | rfl | rfl | rfl | rfl | rfl | rfl | rfl
  · refine op_now rfl (value_ (w1 := w'.alloc (.cells #[] 3)) (v := .slice (some ⟨w'.heap.size, 0, none⟩) 0 0) (by rfl) rfl (by go_simp; first | done | rfl | (constructor <;> rfl)) ⟨fun _ hS => blk_alloc hS _, ?_⟩)
    exact hI.build 0 3 (by omega) hl
  · have hB0 := hn _ rfl ⟨0, .data⟩ (by simp) rfl
    have h18 : l.getD 18 true = false := bfalse fun e => by
      obtain ⟨a3, a9, a13, a17, _⟩ := hI.told e
      first | (rw [a3] at hl; cases hl) | (rw [a9] at hl; cases hl) | (rw [a13] at hl; cases hl) | (rw [a17] at hl; cases hl)
    have h19 : l.getD 19 true = false := bfalse fun e => by rw [hI.ord 19 18 (by omega) e] at h18; cases h18
    obtain ⟨hr, hrb, f, r0, r1, r2, r3⟩ := hI.made h19
    obtain ⟨X0, z0, X1, z1, X2, z2, X3, z3, x0, x1, x2, x3, k0, k1, k2, k3⟩ := hI.rows
    have hHO := r0.1 hB0 hl
    have hHO2 := R_refun (f' := fun k => if w'.heap.size ≤ k then 0 else f k) hHO (fun _ _ _ => rfl) (fun k hk => if_neg (by omega))
    refine op_now rfl (Kd.R_append_rows_step (Kd.int .i64) (Rr := (Kd.int .i64).K w) (w0 := w) w.heap.size (by rfl) (.tmp 3) (.tmp 5) 22 3 (.int .i64 0) 8 rfl Try.underlying22 info3 rfl (by decide) (by decide) (a.eval (.tmp 3)) [] l0_0 X0 l0_0.length z0 (fun k => (if w'.heap.size ≤ k then 0 else f k) = 0) (fun _ => False) rfl x0 hHO2 (Kd.C_below k0 hI.bel) (fun _ _ h => h) (fun _ h => h.elim) (fun k hk => if_pos hk) hI.bel hI.bel.size (by have := HL.out.1; simp only [List.length_nil]; omega) ?_)
    intro v1 w1 ho hb hg hat
    have hv : ∀ k, (a.eval (.tmp 3)).ownBlock = some k → f k = 0 ∧ ∃ cells, w'.heap[k]? = some (.cells cells 3 (0, 0)) := fun k hk => ⟨hHO.1 k hk, Kd.R_typed hHO k hk⟩
    refine ⟨fun _ hS => blk_grown hS hg (fun e => by obtain ⟨_, cells, hc⟩ := hv gx e.symm; rw [hS] at hc; injection hc with hc; injection hc with _ hc; exact absurd hc (by decide)), ?_⟩
    exact hI.app 3 6 0 (by omega) hl (fun B hB => (show 0 = B by omega) ▸ hB0) h18 h19 hr hrb (f' := fun k => if w'.heap.size ≤ k then 0 else f k) (fun k hk => if_neg (by omega)) r0 r1 r2 r3 hv hb hg ho
  · refine op_now rfl (value_ (w1 := w'.alloc (.cells #[] 3)) (v := .slice (some ⟨w'.heap.size, 0, none⟩) 0 0) (by rfl) rfl (by go_simp; first | done | rfl | (constructor <;> rfl)) ⟨fun _ hS => blk_alloc hS _, ?_⟩)
    exact hI.build 6 9 (by omega) hl
  · have hB0 := hn _ rfl ⟨6, .data⟩ (by simp) rfl
    have h18 : l.getD 18 true = false := bfalse fun e => by
      obtain ⟨a3, a9, a13, a17, _⟩ := hI.told e
      first | (rw [a3] at hl; cases hl) | (rw [a9] at hl; cases hl) | (rw [a13] at hl; cases hl) | (rw [a17] at hl; cases hl)
    have h19 : l.getD 19 true = false := bfalse fun e => by rw [hI.ord 19 18 (by omega) e] at h18; cases h18
    obtain ⟨hr, hrb, f, r0, r1, r2, r3⟩ := hI.made h19
    obtain ⟨X0, z0, X1, z1, X2, z2, X3, z3, x0, x1, x2, x3, k0, k1, k2, k3⟩ := hI.rows
    have hHO := r1.1 hB0 hl
    have hHO2 := R_refun (f' := fun k => if w'.heap.size ≤ k then 1 else f k) hHO (fun _ _ _ => rfl) (fun k hk => if_neg (by omega))
    refine op_now rfl (Kd.R_append_rows_step (Kd.int .i64) (Rr := (Kd.int .i64).K w) (w0 := w) w.heap.size (by rfl) (.tmp 9) (.tmp 11) 22 3 (.int .i64 0) 8 rfl Try.underlying22 info3 rfl (by decide) (by decide) (a.eval (.tmp 9)) [] l0_2 X1 l0_2.length z1 (fun k => (if w'.heap.size ≤ k then 1 else f k) = 1) (fun _ => False) rfl x1 hHO2 (Kd.C_below k1 hI.bel) (fun _ _ h => h) (fun _ h => h.elim) (fun k hk => if_pos hk) hI.bel hI.bel.size (by have := HL.out.2.1; simp only [List.length_nil]; omega) ?_)
    intro v1 w1 ho hb hg hat
    have hv : ∀ k, (a.eval (.tmp 9)).ownBlock = some k → f k = 1 ∧ ∃ cells, w'.heap[k]? = some (.cells cells 3 (0, 0)) := fun k hk => ⟨hHO.1 k hk, Kd.R_typed hHO k hk⟩
    refine ⟨fun _ hS => blk_grown hS hg (fun e => by obtain ⟨_, cells, hc⟩ := hv gx e.symm; rw [hS] at hc; injection hc with hc; injection hc with _ hc; exact absurd hc (by decide)), ?_⟩
    exact hI.app 9 12 1 (by omega) hl (fun B hB => (show 6 = B by omega) ▸ hB0) h18 h19 hr hrb (f' := fun k => if w'.heap.size ≤ k then 1 else f k) (fun k hk => if_neg (by omega)) r0 r1 r2 r3 hv hb hg ho
  · refine op_now rfl (value_ (w1 := w'.alloc (.cells #[] 3)) (v := .slice (some ⟨w'.heap.size, 0, none⟩) 0 0) (by rfl) rfl (by go_simp; first | done | rfl | (constructor <;> rfl)) ⟨fun _ hS => blk_alloc hS _, ?_⟩)
    exact hI.build 10 13 (by omega) hl
  · have hB0 := hn _ rfl ⟨10, .data⟩ (by simp) rfl
    have h18 : l.getD 18 true = false := bfalse fun e => by
      obtain ⟨a3, a9, a13, a17, _⟩ := hI.told e
      first | (rw [a3] at hl; cases hl) | (rw [a9] at hl; cases hl) | (rw [a13] at hl; cases hl) | (rw [a17] at hl; cases hl)
    have h19 : l.getD 19 true = false := bfalse fun e => by rw [hI.ord 19 18 (by omega) e] at h18; cases h18
    obtain ⟨hr, hrb, f, r0, r1, r2, r3⟩ := hI.made h19
    obtain ⟨X0, z0, X1, z1, X2, z2, X3, z3, x0, x1, x2, x3, k0, k1, k2, k3⟩ := hI.rows
    have hHO := r2.1 hB0 hl
    have hHO2 := R_refun (f' := fun k => if w'.heap.size ≤ k then 2 else f k) hHO (fun _ _ _ => rfl) (fun k hk => if_neg (by omega))
    refine op_now rfl (Kd.R_append_rows_step (Kd.int .i64) (Rr := (Kd.int .i64).K w) (w0 := w) w.heap.size (by rfl) (.tmp 13) (.tmp 15) 22 3 (.int .i64 0) 8 rfl Try.underlying22 info3 rfl (by decide) (by decide) (a.eval (.tmp 13)) [] l0_3 X2 l0_3.length z2 (fun k => (if w'.heap.size ≤ k then 2 else f k) = 2) (fun _ => False) rfl x2 hHO2 (Kd.C_below k2 hI.bel) (fun _ _ h => h) (fun _ h => h.elim) (fun k hk => if_pos hk) hI.bel hI.bel.size (by have := HL.out.2.2.1; simp only [List.length_nil]; omega) ?_)
    intro v1 w1 ho hb hg hat
    have hv : ∀ k, (a.eval (.tmp 13)).ownBlock = some k → f k = 2 ∧ ∃ cells, w'.heap[k]? = some (.cells cells 3 (0, 0)) := fun k hk => ⟨hHO.1 k hk, Kd.R_typed hHO k hk⟩
    refine ⟨fun _ hS => blk_grown hS hg (fun e => by obtain ⟨_, cells, hc⟩ := hv gx e.symm; rw [hS] at hc; injection hc with hc; injection hc with _ hc; exact absurd hc (by decide)), ?_⟩
    exact hI.app 13 16 2 (by omega) hl (fun B hB => (show 10 = B by omega) ▸ hB0) h18 h19 hr hrb (f' := fun k => if w'.heap.size ≤ k then 2 else f k) (fun k hk => if_neg (by omega)) r0 r1 r2 r3 hv hb hg ho
  · refine op_now rfl (value_ (w1 := w'.alloc (.cells #[] 3)) (v := .slice (some ⟨w'.heap.size, 0, none⟩) 0 0) (by rfl) rfl (by go_simp; first | done | rfl | (constructor <;> rfl)) ⟨fun _ hS => blk_alloc hS _, ?_⟩)
    exact hI.build 14 17 (by omega) hl
  · have hB0 := hn _ rfl ⟨14, .data⟩ (by simp) rfl
    have h18 : l.getD 18 true = false := bfalse fun e => by
      obtain ⟨a3, a9, a13, a17, _⟩ := hI.told e
      first | (rw [a3] at hl; cases hl) | (rw [a9] at hl; cases hl) | (rw [a13] at hl; cases hl) | (rw [a17] at hl; cases hl)
    have h19 : l.getD 19 true = false := bfalse fun e => by rw [hI.ord 19 18 (by omega) e] at h18; cases h18
    obtain ⟨hr, hrb, f, r0, r1, r2, r3⟩ := hI.made h19
    obtain ⟨X0, z0, X1, z1, X2, z2, X3, z3, x0, x1, x2, x3, k0, k1, k2, k3⟩ := hI.rows
    have hHO := r3.1 hB0 hl
    have hHO2 := R_refun (f' := fun k => if w'.heap.size ≤ k then 3 else f k) hHO (fun _ _ _ => rfl) (fun k hk => if_neg (by omega))
    refine op_now rfl (Kd.R_append_rows_step (Kd.int .i64) (Rr := (Kd.int .i64).K w) (w0 := w) w.heap.size (by rfl) (.tmp 17) (.tmp 19) 22 3 (.int .i64 0) 8 rfl Try.underlying22 info3 rfl (by decide) (by decide) (a.eval (.tmp 17)) [] l0_4 X3 l0_4.length z3 (fun k => (if w'.heap.size ≤ k then 3 else f k) = 3) (fun _ => False) rfl x3 hHO2 (Kd.C_below k3 hI.bel) (fun _ _ h => h) (fun _ h => h.elim) (fun k hk => if_pos hk) hI.bel hI.bel.size (by have := HL.out.2.2.2; simp only [List.length_nil]; omega) ?_)
    intro v1 w1 ho hb hg hat
    have hv : ∀ k, (a.eval (.tmp 17)).ownBlock = some k → f k = 3 ∧ ∃ cells, w'.heap[k]? = some (.cells cells 3 (0, 0)) := fun k hk => ⟨hHO.1 k hk, Kd.R_typed hHO k hk⟩
    refine ⟨fun _ hS => blk_grown hS hg (fun e => by obtain ⟨_, cells, hc⟩ := hv gx e.symm; rw [hS] at hc; injection hc with hc; injection hc with _ hc; exact absurd hc (by decide)), ?_⟩
    exact hI.app 17 20 3 (by omega) hl (fun B hB => (show 14 = B by omega) ▸ hB0) h18 h19 hr hrb (f' := fun k => if w'.heap.size ≤ k then 3 else f k) (fun k hk => if_neg (by omega)) r0 r1 r2 r3 hv hb hg ho
  · have a3 := hn _ rfl ⟨3, .data⟩ (by simp) rfl
    have a9 := hn _ rfl ⟨9, .data⟩ (by simp) rfl
    have a13 := hn _ rfl ⟨13, .data⟩ (by simp) rfl
    have a17 := hn _ rfl ⟨17, .data⟩ (by simp) rfl
    have h19 : l.getD 19 true = false := bfalse fun e => by rw [hI.ord 19 18 (by omega) e] at hl; cases hl
    obtain ⟨hr, hrb, f, r0, r1, r2, r3⟩ := hI.made h19
    obtain ⟨B0, b0, e0⟩ := Kd.R_slice (r0.2 a3)
    obtain ⟨B2, b2, e2⟩ := Kd.R_slice (r1.2 a9)
    obtain ⟨B3, b3, e3⟩ := Kd.R_slice (r2.2 a13)
    obtain ⟨B4, b4, e4⟩ := Kd.R_slice (r3.2 a17)
    have t8 : a.tmps[8]?.getD undef = .int .i64 a0_1 := by simpa [Act.eval] using hI.e8
    have t6 : a.tmps[6]?.getD undef = .slice B0 l0_0.length b0 := by simpa [Act.eval] using e0
    have t12 : a.tmps[12]?.getD undef = .slice B2 l0_2.length b2 := by simpa [Act.eval] using e2
    have t16 : a.tmps[16]?.getD undef = .slice B3 l0_3.length b3 := by simpa [Act.eval] using e3
    have t20 : a.tmps[20]?.getD undef = .slice B4 l0_4.length b4 := by simpa [Act.eval] using e4
    refine op_now rfl (value_ (w1 := w') (v := .agg #[a.eval (.tmp 6), .int .i64 a0_1, a.eval (.tmp 12), a.eval (.tmp 16), a.eval (.tmp 20)]) (by rfl) rfl (by go_simp; first | done | rfl | trace_state) ⟨fun _ hS => hS, ?_⟩)
    exact hI.tell hl h19 a3 a9 a13 a17
  · have a18 := hn _ rfl ⟨18, .data⟩ (by simp) rfl
    obtain ⟨hr, hrb, f, r0, r1, r2, r3⟩ := hI.made hl
    obtain ⟨a3, a9, a13, a17, e21⟩ := hI.told a18
    obtain ⟨B0, b0, e0⟩ := Kd.R_slice (r0.2 a3)
    obtain ⟨B2, b2, e2⟩ := Kd.R_slice (r1.2 a9)
    obtain ⟨B3, b3, e3⟩ := Kd.R_slice (r2.2 a13)
    obtain ⟨B4, b4, e4⟩ := Kd.R_slice (r3.2 a17)
    rw [e0, e2, e3, e4] at e21
    have t2 : a.tmps[2]?.getD undef = .pointer (some ⟨gr, 0, none⟩) := by simpa [Act.eval] using hI.e2
    have t21 : a.tmps[21]?.getD undef = .agg #[.slice B0 l0_0.length b0, .int .i64 a0_1, .slice B2 l0_2.length b2, .slice B3 l0_3.length b3, .slice B4 l0_4.length b4] := by simpa [Act.eval] using e21
    have z0 := (blk_cell hr 0).trans rfl
    have z1 := (blk_cell hr 1).trans rfl
    have z2 := (blk_cell hr 2).trans rfl
    have z3 := (blk_cell hr 3).trans rfl
    have z4 := (blk_cell hr 4).trans rfl
    have f0 := blk_frozen hr 0
    have f1 := blk_frozen hr 1
    have f2 := blk_frozen hr 2
    have f3 := blk_frozen hr 3
    have f4 := blk_frozen hr 4
    refine op_now rfl (skip_ (w1 := w'.setCells gr 0 [.slice B0 l0_0.length b0, .int .i64 a0_1, .slice B2 l0_2.length b2, .slice B3 l0_3.length b3, .slice B4 l0_4.length b4]) (by rfl) rfl (by go_simp; rfl) ⟨fun hd => absurd (by simp) hd, ?_⟩)
    rw [e0] at r0
    rw [e2] at r1
    rw [e3] at r2
    rw [e4] at r3
    exact hI.store hl hr hrb a18 (r0.2 a3) (r1.2 a9) (r2.2 a13) (r3.2 a17) NExr.out
 case last =>
  intro l a w' hI hr
  clear HB BKx BKr hHeld HT_ HW_
  have hall := none_left (by exact hI.sz) (low_of (by kernel_rfl)) hr
  obtain ⟨v0, v1, v2, v3, f, hb, x0, x1, x2, x3⟩ := hI.fin (hall 19 (by decide))
  have he2 := hI.e2
  have hdf := hI.dfr
  go_wp2
  refine bodyPost_ret (results_cell_row rfl _ _ gr 41 #[v0, .int .i64 a0_1, v1, v2, v3] (0, 0) _ he2 hb Try.underlying41 rfl (by kernel_rfl)) hdf ?_
  exact ⟨v0, v1, v2, v3, rfl, Kd.R_mono x0 (fun k hk => ⟨fun e => by have := x1.1 k e.symm; omega, fun e => by have := x2.1 k e.symm; omega, fun e => by have := x3.1 k e.symm; omega⟩),
    Kd.R_mono x1 (fun k hk => ⟨fun e => by have := x0.1 k e.symm; omega, fun e => by have := x2.1 k e.symm; omega, fun e => by have := x3.1 k e.symm; omega⟩),
    Kd.R_mono x2 (fun k hk => ⟨fun e => by have := x0.1 k e.symm; omega, fun e => by have := x1.1 k e.symm; omega, fun e => by have := x3.1 k e.symm; omega⟩),
    Kd.R_mono x3 (fun k hk => ⟨fun e => by have := x0.1 k e.symm; omega, fun e => by have := x1.1 k e.symm; omega, fun e => by have := x2.1 k e.symm; omega⟩), hI.bel⟩
end Go.Proofs.Ytmnepkbmcnpjlaa.Q
