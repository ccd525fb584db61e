-- packed by wip/tools/pack.py (a program of this session) out of its own texts
import Derived.Test.YtndkimjmbpbcmaaPMergeAll0
import Derived.ArgAppend
import Derived.Below
import Derived.BigQuiet
import Derived.Deep.AppendLies
import Derived.Deep.CutBlock
import Derived.Deep.DeepCutAuto
import Derived.Deep.Draws
import Derived.Deep.LoopGhost
import Derived.Deep.OwnRows
import Derived.Deep.QuietTactic
import Derived.Deep.RegionHeld3
import Derived.KernelRfl
import Derived.Laws.BitsLemmas
import Derived.Laws.BytesArg
import Derived.Laws.IdiomCopy
import Derived.Laws.MakeOwn
import Derived.Laws.OwnMore
import Derived.Laws.Rows
import Derived.Laws.Slices
import Derived.Lib.AppendStr
import Derived.Lib.ConvBytes
import Derived.Maps.AppendAt
import Derived.OrdersHeld
import Derived.OwnWalk
import Derived.RowKit
import Derived.RowKit3
import Derived.Tactics
import Derived.Test.YtndkimjmbpbcmaaProg
import Derived.WalkKit
import Derived.WideLaws
import Derived.Test.YtndkimjmbpbcmaaPMergeAll1
import Derived.Test.YtndkimjmbpbcmaaPMergeAll3
import Derived.Test.YtndkimjmbpbcmaaPMergeAll4
import Derived.Test.YtndkimjmbpbcmaaPMergeAll5
import Derived.Test.YtndkimjmbpbcmaaPMergeAll6
namespace Go.Proofs.Ytndkimjmbpbcmaa.Q
open Go.RowKit Go.Proofs.YtndkimjmbpbcmaaW.PrintWords Go.Proofs.YtndkimjmbpbcmaaW.PrintLast Go.Proofs.YtndkimjmbpbcmaaW.PrintMore
attribute [local go_sem] max2_int min2_int max_two min_two max_three min_three max_four min_four
set_option linter.unusedVariables false
set_option linter.unusedSimpArgs false
def hypercuberef5_Runs.l0 : Nat → List (S44) → Int → List (List (S44)) → List (S44) → Int → Option ((List (List (S44))))
 | 0, _, _, _, _, _ => none
 | k + 1, x0, x1, x5, x6, x7 => if x7 < (x0.length : Int) then (if 0 ≤ x7 then ((hypercuberef5_has.f k x6 ((rd_T44 x0 x7).f0)).bind fun t319 => (if t319 = true then ((hypercuberef2_Put.f k x6 ((rd_T44 x0 x7).f0) ((rd_T44 x0 x7).f1) ((rd_T44 x0 x7).f2) ((rd_T44 x0 x7).f3) ((rd_T44 x0 x7).f4)).bind fun t321 => (hypercuberef5_Runs.l0 k x0 x1 x5 t321 (wrap64 (x7 + 1)))) else (if (x6.length : Int) = x1 then (if x5.length < 5864062014805 then ((hypercuberef2_Put.f k ([] : List (S44)) ((rd_T44 x0 x7).f0) ((rd_T44 x0 x7).f1) ((rd_T44 x0 x7).f2) ((rd_T44 x0 x7).f3) ((rd_T44 x0 x7).f4)).bind fun t328 => (hypercuberef5_Runs.l0 k x0 x1 (x5 ++ [x6]) t328 (wrap64 (x7 + 1)))) else (none)) else ((hypercuberef2_Put.f k x6 ((rd_T44 x0 x7).f0) ((rd_T44 x0 x7).f1) ((rd_T44 x0 x7).f2) ((rd_T44 x0 x7).f3) ((rd_T44 x0 x7).f4)).bind fun t332 => (hypercuberef5_Runs.l0 k x0 x1 x5 t332 (wrap64 (x7 + 1))))))) else (none)) else (if (x6.length : Int) > 0 then (if x5.length < 5864062014805 then (some (x5 ++ [x6])) else (none)) else (some x5))
def hypercuberef5_Runs.f (k : Nat) (l0 : List (S44)) (a1 : Int) : Option ((List (List (S44)))) := hypercuberef5_Runs.l0 k l0 a1 ([] : List (List (S44))) ([] : List (S44)) 0
set_option maxHeartbeats 8000000 in
set_option maxRecDepth 100000 in
theorem hypercuberef5_Runs.calls (k : Nat) (A0 : Option Addr) (c0 : Nat) (l0 : List (S44)) (a1 : Int) (r : List (List (S44))) (w : World) (hr0 : Kd.C k44 w A0 l0.length l0) (hc0 : l0.length ≤ c0) (h : hypercuberef5_Runs.f k l0 a1 = some r) :
  Calls Try.prog 15 #[.slice A0 l0.length c0, .int .i64 a1] w fun e w' => ∃ v0_ : Value, e = .returned (v0_) ∧ Kd.N (Kd.slice 44 k44) 31 w' w.heap.size (fun k_ => (w.heap.size ≤ k_)) v0_ r ∧ Below w.heap.size w w' := by
 have hu44 := Try.underlying44
 have HR0 := am hr0
 have HC0 := am hc0
 clear hr0 hc0
 have HB := am (Below.refl w.heap.size w)
 have H : (hypercuberef5_Runs.l0 k l0 a1 ([] : List (List (S44))) ([] : List (S44)) 0) = some r := h
 clear h
 have H' := am H
 clear H
 go_enter Try.func15, Try.ntmps15
 go_wp2
 go_loopg [5, 6, 7] k (fun kq v5 v6 v7 w' => ∃ (x5_1 : List (List (S44))) (x6_1 : List (S44)) (x7_1 : Int), v7 = .int .i64 x7_1 ∧ Aside0 (hypercuberef5_Runs.l0 kq l0 a1 x5_1 x6_1 x7_1 = some r) ∧ Aside0 (kq ≤ k) ∧ Aside0 (Kd.N (Kd.slice 44 k44) 31 w' w.heap.size (fun k_ => (w.heap.size ≤ k_) ∧ some k_ ≠ (v6 : Value).ownBlock) v5 x5_1) ∧ Aside0 (Kd.N k44 44 w' w.heap.size (fun k_ => (w.heap.size ≤ k_) ∧ some k_ ≠ (v5 : Value).ownBlock) v6 x6_1) ∧ Aside0 (Below w.heap.size w w'))
 case atStart => exact ⟨(([] : List (List (S44)))), (([] : List (S44))), (0), (by first | rfl | (simp; done) | (simp [*]; done)), H', ⟨Nat.le_refl _⟩, ⟨by first | exact Kd.R_nil _ _ _ _ _ | exact Kd.N_nil _ _ _ _ _ | exact Kd.V_nil _ _ _ _ _ | exact Kd.Q_nil _ _ _ _ _ | exact Kd.S_nil _ _ _ _ _⟩, ⟨by first | exact Kd.S_nil _ _ _ _ _ | exact Kd.N_nil _ _ _ _ _ | exact Kd.V_nil _ _ _ _ _ | exact Kd.Q_nil _ _ _ _ _ | exact Kd.R_nil _ _ _ _ _⟩, ⟨by repeat (first | (with_reducible first | exact HB.out | apply below_alloc | apply pw_below_drewN | apply below_drew1) | exact HB.out)⟩⟩
 case round =>
  clear H'
  try clear c1
  try clear p2
  obtain ⟨x5_1, x6_1, x7_1, rfl, HA, HK1, HO_5, HO_6, HB⟩ := hrel
  cases gk with
  | zero => exact absurd HA.out (by simp [hypercuberef5_Runs.l0])
  | succ k1 =>
   have H := HA.out
   clear HA
   simp only [hypercuberef5_Runs.l0] at H
   by_cases c3 : x7_1 < (l0.length : Int)
   ·rw [if_pos c3] at H
    have c3b0 : decide (x7_1 < (l0.length : Int)) = true := decide_eq_true c3
    clear c3
    by_cases c4 : 0 ≤ x7_1
    ·rw [if_pos c4] at H
     have c4b0 : decide (0 ≤ x7_1) = true := decide_eq_true c4
     clear c4
     replace H := Option.bind_eq_some_iff.mp H
     obtain ⟨t319, A50, H⟩ := H
     replace H : (if t319 = true then ((hypercuberef2_Put.f k1 x6_1 ((rd_T44 l0 x7_1).f0) ((rd_T44 l0 x7_1).f1) ((rd_T44 l0 x7_1).f2) ((rd_T44 l0 x7_1).f3) ((rd_T44 l0 x7_1).f4)).bind fun t321 => (hypercuberef5_Runs.l0 k1 l0 a1 x5_1 t321 (wrap64 (x7_1 + 1)))) else (if (x6_1.length : Int) = a1 then (if x5_1.length < 5864062014805 then ((hypercuberef2_Put.f k1 ([] : List (S44)) ((rd_T44 l0 x7_1).f0) ((rd_T44 l0 x7_1).f1) ((rd_T44 l0 x7_1).f2) ((rd_T44 l0 x7_1).f3) ((rd_T44 l0 x7_1).f4)).bind fun t328 => (hypercuberef5_Runs.l0 k1 l0 a1 (x5_1 ++ [x6_1]) t328 (wrap64 (x7_1 + 1)))) else (none)) else ((hypercuberef2_Put.f k1 x6_1 ((rd_T44 l0 x7_1).f0) ((rd_T44 l0 x7_1).f1) ((rd_T44 l0 x7_1).f2) ((rd_T44 l0 x7_1).f3) ((rd_T44 l0 x7_1).f4)).bind fun t332 => (hypercuberef5_Runs.l0 k1 l0 a1 x5_1 t332 (wrap64 (x7_1 + 1)))))) = some r := H
     have A5 := am A50
     clear A50
     by_cases c6 : t319 = true
     ·subst c6
      have H1 : ((hypercuberef2_Put.f k1 x6_1 ((rd_T44 l0 x7_1).f0) ((rd_T44 l0 x7_1).f1) ((rd_T44 l0 x7_1).f2) ((rd_T44 l0 x7_1).f3) ((rd_T44 l0 x7_1).f4)).bind fun t321 => (hypercuberef5_Runs.l0 k1 l0 a1 x5_1 t321 (wrap64 (x7_1 + 1)))) = some r := by rw [if_pos rfl] at H; exact H
      clear H
      have H := H1
      clear H1
      replace H := Option.bind_eq_some_iff.mp H
      obtain ⟨t321, A70, H⟩ := H
      replace H : (hypercuberef5_Runs.l0 k1 l0 a1 x5_1 t321 (wrap64 (x7_1 + 1))) = some r := H
      have A7 := am A70
      clear A70
      have H' := am H
      clear H
      have p318 : 0 ≤ (x7_1 : Int) := of_decide_eq_true (by first | (with_reducible assumption) | assumption)
      have q318 : x7_1 < (l0.length : Int) := of_decide_eq_true (by first | (with_reducible assumption) | assumption)
      obtain ⟨ad318, A318_0, c318_0, A318_2, c318_2, A318_3, c318_3, A318_4, c318_4, e318, hx318_0, hx318_1, hx318_2, hx318_3, hx318_4, hl318_0, hi318_0, hl318_2, hi318_2, hl318_3, hi318_3, hl318_4, hi318_4⟩ := at_T44 HR0.out x7_1 p318 q318
      cases e318
      replace hx318_0 := (HB.out.cell (World.block_lt_of_cell? w _ hx318_0)).trans hx318_0
      replace hx318_1 := (HB.out.cell (World.block_lt_of_cell? w _ hx318_1)).trans hx318_1
      replace hx318_2 := (HB.out.cell (World.block_lt_of_cell? w _ hx318_2)).trans hx318_2
      replace hx318_3 := (HB.out.cell (World.block_lt_of_cell? w _ hx318_3)).trans hx318_3
      replace hx318_4 := (HB.out.cell (World.block_lt_of_cell? w _ hx318_4)).trans hx318_4
      have HR318_0 := am hi318_0
      have HC318_0 := am hl318_0
      clear hi318_0 hl318_0
      have HR318_2 := am hi318_2
      have HC318_2 := am hl318_2
      clear hi318_2 hl318_2
      have HR318_3 := am hi318_3
      have HC318_3 := am hl318_3
      clear hi318_3 hl318_3
      have HR318_4 := am hi318_4
      have HC318_4 := am hl318_4
      clear hi318_4 hl318_4
      replace p318 := eq_true p318
      replace q318 := eq_true q318
      obtain ⟨Ao8, co8, eo8⟩ := Kd.N_slice HO_6.out
      subst eo8
      go_wp2_with (first | (go_at_call 29; (with_reducible refine (hypercuberef5_has.calls k1 _ _ x6_1 _ _ ((rd_T44 l0 x7_1).f0) true _ ?side1 ?side2 ?side3 ?side4 A5.out).mono ?_); (case side1 => repeat (first | exact (Kd.N_reads' HO_6.out).2.2 | (with_reducible refine Kd.C_alloc ?_ _) | (with_reducible refine Kd.C_drewN ?_ _) | (with_reducible refine Kd.C_drew ?_))); (case side2 => exact (Kd.N_reads' HO_6.out).2.1); (case side3 => repeat (first | exact (Kd.C_below HR318_0.out HB.out) | (with_reducible refine Kd.C_alloc ?_ _) | (with_reducible refine Kd.C_drewN ?_ _) | (with_reducible refine Kd.C_drew ?_))); (case side4 => exact HC318_0.out); rintro e w' ⟨rfl, ⟨nd, rfl⟩⟩; have p320 : 0 ≤ (x7_1 : Int) := of_decide_eq_true (by first | (with_reducible assumption) | assumption); have q320 : x7_1 < (l0.length : Int) := of_decide_eq_true (by first | (with_reducible assumption) | assumption); obtain ⟨ad320, A320_0, c320_0, A320_2, c320_2, A320_3, c320_3, A320_4, c320_4, e320, hx320_0, hx320_1, hx320_2, hx320_3, hx320_4, hl320_0, hi320_0, hl320_2, hi320_2, hl320_3, hi320_3, hl320_4, hi320_4⟩ := at_T44 HR0.out x7_1 p320 q320; obtain rfl : ad318 = ad320 := (by injection e320); replace hx320_0 := (HB.out.cell (World.block_lt_of_cell? w _ hx320_0)).trans hx320_0; replace hx320_1 := (HB.out.cell (World.block_lt_of_cell? w _ hx320_1)).trans hx320_1; replace hx320_2 := (HB.out.cell (World.block_lt_of_cell? w _ hx320_2)).trans hx320_2; replace hx320_3 := (HB.out.cell (World.block_lt_of_cell? w _ hx320_3)).trans hx320_3; replace hx320_4 := (HB.out.cell (World.block_lt_of_cell? w _ hx320_4)).trans hx320_4; have HR320_0 := am hi320_0; have HC320_0 := am hl320_0; clear hi320_0 hl320_0; have HR320_2 := am hi320_2; have HC320_2 := am hl320_2; clear hi320_2 hl320_2; have HR320_3 := am hi320_3; have HC320_3 := am hl320_3; clear hi320_3 hl320_3; have HR320_4 := am hi320_4; have HC320_4 := am hl320_4; clear hi320_4 hl320_4; replace p320 := eq_true p320; replace q320 := eq_true q320; have ea_ := Option.some.inj (hx318_0.symm.trans hx320_0); injection ea_ with ea_ en_ ec_; subst ea_; subst ec_; clear en_; have ea_ := Option.some.inj (hx318_2.symm.trans hx320_2); injection ea_ with ea_ en_ ec_; subst ea_; subst ec_; clear en_; have ea_ := Option.some.inj (hx318_3.symm.trans hx320_3); injection ea_ with ea_ en_ ec_; subst ea_; subst ec_; clear en_; have ea_ := Option.some.inj (hx318_4.symm.trans hx320_4); injection ea_ with ea_ en_ ec_; subst ea_; subst ec_; clear en_) | (go_at_call 30; (with_reducible refine (hypercuberef2_Put.calls k1 (fun k_ => ((w.heap.size ≤ k_) ∧ some k_ ≠ (u5 : Value).ownBlock)) _ _ x6_1 _ _ ((rd_T44 l0 x7_1).f0) ((rd_T44 l0 x7_1).f1) _ _ ((rd_T44 l0 x7_1).f2) _ _ ((rd_T44 l0 x7_1).f3) _ _ ((rd_T44 l0 x7_1).f4) t321 _ ?side1 ?side2 ?side3 ?side4 ?side5 ?side6 ?side7 ?side8 ?side9 A7.out).mono ?_); (case side1 => exact Kd.N_V (HO_6.out)); (case side2 => repeat (first | exact (Kd.C_below HR320_0.out (by repeat (first | (with_reducible first | exact HB.out | apply below_alloc | apply pw_below_drewN | apply below_drew1) | exact HB.out))) | (with_reducible refine Kd.C_alloc ?_ _) | (with_reducible refine Kd.C_drewN ?_ _) | (with_reducible refine Kd.C_drew ?_))); (case side3 => exact HC320_0.out); (case side4 => repeat (first | exact (Kd.C_below HR320_2.out (by repeat (first | (with_reducible first | exact HB.out | apply below_alloc | apply pw_below_drewN | apply below_drew1) | exact HB.out))) | (with_reducible refine Kd.C_alloc ?_ _) | (with_reducible refine Kd.C_drewN ?_ _) | (with_reducible refine Kd.C_drew ?_))); (case side5 => exact HC320_2.out); (case side6 => repeat (first | exact (Kd.C_below HR320_3.out (by repeat (first | (with_reducible first | exact HB.out | apply below_alloc | apply pw_below_drewN | apply below_drew1) | exact HB.out))) | (with_reducible refine Kd.C_alloc ?_ _) | (with_reducible refine Kd.C_drewN ?_ _) | (with_reducible refine Kd.C_drew ?_))); (case side7 => exact HC320_3.out); (case side8 => repeat (first | exact (Kd.C_below HR320_4.out (by repeat (first | (with_reducible first | exact HB.out | apply below_alloc | apply pw_below_drewN | apply below_drew1) | exact HB.out))) | (with_reducible refine Kd.C_alloc ?_ _) | (with_reducible refine Kd.C_drewN ?_ _) | (with_reducible refine Kd.C_drew ?_))); (case side9 => exact HC320_4.out); rintro e w9 ⟨v322, rfl, ho0, hb⟩; have n0_ := am (Kd.N_elder' (by (with_reducible repeat (first | apply Kd.N_alloc | apply Kd.N_drewN | apply Kd.N_drew)); exact HO_5.out) (by first | exact Kd.N_base ho0 | exact Kd.S_base ho0 | exact Kd.R_base ho0) hb); have n1_ := am (Kd.N_elder' (by (with_reducible repeat (first | apply Kd.N_alloc | apply Kd.N_drewN | apply Kd.N_drew)); exact HO_6.out) (by first | exact Kd.N_base ho0 | exact Kd.S_base ho0 | exact Kd.R_base ho0) hb); have n2_ := am (Kd.N_lower (Kd.N_mono (ok' := fun k_ => (w.heap.size ≤ k_) ∧ some k_ ≠ (u5 : Value).ownBlock) ho0 (fun k_ hk_ => ⟨Or.elim hk_ (fun hs_ => hs_.1) (fun hn_ => (Nat.le_trans (below_size (by repeat (first | (with_reducible first | exact HB.out | apply below_alloc | apply pw_below_drewN | apply below_drew1) | exact HB.out))) hn_)), Or.elim hk_ (fun hs_ => hs_.2) (fun hn_ => (Kd.fresh' (Kd.N_lt (by (with_reducible repeat (first | apply Kd.N_alloc | apply Kd.N_drewN | apply Kd.N_drew)); exact HO_5.out)) k_ hn_))⟩)) (below_size (by repeat (first | (with_reducible first | exact HB.out | apply below_alloc | apply pw_below_drewN | apply below_drew1) | exact HB.out)))); have n3_ := am (below_step (by repeat (first | (with_reducible first | exact HB.out | apply below_alloc | apply pw_below_drewN | apply below_drew1) | exact HB.out)) hb); clear HO_5 HO_6 HB; revert n0_ n1_ n2_ n3_; intro HO_5 HO_6 HO323 HB; (try clear hb); (try clear hb2); (try clear hk); (try clear hi); (try clear ho0)))
      go_roundg k1
      case measure => have := HK1.out; omega
      case rel => exact ⟨(x5_1), (t321), (wrap64 (x7_1 + 1)), (by first | rfl | (simp; done) | (simp [*]; done)), H', ⟨by have := HK1.out; omega⟩, ⟨by (with_reducible repeat (first | apply Kd.N_alloc | apply Kd.N_drewN | apply Kd.N_drew)); exact Kd.N_mono HO_5.out (fun _ hk => ⟨hk.1.1, hk.2⟩)⟩, ⟨by (with_reducible repeat (first | apply Kd.N_alloc | apply Kd.N_drewN | apply Kd.N_drew)); exact HO323.out⟩, ⟨by repeat (first | (with_reducible first | exact HB.out | apply below_alloc | apply pw_below_drewN | apply below_drew1) | exact HB.out)⟩⟩
     ·replace c6 := Bool.eq_false_iff.mpr c6
      subst c6
      have H1 : (if (x6_1.length : Int) = a1 then (if x5_1.length < 5864062014805 then ((hypercuberef2_Put.f k1 ([] : List (S44)) ((rd_T44 l0 x7_1).f0) ((rd_T44 l0 x7_1).f1) ((rd_T44 l0 x7_1).f2) ((rd_T44 l0 x7_1).f3) ((rd_T44 l0 x7_1).f4)).bind fun t328 => (hypercuberef5_Runs.l0 k1 l0 a1 (x5_1 ++ [x6_1]) t328 (wrap64 (x7_1 + 1)))) else (none)) else ((hypercuberef2_Put.f k1 x6_1 ((rd_T44 l0 x7_1).f0) ((rd_T44 l0 x7_1).f1) ((rd_T44 l0 x7_1).f2) ((rd_T44 l0 x7_1).f3) ((rd_T44 l0 x7_1).f4)).bind fun t332 => (hypercuberef5_Runs.l0 k1 l0 a1 x5_1 t332 (wrap64 (x7_1 + 1))))) = some r := by rw [if_neg (show ¬ (false = true) by decide)] at H; exact H
      clear H
      have H := H1
      clear H1
      by_cases c10 : (x6_1.length : Int) = a1
      ·rw [if_pos c10] at H
       have c10b0 : ((x6_1.length : Int) == a1) = true := beq_iff_eq.mpr c10
       have c10b1 : ((x6_1.length : Int) != a1) = false := bne_eq_false_iff_eq.mpr c10
       clear c10
       by_cases c11 : x5_1.length < 5864062014805
       ·rw [if_pos c11] at H
        have LMc11 := am c11
        clear c11
        obtain ⟨y324, hy324⟩ : ∃ y_ : List (List (S44)), y_ = (x5_1 ++ [x6_1]) := ⟨_, rfl⟩
        replace H : ((hypercuberef2_Put.f k1 ([] : List (S44)) ((rd_T44 l0 x7_1).f0) ((rd_T44 l0 x7_1).f1) ((rd_T44 l0 x7_1).f2) ((rd_T44 l0 x7_1).f3) ((rd_T44 l0 x7_1).f4)).bind fun t328 => (hypercuberef5_Runs.l0 k1 l0 a1 y324 t328 (wrap64 (x7_1 + 1)))) = some r := by rw [hy324]; with_reducible exact H
        have Ny324 := am hy324
        clear hy324
        replace H := Option.bind_eq_some_iff.mp H
        obtain ⟨t328, A120, H⟩ := H
        replace H : (hypercuberef5_Runs.l0 k1 l0 a1 y324 t328 (wrap64 (x7_1 + 1))) = some r := H
        have A12 := am A120
        clear A120
        have H' := am H
        clear H
        have p318 : 0 ≤ (x7_1 : Int) := of_decide_eq_true (by first | (with_reducible assumption) | assumption)
        have q318 : x7_1 < (l0.length : Int) := of_decide_eq_true (by first | (with_reducible assumption) | assumption)
        obtain ⟨ad318, A318_0, c318_0, A318_2, c318_2, A318_3, c318_3, A318_4, c318_4, e318, hx318_0, hx318_1, hx318_2, hx318_3, hx318_4, hl318_0, hi318_0, hl318_2, hi318_2, hl318_3, hi318_3, hl318_4, hi318_4⟩ := at_T44 HR0.out x7_1 p318 q318
        cases e318
        replace hx318_0 := (HB.out.cell (World.block_lt_of_cell? w _ hx318_0)).trans hx318_0
        replace hx318_1 := (HB.out.cell (World.block_lt_of_cell? w _ hx318_1)).trans hx318_1
        replace hx318_2 := (HB.out.cell (World.block_lt_of_cell? w _ hx318_2)).trans hx318_2
        replace hx318_3 := (HB.out.cell (World.block_lt_of_cell? w _ hx318_3)).trans hx318_3
        replace hx318_4 := (HB.out.cell (World.block_lt_of_cell? w _ hx318_4)).trans hx318_4
        have HR318_0 := am hi318_0
        have HC318_0 := am hl318_0
        clear hi318_0 hl318_0
        have HR318_2 := am hi318_2
        have HC318_2 := am hl318_2
        clear hi318_2 hl318_2
        have HR318_3 := am hi318_3
        have HC318_3 := am hl318_3
        clear hi318_3 hl318_3
        have HR318_4 := am hi318_4
        have HC318_4 := am hl318_4
        clear hi318_4 hl318_4
        replace p318 := eq_true p318
        replace q318 := eq_true q318
        obtain ⟨Ao13, co13, eo13⟩ := Kd.N_slice HO_6.out
        subst eo13
        go_wp2_with (first | (go_at_call 29; (with_reducible refine (hypercuberef5_has.calls k1 _ _ x6_1 _ _ ((rd_T44 l0 x7_1).f0) false _ ?side1 ?side2 ?side3 ?side4 A5.out).mono ?_); (case side1 => repeat (first | exact (Kd.N_reads' HO_6.out).2.2 | (with_reducible refine Kd.C_alloc ?_ _) | (with_reducible refine Kd.C_drewN ?_ _) | (with_reducible refine Kd.C_drew ?_))); (case side2 => exact (Kd.N_reads' HO_6.out).2.1); (case side3 => repeat (first | exact (Kd.C_below HR318_0.out HB.out) | (with_reducible refine Kd.C_alloc ?_ _) | (with_reducible refine Kd.C_drewN ?_ _) | (with_reducible refine Kd.C_drew ?_))); (case side4 => exact HC318_0.out); rintro e w' ⟨rfl, ⟨nd, rfl⟩⟩) | ((with_reducible refine gate_builtin (b := .append) (xs := #[.tmp 28, .tmp 30]) rfl ?_); (try (refine gate_guard (by rfl) ?_; dsimp only)); at_builtin; refine Kd.N_append (Kd.slice 44 k44) (w0 := w) w.heap.size rfl (.tmp 28) (.tmp 30) 29 31 (.slice none 0 0) 24 rfl Try.underlying29 info31 rfl (by decide) (by omega) u5 x5_1 x6_1 [.slice Ao13 x6_1.length co13] (fun k_ => (w.heap.size ≤ k_)) (fun k_ => ((fun k_ => (w.heap.size ≤ k_))) k_ ∧ some k_ ≠ (u5 : Value).ownBlock) rfl rfl ?aP (fun _ hk => hk) ?aF ?aO ?aB ?aS ?aL ?_; (case aP => exact (Kd.FK_slice_mk (Kd.N_reads' (Kd.N_mono (ok' := (fun k_ => ((fun k_ => (w.heap.size ≤ k_))) k_ ∧ some k_ ≠ (u5 : Value).ownBlock)) (HO_6.out) (fun k_ hk => ⟨hk.1, hk.2⟩))).2.1 (Kd.N_F (Kd.N_mono (ok' := (fun k_ => ((fun k_ => (w.heap.size ≤ k_))) k_ ∧ some k_ ≠ (u5 : Value).ownBlock)) (HO_6.out) (fun k_ hk => ⟨hk.1, hk.2⟩))))); (case aB => exact (by repeat (first | (with_reducible first | exact HB.out | apply below_alloc | apply pw_below_drewN | apply below_drew1) | exact HB.out))); (case aF => exact (fun k_ hk => (Nat.le_trans (below_size (by repeat (first | (with_reducible first | exact HB.out | apply below_alloc | apply pw_below_drewN | apply below_drew1) | exact HB.out))) hk))); (case aO => exact (by (with_reducible repeat (first | apply Kd.N_alloc | apply Kd.N_drewN | apply Kd.N_drew)); exact Kd.N_mono HO_5.out (fun _ hk => hk.1))); (case aS => exact (below_size (by repeat (first | (with_reducible first | exact HB.out | apply below_alloc | apply pw_below_drewN | apply below_drew1) | exact HB.out)))); (case aL => have := LMc11.out; omega); intro v325 w14 ho hb hg hat; rw [← Ny324.out] at ho; have n0_ := am (hb); have n1_ := am (ho); clear HB HO_5 HO_6; revert n0_ n1_; intro HB HO326; clear ho hb hg hat; have p327 : 0 ≤ (x7_1 : Int) := of_decide_eq_true (by first | (with_reducible assumption) | assumption); have q327 : x7_1 < (l0.length : Int) := of_decide_eq_true (by first | (with_reducible assumption) | assumption); obtain ⟨ad327, A327_0, c327_0, A327_2, c327_2, A327_3, c327_3, A327_4, c327_4, e327, hx327_0, hx327_1, hx327_2, hx327_3, hx327_4, hl327_0, hi327_0, hl327_2, hi327_2, hl327_3, hi327_3, hl327_4, hi327_4⟩ := at_T44 HR0.out x7_1 p327 q327; obtain rfl : ad318 = ad327 := (by injection e327); replace hx327_0 := (HB.out.cell (World.block_lt_of_cell? w _ hx327_0)).trans hx327_0; replace hx327_1 := (HB.out.cell (World.block_lt_of_cell? w _ hx327_1)).trans hx327_1; replace hx327_2 := (HB.out.cell (World.block_lt_of_cell? w _ hx327_2)).trans hx327_2; replace hx327_3 := (HB.out.cell (World.block_lt_of_cell? w _ hx327_3)).trans hx327_3; replace hx327_4 := (HB.out.cell (World.block_lt_of_cell? w _ hx327_4)).trans hx327_4; have HR327_0 := am hi327_0; have HC327_0 := am hl327_0; clear hi327_0 hl327_0; have HR327_2 := am hi327_2; have HC327_2 := am hl327_2; clear hi327_2 hl327_2; have HR327_3 := am hi327_3; have HC327_3 := am hl327_3; clear hi327_3 hl327_3; have HR327_4 := am hi327_4; have HC327_4 := am hl327_4; clear hi327_4 hl327_4; replace p327 := eq_true p327; replace q327 := eq_true q327) | (go_at_call 30; (refine (hypercuberef2_Put.calls k1 (fun k_ => False) _ _ ([] : List (S44)) _ _ ((rd_T44 l0 x7_1).f0) ((rd_T44 l0 x7_1).f1) _ _ ((rd_T44 l0 x7_1).f2) _ _ ((rd_T44 l0 x7_1).f3) _ _ ((rd_T44 l0 x7_1).f4) t328 _ ?side1 ?side2 ?side3 ?side4 ?side5 ?side6 ?side7 ?side8 ?side9 A12.out).mono ?_); (case side1 => exact Kd.V_nil _ _ _ _ _); (case side2 => repeat (first | exact (Kd.C_below HR327_0.out HB.out) | (with_reducible refine Kd.C_alloc ?_ _) | (with_reducible refine Kd.C_drewN ?_ _) | (with_reducible refine Kd.C_drew ?_))); (case side3 => exact HC327_0.out); (case side4 => repeat (first | exact (Kd.C_below HR327_2.out HB.out) | (with_reducible refine Kd.C_alloc ?_ _) | (with_reducible refine Kd.C_drewN ?_ _) | (with_reducible refine Kd.C_drew ?_))); (case side5 => exact HC327_2.out); (case side6 => repeat (first | exact (Kd.C_below HR327_3.out HB.out) | (with_reducible refine Kd.C_alloc ?_ _) | (with_reducible refine Kd.C_drewN ?_ _) | (with_reducible refine Kd.C_drew ?_))); (case side7 => exact HC327_3.out); (case side8 => repeat (first | exact (Kd.C_below HR327_4.out HB.out) | (with_reducible refine Kd.C_alloc ?_ _) | (with_reducible refine Kd.C_drewN ?_ _) | (with_reducible refine Kd.C_drew ?_))); (case side9 => exact HC327_4.out); rintro e w15 ⟨v329, rfl, ho0, hb⟩; have n0_ := am (Kd.N_elder' (by (with_reducible repeat (first | apply Kd.N_alloc | apply Kd.N_drewN | apply Kd.N_drew)); exact HO326.out) (by first | exact Kd.N_base ho0 | exact Kd.S_base ho0 | exact Kd.R_base ho0) hb); have n1_ := am (Kd.N_lower (Kd.N_mono (ok' := fun k_ => (w.heap.size ≤ k_) ∧ some k_ ≠ (v325 : Value).ownBlock) ho0 (fun k_ hk_ => ⟨Or.elim hk_ (fun hs_ => (hs_).elim) (fun hn_ => (Nat.le_trans (below_size (by repeat (first | (with_reducible first | exact HB.out | apply below_alloc | apply pw_below_drewN | apply below_drew1) | exact HB.out))) hn_)), Or.elim hk_ (fun hs_ => (hs_).elim) (fun hn_ => (Kd.fresh' (Kd.N_lt (by (with_reducible repeat (first | apply Kd.N_alloc | apply Kd.N_drewN | apply Kd.N_drew)); exact HO326.out)) k_ hn_))⟩)) (below_size (by repeat (first | (with_reducible first | exact HB.out | apply below_alloc | apply pw_below_drewN | apply below_drew1) | exact HB.out)))); have n2_ := am (below_step (by repeat (first | (with_reducible first | exact HB.out | apply below_alloc | apply pw_below_drewN | apply below_drew1) | exact HB.out)) hb); clear HO326 HB; revert n0_ n1_ n2_; intro HO326 HO330 HB; (try clear hb); (try clear hb2); (try clear hk); (try clear hi); (try clear ho0)))
        go_roundg k1
        case measure => have := HK1.out; omega
        case rel => exact ⟨(y324), (t328), (wrap64 (x7_1 + 1)), (by first | rfl | (simp; done) | (simp [*]; done)), H', ⟨by have := HK1.out; omega⟩, ⟨by (with_reducible repeat (first | apply Kd.N_alloc | apply Kd.N_drewN | apply Kd.N_drew)); exact HO326.out⟩, ⟨by (with_reducible repeat (first | apply Kd.N_alloc | apply Kd.N_drewN | apply Kd.N_drew)); exact HO330.out⟩, ⟨by repeat (first | (with_reducible first | exact HB.out | apply below_alloc | apply pw_below_drewN | apply below_drew1) | exact HB.out)⟩⟩
       ·rw [if_neg c11] at H
        exact absurd H (by simp)
      ·rw [if_neg c10] at H
       have c10b0 : ((x6_1.length : Int) == a1) = false := beq_eq_false_iff_ne.mpr c10
       have c10b1 : ((x6_1.length : Int) != a1) = true := bne_iff_ne.mpr c10
       replace H := Option.bind_eq_some_iff.mp H
       obtain ⟨t332, A160, H⟩ := H
       replace H : (hypercuberef5_Runs.l0 k1 l0 a1 x5_1 t332 (wrap64 (x7_1 + 1))) = some r := H
       have A16 := am A160
       clear A160
       have H' := am H
       clear H
       have p318 : 0 ≤ (x7_1 : Int) := of_decide_eq_true (by first | (with_reducible assumption) | assumption)
       have q318 : x7_1 < (l0.length : Int) := of_decide_eq_true (by first | (with_reducible assumption) | assumption)
       obtain ⟨ad318, A318_0, c318_0, A318_2, c318_2, A318_3, c318_3, A318_4, c318_4, e318, hx318_0, hx318_1, hx318_2, hx318_3, hx318_4, hl318_0, hi318_0, hl318_2, hi318_2, hl318_3, hi318_3, hl318_4, hi318_4⟩ := at_T44 HR0.out x7_1 p318 q318
       cases e318
       replace hx318_0 := (HB.out.cell (World.block_lt_of_cell? w _ hx318_0)).trans hx318_0
       replace hx318_1 := (HB.out.cell (World.block_lt_of_cell? w _ hx318_1)).trans hx318_1
       replace hx318_2 := (HB.out.cell (World.block_lt_of_cell? w _ hx318_2)).trans hx318_2
       replace hx318_3 := (HB.out.cell (World.block_lt_of_cell? w _ hx318_3)).trans hx318_3
       replace hx318_4 := (HB.out.cell (World.block_lt_of_cell? w _ hx318_4)).trans hx318_4
       have HR318_0 := am hi318_0
       have HC318_0 := am hl318_0
       clear hi318_0 hl318_0
       have HR318_2 := am hi318_2
       have HC318_2 := am hl318_2
       clear hi318_2 hl318_2
       have HR318_3 := am hi318_3
       have HC318_3 := am hl318_3
       clear hi318_3 hl318_3
       have HR318_4 := am hi318_4
       have HC318_4 := am hl318_4
       clear hi318_4 hl318_4
       replace p318 := eq_true p318
       replace q318 := eq_true q318
       obtain ⟨Ao17, co17, eo17⟩ := Kd.N_slice HO_6.out
       subst eo17
       go_wp2_with (first | (go_at_call 29; (with_reducible refine (hypercuberef5_has.calls k1 _ _ x6_1 _ _ ((rd_T44 l0 x7_1).f0) false _ ?side1 ?side2 ?side3 ?side4 A5.out).mono ?_); (case side1 => repeat (first | exact (Kd.N_reads' HO_6.out).2.2 | (with_reducible refine Kd.C_alloc ?_ _) | (with_reducible refine Kd.C_drewN ?_ _) | (with_reducible refine Kd.C_drew ?_))); (case side2 => exact (Kd.N_reads' HO_6.out).2.1); (case side3 => repeat (first | exact (Kd.C_below HR318_0.out HB.out) | (with_reducible refine Kd.C_alloc ?_ _) | (with_reducible refine Kd.C_drewN ?_ _) | (with_reducible refine Kd.C_drew ?_))); (case side4 => exact HC318_0.out); rintro e w' ⟨rfl, ⟨nd, rfl⟩⟩; have p331 : 0 ≤ (x7_1 : Int) := of_decide_eq_true (by first | (with_reducible assumption) | assumption); have q331 : x7_1 < (l0.length : Int) := of_decide_eq_true (by first | (with_reducible assumption) | assumption); obtain ⟨ad331, A331_0, c331_0, A331_2, c331_2, A331_3, c331_3, A331_4, c331_4, e331, hx331_0, hx331_1, hx331_2, hx331_3, hx331_4, hl331_0, hi331_0, hl331_2, hi331_2, hl331_3, hi331_3, hl331_4, hi331_4⟩ := at_T44 HR0.out x7_1 p331 q331; obtain rfl : ad318 = ad331 := (by injection e331); replace hx331_0 := (HB.out.cell (World.block_lt_of_cell? w _ hx331_0)).trans hx331_0; replace hx331_1 := (HB.out.cell (World.block_lt_of_cell? w _ hx331_1)).trans hx331_1; replace hx331_2 := (HB.out.cell (World.block_lt_of_cell? w _ hx331_2)).trans hx331_2; replace hx331_3 := (HB.out.cell (World.block_lt_of_cell? w _ hx331_3)).trans hx331_3; replace hx331_4 := (HB.out.cell (World.block_lt_of_cell? w _ hx331_4)).trans hx331_4; have HR331_0 := am hi331_0; have HC331_0 := am hl331_0; clear hi331_0 hl331_0; have HR331_2 := am hi331_2; have HC331_2 := am hl331_2; clear hi331_2 hl331_2; have HR331_3 := am hi331_3; have HC331_3 := am hl331_3; clear hi331_3 hl331_3; have HR331_4 := am hi331_4; have HC331_4 := am hl331_4; clear hi331_4 hl331_4; replace p331 := eq_true p331; replace q331 := eq_true q331; have ea_ := Option.some.inj (hx318_0.symm.trans hx331_0); injection ea_ with ea_ en_ ec_; subst ea_; subst ec_; clear en_; have ea_ := Option.some.inj (hx318_2.symm.trans hx331_2); injection ea_ with ea_ en_ ec_; subst ea_; subst ec_; clear en_; have ea_ := Option.some.inj (hx318_3.symm.trans hx331_3); injection ea_ with ea_ en_ ec_; subst ea_; subst ec_; clear en_; have ea_ := Option.some.inj (hx318_4.symm.trans hx331_4); injection ea_ with ea_ en_ ec_; subst ea_; subst ec_; clear en_) | (go_at_call 30; (with_reducible refine (hypercuberef2_Put.calls k1 (fun k_ => ((w.heap.size ≤ k_) ∧ some k_ ≠ (u5 : Value).ownBlock)) _ _ x6_1 _ _ ((rd_T44 l0 x7_1).f0) ((rd_T44 l0 x7_1).f1) _ _ ((rd_T44 l0 x7_1).f2) _ _ ((rd_T44 l0 x7_1).f3) _ _ ((rd_T44 l0 x7_1).f4) t332 _ ?side1 ?side2 ?side3 ?side4 ?side5 ?side6 ?side7 ?side8 ?side9 A16.out).mono ?_); (case side1 => exact Kd.N_V (HO_6.out)); (case side2 => repeat (first | exact (Kd.C_below HR331_0.out (by repeat (first | (with_reducible first | exact HB.out | apply below_alloc | apply pw_below_drewN | apply below_drew1) | exact HB.out))) | (with_reducible refine Kd.C_alloc ?_ _) | (with_reducible refine Kd.C_drewN ?_ _) | (with_reducible refine Kd.C_drew ?_))); (case side3 => exact HC331_0.out); (case side4 => repeat (first | exact (Kd.C_below HR331_2.out (by repeat (first | (with_reducible first | exact HB.out | apply below_alloc | apply pw_below_drewN | apply below_drew1) | exact HB.out))) | (with_reducible refine Kd.C_alloc ?_ _) | (with_reducible refine Kd.C_drewN ?_ _) | (with_reducible refine Kd.C_drew ?_))); (case side5 => exact HC331_2.out); (case side6 => repeat (first | exact (Kd.C_below HR331_3.out (by repeat (first | (with_reducible first | exact HB.out | apply below_alloc | apply pw_below_drewN | apply below_drew1) | exact HB.out))) | (with_reducible refine Kd.C_alloc ?_ _) | (with_reducible refine Kd.C_drewN ?_ _) | (with_reducible refine Kd.C_drew ?_))); (case side7 => exact HC331_3.out); (case side8 => repeat (first | exact (Kd.C_below HR331_4.out (by repeat (first | (with_reducible first | exact HB.out | apply below_alloc | apply pw_below_drewN | apply below_drew1) | exact HB.out))) | (with_reducible refine Kd.C_alloc ?_ _) | (with_reducible refine Kd.C_drewN ?_ _) | (with_reducible refine Kd.C_drew ?_))); (case side9 => exact HC331_4.out); rintro e w18 ⟨v333, rfl, ho0, hb⟩; have n0_ := am (Kd.N_elder' (by (with_reducible repeat (first | apply Kd.N_alloc | apply Kd.N_drewN | apply Kd.N_drew)); exact HO_5.out) (by first | exact Kd.N_base ho0 | exact Kd.S_base ho0 | exact Kd.R_base ho0) hb); have n1_ := am (Kd.N_elder' (by (with_reducible repeat (first | apply Kd.N_alloc | apply Kd.N_drewN | apply Kd.N_drew)); exact HO_6.out) (by first | exact Kd.N_base ho0 | exact Kd.S_base ho0 | exact Kd.R_base ho0) hb); have n2_ := am (Kd.N_lower (Kd.N_mono (ok' := fun k_ => (w.heap.size ≤ k_) ∧ some k_ ≠ (u5 : Value).ownBlock) ho0 (fun k_ hk_ => ⟨Or.elim hk_ (fun hs_ => hs_.1) (fun hn_ => (Nat.le_trans (below_size (by repeat (first | (with_reducible first | exact HB.out | apply below_alloc | apply pw_below_drewN | apply below_drew1) | exact HB.out))) hn_)), Or.elim hk_ (fun hs_ => hs_.2) (fun hn_ => (Kd.fresh' (Kd.N_lt (by (with_reducible repeat (first | apply Kd.N_alloc | apply Kd.N_drewN | apply Kd.N_drew)); exact HO_5.out)) k_ hn_))⟩)) (below_size (by repeat (first | (with_reducible first | exact HB.out | apply below_alloc | apply pw_below_drewN | apply below_drew1) | exact HB.out)))); have n3_ := am (below_step (by repeat (first | (with_reducible first | exact HB.out | apply below_alloc | apply pw_below_drewN | apply below_drew1) | exact HB.out)) hb); clear HO_5 HO_6 HB; revert n0_ n1_ n2_ n3_; intro HO_5 HO_6 HO334 HB; (try clear hb); (try clear hb2); (try clear hk); (try clear hi); (try clear ho0)))
       go_roundg k1
       case measure => have := HK1.out; omega
       case rel => exact ⟨(x5_1), (t332), (wrap64 (x7_1 + 1)), (by first | rfl | (simp; done) | (simp [*]; done)), H', ⟨by have := HK1.out; omega⟩, ⟨by (with_reducible repeat (first | apply Kd.N_alloc | apply Kd.N_drewN | apply Kd.N_drew)); exact Kd.N_mono HO_5.out (fun _ hk => ⟨hk.1.1, hk.2⟩)⟩, ⟨by (with_reducible repeat (first | apply Kd.N_alloc | apply Kd.N_drewN | apply Kd.N_drew)); exact HO334.out⟩, ⟨by repeat (first | (with_reducible first | exact HB.out | apply below_alloc | apply pw_below_drewN | apply below_drew1) | exact HB.out)⟩⟩
    ·rw [if_neg c4] at H
     exact absurd H (by simp)
   ·rw [if_neg c3] at H
    have c3b0 : decide (x7_1 < (l0.length : Int)) = false := decide_eq_false c3
    clear c3
    by_cases c19 : (x6_1.length : Int) > 0
    ·rw [if_pos c19] at H
     have c19b0 : decide (0 < (x6_1.length : Int)) = true := decide_eq_true c19
     have c19b1 : decide (0 < x6_1.length) = true := decide_eq_true (by omega)
     clear c19
     by_cases c20 : x5_1.length < 5864062014805
     ·rw [if_pos c20] at H
      have LMc20 := am c20
      clear c20
      obtain ⟨y315, hy315⟩ : ∃ y_ : List (List (S44)), y_ = (x5_1 ++ [x6_1]) := ⟨_, rfl⟩
      replace H : (some y315) = some r := by rw [hy315]; with_reducible exact H
      have Ny315 := am hy315
      clear hy315
      obtain rfl := Option.some.inj H
      obtain ⟨Ao21, co21, eo21⟩ := Kd.N_slice HO_6.out
      subst eo21
      go_wp2_with (first | ((with_reducible refine gate_builtin (b := .append) (xs := #[.tmp 41, .tmp 43]) rfl ?_); (try (refine gate_guard (by rfl) ?_; dsimp only)); at_builtin; refine Kd.N_append (Kd.slice 44 k44) (w0 := w) w.heap.size rfl (.tmp 41) (.tmp 43) 29 31 (.slice none 0 0) 24 rfl Try.underlying29 info31 rfl (by decide) (by omega) u5 x5_1 x6_1 [.slice Ao21 x6_1.length co21] (fun k_ => (w.heap.size ≤ k_)) (fun k_ => ((fun k_ => (w.heap.size ≤ k_))) k_ ∧ some k_ ≠ (u5 : Value).ownBlock) rfl rfl ?aP (fun _ hk => hk) ?aF ?aO ?aB ?aS ?aL ?_; (case aP => exact (Kd.FK_slice_mk (Kd.N_reads' (Kd.N_mono (ok' := (fun k_ => ((fun k_ => (w.heap.size ≤ k_))) k_ ∧ some k_ ≠ (u5 : Value).ownBlock)) (HO_6.out) (fun k_ hk => ⟨hk.1, hk.2⟩))).2.1 (Kd.N_F (Kd.N_mono (ok' := (fun k_ => ((fun k_ => (w.heap.size ≤ k_))) k_ ∧ some k_ ≠ (u5 : Value).ownBlock)) (HO_6.out) (fun k_ hk => ⟨hk.1, hk.2⟩))))); (case aB => exact (wmv HB.out)); (case aF => exact (fun k_ hk => (Nat.le_trans (below_size (wmv HB.out)) hk))); (case aO => exact (Kd.N_mv (Kd.N_mono HO_5.out (fun _ hk => hk.1)))); (case aS => exact (below_size (wmv HB.out))); (case aL => have := LMc20.out; omega); intro v316 w22 ho hb hg hat; rw [← Ny315.out] at ho; have n0_ := am (hb); have n1_ := am (ho); clear HB HO_5 HO_6; revert n0_ n1_; intro HB HO317; clear ho hb hg hat))
      go_ret
      exact ⟨_, by first | rfl | (simp [errW_none, errW_some] <;> rfl) | (simp [*, errW_none, errW_some] <;> rfl), by (with_reducible repeat (first | apply Kd.N_alloc | apply Kd.N_drewN | apply Kd.N_drew)); exact HO317.out, by repeat (first | (with_reducible first | exact HB.out | apply below_alloc | apply pw_below_drewN | apply below_drew1) | exact HB.out)⟩
     ·rw [if_neg c20] at H
      exact absurd H (by simp)
    ·rw [if_neg c19] at H
     have c19b0 : decide (0 < (x6_1.length : Int)) = false := decide_eq_false c19
     have c19b1 : decide (0 < x6_1.length) = false := decide_eq_false (by omega)
     clear c19
     obtain rfl := Option.some.inj H
     obtain ⟨Ao23, co23, eo23⟩ := Kd.N_slice HO_6.out
     subst eo23
     go_wp2
     go_ret
     exact ⟨_, by first | rfl | (simp [errW_none, errW_some] <;> rfl) | (simp [*, errW_none, errW_some] <;> rfl), by (with_reducible repeat (first | apply Kd.N_alloc | apply Kd.N_drewN | apply Kd.N_drew)); exact Kd.N_mono HO_5.out (fun _ hk => hk.1), by repeat (first | (with_reducible first | exact HB.out | apply below_alloc | apply pw_below_drewN | apply below_drew1) | exact HB.out)⟩
mutual
def hypercuberef6_Two.l0 : Nat → List (S44) → List (S44) → List (S44) → Int → Int → Option ((List (S44)))
 | 0, _, _, _, _, _ => none
 | k + 1, x0, x1, x5, x6, x7 => if x6 < (x0.length : Int) then (hypercuberef6_Two.j1 k x0 x1 x5 x6 x7 true) else (hypercuberef6_Two.j1 k x0 x1 x5 x6 x7 (decide (x7 < (x1.length : Int))))
def hypercuberef6_Two.j1 : Nat → List (S44) → List (S44) → List (S44) → Int → Int → Bool → Option ((List (S44)))
 | 0, _, _, _, _, _, _ => none
 | k + 1, x0, x1, x5, x6, x7, x18 => if x18 = true then (if x6 = (x0.length : Int) then (hypercuberef6_Two.j2 k x0 x1 x5 x6 x7 1) else (if x7 = (x1.length : Int) then (hypercuberef6_Two.j2 k x0 x1 x5 x6 x7 (-1)) else (if 0 ≤ x6 then (if x6 < (x0.length : Int) then (if 0 ≤ x7 then (if x7 < (x1.length : Int) then ((hypercuberef2_Less.f k ((rd_T44 x0 x6).f0) ((rd_T44 x1 x7).f0)).bind fun t381 => (hypercuberef6_Two.j2 k x0 x1 x5 x6 x7 t381)) else (none)) else (none)) else (none)) else (none)))) else (some x5)
def hypercuberef6_Two.j2 : Nat → List (S44) → List (S44) → List (S44) → Int → Int → Int → Option ((List (S44)))
 | 0, _, _, _, _, _, _ => none
 | k + 1, x0, x1, x5, x6, x7, x8 => if x8 < 0 then (if 0 ≤ x6 then (if x6 < (x0.length : Int) then ((hypercuberef2_Copy.f ((rd_T44 x0 x6).f0) ((rd_T44 x0 x6).f1) ((rd_T44 x0 x6).f2) ((rd_T44 x0 x6).f3) ((rd_T44 x0 x6).f4)).bind fun bt383 => (if x5.length < 1353245080339 then (hypercuberef6_Two.l0 k x0 x1 (x5 ++ [(⟨bt383.1, bt383.2.1, bt383.2.2.1, bt383.2.2.2.1, bt383.2.2.2.2⟩ : S44)]) (wrap64 (x6 + 1)) x7) else (none))) else (none)) else (none)) else (if x8 > 0 then (if 0 ≤ x7 then (if x7 < (x1.length : Int) then ((hypercuberef2_Copy.f ((rd_T44 x1 x7).f0) ((rd_T44 x1 x7).f1) ((rd_T44 x1 x7).f2) ((rd_T44 x1 x7).f3) ((rd_T44 x1 x7).f4)).bind fun bt400 => (if x5.length < 1353245080339 then (hypercuberef6_Two.l0 k x0 x1 (x5 ++ [(⟨bt400.1, bt400.2.1, bt400.2.2.1, bt400.2.2.2.1, bt400.2.2.2.2⟩ : S44)]) x6 (wrap64 (x7 + 1))) else (none))) else (none)) else (none)) else (if 0 ≤ x6 then (if x6 < (x0.length : Int) then (if 0 ≤ x7 then (if x7 < (x1.length : Int) then ((hypercuberef2_Join.f k ((rd_T44 x0 x6).f0) ((rd_T44 x0 x6).f1) ((rd_T44 x0 x6).f2) ((rd_T44 x0 x6).f3) ((rd_T44 x0 x6).f4) ((rd_T44 x1 x7).f0) ((rd_T44 x1 x7).f1) ((rd_T44 x1 x7).f2) ((rd_T44 x1 x7).f3) ((rd_T44 x1 x7).f4)).bind fun bt418 => (if x5.length < 1353245080339 then (hypercuberef6_Two.l0 k x0 x1 (x5 ++ [(⟨bt418.1, bt418.2.1, bt418.2.2.1, bt418.2.2.2.1, bt418.2.2.2.2⟩ : S44)]) (wrap64 (x6 + 1)) (wrap64 (x7 + 1))) else (none))) else (none)) else (none)) else (none)) else (none)))
end
def hypercuberef6_Two.f (k : Nat) (l0 : List (S44)) (l1 : List (S44)) : Option ((List (S44))) := hypercuberef6_Two.l0 k l0 l1 ([] : List (S44)) 0 0
def hypercuberef6_Two.T5 : Bool × List (List Nat × List Nat) := (true, [([], []), ([], []), ([0, 1], [0, 1]), ([2], [2]), ([3], [3]), ([], []), ([], []), ([5, 6], [5, 6]), ([7], [7]), ([8], [8]), ([4, 9], [4, 9]), ([10, 10, 0, 1, 2, 3, 4, 5, 6, 7, 8, 9, 10], [10])])
def hypercuberef6_Two.B5 : List Nat := [0, 0, 3, 7, 15, 0, 0, 96, 224, 480, 1023, 2047]
theorem hypercuberef6_Two.tab5 : rtab .any (opsOf Try.f24 5) = hypercuberef6_Two.T5 := by kernel_rfl
theorem hypercuberef6_Two.bits5 : waitsOk hypercuberef6_Two.T5.2 hypercuberef6_Two.B5 = true := by kernel_rfl
def hypercuberef6_Two.T10 : Bool × List (List Nat × List Nat) := (true, [([], []), ([], []), ([], []), ([1, 2], [1, 2]), ([3], [3]), ([], []), ([], []), ([5, 6], [5, 6]), ([7], [7]), ([4, 8], [4, 8]), ([9], [9]), ([0, 10, 9], [0, 10]), ([11, 11, 0, 1, 2, 3, 4, 5, 6, 7, 8, 9, 10, 11], [0, 11])])
def hypercuberef6_Two.B10 : List Nat := [0, 0, 0, 6, 14, 0, 0, 96, 224, 510, 1022, 2047, 4095]
theorem hypercuberef6_Two.tab10 : rtab .any (opsOf Try.f24 10) = hypercuberef6_Two.T10 := by kernel_rfl
theorem hypercuberef6_Two.bits10 : waitsOk hypercuberef6_Two.T10.2 hypercuberef6_Two.B10 = true := by kernel_rfl
set_option maxHeartbeats 8000000 in
set_option maxRecDepth 100000 in
theorem hypercuberef6_Two.calls (k : Nat) (A0 : Option Addr) (c0 : Nat) (l0 : List (S44)) (A1 : Option Addr) (c1 : Nat) (l1 : List (S44)) (r : List (S44)) (w : World) (hr0 : Kd.C k44 w A0 l0.length l0) (hc0 : l0.length ≤ c0) (hr1 : Kd.C k44 w A1 l1.length l1) (hc1 : l1.length ≤ c1) (h : hypercuberef6_Two.f k l0 l1 = some r) :
  Calls Try.prog 24 #[.slice A0 l0.length c0, .slice A1 l1.length c1] w fun e w' => ∃ v0_ : Value, e = .returned (v0_) ∧ Kd.S k44 44 w' w.heap.size (fun _ => True) v0_ r ∧ Below w.heap.size w w' := by
 have hu44 := Try.underlying44
 have HR0 := am hr0
 have HC0 := am hc0
 clear hr0 hc0
 have HR1 := am hr1
 have HC1 := am hc1
 clear hr1 hc1
 have HB := am (Below.refl w.heap.size w)
 have H : (hypercuberef6_Two.l0 k l0 l1 ([] : List (S44)) 0 0) = some r := h
 clear h
 have H' := am H
 clear H
 go_enter Try.func24, Try.ntmps24
 go_wp2
 go_loopg [5, 6, 7] k (fun kq v5 v6 v7 w' => ∃ (x5_1 : List (S44)) (x6_1 : Int) (x7_1 : Int), v6 = .int .i64 x6_1 ∧ v7 = .int .i64 x7_1 ∧ Aside0 (hypercuberef6_Two.l0 kq l0 l1 x5_1 x6_1 x7_1 = some r) ∧ Aside0 (kq ≤ k) ∧ Aside0 (Kd.S k44 44 w' w.heap.size (fun _ => True) v5 x5_1) ∧ Aside0 (Below w.heap.size w w'))
 case atStart => exact ⟨(([] : List (S44))), (0), (0), (by first | rfl | (simp; done) | (simp [*]; done)), (by first | rfl | (simp; done) | (simp [*]; done)), H', ⟨Nat.le_refl _⟩, ⟨by first | exact Kd.S_nil _ _ _ _ _ | exact Kd.N_nil _ _ _ _ _ | exact Kd.V_nil _ _ _ _ _ | exact Kd.Q_nil _ _ _ _ _ | exact Kd.R_nil _ _ _ _ _⟩, ⟨by repeat (first | (with_reducible first | exact HB.out | apply below_alloc | apply pw_below_drewN | apply below_drew1) | exact HB.out)⟩⟩
 case round =>
  clear H'
  try clear c1
  try clear c2
  try clear p2
  obtain ⟨x5_1, x6_1, x7_1, rfl, rfl, HA, HK1, HO_5, HB⟩ := hrel
  cases gk with
  | zero => exact absurd HA.out (by simp [hypercuberef6_Two.l0])
  | succ k1 =>
   have H := HA.out
   clear HA
   simp only [hypercuberef6_Two.l0] at H
   have HC3 := am H
   clear H
   go_upto_region 3 with (fail)
   go_cut [18] (fun v18 wc => ∃ (kq : Nat) (x18_2 : Bool), v18 = .bool x18_2 ∧ Aside0 (hypercuberef6_Two.j1 kq l0 l1 x5_1 x6_1 x7_1 x18_2 = some r) ∧ Aside0 (kq ≤ k1) ∧ Aside0 (Kd.S k44 44 wc w.heap.size (fun _ => True) u5 x5_1) ∧ Aside0 (Below w.heap.size w wc))
   case first =>
    have H := HC3.out
    clear HC3
    by_cases c4 : x6_1 < (l0.length : Int)
    ·rw [if_pos c4] at H
     have c4b0 : decide (x6_1 < (l0.length : Int)) = true := decide_eq_true c4
     clear c4
     (first | rw [c4b0] | (simp only [i64_w, i32_w]; rw [c4b0]) | skip)
     have H' := am H
     clear H
     go_wp2
     go_meet
     case rel => exact ⟨_, (true), (by first | rfl | (simp; done) | (simp [*]; done)), H', ⟨by have := HK1.out; first | omega | exact Nat.le_refl _⟩, ⟨by (with_reducible repeat (first | apply Kd.S_alloc | apply Kd.S_drewN | apply Kd.S_drew)); exact HO_5.out⟩, ⟨by repeat (first | (with_reducible first | exact HB.out | apply below_alloc | apply pw_below_drewN | apply below_drew1) | exact HB.out)⟩⟩
    ·rw [if_neg c4] at H
     have c4b0 : decide (x6_1 < (l0.length : Int)) = false := decide_eq_false c4
     clear c4
     (first | rw [c4b0] | (simp only [i64_w, i32_w]; rw [c4b0]) | skip)
     have H' := am H
     clear H
     go_wp2
     go_meet
     case rel => exact ⟨_, (decide (x7_1 < (l1.length : Int))), (by first | rfl | (simp; done) | (simp [*]; done)), H', ⟨by have := HK1.out; first | omega | exact Nat.le_refl _⟩, ⟨by (with_reducible repeat (first | apply Kd.S_alloc | apply Kd.S_drewN | apply Kd.S_drew)); exact HO_5.out⟩, ⟨by repeat (first | (with_reducible first | exact HB.out | apply below_alloc | apply pw_below_drewN | apply below_drew1) | exact HB.out)⟩⟩
   case rest =>
    clear HC3
    try clear c1
    try clear c2
    try clear p2
    try clear c4
    try clear c4b0
    try clear p2
    obtain ⟨kq, x18_2, rfl, HA, HJ2, HO_5, HB⟩ := hcut
    cases kq with
    | zero => exact absurd HA.out (by simp [hypercuberef6_Two.j1])
    | succ kj2 =>
     have H := HA.out
     clear HA
     simp only [hypercuberef6_Two.j1] at H
     by_cases c5 : x18_2 = true
     ·subst c5
      have H1 : (if x6_1 = (l0.length : Int) then (hypercuberef6_Two.j2 kj2 l0 l1 x5_1 x6_1 x7_1 1) else (if x7_1 = (l1.length : Int) then (hypercuberef6_Two.j2 kj2 l0 l1 x5_1 x6_1 x7_1 (-1)) else (if 0 ≤ x6_1 then (if x6_1 < (l0.length : Int) then (if 0 ≤ x7_1 then (if x7_1 < (l1.length : Int) then ((hypercuberef2_Less.f kj2 ((rd_T44 l0 x6_1).f0) ((rd_T44 l1 x7_1).f0)).bind fun t381 => (hypercuberef6_Two.j2 kj2 l0 l1 x5_1 x6_1 x7_1 t381)) else (none)) else (none)) else (none)) else (none)))) = some r := by rw [if_pos rfl] at H; exact H
      clear H
      have H := H1
      clear H1
      have HC6 := am H
      clear H
      go_upto_block 2 with (fail)
      go_cut [8] (fun v8 wc => ∃ (kq : Nat) (x8_5 : Int), v8 = .int .i64 x8_5 ∧ Aside0 (hypercuberef6_Two.j2 kq l0 l1 x5_1 x6_1 x7_1 x8_5 = some r) ∧ Aside0 (kq ≤ kj2) ∧ Aside0 (Kd.S k44 44 wc w.heap.size (fun _ => True) u5 x5_1) ∧ Aside0 (Below w.heap.size w wc))
      case first =>
       have H := HC6.out
       clear HC6
       by_cases c7 : x6_1 = (l0.length : Int)
       ·rw [if_pos c7] at H
        have c7b0 : (x6_1 == (l0.length : Int)) = true := beq_iff_eq.mpr c7
        have c7b1 : (x6_1 != (l0.length : Int)) = false := bne_eq_false_iff_eq.mpr c7
        clear c7
        (first | rw [c7b0] | (simp only [i64_w, i32_w]; rw [c7b0]) | skip)
        have H' := am H
        clear H
        go_wp2
        go_meet
        case rel => exact ⟨_, (1), (by first | rfl | (simp; done) | (simp [*]; done)), H', ⟨by have := HK1.out; have := HJ2.out; first | omega | exact Nat.le_refl _⟩, ⟨by (with_reducible repeat (first | apply Kd.S_alloc | apply Kd.S_drewN | apply Kd.S_drew)); exact HO_5.out⟩, ⟨by repeat (first | (with_reducible first | exact HB.out | apply below_alloc | apply pw_below_drewN | apply below_drew1) | exact HB.out)⟩⟩
       ·rw [if_neg c7] at H
        have c7b0 : (x6_1 == (l0.length : Int)) = false := beq_eq_false_iff_ne.mpr c7
        have c7b1 : (x6_1 != (l0.length : Int)) = true := bne_iff_ne.mpr c7
        (first | rw [c7b0] | (simp only [i64_w, i32_w]; rw [c7b0]) | skip)
        by_cases c8 : x7_1 = (l1.length : Int)
        ·rw [if_pos c8] at H
         have c8b0 : (x7_1 == (l1.length : Int)) = true := beq_iff_eq.mpr c8
         have c8b1 : (x7_1 != (l1.length : Int)) = false := bne_eq_false_iff_eq.mpr c8
         clear c8
         have H' := am H
         clear H
         go_wp2
         go_meet
         case rel => exact ⟨_, ((-1)), (by first | rfl | (simp; done) | (simp [*]; done)), H', ⟨by have := HK1.out; have := HJ2.out; first | omega | exact Nat.le_refl _⟩, ⟨by (with_reducible repeat (first | apply Kd.S_alloc | apply Kd.S_drewN | apply Kd.S_drew)); exact HO_5.out⟩, ⟨by repeat (first | (with_reducible first | exact HB.out | apply below_alloc | apply pw_below_drewN | apply below_drew1) | exact HB.out)⟩⟩
        ·rw [if_neg c8] at H
         have c8b0 : (x7_1 == (l1.length : Int)) = false := beq_eq_false_iff_ne.mpr c8
         have c8b1 : (x7_1 != (l1.length : Int)) = true := bne_iff_ne.mpr c8
         by_cases c9 : 0 ≤ x6_1
         ·rw [if_pos c9] at H
          have c9b0 : decide (0 ≤ x6_1) = true := decide_eq_true c9
          clear c9
          by_cases c10 : x6_1 < (l0.length : Int)
          ·rw [if_pos c10] at H
           have c10b0 : decide (x6_1 < (l0.length : Int)) = true := decide_eq_true c10
           clear c10
           by_cases c11 : 0 ≤ x7_1
           ·rw [if_pos c11] at H
            have c11b0 : decide (0 ≤ x7_1) = true := decide_eq_true c11
            clear c11
            by_cases c12 : x7_1 < (l1.length : Int)
            ·rw [if_pos c12] at H
             have c12b0 : decide (x7_1 < (l1.length : Int)) = true := decide_eq_true c12
             clear c12
             replace H := Option.bind_eq_some_iff.mp H
             obtain ⟨t381, A130, H⟩ := H
             replace H : (hypercuberef6_Two.j2 kj2 l0 l1 x5_1 x6_1 x7_1 t381) = some r := H
             have A13 := am A130
             clear A130
             have H' := am H
             clear H
             try go_wp2
             have n0_ := am (Kd.S_drew HO_5.out)
             have n1_ := am (below_drew1 HB.out)
             clear HO_5 HB
             revert n0_ n1_
             intro HO_5 HB
             have p379 : 0 ≤ (x6_1 : Int) := of_decide_eq_true (by first | (with_reducible assumption) | assumption)
             have q379 : x6_1 < (l0.length : Int) := of_decide_eq_true (by first | (with_reducible assumption) | assumption)
             obtain ⟨ad379, A379_0, c379_0, A379_2, c379_2, A379_3, c379_3, A379_4, c379_4, e379, hx379_0, hx379_1, hx379_2, hx379_3, hx379_4, hl379_0, hi379_0, hl379_2, hi379_2, hl379_3, hi379_3, hl379_4, hi379_4⟩ := at_T44 HR0.out x6_1 p379 q379
             have hw379_4 := hx379_4
             have hw379_3 := hx379_3
             have hw379_2 := hx379_2
             have hw379_1 := hx379_1
             have hw379_0 := hx379_0
             cases e379
             replace hx379_0 := (HB.out.cell (World.block_lt_of_cell? w _ hx379_0)).trans hx379_0
             replace hx379_1 := (HB.out.cell (World.block_lt_of_cell? w _ hx379_1)).trans hx379_1
             replace hx379_2 := (HB.out.cell (World.block_lt_of_cell? w _ hx379_2)).trans hx379_2
             replace hx379_3 := (HB.out.cell (World.block_lt_of_cell? w _ hx379_3)).trans hx379_3
             replace hx379_4 := (HB.out.cell (World.block_lt_of_cell? w _ hx379_4)).trans hx379_4
             have HR379_0 := am hi379_0
             have HC379_0 := am hl379_0
             clear hi379_0 hl379_0
             have HR379_2 := am hi379_2
             have HC379_2 := am hl379_2
             clear hi379_2 hl379_2
             have HR379_3 := am hi379_3
             have HC379_3 := am hl379_3
             clear hi379_3 hl379_3
             have HR379_4 := am hi379_4
             have HC379_4 := am hl379_4
             clear hi379_4 hl379_4
             replace p379 := eq_true p379
             replace q379 := eq_true q379
             have p380 : 0 ≤ (x7_1 : Int) := of_decide_eq_true (by first | (with_reducible assumption) | assumption)
             have q380 : x7_1 < (l1.length : Int) := of_decide_eq_true (by first | (with_reducible assumption) | assumption)
             obtain ⟨ad380, A380_0, c380_0, A380_2, c380_2, A380_3, c380_3, A380_4, c380_4, e380, hx380_0, hx380_1, hx380_2, hx380_3, hx380_4, hl380_0, hi380_0, hl380_2, hi380_2, hl380_3, hi380_3, hl380_4, hi380_4⟩ := at_T44 HR1.out x7_1 p380 q380
             have hw380_4 := hx380_4
             have hw380_3 := hx380_3
             have hw380_2 := hx380_2
             have hw380_1 := hx380_1
             have hw380_0 := hx380_0
             cases e380
             replace hx380_0 := (HB.out.cell (World.block_lt_of_cell? w _ hx380_0)).trans hx380_0
             replace hx380_1 := (HB.out.cell (World.block_lt_of_cell? w _ hx380_1)).trans hx380_1
             replace hx380_2 := (HB.out.cell (World.block_lt_of_cell? w _ hx380_2)).trans hx380_2
             replace hx380_3 := (HB.out.cell (World.block_lt_of_cell? w _ hx380_3)).trans hx380_3
             replace hx380_4 := (HB.out.cell (World.block_lt_of_cell? w _ hx380_4)).trans hx380_4
             have HR380_0 := am hi380_0
             have HC380_0 := am hl380_0
             clear hi380_0 hl380_0
             have HR380_2 := am hi380_2
             have HC380_2 := am hl380_2
             clear hi380_2 hl380_2
             have HR380_3 := am hi380_3
             have HC380_3 := am hl380_3
             clear hi380_3 hl380_3
             have HR380_4 := am hi380_4
             have HC380_4 := am hl380_4
             clear hi380_4 hl380_4
             replace p380 := eq_true p380
             replace q380 := eq_true q380
             refine start_ (n := 12) (S := fun w' => w'.cell? (ad379.add ((x6_1).toNat * 5)) = some (.slice A379_0 ((rd_T44 l0 x6_1).f0).length c379_0) ∧ w'.cell? ⟨(ad379.add ((x6_1).toNat * 5)).block, (ad379.add ((x6_1).toNat * 5)).off + 1, none⟩ = some (.int .i64 ((rd_T44 l0 x6_1).f1)) ∧ w'.cell? ⟨(ad379.add ((x6_1).toNat * 5)).block, (ad379.add ((x6_1).toNat * 5)).off + 2, none⟩ = some (.slice A379_2 ((rd_T44 l0 x6_1).f2).length c379_2) ∧ w'.cell? ⟨(ad379.add ((x6_1).toNat * 5)).block, (ad379.add ((x6_1).toNat * 5)).off + 3, none⟩ = some (.slice A379_3 ((rd_T44 l0 x6_1).f3).length c379_3) ∧ w'.cell? ⟨(ad379.add ((x6_1).toNat * 5)).block, (ad379.add ((x6_1).toNat * 5)).off + 4, none⟩ = some (.slice A379_4 ((rd_T44 l0 x6_1).f4).length c379_4) ∧ w'.cell? (ad380.add ((x7_1).toNat * 5)) = some (.slice A380_0 ((rd_T44 l1 x7_1).f0).length c380_0) ∧ w'.cell? ⟨(ad380.add ((x7_1).toNat * 5)).block, (ad380.add ((x7_1).toNat * 5)).off + 1, none⟩ = some (.int .i64 ((rd_T44 l1 x7_1).f1)) ∧ w'.cell? ⟨(ad380.add ((x7_1).toNat * 5)).block, (ad380.add ((x7_1).toNat * 5)).off + 2, none⟩ = some (.slice A380_2 ((rd_T44 l1 x7_1).f2).length c380_2) ∧ w'.cell? ⟨(ad380.add ((x7_1).toNat * 5)).block, (ad380.add ((x7_1).toNat * 5)).off + 3, none⟩ = some (.slice A380_3 ((rd_T44 l1 x7_1).f3).length c380_3) ∧ w'.cell? ⟨(ad380.add ((x7_1).toNat * 5)).block, (ad380.add ((x7_1).toNat * 5)).off + 4, none⟩ = some (.slice A380_4 ((rd_T44 l1 x7_1).f4).length c380_4)) (ds := []) (bb 12 0) (by kernel_rfl) rfl rfl ⟨((HB.out.cell (World.block_lt_of_cell? w _ hw379_0)).trans hw379_0), ((HB.out.cell (World.block_lt_of_cell? w _ hw379_1)).trans hw379_1), ((HB.out.cell (World.block_lt_of_cell? w _ hw379_2)).trans hw379_2), ((HB.out.cell (World.block_lt_of_cell? w _ hw379_3)).trans hw379_3), ((HB.out.cell (World.block_lt_of_cell? w _ hw379_4)).trans hw379_4), ((HB.out.cell (World.block_lt_of_cell? w _ hw380_0)).trans hw380_0), ((HB.out.cell (World.block_lt_of_cell? w _ hw380_1)).trans hw380_1), ((HB.out.cell (World.block_lt_of_cell? w _ hw380_2)).trans hw380_2), ((HB.out.cell (World.block_lt_of_cell? w _ hw380_3)).trans hw380_3), ((HB.out.cell (World.block_lt_of_cell? w _ hw380_4)).trans hw380_4)⟩ (fun hHeld => ?_); refine with_tabW hypercuberef6_Two.tab5 hypercuberef6_Two.bits5 (fun HT_ HW_ => ?_)
             generalize wc.drew = w14 at HO_5 HB HR379_0 HR379_2 HR379_3 HR379_4 HR380_0 HR380_2 HR380_3 HR380_4 hx379_0 hx379_1 hx379_2 hx379_3 hx379_4 hx380_0 hx380_1 hx380_2 hx380_3 hx380_4 hHeld ⊢
             refine pu (i := 0) (N := some 19) (bb 12 1) HT_ ?_
             refine pu (i := 1) (N := some 20) (bb 12 3) HT_ ?_
             refine pu (i := 2) (N := some 21) (bb 12 7) HT_ ?_
             refine pu (i := 3) (N := some 22) (bb 12 15) HT_ ?_
             refine pu (i := 5) (N := some 24) (bb 12 47) HT_ ?_
             refine pu (i := 6) (N := some 25) (bb 12 111) HT_ ?_
             refine pu (i := 7) (N := some 26) (bb 12 239) HT_ ?_
             refine pu (i := 8) (N := some 27) (bb 12 495) HT_ ?_
             refine tk (i := 4) (N := some 23) (bb 12 511) HT_ HW_ hHeld ?_
             refine tk (i := 9) (N := some 28) (bb 12 1023) HT_ HW_ hHeld ?_
             refine one_ (i := 10) (N := some 29) (bb 12 2047) rfl rfl (one_of HT_.out (by kernel_rfl)) (by decide) (fun K hK => ?_)
             refine goes_ Try.func41 (by kernel_rfl) rfl #[.slice A379_0 ((rd_T44 l0 x6_1).f0).length c379_0, .slice A380_0 ((rd_T44 l1 x7_1).f0).length c380_0] (by rfl) rfl rfl (by (try simp only [List.map_toArray, List.map_cons, List.map_nil]); first | done | rfl | (simp only [List.length_drop, List.length_take]; rfl)) ?_
             with_reducible refine (hypercuberef2_Less.calls kj2 _ _ ((rd_T44 l0 x6_1).f0) _ _ ((rd_T44 l1 x7_1).f0) t381 _ ?side1 ?side2 ?side3 ?side4 A13.out).mono ?_
             (case side1 => exact Kd.Cw HR379_0.out HB.out)
             (case side2 => exact HC379_0.out)
             (case side3 => exact Kd.Cw HR380_0.out HB.out)
             (case side4 => exact HC380_0.out)
             rintro e w' ⟨rfl, ⟨nd, rfl⟩⟩
             refine ⟨_, rfl, ?_⟩
             refine hK.out _ _ ⟨((HB.out.cell (World.block_lt_of_cell? w _ hw379_0)).trans hw379_0), ((HB.out.cell (World.block_lt_of_cell? w _ hw379_1)).trans hw379_1), ((HB.out.cell (World.block_lt_of_cell? w _ hw379_2)).trans hw379_2), ((HB.out.cell (World.block_lt_of_cell? w _ hw379_3)).trans hw379_3), ((HB.out.cell (World.block_lt_of_cell? w _ hw379_4)).trans hw379_4), ((HB.out.cell (World.block_lt_of_cell? w _ hw380_0)).trans hw380_0), ((HB.out.cell (World.block_lt_of_cell? w _ hw380_1)).trans hw380_1), ((HB.out.cell (World.block_lt_of_cell? w _ hw380_2)).trans hw380_2), ((HB.out.cell (World.block_lt_of_cell? w _ hw380_3)).trans hw380_3), ((HB.out.cell (World.block_lt_of_cell? w _ hw380_4)).trans hw380_4)⟩ (fun hHeld => ?_)
             clear hK K
             refine nm ?_
             refine pu (i := 11) (N := some 8) (bb 12 4095) HT_ ?_
             refine done_ (done_of HT_.out (by kernel_rfl)) ?_
             try go_wp2
             go_meet
             case rel => exact ⟨_, (t381), (by first | rfl | (simp; done) | (simp [*]; done)), H', ⟨by have := HK1.out; have := HJ2.out; first | omega | exact Nat.le_refl _⟩, ⟨by (with_reducible repeat (first | apply Kd.S_alloc | apply Kd.S_drewN | apply Kd.S_drew)); exact HO_5.out⟩, ⟨by repeat (first | (with_reducible first | exact HB.out | apply below_alloc | apply pw_below_drewN | apply below_drew1) | exact HB.out)⟩⟩
            ·rw [if_neg c12] at H
             exact absurd H (by simp)
           ·rw [if_neg c11] at H
            exact absurd H (by simp)
          ·rw [if_neg c10] at H
           exact absurd H (by simp)
         ·rw [if_neg c9] at H
          exact absurd H (by simp)
      case rest =>
       clear HC6
       try clear c1
       try clear c2
       try clear p2
       try clear c3
       try clear p3
       try clear q3
       try clear hx3
       try clear c4
       try clear c4b0
       try clear c5
       try clear c7
       try clear c7b0
       try clear c7b1
       try clear c8
       try clear c8b0
       try clear c8b1
       try clear c9
       try clear c9b0
       try clear c10
       try clear c10b0
       try clear c11
       try clear c11b0
       try clear c12
       try clear c12b0
       try clear hx379_0
       try clear hx379_1
       try clear hx379_2
       try clear hx379_3
       try clear hx379_4
       try clear hx380_0
       try clear hx380_1
       try clear hx380_2
       try clear hx380_3
       try clear hx380_4
       try clear p2
       try clear p379
       try clear p380
       try clear q379
       try clear q380
       obtain ⟨kq, x8_5, rfl, HA, HJ5, HO_5, HB⟩ := hcut
       cases kq with
       | zero => exact absurd HA.out (by simp [hypercuberef6_Two.j2])
       | succ kj5 =>
        have H := HA.out
        clear HA
        simp only [hypercuberef6_Two.j2] at H
        by_cases c15 : x8_5 < 0
        ·rw [if_pos c15] at H
         have c15b0 : decide (x8_5 < 0) = true := decide_eq_true c15
         clear c15
         by_cases c16 : 0 ≤ x6_1
         ·rw [if_pos c16] at H
          have c16b0 : decide (0 ≤ x6_1) = true := decide_eq_true c16
          clear c16
          by_cases c17 : x6_1 < (l0.length : Int)
          ·rw [if_pos c17] at H
           have c17b0 : decide (x6_1 < (l0.length : Int)) = true := decide_eq_true c17
           clear c17
           replace H := Option.bind_eq_some_iff.mp H
           obtain ⟨⟨t383, t386, t387, t390, t393⟩, A180, H⟩ := H
           replace H : (if x5_1.length < 1353245080339 then (hypercuberef6_Two.l0 kj5 l0 l1 (x5_1 ++ [(⟨t383, t386, t387, t390, t393⟩ : S44)]) (wrap64 (x6_1 + 1)) x7_1) else (none)) = some r := H
           have A18 := am A180
           clear A180
           by_cases c19 : x5_1.length < 1353245080339
           ·rw [if_pos c19] at H
            have LMc19 := am c19
            clear c19
            obtain ⟨y396, hy396⟩ : ∃ y_ : List (S44), y_ = (x5_1 ++ [(⟨t383, t386, t387, t390, t393⟩ : S44)]) := ⟨_, rfl⟩
            replace H : (hypercuberef6_Two.l0 kj5 l0 l1 y396 (wrap64 (x6_1 + 1)) x7_1) = some r := by rw [hy396]; with_reducible exact H
            have Ny396 := am hy396
            clear hy396
            have H' := am H
            clear H
            have p382 : 0 ≤ (x6_1 : Int) := of_decide_eq_true (by first | (with_reducible assumption) | assumption)
            have q382 : x6_1 < (l0.length : Int) := of_decide_eq_true (by first | (with_reducible assumption) | assumption)
            obtain ⟨ad382, A382_0, c382_0, A382_2, c382_2, A382_3, c382_3, A382_4, c382_4, e382, hx382_0, hx382_1, hx382_2, hx382_3, hx382_4, hl382_0, hi382_0, hl382_2, hi382_2, hl382_3, hi382_3, hl382_4, hi382_4⟩ := at_T44 HR0.out x6_1 p382 q382
            cases e382
            replace hx382_0 := (HB.out.cell (World.block_lt_of_cell? w _ hx382_0)).trans hx382_0
            replace hx382_1 := (HB.out.cell (World.block_lt_of_cell? w _ hx382_1)).trans hx382_1
            replace hx382_2 := (HB.out.cell (World.block_lt_of_cell? w _ hx382_2)).trans hx382_2
            replace hx382_3 := (HB.out.cell (World.block_lt_of_cell? w _ hx382_3)).trans hx382_3
            replace hx382_4 := (HB.out.cell (World.block_lt_of_cell? w _ hx382_4)).trans hx382_4
            have HR382_0 := am hi382_0
            have HC382_0 := am hl382_0
            clear hi382_0 hl382_0
            have HR382_2 := am hi382_2
            have HC382_2 := am hl382_2
            clear hi382_2 hl382_2
            have HR382_3 := am hi382_3
            have HC382_3 := am hl382_3
            clear hi382_3 hl382_3
            have HR382_4 := am hi382_4
            have HC382_4 := am hl382_4
            clear hi382_4 hl382_4
            replace p382 := eq_true p382
            replace q382 := eq_true q382
            go_wp2_with (first | (go_at_call 42; (with_reducible refine (hypercuberef2_Copy.calls _ _ ((rd_T44 l0 x6_1).f0) ((rd_T44 l0 x6_1).f1) _ _ ((rd_T44 l0 x6_1).f2) _ _ ((rd_T44 l0 x6_1).f3) _ _ ((rd_T44 l0 x6_1).f4) t383 t386 t387 t390 t393 _ ?side1 ?side2 ?side3 ?side4 ?side5 ?side6 ?side7 ?side8 A18.out).mono ?_); (case side1 => repeat (first | exact (Kd.C_below HR382_0.out HB.out) | (with_reducible refine Kd.C_alloc ?_ _) | (with_reducible refine Kd.C_drewN ?_ _) | (with_reducible refine Kd.C_drew ?_))); (case side2 => exact HC382_0.out); (case side3 => repeat (first | exact (Kd.C_below HR382_2.out HB.out) | (with_reducible refine Kd.C_alloc ?_ _) | (with_reducible refine Kd.C_drewN ?_ _) | (with_reducible refine Kd.C_drew ?_))); (case side4 => exact HC382_2.out); (case side5 => repeat (first | exact (Kd.C_below HR382_3.out HB.out) | (with_reducible refine Kd.C_alloc ?_ _) | (with_reducible refine Kd.C_drewN ?_ _) | (with_reducible refine Kd.C_drew ?_))); (case side6 => exact HC382_3.out); (case side7 => repeat (first | exact (Kd.C_below HR382_4.out HB.out) | (with_reducible refine Kd.C_alloc ?_ _) | (with_reducible refine Kd.C_drewN ?_ _) | (with_reducible refine Kd.C_drew ?_))); (case side8 => exact HC382_4.out); rintro e w20 ⟨v384, v388, v391, v394, rfl, ho0, ho1, ho2, ho3, hb⟩; have n0_ := am (Kd.S_mono (Kd.S_told (Kd.S_told (Kd.S_told (Kd.S_told (Kd.S_old (by (with_reducible repeat (first | apply Kd.S_alloc | apply Kd.S_drewN | apply Kd.S_drew)); exact HO_5.out) hb) (Kd.R_base ho0)) (Kd.R_base ho1)) (Kd.R_base ho2)) (Kd.R_base ho3)) (fun _ h_ => h_.1)); have n1_ := am (Kd.R_lower ho0 (below_size (by repeat (first | (with_reducible first | exact HB.out | apply below_alloc | apply pw_below_drewN | apply below_drew1) | exact HB.out)))); have n2_ := am (Kd.R_lower ho1 (below_size (by repeat (first | (with_reducible first | exact HB.out | apply below_alloc | apply pw_below_drewN | apply below_drew1) | exact HB.out)))); have n3_ := am (Kd.R_lower ho2 (below_size (by repeat (first | (with_reducible first | exact HB.out | apply below_alloc | apply pw_below_drewN | apply below_drew1) | exact HB.out)))); have n4_ := am (Kd.R_lower ho3 (below_size (by repeat (first | (with_reducible first | exact HB.out | apply below_alloc | apply pw_below_drewN | apply below_drew1) | exact HB.out)))); have n5_ := am (below_step (by repeat (first | (with_reducible first | exact HB.out | apply below_alloc | apply pw_below_drewN | apply below_drew1) | exact HB.out)) hb); clear HO_5 HB; revert n0_ n1_ n2_ n3_ n4_ n5_; intro HO_5 HO385 HO389 HO392 HO395 HB; (try clear hb); (try clear hb2); (try clear hk); (try clear hi); (try clear ho0); (try clear ho1); (try clear ho2); (try clear ho3); obtain ⟨Ao22, co22, eo22⟩ := Kd.R_slice HO385.out; subst eo22; obtain ⟨Ao23, co23, eo23⟩ := Kd.R_slice HO389.out; subst eo23; obtain ⟨Ao24, co24, eo24⟩ := Kd.R_slice HO392.out; subst eo24; obtain ⟨Ao25, co25, eo25⟩ := Kd.R_slice HO395.out; subst eo25) | ((with_reducible refine gate_builtin (b := .append) (xs := #[.tmp 59, .tmp 65]) rfl ?_); (try (refine gate_guard (by rfl) ?_; dsimp only)); at_builtin; refine Kd.S_append k44 (w0 := w) w.heap.size rfl (.tmp 59) (.tmp 65) 31 44 (.agg #[(.slice none 0 0), (.int .i64 0), (.slice none 0 0), (.slice none 0 0), (.slice none 0 0)]) 104 rfl Try.underlying31 info44 rfl (by decide) (by omega) u5 x5_1 (⟨t383, t386, t387, t390, t393⟩ : S44) [.slice Ao22 t383.length co22, .int .i64 t386, .slice Ao23 t387.length co23, .slice Ao24 t390.length co24, .slice Ao25 t393.length co25] (fun _ => True) (fun k_ => some k_ = (.slice Ao22 t383.length co22 : Value).ownBlock ∨ some k_ = (.slice Ao23 t387.length co23 : Value).ownBlock ∨ some k_ = (.slice Ao24 t390.length co24 : Value).ownBlock ∨ some k_ = (.slice Ao25 t393.length co25 : Value).ownBlock) rfl rfl ?aP (fun k_ hk_ => hk_.elim (fun h_ => ((Kd.R_mono (ok' := fun k_ => ((fun _ => True)) k_ ∧ some k_ ≠ (u5 : Value).ownBlock) (Kd.R_apart' (HO385.out) (Kd.S_typed HO_5.out) (by decide)) (fun k_ hk => ⟨trivial, hk.2⟩))).1 k_ h_.symm) (fun h_ => h_.elim (fun h_ => ((Kd.R_mono (ok' := fun k_ => ((fun _ => True)) k_ ∧ some k_ ≠ (u5 : Value).ownBlock) (Kd.R_apart' (HO389.out) (Kd.S_typed HO_5.out) (by decide)) (fun k_ hk => ⟨trivial, hk.2⟩))).1 k_ h_.symm) (fun h_ => h_.elim (fun h_ => ((Kd.R_mono (ok' := fun k_ => ((fun _ => True)) k_ ∧ some k_ ≠ (u5 : Value).ownBlock) (Kd.R_apart' (HO392.out) (Kd.S_typed HO_5.out) (by decide)) (fun k_ hk => ⟨trivial, hk.2⟩))).1 k_ h_.symm) (fun h_ => ((Kd.R_mono (ok' := fun k_ => ((fun _ => True)) k_ ∧ some k_ ≠ (u5 : Value).ownBlock) (Kd.R_apart' (HO395.out) (Kd.S_typed HO_5.out) (by decide)) (fun k_ hk => ⟨trivial, hk.2⟩))).1 k_ h_.symm)))) ?aF ?aO ?aB ?aS ?aL ?_; (case aP => exact k44_mkM _ _ _ (⟨t383, t386, t387, t390, t393⟩ : S44) (Kd.R_mono (Kd.R_tight rfl (Kd.R_mono (ok' := fun k_ => ((fun _ => True)) k_ ∧ some k_ ≠ (u5 : Value).ownBlock) (Kd.R_apart' (HO385.out) (Kd.S_typed HO_5.out) (by decide)) (fun k_ hk => ⟨trivial, hk.2⟩))) (fun _ h_ => Or.inl h_)) (Kd.R_mono (Kd.R_tight rfl (Kd.R_mono (ok' := fun k_ => ((fun _ => True)) k_ ∧ some k_ ≠ (u5 : Value).ownBlock) (Kd.R_apart' (HO389.out) (Kd.S_typed HO_5.out) (by decide)) (fun k_ hk => ⟨trivial, hk.2⟩))) (fun _ h_ => Or.inr (Or.inl h_))) (Kd.R_mono (Kd.R_tight rfl (Kd.R_mono (ok' := fun k_ => ((fun _ => True)) k_ ∧ some k_ ≠ (u5 : Value).ownBlock) (Kd.R_apart' (HO392.out) (Kd.S_typed HO_5.out) (by decide)) (fun k_ hk => ⟨trivial, hk.2⟩))) (fun _ h_ => Or.inr (Or.inr (Or.inl h_)))) (Kd.R_mono (Kd.R_tight rfl (Kd.R_mono (ok' := fun k_ => ((fun _ => True)) k_ ∧ some k_ ≠ (u5 : Value).ownBlock) (Kd.R_apart' (HO395.out) (Kd.S_typed HO_5.out) (by decide)) (fun k_ hk => ⟨trivial, hk.2⟩))) (fun _ h_ => Or.inr (Or.inr (Or.inr (h_)))))); (case aB => exact (by repeat (first | (with_reducible first | exact HB.out | apply below_alloc | apply pw_below_drewN | apply below_drew1) | exact HB.out))); (case aF => exact (fun _ _ => trivial)); (case aO => exact (by (with_reducible repeat (first | apply Kd.S_alloc | apply Kd.S_drewN | apply Kd.S_drew)); exact Kd.S_mono HO_5.out (fun k_ hk => ⟨trivial, fun e_ => e_.elim (fun h_ => hk.1.1.1.2 h_) (fun h_ => h_.elim (fun h_ => hk.1.1.2 h_) (fun h_ => h_.elim (fun h_ => hk.1.2 h_) (fun h_ => hk.2 h_)))⟩))); (case aS => exact (below_size (by repeat (first | (with_reducible first | exact HB.out | apply below_alloc | apply pw_below_drewN | apply below_drew1) | exact HB.out)))); (case aL => have := LMc19.out; omega); intro v397 w21 ho hb hg hat; rw [← Ny396.out] at ho; have n0_ := am (hb); have n1_ := am (ho); clear HB HO_5 HO385 HO389 HO392 HO395; revert n0_ n1_; intro HB HO398; clear ho hb hg hat))
            go_roundg kj5
            case measure => have := HK1.out; have := HJ2.out; have := HJ5.out; omega
            case rel => exact ⟨(y396), (wrap64 (x6_1 + 1)), (x7_1), (by first | rfl | (simp; done) | (simp [*]; done)), (by first | rfl | (simp; done) | (simp [*]; done)), H', ⟨by have := HK1.out; have := HJ2.out; have := HJ5.out; omega⟩, ⟨by (with_reducible repeat (first | apply Kd.S_alloc | apply Kd.S_drewN | apply Kd.S_drew)); exact HO398.out⟩, ⟨by repeat (first | (with_reducible first | exact HB.out | apply below_alloc | apply pw_below_drewN | apply below_drew1) | exact HB.out)⟩⟩
           ·rw [if_neg c19] at H
            exact absurd H (by simp)
          ·rw [if_neg c17] at H
           exact absurd H (by simp)
         ·rw [if_neg c16] at H
          exact absurd H (by simp)
        ·rw [if_neg c15] at H
         have c15b0 : decide (x8_5 < 0) = false := decide_eq_false c15
         clear c15
         by_cases c26 : x8_5 > 0
         ·rw [if_pos c26] at H
          have c26b0 : decide (0 < x8_5) = true := decide_eq_true c26
          clear c26
          by_cases c27 : 0 ≤ x7_1
          ·rw [if_pos c27] at H
           have c27b0 : decide (0 ≤ x7_1) = true := decide_eq_true c27
           clear c27
           by_cases c28 : x7_1 < (l1.length : Int)
           ·rw [if_pos c28] at H
            have c28b0 : decide (x7_1 < (l1.length : Int)) = true := decide_eq_true c28
            clear c28
            replace H := Option.bind_eq_some_iff.mp H
            obtain ⟨⟨t400, t403, t404, t407, t410⟩, A290, H⟩ := H
            replace H : (if x5_1.length < 1353245080339 then (hypercuberef6_Two.l0 kj5 l0 l1 (x5_1 ++ [(⟨t400, t403, t404, t407, t410⟩ : S44)]) x6_1 (wrap64 (x7_1 + 1))) else (none)) = some r := H
            have A29 := am A290
            clear A290
            by_cases c30 : x5_1.length < 1353245080339
            ·rw [if_pos c30] at H
             have LMc30 := am c30
             clear c30
             obtain ⟨y413, hy413⟩ : ∃ y_ : List (S44), y_ = (x5_1 ++ [(⟨t400, t403, t404, t407, t410⟩ : S44)]) := ⟨_, rfl⟩
             replace H : (hypercuberef6_Two.l0 kj5 l0 l1 y413 x6_1 (wrap64 (x7_1 + 1))) = some r := by rw [hy413]; with_reducible exact H
             have Ny413 := am hy413
             clear hy413
             have H' := am H
             clear H
             have p399 : 0 ≤ (x7_1 : Int) := of_decide_eq_true (by first | (with_reducible assumption) | assumption)
             have q399 : x7_1 < (l1.length : Int) := of_decide_eq_true (by first | (with_reducible assumption) | assumption)
             obtain ⟨ad399, A399_0, c399_0, A399_2, c399_2, A399_3, c399_3, A399_4, c399_4, e399, hx399_0, hx399_1, hx399_2, hx399_3, hx399_4, hl399_0, hi399_0, hl399_2, hi399_2, hl399_3, hi399_3, hl399_4, hi399_4⟩ := at_T44 HR1.out x7_1 p399 q399
             cases e399
             replace hx399_0 := (HB.out.cell (World.block_lt_of_cell? w _ hx399_0)).trans hx399_0
             replace hx399_1 := (HB.out.cell (World.block_lt_of_cell? w _ hx399_1)).trans hx399_1
             replace hx399_2 := (HB.out.cell (World.block_lt_of_cell? w _ hx399_2)).trans hx399_2
             replace hx399_3 := (HB.out.cell (World.block_lt_of_cell? w _ hx399_3)).trans hx399_3
             replace hx399_4 := (HB.out.cell (World.block_lt_of_cell? w _ hx399_4)).trans hx399_4
             have HR399_0 := am hi399_0
             have HC399_0 := am hl399_0
             clear hi399_0 hl399_0
             have HR399_2 := am hi399_2
             have HC399_2 := am hl399_2
             clear hi399_2 hl399_2
             have HR399_3 := am hi399_3
             have HC399_3 := am hl399_3
             clear hi399_3 hl399_3
             have HR399_4 := am hi399_4
             have HC399_4 := am hl399_4
             clear hi399_4 hl399_4
             replace p399 := eq_true p399
             replace q399 := eq_true q399
             go_wp2_with (first | (go_at_call 42; (with_reducible refine (hypercuberef2_Copy.calls _ _ ((rd_T44 l1 x7_1).f0) ((rd_T44 l1 x7_1).f1) _ _ ((rd_T44 l1 x7_1).f2) _ _ ((rd_T44 l1 x7_1).f3) _ _ ((rd_T44 l1 x7_1).f4) t400 t403 t404 t407 t410 _ ?side1 ?side2 ?side3 ?side4 ?side5 ?side6 ?side7 ?side8 A29.out).mono ?_); (case side1 => repeat (first | exact (Kd.C_below HR399_0.out HB.out) | (with_reducible refine Kd.C_alloc ?_ _) | (with_reducible refine Kd.C_drewN ?_ _) | (with_reducible refine Kd.C_drew ?_))); (case side2 => exact HC399_0.out); (case side3 => repeat (first | exact (Kd.C_below HR399_2.out HB.out) | (with_reducible refine Kd.C_alloc ?_ _) | (with_reducible refine Kd.C_drewN ?_ _) | (with_reducible refine Kd.C_drew ?_))); (case side4 => exact HC399_2.out); (case side5 => repeat (first | exact (Kd.C_below HR399_3.out HB.out) | (with_reducible refine Kd.C_alloc ?_ _) | (with_reducible refine Kd.C_drewN ?_ _) | (with_reducible refine Kd.C_drew ?_))); (case side6 => exact HC399_3.out); (case side7 => repeat (first | exact (Kd.C_below HR399_4.out HB.out) | (with_reducible refine Kd.C_alloc ?_ _) | (with_reducible refine Kd.C_drewN ?_ _) | (with_reducible refine Kd.C_drew ?_))); (case side8 => exact HC399_4.out); rintro e w31 ⟨v401, v405, v408, v411, rfl, ho0, ho1, ho2, ho3, hb⟩; have n0_ := am (Kd.S_mono (Kd.S_told (Kd.S_told (Kd.S_told (Kd.S_told (Kd.S_old (by (with_reducible repeat (first | apply Kd.S_alloc | apply Kd.S_drewN | apply Kd.S_drew)); exact HO_5.out) hb) (Kd.R_base ho0)) (Kd.R_base ho1)) (Kd.R_base ho2)) (Kd.R_base ho3)) (fun _ h_ => h_.1)); have n1_ := am (Kd.R_lower ho0 (below_size (by repeat (first | (with_reducible first | exact HB.out | apply below_alloc | apply pw_below_drewN | apply below_drew1) | exact HB.out)))); have n2_ := am (Kd.R_lower ho1 (below_size (by repeat (first | (with_reducible first | exact HB.out | apply below_alloc | apply pw_below_drewN | apply below_drew1) | exact HB.out)))); have n3_ := am (Kd.R_lower ho2 (below_size (by repeat (first | (with_reducible first | exact HB.out | apply below_alloc | apply pw_below_drewN | apply below_drew1) | exact HB.out)))); have n4_ := am (Kd.R_lower ho3 (below_size (by repeat (first | (with_reducible first | exact HB.out | apply below_alloc | apply pw_below_drewN | apply below_drew1) | exact HB.out)))); have n5_ := am (below_step (by repeat (first | (with_reducible first | exact HB.out | apply below_alloc | apply pw_below_drewN | apply below_drew1) | exact HB.out)) hb); clear HO_5 HB; revert n0_ n1_ n2_ n3_ n4_ n5_; intro HO_5 HO402 HO406 HO409 HO412 HB; (try clear hb); (try clear hb2); (try clear hk); (try clear hi); (try clear ho0); (try clear ho1); (try clear ho2); (try clear ho3); obtain ⟨Ao33, co33, eo33⟩ := Kd.R_slice HO402.out; subst eo33; obtain ⟨Ao34, co34, eo34⟩ := Kd.R_slice HO406.out; subst eo34; obtain ⟨Ao35, co35, eo35⟩ := Kd.R_slice HO409.out; subst eo35; obtain ⟨Ao36, co36, eo36⟩ := Kd.R_slice HO412.out; subst eo36) | ((with_reducible refine gate_builtin (b := .append) (xs := #[.tmp 72, .tmp 78]) rfl ?_); (try (refine gate_guard (by rfl) ?_; dsimp only)); at_builtin; refine Kd.S_append k44 (w0 := w) w.heap.size rfl (.tmp 72) (.tmp 78) 31 44 (.agg #[(.slice none 0 0), (.int .i64 0), (.slice none 0 0), (.slice none 0 0), (.slice none 0 0)]) 104 rfl Try.underlying31 info44 rfl (by decide) (by omega) u5 x5_1 (⟨t400, t403, t404, t407, t410⟩ : S44) [.slice Ao33 t400.length co33, .int .i64 t403, .slice Ao34 t404.length co34, .slice Ao35 t407.length co35, .slice Ao36 t410.length co36] (fun _ => True) (fun k_ => some k_ = (.slice Ao33 t400.length co33 : Value).ownBlock ∨ some k_ = (.slice Ao34 t404.length co34 : Value).ownBlock ∨ some k_ = (.slice Ao35 t407.length co35 : Value).ownBlock ∨ some k_ = (.slice Ao36 t410.length co36 : Value).ownBlock) rfl rfl ?aP (fun k_ hk_ => hk_.elim (fun h_ => ((Kd.R_mono (ok' := fun k_ => ((fun _ => True)) k_ ∧ some k_ ≠ (u5 : Value).ownBlock) (Kd.R_apart' (HO402.out) (Kd.S_typed HO_5.out) (by decide)) (fun k_ hk => ⟨trivial, hk.2⟩))).1 k_ h_.symm) (fun h_ => h_.elim (fun h_ => ((Kd.R_mono (ok' := fun k_ => ((fun _ => True)) k_ ∧ some k_ ≠ (u5 : Value).ownBlock) (Kd.R_apart' (HO406.out) (Kd.S_typed HO_5.out) (by decide)) (fun k_ hk => ⟨trivial, hk.2⟩))).1 k_ h_.symm) (fun h_ => h_.elim (fun h_ => ((Kd.R_mono (ok' := fun k_ => ((fun _ => True)) k_ ∧ some k_ ≠ (u5 : Value).ownBlock) (Kd.R_apart' (HO409.out) (Kd.S_typed HO_5.out) (by decide)) (fun k_ hk => ⟨trivial, hk.2⟩))).1 k_ h_.symm) (fun h_ => ((Kd.R_mono (ok' := fun k_ => ((fun _ => True)) k_ ∧ some k_ ≠ (u5 : Value).ownBlock) (Kd.R_apart' (HO412.out) (Kd.S_typed HO_5.out) (by decide)) (fun k_ hk => ⟨trivial, hk.2⟩))).1 k_ h_.symm)))) ?aF ?aO ?aB ?aS ?aL ?_; (case aP => exact k44_mkM _ _ _ (⟨t400, t403, t404, t407, t410⟩ : S44) (Kd.R_mono (Kd.R_tight rfl (Kd.R_mono (ok' := fun k_ => ((fun _ => True)) k_ ∧ some k_ ≠ (u5 : Value).ownBlock) (Kd.R_apart' (HO402.out) (Kd.S_typed HO_5.out) (by decide)) (fun k_ hk => ⟨trivial, hk.2⟩))) (fun _ h_ => Or.inl h_)) (Kd.R_mono (Kd.R_tight rfl (Kd.R_mono (ok' := fun k_ => ((fun _ => True)) k_ ∧ some k_ ≠ (u5 : Value).ownBlock) (Kd.R_apart' (HO406.out) (Kd.S_typed HO_5.out) (by decide)) (fun k_ hk => ⟨trivial, hk.2⟩))) (fun _ h_ => Or.inr (Or.inl h_))) (Kd.R_mono (Kd.R_tight rfl (Kd.R_mono (ok' := fun k_ => ((fun _ => True)) k_ ∧ some k_ ≠ (u5 : Value).ownBlock) (Kd.R_apart' (HO409.out) (Kd.S_typed HO_5.out) (by decide)) (fun k_ hk => ⟨trivial, hk.2⟩))) (fun _ h_ => Or.inr (Or.inr (Or.inl h_)))) (Kd.R_mono (Kd.R_tight rfl (Kd.R_mono (ok' := fun k_ => ((fun _ => True)) k_ ∧ some k_ ≠ (u5 : Value).ownBlock) (Kd.R_apart' (HO412.out) (Kd.S_typed HO_5.out) (by decide)) (fun k_ hk => ⟨trivial, hk.2⟩))) (fun _ h_ => Or.inr (Or.inr (Or.inr (h_)))))); (case aB => exact (by repeat (first | (with_reducible first | exact HB.out | apply below_alloc | apply pw_below_drewN | apply below_drew1) | exact HB.out))); (case aF => exact (fun _ _ => trivial)); (case aO => exact (by (with_reducible repeat (first | apply Kd.S_alloc | apply Kd.S_drewN | apply Kd.S_drew)); exact Kd.S_mono HO_5.out (fun k_ hk => ⟨trivial, fun e_ => e_.elim (fun h_ => hk.1.1.1.2 h_) (fun h_ => h_.elim (fun h_ => hk.1.1.2 h_) (fun h_ => h_.elim (fun h_ => hk.1.2 h_) (fun h_ => hk.2 h_)))⟩))); (case aS => exact (below_size (by repeat (first | (with_reducible first | exact HB.out | apply below_alloc | apply pw_below_drewN | apply below_drew1) | exact HB.out)))); (case aL => have := LMc30.out; omega); intro v414 w32 ho hb hg hat; rw [← Ny413.out] at ho; have n0_ := am (hb); have n1_ := am (ho); clear HB HO_5 HO402 HO406 HO409 HO412; revert n0_ n1_; intro HB HO415; clear ho hb hg hat))
             go_roundg kj5
             case measure => have := HK1.out; have := HJ2.out; have := HJ5.out; omega
             case rel => exact ⟨(y413), (x6_1), (wrap64 (x7_1 + 1)), (by first | rfl | (simp; done) | (simp [*]; done)), (by first | rfl | (simp; done) | (simp [*]; done)), H', ⟨by have := HK1.out; have := HJ2.out; have := HJ5.out; omega⟩, ⟨by (with_reducible repeat (first | apply Kd.S_alloc | apply Kd.S_drewN | apply Kd.S_drew)); exact HO415.out⟩, ⟨by repeat (first | (with_reducible first | exact HB.out | apply below_alloc | apply pw_below_drewN | apply below_drew1) | exact HB.out)⟩⟩
            ·rw [if_neg c30] at H
             exact absurd H (by simp)
           ·rw [if_neg c28] at H
            exact absurd H (by simp)
          ·rw [if_neg c27] at H
           exact absurd H (by simp)
         ·rw [if_neg c26] at H
          have c26b0 : decide (0 < x8_5) = false := decide_eq_false c26
          clear c26
          by_cases c37 : 0 ≤ x6_1
          ·rw [if_pos c37] at H
           have c37b0 : decide (0 ≤ x6_1) = true := decide_eq_true c37
           clear c37
           by_cases c38 : x6_1 < (l0.length : Int)
           ·rw [if_pos c38] at H
            have c38b0 : decide (x6_1 < (l0.length : Int)) = true := decide_eq_true c38
            clear c38
            by_cases c39 : 0 ≤ x7_1
            ·rw [if_pos c39] at H
             have c39b0 : decide (0 ≤ x7_1) = true := decide_eq_true c39
             clear c39
             by_cases c40 : x7_1 < (l1.length : Int)
             ·rw [if_pos c40] at H
              have c40b0 : decide (x7_1 < (l1.length : Int)) = true := decide_eq_true c40
              clear c40
              replace H := Option.bind_eq_some_iff.mp H
              obtain ⟨⟨t418, t421, t422, t425, t428⟩, A410, H⟩ := H
              replace H : (if x5_1.length < 1353245080339 then (hypercuberef6_Two.l0 kj5 l0 l1 (x5_1 ++ [(⟨t418, t421, t422, t425, t428⟩ : S44)]) (wrap64 (x6_1 + 1)) (wrap64 (x7_1 + 1))) else (none)) = some r := H
              have A41 := am A410
              clear A410
              by_cases c42 : x5_1.length < 1353245080339
              ·rw [if_pos c42] at H
               have LMc42 := am c42
               clear c42
               obtain ⟨y431, hy431⟩ : ∃ y_ : List (S44), y_ = (x5_1 ++ [(⟨t418, t421, t422, t425, t428⟩ : S44)]) := ⟨_, rfl⟩
               replace H : (hypercuberef6_Two.l0 kj5 l0 l1 y431 (wrap64 (x6_1 + 1)) (wrap64 (x7_1 + 1))) = some r := by rw [hy431]; with_reducible exact H
               have Ny431 := am hy431
               clear hy431
               have H' := am H
               clear H
               try go_wp2
               have n0_ := am (Kd.S_drew HO_5.out)
               have n1_ := am (below_drew1 HB.out)
               clear HO_5 HB
               revert n0_ n1_
               intro HO_5 HB
               have p416 : 0 ≤ (x6_1 : Int) := of_decide_eq_true (by first | (with_reducible assumption) | assumption)
               have q416 : x6_1 < (l0.length : Int) := of_decide_eq_true (by first | (with_reducible assumption) | assumption)
               obtain ⟨ad416, A416_0, c416_0, A416_2, c416_2, A416_3, c416_3, A416_4, c416_4, e416, hx416_0, hx416_1, hx416_2, hx416_3, hx416_4, hl416_0, hi416_0, hl416_2, hi416_2, hl416_3, hi416_3, hl416_4, hi416_4⟩ := at_T44 HR0.out x6_1 p416 q416
               have hw416_4 := hx416_4
               have hw416_3 := hx416_3
               have hw416_2 := hx416_2
               have hw416_1 := hx416_1
               have hw416_0 := hx416_0
               cases e416
               replace hx416_0 := (HB.out.cell (World.block_lt_of_cell? w _ hx416_0)).trans hx416_0
               replace hx416_1 := (HB.out.cell (World.block_lt_of_cell? w _ hx416_1)).trans hx416_1
               replace hx416_2 := (HB.out.cell (World.block_lt_of_cell? w _ hx416_2)).trans hx416_2
               replace hx416_3 := (HB.out.cell (World.block_lt_of_cell? w _ hx416_3)).trans hx416_3
               replace hx416_4 := (HB.out.cell (World.block_lt_of_cell? w _ hx416_4)).trans hx416_4
               have HR416_0 := am hi416_0
               have HC416_0 := am hl416_0
               clear hi416_0 hl416_0
               have HR416_2 := am hi416_2
               have HC416_2 := am hl416_2
               clear hi416_2 hl416_2
               have HR416_3 := am hi416_3
               have HC416_3 := am hl416_3
               clear hi416_3 hl416_3
               have HR416_4 := am hi416_4
               have HC416_4 := am hl416_4
               clear hi416_4 hl416_4
               replace p416 := eq_true p416
               replace q416 := eq_true q416
               have p417 : 0 ≤ (x7_1 : Int) := of_decide_eq_true (by first | (with_reducible assumption) | assumption)
               have q417 : x7_1 < (l1.length : Int) := of_decide_eq_true (by first | (with_reducible assumption) | assumption)
               obtain ⟨ad417, A417_0, c417_0, A417_2, c417_2, A417_3, c417_3, A417_4, c417_4, e417, hx417_0, hx417_1, hx417_2, hx417_3, hx417_4, hl417_0, hi417_0, hl417_2, hi417_2, hl417_3, hi417_3, hl417_4, hi417_4⟩ := at_T44 HR1.out x7_1 p417 q417
               have hw417_4 := hx417_4
               have hw417_3 := hx417_3
               have hw417_2 := hx417_2
               have hw417_1 := hx417_1
               have hw417_0 := hx417_0
               cases e417
               replace hx417_0 := (HB.out.cell (World.block_lt_of_cell? w _ hx417_0)).trans hx417_0
               replace hx417_1 := (HB.out.cell (World.block_lt_of_cell? w _ hx417_1)).trans hx417_1
               replace hx417_2 := (HB.out.cell (World.block_lt_of_cell? w _ hx417_2)).trans hx417_2
               replace hx417_3 := (HB.out.cell (World.block_lt_of_cell? w _ hx417_3)).trans hx417_3
               replace hx417_4 := (HB.out.cell (World.block_lt_of_cell? w _ hx417_4)).trans hx417_4
               have HR417_0 := am hi417_0
               have HC417_0 := am hl417_0
               clear hi417_0 hl417_0
               have HR417_2 := am hi417_2
               have HC417_2 := am hl417_2
               clear hi417_2 hl417_2
               have HR417_3 := am hi417_3
               have HC417_3 := am hl417_3
               clear hi417_3 hl417_3
               have HR417_4 := am hi417_4
               have HC417_4 := am hl417_4
               clear hi417_4 hl417_4
               replace p417 := eq_true p417
               replace q417 := eq_true q417
               refine start_ (n := 13) (S := fun w' => w'.cell? (ad416.add ((x6_1).toNat * 5)) = some (.slice A416_0 ((rd_T44 l0 x6_1).f0).length c416_0) ∧ w'.cell? ⟨(ad416.add ((x6_1).toNat * 5)).block, (ad416.add ((x6_1).toNat * 5)).off + 1, none⟩ = some (.int .i64 ((rd_T44 l0 x6_1).f1)) ∧ w'.cell? ⟨(ad416.add ((x6_1).toNat * 5)).block, (ad416.add ((x6_1).toNat * 5)).off + 2, none⟩ = some (.slice A416_2 ((rd_T44 l0 x6_1).f2).length c416_2) ∧ w'.cell? ⟨(ad416.add ((x6_1).toNat * 5)).block, (ad416.add ((x6_1).toNat * 5)).off + 3, none⟩ = some (.slice A416_3 ((rd_T44 l0 x6_1).f3).length c416_3) ∧ w'.cell? ⟨(ad416.add ((x6_1).toNat * 5)).block, (ad416.add ((x6_1).toNat * 5)).off + 4, none⟩ = some (.slice A416_4 ((rd_T44 l0 x6_1).f4).length c416_4) ∧ w'.cell? (ad417.add ((x7_1).toNat * 5)) = some (.slice A417_0 ((rd_T44 l1 x7_1).f0).length c417_0) ∧ w'.cell? ⟨(ad417.add ((x7_1).toNat * 5)).block, (ad417.add ((x7_1).toNat * 5)).off + 1, none⟩ = some (.int .i64 ((rd_T44 l1 x7_1).f1)) ∧ w'.cell? ⟨(ad417.add ((x7_1).toNat * 5)).block, (ad417.add ((x7_1).toNat * 5)).off + 2, none⟩ = some (.slice A417_2 ((rd_T44 l1 x7_1).f2).length c417_2) ∧ w'.cell? ⟨(ad417.add ((x7_1).toNat * 5)).block, (ad417.add ((x7_1).toNat * 5)).off + 3, none⟩ = some (.slice A417_3 ((rd_T44 l1 x7_1).f3).length c417_3) ∧ w'.cell? ⟨(ad417.add ((x7_1).toNat * 5)).block, (ad417.add ((x7_1).toNat * 5)).off + 4, none⟩ = some (.slice A417_4 ((rd_T44 l1 x7_1).f4).length c417_4)) (ds := []) (bb 13 0) (by kernel_rfl) rfl rfl ⟨((HB.out.cell (World.block_lt_of_cell? w _ hw416_0)).trans hw416_0), ((HB.out.cell (World.block_lt_of_cell? w _ hw416_1)).trans hw416_1), ((HB.out.cell (World.block_lt_of_cell? w _ hw416_2)).trans hw416_2), ((HB.out.cell (World.block_lt_of_cell? w _ hw416_3)).trans hw416_3), ((HB.out.cell (World.block_lt_of_cell? w _ hw416_4)).trans hw416_4), ((HB.out.cell (World.block_lt_of_cell? w _ hw417_0)).trans hw417_0), ((HB.out.cell (World.block_lt_of_cell? w _ hw417_1)).trans hw417_1), ((HB.out.cell (World.block_lt_of_cell? w _ hw417_2)).trans hw417_2), ((HB.out.cell (World.block_lt_of_cell? w _ hw417_3)).trans hw417_3), ((HB.out.cell (World.block_lt_of_cell? w _ hw417_4)).trans hw417_4)⟩ (fun hHeld => ?_); refine with_tabW hypercuberef6_Two.tab10 hypercuberef6_Two.bits10 (fun HT_ HW_ => ?_)
               generalize wc.drew = w43 at HO_5 HB HR416_0 HR416_2 HR416_3 HR416_4 HR417_0 HR417_2 HR417_3 HR417_4 hx416_0 hx416_1 hx416_2 hx416_3 hx416_4 hx417_0 hx417_1 hx417_2 hx417_3 hx417_4 hHeld ⊢
               refine pu (i := 0) (N := some 40) (bb 13 1) HT_ ?_
               refine pu (i := 1) (N := some 41) (bb 13 3) HT_ ?_
               refine pu (i := 2) (N := some 42) (bb 13 7) HT_ ?_
               refine pu (i := 3) (N := some 43) (bb 13 15) HT_ ?_
               refine pu (i := 5) (N := some 45) (bb 13 47) HT_ ?_
               refine pu (i := 6) (N := some 46) (bb 13 111) HT_ ?_
               refine pu (i := 7) (N := some 47) (bb 13 239) HT_ ?_
               refine tk (i := 4) (N := some 44) (bb 13 255) HT_ HW_ hHeld ?_
               refine tk (i := 8) (N := some 48) (bb 13 511) HT_ HW_ hHeld ?_
               refine one_ (i := 9) (N := some 49) (bb 13 1023) rfl rfl (one_of HT_.out (by kernel_rfl)) (by decide) (fun K hK => ?_)
               refine goes_ Try.func43 (by kernel_rfl) rfl #[.agg #[.slice A416_0 ((rd_T44 l0 x6_1).f0).length c416_0, .int .i64 ((rd_T44 l0 x6_1).f1), .slice A416_2 ((rd_T44 l0 x6_1).f2).length c416_2, .slice A416_3 ((rd_T44 l0 x6_1).f3).length c416_3, .slice A416_4 ((rd_T44 l0 x6_1).f4).length c416_4], .agg #[.slice A417_0 ((rd_T44 l1 x7_1).f0).length c417_0, .int .i64 ((rd_T44 l1 x7_1).f1), .slice A417_2 ((rd_T44 l1 x7_1).f2).length c417_2, .slice A417_3 ((rd_T44 l1 x7_1).f3).length c417_3, .slice A417_4 ((rd_T44 l1 x7_1).f4).length c417_4]] (by rfl) rfl rfl (by (try simp only [List.map_toArray, List.map_cons, List.map_nil]); first | done | rfl | (simp only [List.length_drop, List.length_take]; rfl)) ?_
               with_reducible refine (hypercuberef2_Join.calls kj5 _ _ ((rd_T44 l0 x6_1).f0) ((rd_T44 l0 x6_1).f1) _ _ ((rd_T44 l0 x6_1).f2) _ _ ((rd_T44 l0 x6_1).f3) _ _ ((rd_T44 l0 x6_1).f4) _ _ ((rd_T44 l1 x7_1).f0) ((rd_T44 l1 x7_1).f1) _ _ ((rd_T44 l1 x7_1).f2) _ _ ((rd_T44 l1 x7_1).f3) _ _ ((rd_T44 l1 x7_1).f4) t418 t421 t422 t425 t428 _ ?side1 ?side2 ?side3 ?side4 ?side5 ?side6 ?side7 ?side8 ?side9 ?side10 ?side11 ?side12 ?side13 ?side14 ?side15 ?side16 A41.out).mono ?_
               (case side1 => exact Kd.Cw HR416_0.out HB.out)
               (case side2 => exact HC416_0.out)
               (case side3 => exact Kd.Cw HR416_2.out HB.out)
               (case side4 => exact HC416_2.out)
               (case side5 => exact Kd.Cw HR416_3.out HB.out)
               (case side6 => exact HC416_3.out)
               (case side7 => exact Kd.Cw HR416_4.out HB.out)
               (case side8 => exact HC416_4.out)
               (case side9 => exact Kd.Cw HR417_0.out HB.out)
               (case side10 => exact HC417_0.out)
               (case side11 => exact Kd.Cw HR417_2.out HB.out)
               (case side12 => exact HC417_2.out)
               (case side13 => exact Kd.Cw HR417_3.out HB.out)
               (case side14 => exact HC417_3.out)
               (case side15 => exact Kd.Cw HR417_4.out HB.out)
               (case side16 => exact HC417_4.out)
               rintro e w44 ⟨v419, v423, v426, v429, rfl, ho0, ho1, ho2, ho3, hb⟩
               refine ⟨_, rfl, ?_⟩
               have n0_ := am (Kd.S_mono (Kd.S_told (Kd.S_told (Kd.S_told (Kd.S_told (Kd.S_old (Kd.S_mv HO_5.out) hb) (Kd.R_base ho0)) (Kd.R_base ho1)) (Kd.R_base ho2)) (Kd.R_base ho3)) (fun _ h_ => h_.1))
               have n1_ := am (Kd.R_lower ho0 (below_size (wmv HB.out)))
               have n2_ := am (Kd.R_lower ho1 (below_size (wmv HB.out)))
               have n3_ := am (Kd.R_lower ho2 (below_size (wmv HB.out)))
               have n4_ := am (Kd.R_lower ho3 (below_size (wmv HB.out)))
               have n5_ := am (below_step (wmv HB.out) hb)
               clear HO_5 HB
               revert n0_ n1_ n2_ n3_ n4_ n5_
               intro HO_5 HO420 HO424 HO427 HO430 HB
               (try clear hb)
               (try clear hb2)
               (try clear hk)
               (try clear hi)
               (try clear ho0)
               (try clear ho1)
               (try clear ho2)
               (try clear ho3)
               obtain ⟨Ao46, co46, eo46⟩ := Kd.R_slice HO420.out
               (first | subst eo46 | (injection eo46 with f1_ f2_ f3_; have f4_ := f1_.symm; have f5_ := f3_.symm; clear f1_ f2_ f3_; subst f4_; subst f5_))
               obtain ⟨Ao47, co47, eo47⟩ := Kd.R_slice HO424.out
               (first | subst eo47 | (injection eo47 with f1_ f2_ f3_; have f4_ := f1_.symm; have f5_ := f3_.symm; clear f1_ f2_ f3_; subst f4_; subst f5_))
               obtain ⟨Ao48, co48, eo48⟩ := Kd.R_slice HO427.out
               (first | subst eo48 | (injection eo48 with f1_ f2_ f3_; have f4_ := f1_.symm; have f5_ := f3_.symm; clear f1_ f2_ f3_; subst f4_; subst f5_))
               obtain ⟨Ao49, co49, eo49⟩ := Kd.R_slice HO430.out
               (first | subst eo49 | (injection eo49 with f1_ f2_ f3_; have f4_ := f1_.symm; have f5_ := f3_.symm; clear f1_ f2_ f3_; subst f4_; subst f5_))
               refine hK.out _ _ ⟨((HB.out.cell (World.block_lt_of_cell? w _ hw416_0)).trans hw416_0), ((HB.out.cell (World.block_lt_of_cell? w _ hw416_1)).trans hw416_1), ((HB.out.cell (World.block_lt_of_cell? w _ hw416_2)).trans hw416_2), ((HB.out.cell (World.block_lt_of_cell? w _ hw416_3)).trans hw416_3), ((HB.out.cell (World.block_lt_of_cell? w _ hw416_4)).trans hw416_4), ((HB.out.cell (World.block_lt_of_cell? w _ hw417_0)).trans hw417_0), ((HB.out.cell (World.block_lt_of_cell? w _ hw417_1)).trans hw417_1), ((HB.out.cell (World.block_lt_of_cell? w _ hw417_2)).trans hw417_2), ((HB.out.cell (World.block_lt_of_cell? w _ hw417_3)).trans hw417_3), ((HB.out.cell (World.block_lt_of_cell? w _ hw417_4)).trans hw417_4)⟩ (fun hHeld => ?_)
               clear hK K
               refine nm ?_
               refine one_ (i := 10) (N := some 50) (bb 13 2047) rfl rfl (one_of HT_.out (by kernel_rfl)) (by decide) (fun K hK => ?_)
               refine value_ (w1 := ?_) (v := ?_) (by rfl) rfl ?_ ?_
               rotate_left 2
               ·go_simp
                constructor
                ·rfl
                ·rfl
               refine hK.out _ _ ⟨(World.cell?_alloc_lt _ _ _ (World.block_lt_of_cell? _ _ (((HB.out.cell (World.block_lt_of_cell? w _ hw416_0)).trans hw416_0)))).trans (((HB.out.cell (World.block_lt_of_cell? w _ hw416_0)).trans hw416_0)), (World.cell?_alloc_lt _ _ _ (World.block_lt_of_cell? _ _ (((HB.out.cell (World.block_lt_of_cell? w _ hw416_1)).trans hw416_1)))).trans (((HB.out.cell (World.block_lt_of_cell? w _ hw416_1)).trans hw416_1)), (World.cell?_alloc_lt _ _ _ (World.block_lt_of_cell? _ _ (((HB.out.cell (World.block_lt_of_cell? w _ hw416_2)).trans hw416_2)))).trans (((HB.out.cell (World.block_lt_of_cell? w _ hw416_2)).trans hw416_2)), (World.cell?_alloc_lt _ _ _ (World.block_lt_of_cell? _ _ (((HB.out.cell (World.block_lt_of_cell? w _ hw416_3)).trans hw416_3)))).trans (((HB.out.cell (World.block_lt_of_cell? w _ hw416_3)).trans hw416_3)), (World.cell?_alloc_lt _ _ _ (World.block_lt_of_cell? _ _ (((HB.out.cell (World.block_lt_of_cell? w _ hw416_4)).trans hw416_4)))).trans (((HB.out.cell (World.block_lt_of_cell? w _ hw416_4)).trans hw416_4)), (World.cell?_alloc_lt _ _ _ (World.block_lt_of_cell? _ _ (((HB.out.cell (World.block_lt_of_cell? w _ hw417_0)).trans hw417_0)))).trans (((HB.out.cell (World.block_lt_of_cell? w _ hw417_0)).trans hw417_0)), (World.cell?_alloc_lt _ _ _ (World.block_lt_of_cell? _ _ (((HB.out.cell (World.block_lt_of_cell? w _ hw417_1)).trans hw417_1)))).trans (((HB.out.cell (World.block_lt_of_cell? w _ hw417_1)).trans hw417_1)), (World.cell?_alloc_lt _ _ _ (World.block_lt_of_cell? _ _ (((HB.out.cell (World.block_lt_of_cell? w _ hw417_2)).trans hw417_2)))).trans (((HB.out.cell (World.block_lt_of_cell? w _ hw417_2)).trans hw417_2)), (World.cell?_alloc_lt _ _ _ (World.block_lt_of_cell? _ _ (((HB.out.cell (World.block_lt_of_cell? w _ hw417_3)).trans hw417_3)))).trans (((HB.out.cell (World.block_lt_of_cell? w _ hw417_3)).trans hw417_3)), (World.cell?_alloc_lt _ _ _ (World.block_lt_of_cell? _ _ (((HB.out.cell (World.block_lt_of_cell? w _ hw417_4)).trans hw417_4)))).trans (((HB.out.cell (World.block_lt_of_cell? w _ hw417_4)).trans hw417_4))⟩ (fun hHeld => ?_)
               clear hK K
               refine nm ?_
               refine one_ (i := 11) (N := some 51) (bb 13 4095) rfl rfl (one_of HT_.out (by kernel_rfl)) (by decide) (fun K hK => ?_)
               refine Kd.S_append_step k44 (w0 := w) w.heap.size (by rfl) (.tmp 40) (.tmp 50) 31 44 (.agg #[(.slice none 0 0), (.int .i64 0), (.slice none 0 0), (.slice none 0 0), (.slice none 0 0)]) 104 rfl Try.underlying31 info44 rfl (by decide) (by omega) u5 x5_1 (⟨t418, t421, t422, t425, t428⟩ : S44) [.slice Ao46 t418.length co46, .int .i64 t421, .slice Ao47 t422.length co47, .slice Ao48 t425.length co48, .slice Ao49 t428.length co49] (fun _ => True) (fun k_ => some k_ = (.slice Ao46 t418.length co46 : Value).ownBlock ∨ some k_ = (.slice Ao47 t422.length co47 : Value).ownBlock ∨ some k_ = (.slice Ao48 t425.length co48 : Value).ownBlock ∨ some k_ = (.slice Ao49 t428.length co49 : Value).ownBlock) rfl rfl ?aP (fun k_ hk_ => hk_.elim (fun h_ => ((Kd.R_mono (ok' := fun k_ => ((fun _ => True)) k_ ∧ some k_ ≠ (u5 : Value).ownBlock) (Kd.R_apart' (HO420.out) (Kd.S_typed HO_5.out) (by decide)) (fun k_ hk => ⟨trivial, hk.2⟩))).1 k_ h_.symm) (fun h_ => h_.elim (fun h_ => ((Kd.R_mono (ok' := fun k_ => ((fun _ => True)) k_ ∧ some k_ ≠ (u5 : Value).ownBlock) (Kd.R_apart' (HO424.out) (Kd.S_typed HO_5.out) (by decide)) (fun k_ hk => ⟨trivial, hk.2⟩))).1 k_ h_.symm) (fun h_ => h_.elim (fun h_ => ((Kd.R_mono (ok' := fun k_ => ((fun _ => True)) k_ ∧ some k_ ≠ (u5 : Value).ownBlock) (Kd.R_apart' (HO427.out) (Kd.S_typed HO_5.out) (by decide)) (fun k_ hk => ⟨trivial, hk.2⟩))).1 k_ h_.symm) (fun h_ => ((Kd.R_mono (ok' := fun k_ => ((fun _ => True)) k_ ∧ some k_ ≠ (u5 : Value).ownBlock) (Kd.R_apart' (HO430.out) (Kd.S_typed HO_5.out) (by decide)) (fun k_ hk => ⟨trivial, hk.2⟩))).1 k_ h_.symm)))) ?aF ?aO ?aB ?aS ?aL ?_
               (case aP => exact k44_mkM _ _ _ (⟨t418, t421, t422, t425, t428⟩ : S44) (Kd.R_mono (Kd.R_tight rfl (Kd.R_mono (ok' := fun k_ => ((fun _ => True)) k_ ∧ some k_ ≠ (u5 : Value).ownBlock) (Kd.R_apart' (HO420.out) (Kd.S_typed HO_5.out) (by decide)) (fun k_ hk => ⟨trivial, hk.2⟩))) (fun _ h_ => Or.inl h_)) (Kd.R_mono (Kd.R_tight rfl (Kd.R_mono (ok' := fun k_ => ((fun _ => True)) k_ ∧ some k_ ≠ (u5 : Value).ownBlock) (Kd.R_apart' (HO424.out) (Kd.S_typed HO_5.out) (by decide)) (fun k_ hk => ⟨trivial, hk.2⟩))) (fun _ h_ => Or.inr (Or.inl h_))) (Kd.R_mono (Kd.R_tight rfl (Kd.R_mono (ok' := fun k_ => ((fun _ => True)) k_ ∧ some k_ ≠ (u5 : Value).ownBlock) (Kd.R_apart' (HO427.out) (Kd.S_typed HO_5.out) (by decide)) (fun k_ hk => ⟨trivial, hk.2⟩))) (fun _ h_ => Or.inr (Or.inr (Or.inl h_)))) (Kd.R_mono (Kd.R_tight rfl (Kd.R_mono (ok' := fun k_ => ((fun _ => True)) k_ ∧ some k_ ≠ (u5 : Value).ownBlock) (Kd.R_apart' (HO430.out) (Kd.S_typed HO_5.out) (by decide)) (fun k_ hk => ⟨trivial, hk.2⟩))) (fun _ h_ => Or.inr (Or.inr (Or.inr (h_))))))
               (case aB => exact (wmv HB.out))
               (case aF => exact (fun _ _ => trivial))
               (case aO => exact (Kd.S_mv (Kd.S_mono HO_5.out (fun k_ hk => ⟨trivial, fun e_ => e_.elim (fun h_ => hk.1.1.1.2 h_) (fun h_ => h_.elim (fun h_ => hk.1.1.2 h_) (fun h_ => h_.elim (fun h_ => hk.1.2 h_) (fun h_ => hk.2 h_)))⟩))))
               (case aS => exact (below_size (wmv HB.out)))
               (case aL => have := LMc42.out; omega)
               intro v432 w45 ho hb hg hat
               rw [← Ny431.out] at ho
               have n0_ := am (hb)
               have n1_ := am (ho)
               clear HB HO_5 HO420 HO424 HO427 HO430
               revert n0_ n1_
               intro HB HO433
               clear ho hb hg hat
               refine hK.out _ _ ⟨((HB.out.cell (World.block_lt_of_cell? w _ hw416_0)).trans hw416_0), ((HB.out.cell (World.block_lt_of_cell? w _ hw416_1)).trans hw416_1), ((HB.out.cell (World.block_lt_of_cell? w _ hw416_2)).trans hw416_2), ((HB.out.cell (World.block_lt_of_cell? w _ hw416_3)).trans hw416_3), ((HB.out.cell (World.block_lt_of_cell? w _ hw416_4)).trans hw416_4), ((HB.out.cell (World.block_lt_of_cell? w _ hw417_0)).trans hw417_0), ((HB.out.cell (World.block_lt_of_cell? w _ hw417_1)).trans hw417_1), ((HB.out.cell (World.block_lt_of_cell? w _ hw417_2)).trans hw417_2), ((HB.out.cell (World.block_lt_of_cell? w _ hw417_3)).trans hw417_3), ((HB.out.cell (World.block_lt_of_cell? w _ hw417_4)).trans hw417_4)⟩ (fun hHeld => ?_)
               clear hK K
               refine nm ?_
               refine pu (i := 12) (N := some 5) (bb 13 8191) HT_ ?_
               refine done_ (done_of HT_.out (by kernel_rfl)) ?_
               try go_wp2
               go_roundg kj5
               case measure => have := HK1.out; have := HJ2.out; have := HJ5.out; omega
               case rel => exact ⟨(y431), (wrap64 (x6_1 + 1)), (wrap64 (x7_1 + 1)), (by first | rfl | (simp; done) | (simp [*]; done)), (by first | rfl | (simp; done) | (simp [*]; done)), H', ⟨by have := HK1.out; have := HJ2.out; have := HJ5.out; omega⟩, ⟨by (with_reducible repeat (first | apply Kd.S_alloc | apply Kd.S_drewN | apply Kd.S_drew)); exact HO433.out⟩, ⟨by repeat (first | (with_reducible first | exact HB.out | apply below_alloc | apply pw_below_drewN | apply below_drew1) | exact HB.out)⟩⟩
              ·rw [if_neg c42] at H
               exact absurd H (by simp)
             ·rw [if_neg c40] at H
              exact absurd H (by simp)
            ·rw [if_neg c39] at H
             exact absurd H (by simp)
           ·rw [if_neg c38] at H
            exact absurd H (by simp)
          ·rw [if_neg c37] at H
           exact absurd H (by simp)
     ·replace c5 := Bool.eq_false_iff.mpr c5
      subst c5
      have H1 : (some x5_1) = some r := by rw [if_neg (show ¬ (false = true) by decide)] at H; exact H
      clear H
      have H := H1
      clear H1
      obtain rfl := Option.some.inj H
      go_wp2
      go_ret
      exact ⟨_, by first | rfl | (simp [errW_none, errW_some] <;> rfl) | (simp [*, errW_none, errW_some] <;> rfl), by (with_reducible repeat (first | apply Kd.S_alloc | apply Kd.S_drewN | apply Kd.S_drew)); exact HO_5.out, by repeat (first | (with_reducible first | exact HB.out | apply below_alloc | apply pw_below_drewN | apply below_drew1) | exact HB.out)⟩
mutual
def hypercuberef6_Merge.l0 : Nat → List (List (S44)) → Int → Int → Option ((List (S44)) × Int)
 | 0, _, _, _ => none
 | k + 1, x0, x1, x6 => if (x0.length : Int) > 1 then (hypercuberef6_Merge.l1 k x0 x1 x6 ([] : List (List (S44))) 0) else (if (x0.length : Int) = 0 then (some (([] : List (S44)), 0)) else (if 0 < (x0.length : Int) then ((hypercuberef6_Two.f k (rd_L3 x0 0) ([] : List (S44))).bind fun t435 => (some (t435, x6))) else (none)))
def hypercuberef6_Merge.l1 : Nat → List (List (S44)) → Int → Int → List (List (S44)) → Int → Option ((List (S44)) × Int)
 | 0, _, _, _, _, _ => none
 | k + 1, x0, x1, x6, x7, x8 => if x8 < (x0.length : Int) then (if 0 ≤ x8 then (hypercuberef6_Merge.l2 k x0 x1 x6 x7 x8 (rd_L3 x0 x8) (wrap64 (x8 + 1))) else (none)) else (hypercuberef6_Merge.l0 k x7 x1 (wrap64 (x6 + 1)))
def hypercuberef6_Merge.l2 : Nat → List (List (S44)) → Int → Int → List (List (S44)) → Int → List (S44) → Int → Option ((List (S44)) × Int)
 | 0, _, _, _, _, _, _, _ => none
 | k + 1, x0, x1, x6, x7, x8, x9, x10 => if x10 < (wrap64 (x8 + x1)) then (if x10 < (x0.length : Int) then (if 0 ≤ x10 then ((hypercuberef6_Two.f k x9 (rd_L3 x0 x10)).bind fun t440 => (hypercuberef6_Merge.l2 k x0 x1 x6 x7 x8 t440 (wrap64 (x10 + 1)))) else (none)) else (if x7.length < 5864062014805 then (hypercuberef6_Merge.l1 k x0 x1 x6 (x7 ++ [x9]) (wrap64 (x8 + x1))) else (none))) else (if x7.length < 5864062014805 then (hypercuberef6_Merge.l1 k x0 x1 x6 (x7 ++ [x9]) (wrap64 (x8 + x1))) else (none))
end
def hypercuberef6_Merge.f (k : Nat) (l0 : List (List (S44))) (a1 : Int) : Option ((List (S44)) × Int) := hypercuberef6_Merge.l0 k l0 a1 0
set_option maxHeartbeats 8000000 in
set_option maxRecDepth 100000 in
theorem hypercuberef6_Merge.calls (k : Nat) (P0_ : Nat → Prop) (A0 : Option Addr) (c0 : Nat) (l0 : List (List (S44))) (a1 : Int) (r1 : List (S44)) (r2 : Int) (w : World) (hs0 : Kd.V (Kd.slice 44 k44) 31 w w.heap.size (fun k_ => P0_ k_) (.slice A0 l0.length c0) l0) (h : hypercuberef6_Merge.f k l0 a1 = some (r1, r2)) :
  Calls Try.prog 20 #[.slice A0 l0.length c0, .int .i64 a1] w fun e w' => ∃ v0_ : Value, e = .returned (.tuple #[v0_, .int .i64 r2]) ∧ Kd.N k44 44 w' w.heap.size (fun k_ => (P0_ k_ ∨ w.heap.size ≤ k_)) v0_ r1 ∧ Below w.heap.size w w' := by
 have HO0 := am (show Kd.V (Kd.slice 44 k44) 31 w w.heap.size (fun k_ => (P0_ k_ ∨ w.heap.size ≤ k_)) (.slice A0 l0.length c0) l0 from Kd.V_mono hs0 (fun k_ hk => .inl hk))
 have HB := am (Below.refl w.heap.size w)
 have H : (hypercuberef6_Merge.l0 k l0 a1 0) = some (r1, r2) := h
 clear h
 have H' := am H
 clear H
 go_enter Try.func20, Try.ntmps20
 go_wp2
 go_loopg [0, 6] k (fun kq v0 v6 w' => ∃ (x0_1 : List (List (S44))) (x6_1 : Int), v6 = .int .i64 x6_1 ∧ Aside0 (hypercuberef6_Merge.l0 kq x0_1 a1 x6_1 = some (r1, r2)) ∧ Aside0 (kq ≤ k) ∧ Aside0 (Kd.V (Kd.slice 44 k44) 31 w' w.heap.size (fun k_ => (P0_ k_ ∨ w.heap.size ≤ k_)) v0 x0_1) ∧ Aside0 (Below w.heap.size w w'))
 case atStart => exact ⟨(l0), (0), (by first | rfl | (simp; done) | (simp [*]; done)), H', ⟨Nat.le_refl _⟩, ⟨by (with_reducible repeat (first | apply Kd.V_alloc | apply Kd.V_drewN | apply Kd.V_drew)); exact HO0.out⟩, ⟨by repeat (first | (with_reducible first | exact HB.out | apply below_alloc | apply pw_below_drewN | apply below_drew1) | exact HB.out)⟩⟩
 case round =>
  clear H'
  try clear c2
  try clear p2
  obtain ⟨x0_1, x6_1, rfl, HA, HK1, HO_0, HB⟩ := hrel
  cases gk with
  | zero => exact absurd HA.out (by simp [hypercuberef6_Merge.l0])
  | succ k1 =>
   have H := HA.out
   clear HA
   simp only [hypercuberef6_Merge.l0] at H
   by_cases c3 : (x0_1.length : Int) > 1
   ·rw [if_pos c3] at H
    have c3b0 : decide (1 < (x0_1.length : Int)) = true := decide_eq_true c3
    have c3b1 : decide (1 < x0_1.length) = true := decide_eq_true (by omega)
    clear c3
    have H' := am H
    clear H
    obtain ⟨Ao4, co4, eo4⟩ := Kd.V_slice HO_0.out
    subst eo4
    go_wp2
    go_loopg [7, 8] k1 (fun kq v7 v8 w' => ∃ (x7_2 : List (List (S44))) (x8_2 : Int), v8 = .int .i64 x8_2 ∧ Aside0 (hypercuberef6_Merge.l1 kq x0_1 a1 x6_1 x7_2 x8_2 = some (r1, r2)) ∧ Aside0 (kq ≤ k1) ∧ Aside0 (Kd.V (Kd.slice 44 k44) 31 w' w.heap.size (fun k_ => (P0_ k_ ∨ w.heap.size ≤ k_) ∧ some k_ ≠ (v7 : Value).ownBlock) (.slice Ao4 x0_1.length co4) x0_1) ∧ Aside0 (Kd.N (Kd.slice 44 k44) 31 w' w.heap.size (fun k_ => (P0_ k_ ∨ w.heap.size ≤ k_)) v7 x7_2) ∧ Aside0 (Below w.heap.size w w'))
    case atStart => exact ⟨(([] : List (List (S44)))), (0), (by first | rfl | (simp; done) | (simp [*]; done)), H', ⟨Nat.le_refl _⟩, ⟨by (with_reducible repeat (first | apply Kd.V_alloc | apply Kd.V_drewN | apply Kd.V_drew)); exact Kd.V_mono HO_0.out (fun _ hk => ⟨hk, (by simp [Value.ownBlock])⟩)⟩, ⟨by first | exact Kd.R_nil _ _ _ _ _ | exact Kd.N_nil _ _ _ _ _ | exact Kd.V_nil _ _ _ _ _ | exact Kd.Q_nil _ _ _ _ _ | exact Kd.S_nil _ _ _ _ _⟩, ⟨by repeat (first | (with_reducible first | exact HB.out | apply below_alloc | apply pw_below_drewN | apply below_drew1) | exact HB.out)⟩⟩
    case round =>
     clear H'
     try clear c2
     try clear p2
     try clear c3
     try clear c3b0
     try clear c3b1
     try clear p2
     obtain ⟨x7_2, x8_2, rfl, HA, HK2, HO_0, HO_7, HB⟩ := hrel
     cases gk with
     | zero => exact absurd HA.out (by simp [hypercuberef6_Merge.l1])
     | succ k2 =>
      have H := HA.out
      clear HA
      simp only [hypercuberef6_Merge.l1] at H
      by_cases c5 : x8_2 < (x0_1.length : Int)
      ·rw [if_pos c5] at H
       have c5b0 : decide (x8_2 < (x0_1.length : Int)) = true := decide_eq_true c5
       clear c5
       by_cases c6 : 0 ≤ x8_2
       ·rw [if_pos c6] at H
        have c6b0 : decide (0 ≤ x8_2) = true := decide_eq_true c6
        clear c6
        have H' := am H
        clear H
        have p438 : 0 ≤ (x8_2 : Int) := of_decide_eq_true (by first | (with_reducible assumption) | assumption)
        have q438 : x8_2 < (x0_1.length : Int) := of_decide_eq_true (by first | (with_reducible assumption) | assumption)
        obtain ⟨ad438, A438_0, c438_0, e438, hx438_0, hl438_0, hi438_0⟩ := at_L3 (Kd.V_reads' HO_0.out).2.2 x8_2 p438 q438
        cases e438
        obtain ⟨ce438, hce438, hMe438, hcc438⟩ := Kd.V_get HO_0.out [] x8_2 p438 (by first | exact q438 | exact of_decide_eq_true (by first | (with_reducible assumption) | assumption) | (have e_ := (Kd.V_reads' HO_0.out).1; omega))
        obtain ⟨ua438_0, uc438_0, rfl, ul438_0, ge438_0⟩ := Kd.FK_slice_open hMe438
        have hv438_0 := hcc438 0 _ rfl
        rw [Nat.add_zero, show ((Kd.slice 44 k44)).sz = 1 from rfl, Nat.mul_one] at hv438_0
        replace hv438_0 := Option.some.inj (hv438_0.symm.trans hx438_0)
        injection hv438_0 with hva_ hvn_ hvc_
        rw [hva_] at ge438_0
        rw [hvc_] at ul438_0
        have HL438_0 := am (show Kd.V k44 44 _ w.heap.size _ _ (rd_L3 x0_1 x8_2) from Kd.V_mk ul438_0 ge438_0)
        clear hva_ hvn_ hvc_ ge438_0 ul438_0
        clear hcc438 hce438
        have HR438_0 := am hi438_0
        have HC438_0 := am hl438_0
        clear hi438_0 hl438_0
        replace p438 := eq_true p438
        replace q438 := eq_true q438
        go_wp2
        go_loopg [9, 10] k2 (fun kq v9 v10 w' => ∃ (x9_3 : List (S44)) (x10_3 : Int), v10 = .int .i64 x10_3 ∧ Aside0 (hypercuberef6_Merge.l2 kq x0_1 a1 x6_1 x7_2 x8_2 x9_3 x10_3 = some (r1, r2)) ∧ Aside0 (kq ≤ k2) ∧ Aside0 (Kd.V (Kd.slice 44 k44) 31 w' w.heap.size (fun k_ => (P0_ k_ ∨ w.heap.size ≤ k_) ∧ some k_ ≠ (u7 : Value).ownBlock) (.slice (some ad438) x0_1.length co4) x0_1) ∧ Aside0 (Kd.N (Kd.slice 44 k44) 31 w' w.heap.size (fun k_ => (P0_ k_ ∨ w.heap.size ≤ k_)) u7 x7_2) ∧ Aside0 (Kd.V k44 44 w' w.heap.size (fun k_ => (P0_ k_ ∨ w.heap.size ≤ k_) ∧ some k_ ≠ (u7 : Value).ownBlock) v9 x9_3) ∧ Aside0 (Kd.C k44 w' A438_0 (rd_L3 x0_1 x8_2).length (rd_L3 x0_1 x8_2)) ∧ Aside0 (Below w.heap.size w w'))
        case atStart => exact ⟨(rd_L3 x0_1 x8_2), (wrap64 (x8_2 + 1)), (by first | rfl | (simp; done) | (simp [*]; done)), H', ⟨Nat.le_refl _⟩, ⟨by (with_reducible repeat (first | apply Kd.V_alloc | apply Kd.V_drewN | apply Kd.V_drew)); exact HO_0.out⟩, ⟨by (with_reducible repeat (first | apply Kd.N_alloc | apply Kd.N_drewN | apply Kd.N_drew)); exact HO_7.out⟩, ⟨by (with_reducible repeat (first | apply Kd.V_alloc | apply Kd.V_drewN | apply Kd.V_drew)); exact HL438_0.out⟩, ⟨by repeat (first | (with_reducible exact HR438_0.out) | (with_reducible refine Kd.C_alloc ?_ _) | (with_reducible refine Kd.C_drewN ?_ _) | (with_reducible refine Kd.C_drew ?_) | exact HR438_0.out)⟩, ⟨by repeat (first | (with_reducible first | exact HB.out | apply below_alloc | apply pw_below_drewN | apply below_drew1) | exact HB.out)⟩⟩
        case round =>
         clear H'
         try clear c2
         try clear p2
         try clear c3
         try clear c3b0
         try clear c3b1
         try clear c4
         try clear p4
         try clear q4
         try clear hx4
         try clear c5
         try clear c5b0
         try clear c6
         try clear c6b0
         try clear p6
         try clear hx438_0
         try clear p2
         try clear p438
         try clear q438
         obtain ⟨x9_3, x10_3, rfl, HA, HK3, HO_0, HO_7, HO_9, HR438_0, HB⟩ := hrel
         cases gk with
         | zero => exact absurd HA.out (by simp [hypercuberef6_Merge.l2])
         | succ k3 =>
          have H := HA.out
          clear HA
          simp only [hypercuberef6_Merge.l2] at H
          by_cases c7 : x10_3 < (wrap64 (x8_2 + a1))
          ·rw [if_pos c7] at H
           have c7b0 : decide (x10_3 < (wrap64 (x8_2 + a1))) = true := decide_eq_true c7
           clear c7
           by_cases c8 : x10_3 < (x0_1.length : Int)
           ·rw [if_pos c8] at H
            have c8b0 : decide (x10_3 < (x0_1.length : Int)) = true := decide_eq_true c8
            clear c8
            by_cases c9 : 0 ≤ x10_3
            ·rw [if_pos c9] at H
             have c9b0 : decide (0 ≤ x10_3) = true := decide_eq_true c9
             clear c9
             replace H := Option.bind_eq_some_iff.mp H
             obtain ⟨t440, A100, H⟩ := H
             replace H : (hypercuberef6_Merge.l2 k3 x0_1 a1 x6_1 x7_2 x8_2 t440 (wrap64 (x10_3 + 1))) = some (r1, r2) := H
             have A10 := am A100
             clear A100
             have H' := am H
             clear H
             have p439 : 0 ≤ (x10_3 : Int) := of_decide_eq_true (by first | (with_reducible assumption) | assumption)
             have q439 : x10_3 < (x0_1.length : Int) := of_decide_eq_true (by first | (with_reducible assumption) | assumption)
             obtain ⟨ad439, A439_0, c439_0, e439, hx439_0, hl439_0, hi439_0⟩ := at_L3 (Kd.V_reads' HO_0.out).2.2 x10_3 p439 q439
             obtain rfl : ad438 = ad439 := (by injection e439)
             obtain ⟨ce439, hce439, hMe439, hcc439⟩ := Kd.V_get HO_0.out [] x10_3 p439 (by first | exact q439 | exact of_decide_eq_true (by first | (with_reducible assumption) | assumption) | (have e_ := (Kd.V_reads' HO_0.out).1; omega))
             obtain ⟨ua439_0, uc439_0, rfl, ul439_0, ge439_0⟩ := Kd.FK_slice_open hMe439
             have hv439_0 := hcc439 0 _ rfl
             rw [Nat.add_zero, show ((Kd.slice 44 k44)).sz = 1 from rfl, Nat.mul_one] at hv439_0
             replace hv439_0 := Option.some.inj (hv439_0.symm.trans hx439_0)
             injection hv439_0 with hva_ hvn_ hvc_
             rw [hva_] at ge439_0
             rw [hvc_] at ul439_0
             have HL439_0 := am (show Kd.V k44 44 _ w.heap.size _ _ (rd_L3 x0_1 x10_3) from Kd.V_mk ul439_0 ge439_0)
             clear hva_ hvn_ hvc_ ge439_0 ul439_0
             clear hcc439 hce439
             have HR439_0 := am hi439_0
             have HC439_0 := am hl439_0
             clear hi439_0 hl439_0
             replace p439 := eq_true p439
             replace q439 := eq_true q439
             obtain ⟨Ao11, co11, eo11⟩ := Kd.V_slice HO_9.out
             subst eo11
             go_wp2_with (first | (go_at_call 24; (with_reducible refine (hypercuberef6_Two.calls k3 _ _ x9_3 _ _ (rd_L3 x0_1 x10_3) t440 _ ?side1 ?side2 ?side3 ?side4 A10.out).mono ?_); (case side1 => repeat (first | exact (Kd.V_reads' HO_9.out).2.2 | (with_reducible refine Kd.C_alloc ?_ _) | (with_reducible refine Kd.C_drewN ?_ _) | (with_reducible refine Kd.C_drew ?_))); (case side2 => exact (Kd.V_reads' HO_9.out).2.1); (case side3 => repeat (first | exact (by repeat (first | (with_reducible exact HR439_0.out) | (with_reducible refine Kd.C_alloc ?_ _) | (with_reducible refine Kd.C_drewN ?_ _) | (with_reducible refine Kd.C_drew ?_) | exact HR439_0.out)) | (with_reducible refine Kd.C_alloc ?_ _) | (with_reducible refine Kd.C_drewN ?_ _) | (with_reducible refine Kd.C_drew ?_))); (case side4 => exact HC439_0.out); rintro e w12 ⟨v441, rfl, ho0, hb⟩; have n0_ := am (Kd.V_elder' (by (with_reducible repeat (first | apply Kd.V_alloc | apply Kd.V_drewN | apply Kd.V_drew)); exact HO_0.out) (by first | exact Kd.N_base ho0 | exact Kd.S_base ho0 | exact Kd.R_base ho0) hb); have n1_ := am (Kd.N_elder' (by (with_reducible repeat (first | apply Kd.N_alloc | apply Kd.N_drewN | apply Kd.N_drew)); exact HO_7.out) (by first | exact Kd.N_base ho0 | exact Kd.S_base ho0 | exact Kd.R_base ho0) hb); have n2_ := am (Kd.V_elder' (by (with_reducible repeat (first | apply Kd.V_alloc | apply Kd.V_drewN | apply Kd.V_drew)); exact HO_9.out) (by first | exact Kd.N_base ho0 | exact Kd.S_base ho0 | exact Kd.R_base ho0) hb); have n3_ := am (Kd.V_elder' (by (with_reducible repeat (first | apply Kd.V_alloc | apply Kd.V_drewN | apply Kd.V_drew)); exact HL439_0.out) (by first | exact Kd.N_base ho0 | exact Kd.S_base ho0 | exact Kd.R_base ho0) hb); have n4_ := am (Kd.N_lower (Kd.N_mono (ok' := fun k_ => (P0_ k_ ∨ w.heap.size ≤ k_) ∧ some k_ ≠ (u7 : Value).ownBlock) (Kd.S_N (Kd.S_bound ho0)) (fun k_ hk_ => ⟨(.inr (Nat.le_trans (below_size (by repeat (first | (with_reducible first | exact HB.out | apply below_alloc | apply pw_below_drewN | apply below_drew1) | exact HB.out))) hk_.2.1)), (Kd.fresh' (Kd.N_lt (by (with_reducible repeat (first | apply Kd.N_alloc | apply Kd.N_drewN | apply Kd.N_drew)); exact HO_7.out)) k_ hk_.2.1)⟩)) (below_size (by repeat (first | (with_reducible first | exact HB.out | apply below_alloc | apply pw_below_drewN | apply below_drew1) | exact HB.out)))); have n5_ := am (Kd.C_below (by repeat (first | (with_reducible exact HR438_0.out) | (with_reducible refine Kd.C_alloc ?_ _) | (with_reducible refine Kd.C_drewN ?_ _) | (with_reducible refine Kd.C_drew ?_) | exact HR438_0.out)) hb); have n6_ := am (Kd.C_below (by repeat (first | (with_reducible exact HR439_0.out) | (with_reducible refine Kd.C_alloc ?_ _) | (with_reducible refine Kd.C_drewN ?_ _) | (with_reducible refine Kd.C_drew ?_) | exact HR439_0.out)) hb); have n7_ := am (below_step (by repeat (first | (with_reducible first | exact HB.out | apply below_alloc | apply pw_below_drewN | apply below_drew1) | exact HB.out)) hb); clear HO_0 HO_7 HO_9 HL439_0 HR438_0 HR439_0 HB; revert n0_ n1_ n2_ n3_ n4_ n5_ n6_ n7_; intro HO_0 HO_7 HO_9 HL439_0 HO442 HR438_0 HR439_0 HB; (try clear hb); (try clear hb2); (try clear hk); (try clear hi); (try clear ho0)))
             go_roundg k3
             case measure => have := HK1.out; have := HK2.out; have := HK3.out; omega
             case rel => exact ⟨(t440), (wrap64 (x10_3 + 1)), (by first | rfl | (simp; done) | (simp [*]; done)), H', ⟨by have := HK1.out; have := HK2.out; have := HK3.out; omega⟩, ⟨by (with_reducible repeat (first | apply Kd.V_alloc | apply Kd.V_drewN | apply Kd.V_drew)); exact Kd.V_mono HO_0.out (fun _ hk => ⟨hk.1.1, hk.1.2⟩)⟩, ⟨by (with_reducible repeat (first | apply Kd.N_alloc | apply Kd.N_drewN | apply Kd.N_drew)); exact Kd.N_mono HO_7.out (fun _ hk => hk.1)⟩, ⟨Kd.N_V (Kd.N_mv HO442.out)⟩, ⟨by repeat (first | (with_reducible exact HR438_0.out) | (with_reducible refine Kd.C_alloc ?_ _) | (with_reducible refine Kd.C_drewN ?_ _) | (with_reducible refine Kd.C_drew ?_) | exact HR438_0.out)⟩, ⟨by repeat (first | (with_reducible first | exact HB.out | apply below_alloc | apply pw_below_drewN | apply below_drew1) | exact HB.out)⟩⟩
            ·rw [if_neg c9] at H
             exact absurd H (by simp)
           ·rw [if_neg c8] at H
            have c8b0 : decide (x10_3 < (x0_1.length : Int)) = false := decide_eq_false c8
            clear c8
            by_cases c13 : x7_2.length < 5864062014805
            ·rw [if_pos c13] at H
             have LMc13 := am c13
             clear c13
             obtain ⟨y443, hy443⟩ : ∃ y_ : List (List (S44)), y_ = (x7_2 ++ [x9_3]) := ⟨_, rfl⟩
             replace H : (hypercuberef6_Merge.l1 k3 x0_1 a1 x6_1 y443 (wrap64 (x8_2 + a1))) = some (r1, r2) := by rw [hy443]; with_reducible exact H
             have Ny443 := am hy443
             clear hy443
             have H' := am H
             clear H
             obtain ⟨Ao15, co15, eo15⟩ := Kd.V_slice HO_9.out
             subst eo15
             go_wp2_with (first | ((with_reducible refine gate_builtin (b := .append) (xs := #[.tmp 46, .tmp 48]) rfl ?_); (try (refine gate_guard (by rfl) ?_; dsimp only)); at_builtin; refine Kd.N_append (Kd.slice 44 k44) (w0 := w) w.heap.size rfl (.tmp 46) (.tmp 48) 29 31 (.slice none 0 0) 24 rfl Try.underlying29 info31 rfl (by decide) (by omega) u7 x7_2 x9_3 [.slice Ao15 x9_3.length co15] (fun k_ => (P0_ k_ ∨ w.heap.size ≤ k_)) (fun k_ => ((fun k_ => (P0_ k_ ∨ w.heap.size ≤ k_))) k_ ∧ some k_ ≠ (u7 : Value).ownBlock) rfl rfl ?aP (fun _ hk => hk) ?aF ?aO ?aB ?aS ?aL ?_; (case aP => exact (Kd.FK_slice_mk (Kd.V_reads' (Kd.V_mono (ok' := (fun k_ => ((fun k_ => (P0_ k_ ∨ w.heap.size ≤ k_))) k_ ∧ some k_ ≠ (u7 : Value).ownBlock)) (HO_9.out) (fun k_ hk => ⟨hk.1, hk.2⟩))).2.1 (Kd.V_F (Kd.V_mono (ok' := (fun k_ => ((fun k_ => (P0_ k_ ∨ w.heap.size ≤ k_))) k_ ∧ some k_ ≠ (u7 : Value).ownBlock)) (HO_9.out) (fun k_ hk => ⟨hk.1, hk.2⟩))))); (case aB => exact (wmv HB.out)); (case aF => exact (fun k_ hk => (.inr (Nat.le_trans (below_size (wmv HB.out)) hk)))); (case aO => exact (Kd.N_mv HO_7.out)); (case aS => exact (below_size (wmv HB.out))); (case aL => have := LMc13.out; omega); intro v444 w14 ho hb hg hat; rw [← Ny443.out] at ho; have n0_ := am (Kd.V_afterv (ok := (fun k_ => (P0_ k_ ∨ w.heap.size ≤ k_))) (Kd.V_mv HO_0.out) hg hat); have n1_ := am (Kd.V_afterv (ok := (fun k_ => (P0_ k_ ∨ w.heap.size ≤ k_))) (Kd.V_mv HO_9.out) hg hat); have n2_ := am (hb); have n3_ := am (ho); clear HO_0 HO_9 HB HO_7; revert n0_ n1_ n2_ n3_; intro HO_0 HO_9 HB HO445; clear ho hb hg hat))
             go_roundg k3
             case measure => have := HK1.out; have := HK2.out; have := HK3.out; omega
             case rel => exact ⟨(y443), (wrap64 (x8_2 + a1)), (by first | rfl | (simp; done) | (simp [*]; done)), H', ⟨by have := HK1.out; have := HK2.out; have := HK3.out; omega⟩, ⟨by (with_reducible repeat (first | apply Kd.V_alloc | apply Kd.V_drewN | apply Kd.V_drew)); exact HO_0.out⟩, ⟨by (with_reducible repeat (first | apply Kd.N_alloc | apply Kd.N_drewN | apply Kd.N_drew)); exact HO445.out⟩, ⟨by repeat (first | (with_reducible first | exact HB.out | apply below_alloc | apply pw_below_drewN | apply below_drew1) | exact HB.out)⟩⟩
            ·rw [if_neg c13] at H
             exact absurd H (by simp)
          ·rw [if_neg c7] at H
           have c7b0 : decide (x10_3 < (wrap64 (x8_2 + a1))) = false := decide_eq_false c7
           clear c7
           by_cases c16 : x7_2.length < 5864062014805
           ·rw [if_pos c16] at H
            have LMc16 := am c16
            clear c16
            obtain ⟨y446, hy446⟩ : ∃ y_ : List (List (S44)), y_ = (x7_2 ++ [x9_3]) := ⟨_, rfl⟩
            replace H : (hypercuberef6_Merge.l1 k3 x0_1 a1 x6_1 y446 (wrap64 (x8_2 + a1))) = some (r1, r2) := by rw [hy446]; with_reducible exact H
            have Ny446 := am hy446
            clear hy446
            have H' := am H
            clear H
            obtain ⟨Ao18, co18, eo18⟩ := Kd.V_slice HO_9.out
            subst eo18
            go_wp2_with (first | ((with_reducible refine gate_builtin (b := .append) (xs := #[.tmp 46, .tmp 48]) rfl ?_); (try (refine gate_guard (by rfl) ?_; dsimp only)); at_builtin; refine Kd.N_append (Kd.slice 44 k44) (w0 := w) w.heap.size rfl (.tmp 46) (.tmp 48) 29 31 (.slice none 0 0) 24 rfl Try.underlying29 info31 rfl (by decide) (by omega) u7 x7_2 x9_3 [.slice Ao18 x9_3.length co18] (fun k_ => (P0_ k_ ∨ w.heap.size ≤ k_)) (fun k_ => ((fun k_ => (P0_ k_ ∨ w.heap.size ≤ k_))) k_ ∧ some k_ ≠ (u7 : Value).ownBlock) rfl rfl ?aP (fun _ hk => hk) ?aF ?aO ?aB ?aS ?aL ?_; (case aP => exact (Kd.FK_slice_mk (Kd.V_reads' (Kd.V_mono (ok' := (fun k_ => ((fun k_ => (P0_ k_ ∨ w.heap.size ≤ k_))) k_ ∧ some k_ ≠ (u7 : Value).ownBlock)) (HO_9.out) (fun k_ hk => ⟨hk.1, hk.2⟩))).2.1 (Kd.V_F (Kd.V_mono (ok' := (fun k_ => ((fun k_ => (P0_ k_ ∨ w.heap.size ≤ k_))) k_ ∧ some k_ ≠ (u7 : Value).ownBlock)) (HO_9.out) (fun k_ hk => ⟨hk.1, hk.2⟩))))); (case aB => exact (wmv HB.out)); (case aF => exact (fun k_ hk => (.inr (Nat.le_trans (below_size (wmv HB.out)) hk)))); (case aO => exact (Kd.N_mv HO_7.out)); (case aS => exact (below_size (wmv HB.out))); (case aL => have := LMc16.out; omega); intro v447 w17 ho hb hg hat; rw [← Ny446.out] at ho; have n0_ := am (Kd.V_afterv (ok := (fun k_ => (P0_ k_ ∨ w.heap.size ≤ k_))) (Kd.V_mv HO_0.out) hg hat); have n1_ := am (Kd.V_afterv (ok := (fun k_ => (P0_ k_ ∨ w.heap.size ≤ k_))) (Kd.V_mv HO_9.out) hg hat); have n2_ := am (hb); have n3_ := am (ho); clear HO_0 HO_9 HB HO_7; revert n0_ n1_ n2_ n3_; intro HO_0 HO_9 HB HO448; clear ho hb hg hat))
            go_roundg k3
            case measure => have := HK1.out; have := HK2.out; have := HK3.out; omega
            case rel => exact ⟨(y446), (wrap64 (x8_2 + a1)), (by first | rfl | (simp; done) | (simp [*]; done)), H', ⟨by have := HK1.out; have := HK2.out; have := HK3.out; omega⟩, ⟨by (with_reducible repeat (first | apply Kd.V_alloc | apply Kd.V_drewN | apply Kd.V_drew)); exact HO_0.out⟩, ⟨by (with_reducible repeat (first | apply Kd.N_alloc | apply Kd.N_drewN | apply Kd.N_drew)); exact HO448.out⟩, ⟨by repeat (first | (with_reducible first | exact HB.out | apply below_alloc | apply pw_below_drewN | apply below_drew1) | exact HB.out)⟩⟩
           ·rw [if_neg c16] at H
            exact absurd H (by simp)
       ·rw [if_neg c6] at H
        exact absurd H (by simp)
      ·rw [if_neg c5] at H
       have c5b0 : decide (x8_2 < (x0_1.length : Int)) = false := decide_eq_false c5
       clear c5
       have H' := am H
       clear H
       go_wp2
       go_roundg k2
       case measure => have := HK1.out; have := HK2.out; omega
       case rel => exact ⟨(x7_2), (wrap64 (x6_1 + 1)), (by first | rfl | (simp; done) | (simp [*]; done)), H', ⟨by have := HK1.out; have := HK2.out; omega⟩, ⟨Kd.N_V (Kd.N_mv HO_7.out)⟩, ⟨by repeat (first | (with_reducible first | exact HB.out | apply below_alloc | apply pw_below_drewN | apply below_drew1) | exact HB.out)⟩⟩
   ·rw [if_neg c3] at H
    have c3b0 : decide (1 < (x0_1.length : Int)) = false := decide_eq_false c3
    have c3b1 : decide (1 < x0_1.length) = false := decide_eq_false (by omega)
    clear c3
    by_cases c19 : (x0_1.length : Int) = 0
    ·rw [if_pos c19] at H
     have c19b0 : ((x0_1.length : Int) == 0) = true := beq_iff_eq.mpr c19
     have c19b1 : ((x0_1.length : Int) != 0) = false := bne_eq_false_iff_eq.mpr c19
     clear c19
     simp only [Option.some.injEq, Prod.mk.injEq] at H
     obtain ⟨rfl, rfl⟩ := H
     obtain ⟨Ao20, co20, eo20⟩ := Kd.V_slice HO_0.out
     subst eo20
     go_wp2
     go_ret2
     exact ⟨_, by first | rfl | (simp [errW_none, errW_some] <;> rfl) | (simp [*, errW_none, errW_some] <;> rfl), by first | exact Kd.S_nil _ _ _ _ _ | exact Kd.N_nil _ _ _ _ _ | exact Kd.V_nil _ _ _ _ _ | exact Kd.Q_nil _ _ _ _ _ | exact Kd.R_nil _ _ _ _ _, by repeat (first | (with_reducible first | exact HB.out | apply below_alloc | apply pw_below_drewN | apply below_drew1) | exact HB.out)⟩
    ·rw [if_neg c19] at H
     have c19b0 : ((x0_1.length : Int) == 0) = false := beq_eq_false_iff_ne.mpr c19
     have c19b1 : ((x0_1.length : Int) != 0) = true := bne_iff_ne.mpr c19
     have c19b2 : ¬ (x0_1 = []) := fun h_ => c19 (by rw [h_]; rfl)
     by_cases c21 : 0 < (x0_1.length : Int)
     ·rw [if_pos c21] at H
      have c21b0 : decide (0 < (x0_1.length : Int)) = true := decide_eq_true c21
      have c21b1 : decide (0 < x0_1.length) = true := decide_eq_true (by omega)
      clear c21
      replace H := Option.bind_eq_some_iff.mp H
      obtain ⟨t435, A220, H⟩ := H
      replace H : (some (t435, x6_1)) = some (r1, r2) := H
      have A22 := am A220
      clear A220
      simp only [Option.some.injEq, Prod.mk.injEq] at H
      obtain ⟨rfl, rfl⟩ := H
      obtain ⟨Ao23, co23, eo23⟩ := Kd.V_slice HO_0.out
      subst eo23
      have p434 : 0 ≤ (0 : Int) := (by omega)
      have q434 : 0 < (x0_1.length : Int) := of_decide_eq_true (by first | (with_reducible assumption) | assumption)
      obtain ⟨ad434, A434_0, c434_0, e434, hx434_0, hl434_0, hi434_0⟩ := at_L3 (Kd.V_reads' HO_0.out).2.2 0 p434 q434
      cases e434
      obtain ⟨ce434, hce434, hMe434, hcc434⟩ := Kd.V_get HO_0.out [] 0 p434 (by first | exact q434 | exact of_decide_eq_true (by first | (with_reducible assumption) | assumption) | (have e_ := (Kd.V_reads' HO_0.out).1; omega))
      obtain ⟨ua434_0, uc434_0, rfl, ul434_0, ge434_0⟩ := Kd.FK_slice_open hMe434
      have hv434_0 := hcc434 0 _ rfl
      rw [Nat.add_zero, show ((Kd.slice 44 k44)).sz = 1 from rfl, Nat.mul_one] at hv434_0
      replace hv434_0 := Option.some.inj (hv434_0.symm.trans hx434_0)
      injection hv434_0 with hva_ hvn_ hvc_
      rw [hva_] at ge434_0
      rw [hvc_] at ul434_0
      have HL434_0 := am (show Kd.V k44 44 _ w.heap.size _ _ (rd_L3 x0_1 0) from Kd.V_mk ul434_0 ge434_0)
      clear hva_ hvn_ hvc_ ge434_0 ul434_0
      clear hcc434 hce434
      have qi434 : (0 < x0_1.length) = True := eq_true (by omega)
      (try rw [show ((0 : Int)).toNat = 0 from rfl] at hx434_0)
      (try rw [Addr.add_zero'] at hx434_0)
      have HR434_0 := am hi434_0
      have HC434_0 := am hl434_0
      clear hi434_0 hl434_0
      replace p434 := eq_true p434
      replace q434 := eq_true q434
      go_wp2_with (first | (go_at_call 24; (refine (hypercuberef6_Two.calls k1 _ _ (rd_L3 x0_1 0) _ _ ([] : List (S44)) t435 _ ?side1 ?side2 ?side3 ?side4 A22.out).mono ?_); (case side1 => repeat (first | exact (by repeat (first | (with_reducible exact HR434_0.out) | (with_reducible refine Kd.C_alloc ?_ _) | (with_reducible refine Kd.C_drewN ?_ _) | (with_reducible refine Kd.C_drew ?_) | exact HR434_0.out)) | (with_reducible refine Kd.C_alloc ?_ _) | (with_reducible refine Kd.C_drewN ?_ _) | (with_reducible refine Kd.C_drew ?_))); (case side2 => exact HC434_0.out); (case side3 => exact Kd.C_nil _ _); (case side4 => exact Nat.le_refl _); rintro e w24 ⟨v436, rfl, ho0, hb⟩; have n0_ := am (Kd.V_elder' (by (with_reducible repeat (first | apply Kd.V_alloc | apply Kd.V_drewN | apply Kd.V_drew)); exact HO_0.out) (by first | exact Kd.N_base ho0 | exact Kd.S_base ho0 | exact Kd.R_base ho0) hb); have n1_ := am (Kd.V_elder' (by (with_reducible repeat (first | apply Kd.V_alloc | apply Kd.V_drewN | apply Kd.V_drew)); exact HL434_0.out) (by first | exact Kd.N_base ho0 | exact Kd.S_base ho0 | exact Kd.R_base ho0) hb); have n2_ := am (Kd.N_lower (Kd.N_mono (ok' := fun k_ => (P0_ k_ ∨ w.heap.size ≤ k_)) (Kd.S_N (Kd.S_bound ho0)) (fun k_ hk_ => (.inr (Nat.le_trans (below_size (by repeat (first | (with_reducible first | exact HB.out | apply below_alloc | apply pw_below_drewN | apply below_drew1) | exact HB.out))) hk_.2.1)))) (below_size (by repeat (first | (with_reducible first | exact HB.out | apply below_alloc | apply pw_below_drewN | apply below_drew1) | exact HB.out)))); have n3_ := am (Kd.C_below (by repeat (first | (with_reducible exact HR434_0.out) | (with_reducible refine Kd.C_alloc ?_ _) | (with_reducible refine Kd.C_drewN ?_ _) | (with_reducible refine Kd.C_drew ?_) | exact HR434_0.out)) hb); have n4_ := am (below_step (by repeat (first | (with_reducible first | exact HB.out | apply below_alloc | apply pw_below_drewN | apply below_drew1) | exact HB.out)) hb); clear HO_0 HL434_0 HR434_0 HB; revert n0_ n1_ n2_ n3_ n4_; intro HO_0 HL434_0 HO437 HR434_0 HB; (try clear hb); (try clear hb2); (try clear hk); (try clear hi); (try clear ho0)))
      go_ret2
      exact ⟨_, by first | rfl | (simp [errW_none, errW_some] <;> rfl) | (simp [*, errW_none, errW_some] <;> rfl), by (with_reducible repeat (first | apply Kd.N_alloc | apply Kd.N_drewN | apply Kd.N_drew)); exact HO437.out, by repeat (first | (with_reducible first | exact HB.out | apply below_alloc | apply pw_below_drewN | apply below_drew1) | exact HB.out)⟩
     ·rw [if_neg c21] at H
      exact absurd H (by simp)
def hypercuberef1_Ints.l0 : Nat → List Int → List Int → Int → Option (Bool)
 | 0, _, _, _ => none
 | k + 1, x0, x1, x5 => if x5 < (x0.length : Int) then (if 0 ≤ x5 then (if x5 < (x1.length : Int) then (if (rd x0 x5) = (rd x1 x5) then (hypercuberef1_Ints.l0 k x0 x1 (wrap64 (x5 + 1))) else (some false)) else (none)) else (none)) else (some true)
def hypercuberef1_Ints.f (k : Nat) (l0 : List Int) (l1 : List Int) : Option (Bool) := if (l0.length : Int) = (l1.length : Int) then (hypercuberef1_Ints.l0 k l0 l1 0) else (some false)
set_option maxHeartbeats 8000000 in
set_option maxRecDepth 100000 in
theorem hypercuberef1_Ints.calls (k : Nat) (A0 : Option Addr) (c0 : Nat) (l0 : List Int) (A1 : Option Addr) (c1 : Nat) (l1 : List Int) (r : Bool) (w : World) (hr0 : Kd.C (Kd.int .i64) w A0 l0.length l0) (hc0 : l0.length ≤ c0) (hr1 : Kd.C (Kd.int .i64) w A1 l1.length l1) (hc1 : l1.length ≤ c1) (h : hypercuberef1_Ints.f k l0 l1 = some r) :
  Calls Try.prog 46 #[.slice A0 l0.length c0, .slice A1 l1.length c1] w fun e w' => e = .returned (.bool r) ∧ Drawn0 w w' := by
 have HR0 := am hr0
 have HC0 := am hc0
 clear hr0 hc0
 have HR1 := am hr1
 have HC1 := am hc1
 clear hr1 hc1
 have H : (if (l0.length : Int) = (l1.length : Int) then (hypercuberef1_Ints.l0 k l0 l1 0) else (some false)) = some r := h
 clear h
 by_cases c3 : (l0.length : Int) = (l1.length : Int)
 ·rw [if_pos c3] at H
  have c3b0 : ((l0.length : Int) == (l1.length : Int)) = true := beq_iff_eq.mpr c3
  have c3b1 : ((l0.length : Int) != (l1.length : Int)) = false := bne_eq_false_iff_eq.mpr c3
  have c3b2 : (l0.length == l1.length) = true := by first | simpa using c3 | (simp at c3 ⊢; omega)
  clear c3
  have H' := am H
  clear H
  go_enter Try.func46, Try.ntmps46
  go_wp2
  repeat (go_quiet (fail); try go_wp2)
  go_loopg [5] k (fun kq v5 w' => ∃ (x5_1 : Int), v5 = .int .i64 x5_1 ∧ Aside0 (hypercuberef1_Ints.l0 kq l0 l1 x5_1 = some r) ∧ Aside0 (kq ≤ k) ∧ Drawn0 w w')
  case atStart => exact ⟨(0), (by first | rfl | (simp; done) | (simp [*]; done)), H', ⟨Nat.le_refl _⟩, by repeat (first | exact Drawn0.refl _ | apply Drawn0.step)⟩
  case round =>
   clear H'
   try clear c1
   try clear p2
   try clear c3
   try clear c3b0
   try clear c3b1
   try clear c3b2
   obtain ⟨x5_1, rfl, HA, HK1, ⟨m1, rfl⟩⟩ := hrel
   cases gk with
   | zero => exact absurd HA.out (by simp [hypercuberef1_Ints.l0])
   | succ k1 =>
    have H := HA.out
    clear HA
    simp only [hypercuberef1_Ints.l0] at H
    by_cases c4 : x5_1 < (l0.length : Int)
    ·rw [if_pos c4] at H
     have c4b0 : decide (x5_1 < (l0.length : Int)) = true := decide_eq_true c4
     clear c4
     by_cases c5 : 0 ≤ x5_1
     ·rw [if_pos c5] at H
      have c5b0 : decide (0 ≤ x5_1) = true := decide_eq_true c5
      clear c5
      by_cases c6 : x5_1 < (l1.length : Int)
      ·rw [if_pos c6] at H
       have c6b0 : decide (x5_1 < (l1.length : Int)) = true := decide_eq_true c6
       clear c6
       by_cases c7 : (rd l0 x5_1) = (rd l1 x5_1)
       ·rw [if_pos c7] at H
        have c7b0 : ((rd l0 x5_1) == (rd l1 x5_1)) = true := beq_iff_eq.mpr c7
        have c7b1 : ((rd l0 x5_1) != (rd l1 x5_1)) = false := bne_eq_false_iff_eq.mpr c7
        clear c7
        have H' := am H
        clear H
        have p449 : 0 ≤ (x5_1 : Int) := of_decide_eq_true (by first | (with_reducible assumption) | assumption)
        have q449 : x5_1 < (l0.length : Int) := of_decide_eq_true (by first | (with_reducible assumption) | assumption)
        obtain ⟨ad449, e449, hx449_0⟩ := Kd.at_int HR0.out x5_1 p449 q449
        cases e449
        replace p449 := eq_true p449
        replace q449 := eq_true q449
        have p450 : 0 ≤ (x5_1 : Int) := of_decide_eq_true (by first | (with_reducible assumption) | assumption)
        have q450 : x5_1 < (l1.length : Int) := of_decide_eq_true (by first | (with_reducible assumption) | assumption)
        obtain ⟨ad450, e450, hx450_0⟩ := Kd.at_int HR1.out x5_1 p450 q450
        cases e450
        replace p450 := eq_true p450
        replace q450 := eq_true q450
        go_wp2
        repeat (go_quiet (fail); try go_wp2)
        go_roundg k1
        case measure => have := HK1.out; omega
        case rel => exact ⟨(wrap64 (x5_1 + 1)), (by first | rfl | (simp; done) | (simp [*]; done)), H', ⟨by have := HK1.out; omega⟩, by repeat (first | exact Drawn0.refl _ | apply Drawn0.step)⟩
       ·rw [if_neg c7] at H
        have c7b0 : ((rd l0 x5_1) == (rd l1 x5_1)) = false := beq_eq_false_iff_ne.mpr c7
        have c7b1 : ((rd l0 x5_1) != (rd l1 x5_1)) = true := bne_iff_ne.mpr c7
        obtain rfl := Option.some.inj H
        have p449 : 0 ≤ (x5_1 : Int) := of_decide_eq_true (by first | (with_reducible assumption) | assumption)
        have q449 : x5_1 < (l0.length : Int) := of_decide_eq_true (by first | (with_reducible assumption) | assumption)
        obtain ⟨ad449, e449, hx449_0⟩ := Kd.at_int HR0.out x5_1 p449 q449
        cases e449
        replace p449 := eq_true p449
        replace q449 := eq_true q449
        have p450 : 0 ≤ (x5_1 : Int) := of_decide_eq_true (by first | (with_reducible assumption) | assumption)
        have q450 : x5_1 < (l1.length : Int) := of_decide_eq_true (by first | (with_reducible assumption) | assumption)
        obtain ⟨ad450, e450, hx450_0⟩ := Kd.at_int HR1.out x5_1 p450 q450
        cases e450
        replace p450 := eq_true p450
        replace q450 := eq_true q450
        go_wp2
        repeat (go_quiet (fail); try go_wp2)
        go_ret
        exact ⟨by first | rfl | (simp; done) | (simp [*]; done), by repeat (first | exact Drawn0.refl _ | apply Drawn0.step)⟩
      ·rw [if_neg c6] at H
       exact absurd H (by simp)
     ·rw [if_neg c5] at H
      exact absurd H (by simp)
    ·rw [if_neg c4] at H
     have c4b0 : decide (x5_1 < (l0.length : Int)) = false := decide_eq_false c4
     clear c4
     obtain rfl := Option.some.inj H
     go_wp2
     repeat (go_quiet (fail); try go_wp2)
     go_ret
     exact ⟨by first | rfl | (simp; done) | (simp [*]; done), by repeat (first | exact Drawn0.refl _ | apply Drawn0.step)⟩
 ·rw [if_neg c3] at H
  have c3b0 : ((l0.length : Int) == (l1.length : Int)) = false := beq_eq_false_iff_ne.mpr c3
  have c3b1 : ((l0.length : Int) != (l1.length : Int)) = true := bne_iff_ne.mpr c3
  have c3b2 : (l0.length == l1.length) = false := by first | simpa using c3 | (simp at c3 ⊢; omega)
  obtain rfl := Option.some.inj H
  go_enter Try.func46, Try.ntmps46
  go_wp2
  repeat (go_quiet (fail); try go_wp2)
  go_ret
  exact ⟨by first | rfl | (simp; done) | (simp [*]; done), by repeat (first | exact Drawn0.refl _ | apply Drawn0.step)⟩
def hypercuberef2_Equal.f (k : Nat) (l0_0 : List Int) (a0_1 : Int) (l0_2 : List Int) (l0_3 : List Int) (l0_4 : List Int) (l1_0 : List Int) (a1_1 : Int) (l1_2 : List Int) (l1_3 : List Int) (l1_4 : List Int) : Option (Bool) := if a0_1 = a1_1 then ((hypercuberef1_Ints.f k l0_0 l1_0).bind fun t453 => (if t453 = true then ((hypercuberef1_Ints.f k l0_2 l1_2).bind fun t454 => (if t454 = true then ((hypercuberef1_Ints.f k l0_3 l1_3).bind fun t455 => (if t455 = true then ((hypercuberef1_Ints.f k l0_4 l1_4).bind fun t456 => (some t456)) else (some false))) else (some false))) else (some false))) else (some false)
set_option maxHeartbeats 8000000 in
set_option maxRecDepth 100000 in
theorem hypercuberef2_Equal.calls (k : Nat) (A0_0 : Option Addr) (c0_0 : Nat) (l0_0 : List Int) (a0_1 : Int) (A0_2 : Option Addr) (c0_2 : Nat) (l0_2 : List Int) (A0_3 : Option Addr) (c0_3 : Nat) (l0_3 : List Int) (A0_4 : Option Addr) (c0_4 : Nat) (l0_4 : List Int) (A1_0 : Option Addr) (c1_0 : Nat) (l1_0 : List Int) (a1_1 : Int) (A1_2 : Option Addr) (c1_2 : Nat) (l1_2 : List Int) (A1_3 : Option Addr) (c1_3 : Nat) (l1_3 : List Int) (A1_4 : Option Addr) (c1_4 : Nat) (l1_4 : List Int) (r : Bool) (w : World) (hr0_0 : Kd.C (Kd.int .i64) w A0_0 l0_0.length l0_0) (hc0_0 : l0_0.length ≤ c0_0) (hr0_2 : Kd.C (Kd.int .i64) w A0_2 l0_2.length l0_2) (hc0_2 : l0_2.length ≤ c0_2) (hr0_3 : Kd.C (Kd.int .i64) w A0_3 l0_3.length l0_3) (hc0_3 : l0_3.length ≤ c0_3) (hr0_4 : Kd.C (Kd.int .i64) w A0_4 l0_4.length l0_4) (hc0_4 : l0_4.length ≤ c0_4) (hr1_0 : Kd.C (Kd.int .i64) w A1_0 l1_0.length l1_0) (hc1_0 : l1_0.length ≤ c1_0) (hr1_2 : Kd.C (Kd.int .i64) w A1_2 l1_2.length l1_2) (hc1_2 : l1_2.length ≤ c1_2) (hr1_3 : Kd.C (Kd.int .i64) w A1_3 l1_3.length l1_3) (hc1_3 : l1_3.length ≤ c1_3) (hr1_4 : Kd.C (Kd.int .i64) w A1_4 l1_4.length l1_4) (hc1_4 : l1_4.length ≤ c1_4) (h : hypercuberef2_Equal.f k l0_0 a0_1 l0_2 l0_3 l0_4 l1_0 a1_1 l1_2 l1_3 l1_4 = some r) :
  Calls Try.prog 35 #[.agg #[.slice A0_0 l0_0.length c0_0, .int .i64 a0_1, .slice A0_2 l0_2.length c0_2, .slice A0_3 l0_3.length c0_3, .slice A0_4 l0_4.length c0_4], .agg #[.slice A1_0 l1_0.length c1_0, .int .i64 a1_1, .slice A1_2 l1_2.length c1_2, .slice A1_3 l1_3.length c1_3, .slice A1_4 l1_4.length c1_4]] w fun e w' => e = .returned (.bool r) ∧ Below w.heap.size w w' := by
 have hu44 := Try.underlying44
 have K00 := am (And.intro hr0_0 hc0_0)
 have K02 := am (And.intro hr0_2 hc0_2)
 have K03 := am (And.intro hr0_3 hc0_3)
 have K04 := am (And.intro hr0_4 hc0_4)
 have K10 := am (And.intro hr1_0 hc1_0)
 have K12 := am (And.intro hr1_2 hc1_2)
 have K13 := am (And.intro hr1_3 hc1_3)
 have K14 := am (And.intro hr1_4 hc1_4)
 clear hr0_0 hc0_0 hr0_2 hc0_2 hr0_3 hc0_3 hr0_4 hc0_4 hr1_0 hc1_0 hr1_2 hc1_2 hr1_3 hc1_3 hr1_4 hc1_4
 have HB := am (Below.refl w.heap.size w)
 unfold hypercuberef2_Equal.f at h
 by_cases c1 : a0_1 = a1_1
 rw [if_pos c1] at h
 have hd : (a0_1 == a1_1) = true := beq_iff_eq.2 c1
 clear c1
 obtain ⟨t1, b1, h⟩ := Option.bind_eq_some_iff.1 h
 have B1 := am b1
 clear b1
 by_cases c2 : t1 = true
 rw [if_pos c2] at h
 subst c2
 obtain ⟨t2, b2, h⟩ := Option.bind_eq_some_iff.1 h
 have B2 := am b2
 clear b2
 by_cases c3 : t2 = true
 rw [if_pos c3] at h
 subst c3
 obtain ⟨t3, b3, h⟩ := Option.bind_eq_some_iff.1 h
 have B3 := am b3
 clear b3
 by_cases c4 : t3 = true
 rw [if_pos c4] at h
 subst c4
 obtain ⟨t4, b4, h⟩ := Option.bind_eq_some_iff.1 h
 have B4 := am b4
 clear b4
 all_goals
  first | (rw [if_neg (by assumption)] at h) | skip
  have e := Option.some.inj h
  subst e
  clear h
  try (have hd : (a0_1 == a1_1) = false := beq_eq_false_iff_ne.2 (by assumption))
  try (replace c2 := Bool.eq_false_iff.mpr c2; subst c2)
  try (replace c3 := Bool.eq_false_iff.mpr c3; subst c3)
  try (replace c4 := Bool.eq_false_iff.mpr c4; subst c4)
  try clear c1
  go_enter Try.func35, Try.ntmps35
  go_wp2_with (first | ((with_reducible refine gate_dst (N := 2) rfl ?_); refine box_event ?hg (N := 2) ?hd (cs := #[.slice A0_0 l0_0.length c0_0, .int .i64 a0_1, .slice A0_2 l0_2.length c0_2, .slice A0_3 l0_3.length c0_3, .slice A0_4 l0_4.length c0_4]) (t := 44) ?hr ?_; (case hd => rfl); (case hg => rfl); (case hr => first | (go_simp; done) | (go_simp; rfl)); intro g0 hg w0 hb0 hbw; have HB := am (below_step HB.out hbw); have HB0 := am hb0; clear hg hbw hb0) | ((with_reducible refine gate_dst (N := 3) rfl ?_); refine box_event ?hg (N := 3) ?hd (cs := #[.slice A1_0 l1_0.length c1_0, .int .i64 a1_1, .slice A1_2 l1_2.length c1_2, .slice A1_3 l1_3.length c1_3, .slice A1_4 l1_4.length c1_4]) (t := 44) ?hr ?_; (case hd => rfl); (case hg => rfl); (case hr => first | (go_simp; done) | (go_simp; rfl)); intro g1 hg w1 hb1 hbw; have HB := am (below_step HB.out hbw); have hb0 := blk_below HB0.out hbw; have q00 : w1.cell? ⟨g0, 0, none⟩ = some (.slice A0_0 l0_0.length c0_0) := (blk_cell hb0 0).trans rfl; have q01 : w1.cell? ⟨g0, 1, none⟩ = some (.int .i64 a0_1) := (blk_cell hb0 1).trans rfl; have q02 : w1.cell? ⟨g0, 2, none⟩ = some (.slice A0_2 l0_2.length c0_2) := (blk_cell hb0 2).trans rfl; have q03 : w1.cell? ⟨g0, 3, none⟩ = some (.slice A0_3 l0_3.length c0_3) := (blk_cell hb0 3).trans rfl; have q04 : w1.cell? ⟨g0, 4, none⟩ = some (.slice A0_4 l0_4.length c0_4) := (blk_cell hb0 4).trans rfl; have q10 : w1.cell? ⟨g1, 0, none⟩ = some (.slice A1_0 l1_0.length c1_0) := (blk_cell hb1 0).trans rfl; have q11 : w1.cell? ⟨g1, 1, none⟩ = some (.int .i64 a1_1) := (blk_cell hb1 1).trans rfl; have q12 : w1.cell? ⟨g1, 2, none⟩ = some (.slice A1_2 l1_2.length c1_2) := (blk_cell hb1 2).trans rfl; have q13 : w1.cell? ⟨g1, 3, none⟩ = some (.slice A1_3 l1_3.length c1_3) := (blk_cell hb1 3).trans rfl; have q14 : w1.cell? ⟨g1, 4, none⟩ = some (.slice A1_4 l1_4.length c1_4) := (blk_cell hb1 4).trans rfl; clear hg hbw hb0 hb1) | (go_at_call 46; (with_reducible refine (hypercuberef1_Ints.calls k _ _ l0_0 _ _ l1_0 _ w1 (Kd.C_below K00.out.1 HB.out) K00.out.2 (Kd.C_below K10.out.1 HB.out) K10.out.2 B1.out).mono ?_); rintro e w' ⟨rfl, ⟨nd1, rfl⟩⟩) | (go_at_call 46; (with_reducible refine (hypercuberef1_Ints.calls k _ _ l0_2 _ _ l1_2 _ _ (Kd.C_below K02.out.1 (pw_below_drewN HB.out _)) K02.out.2 (Kd.C_below K12.out.1 (pw_below_drewN HB.out _)) K12.out.2 B2.out).mono ?_); rintro e w' ⟨rfl, ⟨nd2, rfl⟩⟩) | (go_at_call 46; (with_reducible refine (hypercuberef1_Ints.calls k _ _ l0_3 _ _ l1_3 _ _ (Kd.C_below K03.out.1 (pw_below_drewN HB.out _)) K03.out.2 (Kd.C_below K13.out.1 (pw_below_drewN HB.out _)) K13.out.2 B3.out).mono ?_); rintro e w' ⟨rfl, ⟨nd3, rfl⟩⟩) | (go_at_call 46; (with_reducible refine (hypercuberef1_Ints.calls k _ _ l0_4 _ _ l1_4 _ _ (Kd.C_below K04.out.1 (pw_below_drewN HB.out _)) K04.out.2 (Kd.C_below K14.out.1 (pw_below_drewN HB.out _)) K14.out.2 B4.out).mono ?_); rintro e w' ⟨rfl, ⟨nd4, rfl⟩⟩))
  go_ret
  exact ⟨by first | rfl | simp, by first | exact HB.out | exact pw_below_drewN HB.out _⟩
end Go.Proofs.Ytndkimjmbpbcmaa.Q
namespace Go.Proofs.Ytndkimjmbpbcmaa.Q
open Go.RowKit Go.Proofs.YtndkimjmbpbcmaaW.PrintWords Go.Proofs.YtndkimjmbpbcmaaW.PrintLast Go.Proofs.YtndkimjmbpbcmaaW.PrintMore
set_option linter.unusedVariables false
set_option linter.unusedSimpArgs false
theorem w64 {x : Int} (h0 : -9223372036854775808 ≤ x) (h1 : x ≤ 9223372036854775807) : wrap64 x = x := by unfold wrap64; omega
theorem w64s {i n : Nat} (h : i < n) (hn : n ≤ 4611686018427387904) : wrap64 ((i : Int) + 1) = ((i + 1 : Nat) : Int) := by unfold wrap64; omega
theorem within2_eq (a n : Int) (h0 : 0 < n) (h1 : n ≤ 4611686018427387904) : hypercubelaw2_within.f a n = some (a % n) := by
 unfold hypercubelaw2_within.f
 rw [if_neg (by omega)]
 have hb := Int.emod_nonneg a (show n ≠ 0 by omega)
 have hl := Int.emod_lt_of_pos a h0
 by_cases ha : 0 ≤ a
 ·rw [Int.tmod_eq_emod_of_nonneg ha, if_neg (by omega)]
 ·have ht : Int.tmod a n = if a % n = 0 then 0 else a % n - n := by
   rw [Int.tmod_eq_emod]
   split
   ·rename_i h
    rcases h with h | h
    ·omega
    ·rw [Int.emod_eq_zero_of_dvd h]; simp
   ·rename_i h
    have : a % n ≠ 0 := fun e => h (.inr (Int.dvd_of_emod_eq_zero e))
    rw [if_neg this, Int.natAbs_of_nonneg (by omega)]
  by_cases hz : a % n = 0
  ·rw [ht, if_pos hz, if_neg (by omega), hz]
  ·rw [ht, if_neg hz, if_pos (by omega)]
   congr 1
   rw [w64 (by omega) (by omega)]
   omega
theorem rd_get {l : List Int} {i : Nat} (h : i < l.length) : rd l (i : Int) = l[i] := by simp [rd, List.getD_eq_getElem?_getD, h]
theorem drop_cons {α : Type} {l : List α} {i : Nat} (h : i < l.length) : l.drop i = l[i] :: l.drop (i + 1) := List.drop_eq_getElem_cons h
theorem dec_cons_eq {α : Type} [DecidableEq α] {x y : α} (l l' : List α) (h : x = y) : decide (x :: l = y :: l') = decide (l = l') := by subst h; simp
theorem dec_cons_ne {α : Type} [DecidableEq α] {x y : α} (l l' : List α) (h : ¬ x = y) : decide (x :: l = y :: l') = false := by simp [h]
theorem ints_l0 (a b : List Int) (hl : a.length = b.length) (hn : a.length ≤ 4611686018427387904) (d : Nat) : ∀ i : Nat, a.length - i = d → i ≤ a.length →
  Ev (fun k => hypercuberef1_Ints.l0 k a b (i : Int)) (decide (a.drop i = b.drop i)) := by
 induction d with
 | zero =>
  intro i hd hi
  have e1 : a.drop i = [] := List.drop_eq_nil_of_le (by omega)
  have e2 : b.drop i = [] := List.drop_eq_nil_of_le (by omega)
  rw [e1, e2]
  exact Ev.step (fun k => by simp only [hypercuberef1_Ints.l0]; rw [if_neg (by omega)]; rfl) (Ev.now _)
 | succ d ih =>
  intro i hd hi
  have ha : i < a.length := by omega
  have hb : i < b.length := by omega
  rw [drop_cons ha, drop_cons hb]
  by_cases he : a[i] = b[i]
  ·rw [dec_cons_eq _ _ he]
   exact Ev.step (fun k => by simp only [hypercuberef1_Ints.l0]; rw [if_pos (by omega), if_pos (by omega), if_pos (by omega), rd_get ha, rd_get hb, if_pos he, w64s ha hn]) (ih (i + 1) (by omega) (by omega))
  ·rw [dec_cons_ne _ _ he]
   exact Ev.step (fun k => by simp only [hypercuberef1_Ints.l0]; rw [if_pos (by omega), if_pos (by omega), if_pos (by omega), rd_get ha, rd_get hb, if_neg he]) (Ev.now _)
theorem ints_ev (a b : List Int) (hn : a.length ≤ 4611686018427387904) : Ev (fun k => hypercuberef1_Ints.f k a b) (decide (a = b)) := by
 by_cases hl : a.length = b.length
 ·have h := ints_l0 a b hl hn a.length 0 (by omega) (by omega)
  simp only [List.drop_zero] at h
  exact Ev.congr (fun k => by unfold hypercuberef1_Ints.f; rw [if_pos (by omega)]; rfl) h
 ·have : decide (a = b) = false := by
   rw [decide_eq_false_iff_not]; intro e; exact hl (by rw [e])
  rw [this]
  exact Ev.congr (fun k => by unfold hypercuberef1_Ints.f; rw [if_neg (by omega)]) (Ev.now _)
def lexC : List Int → List Int → Int
 | [], [] => 0
 | [], _ :: _ => -1
 | _ :: _, [] => 1
 | x :: xs, y :: ys => if x < y then -1 else if x > y then 1 else lexC xs ys
theorem lexC_nil_right (a : List Int) (h : a ≠ []) : lexC a [] = 1 := by cases a with
 | nil => exact absurd rfl h
 | cons => rfl
theorem lexC_nil_left (a : List Int) (h : a ≠ []) : lexC [] a = -1 := by cases a with
 | nil => exact absurd rfl h
 | cons => rfl
theorem lexC_swap : ∀ a b : List Int, lexC b a = 0 - lexC a b
 | [], [] => rfl
 | [], _ :: _ => rfl
 | _ :: _, [] => rfl
 | x :: xs, y :: ys => by
  have ih := lexC_swap xs ys
  unfold lexC
  repeat' split
  all_goals omega
theorem lexC_zero : ∀ a b : List Int, lexC a b = 0 ↔ a = b
 | [], [] => by simp [lexC]
 | [], _ :: _ => by simp [lexC]
 | _ :: _, [] => by simp [lexC]
 | x :: xs, y :: ys => by
  unfold lexC
  by_cases h1 : x < y
  ·rw [if_pos h1]; simp; omega
  ·by_cases h2 : x > y
   ·rw [if_neg h1, if_pos h2]; simp; omega
   ·rw [if_neg h1, if_neg h2]
    have : x = y := by omega
    subst this
    simp [lexC_zero xs ys]
theorem lexC_self (a : List Int) : lexC a a = 0 := (lexC_zero a a).2 rfl
theorem lexC_trans : ∀ a b c : List Int, lexC a b ≤ 0 → lexC b c ≤ 0 → lexC a c ≤ 0
 | [], _, [] => by simp [lexC]
 | [], _, _ :: _ => by simp [lexC]
 | _ :: _, [], _ => by simp [lexC]
 | _ :: _, _ :: _, [] => by simp [lexC]
 | x :: xs, y :: ys, z :: zs => by
  intro h1 h2
  unfold lexC at h1 h2 ⊢
  have ih := lexC_trans xs ys zs
  by_cases a1 : x < y
  ·by_cases a2 : y < z
   ·rw [if_pos (by omega)]; omega
   ·rw [if_neg a2] at h2
    by_cases a3 : y > z
    ·rw [if_pos a3] at h2; omega
    ·rw [if_pos (by omega)]; omega
  ·rw [if_neg a1] at h1
   by_cases a3 : x > y
   ·rw [if_pos a3] at h1; omega
   ·rw [if_neg a3] at h1
    by_cases a2 : y < z
    ·rw [if_pos (by omega)]; omega
    ·rw [if_neg a2] at h2
     by_cases a4 : y > z
     ·rw [if_pos a4] at h2; omega
     ·rw [if_neg a4] at h2
      rw [if_neg (by omega), if_neg (by omega)]
      exact ih h1 h2
theorem compare_eq (x y : Int) : cmp_Compare_int.f x y = some (if x < y then -1 else if x > y then 1 else 0) := by
 unfold cmp_Compare_int.f cmp_isNaN_int.f
 simp
 by_cases h1 : x < y
 ·simp [h1]
 ·by_cases h2 : y < x
  ·simp [h1, h2]
  ·simp [h1, h2]
theorem less_l0 (a b : List Int) (hn : a.length ≤ 4611686018427387904) (d : Nat) : ∀ i : Nat, a.length - i = d → i ≤ a.length → (i ≤ b.length) →
  Ev (fun k => slices_Compare_int_int.l0 k a b a (a.length : Int) (i : Int)) (lexC (a.drop i) (b.drop i)) := by
 induction d with
 | zero =>
  intro i hd hi hib
  have e1 : a.drop i = [] := List.drop_eq_nil_of_le (by omega)
  rw [e1]
  by_cases hb : i < b.length
  ·rw [lexC_nil_left _ (by rw [drop_cons hb]; exact List.cons_ne_nil _ _)]
   exact Ev.step (fun k => by simp only [slices_Compare_int_int.l0]; rw [if_neg (by omega), if_pos (by omega)]) (Ev.now _)
  ·have e2 : b.drop i = [] := List.drop_eq_nil_of_le (by omega)
   rw [e2]
   exact Ev.step (fun k => by simp only [slices_Compare_int_int.l0]; rw [if_neg (by omega), if_neg (by omega)]; rfl) (Ev.now _)
 | succ d ih =>
  intro i hd hi hib
  have ha : i < a.length := by omega
  by_cases hb : i < b.length
  ·rw [drop_cons ha, drop_cons hb]
   have h1 : ∀ k, slices_Compare_int_int.l0 (k + 1) a b a (a.length : Int) (i : Int) = (if (if a[i] < b[i] then (-1 : Int) else if a[i] > b[i] then 1 else 0) = 0 then slices_Compare_int_int.l0 k a b a (a.length : Int) ((i + 1 : Nat) : Int) else some (if a[i] < b[i] then (-1 : Int) else if a[i] > b[i] then 1 else 0)) := fun k => by
    simp only [slices_Compare_int_int.l0]
    rw [if_pos (by omega), if_pos (by omega), if_pos (by omega), if_neg (by omega), if_pos (by omega), rd_get ha, rd_get hb, compare_eq, Option.bind_some, w64s ha hn]
   unfold lexC
   by_cases c1 : a[i] < b[i]
   ·rw [if_pos c1]
    exact Ev.step (fun k => by rw [h1, if_pos c1, if_neg (by omega)]) (Ev.now _)
   ·by_cases c2 : a[i] > b[i]
    ·rw [if_neg c1, if_pos c2]
     exact Ev.step (fun k => by rw [h1, if_neg c1, if_pos c2, if_neg (by omega)]) (Ev.now _)
    ·rw [if_neg c1, if_neg c2]
     exact Ev.step (fun k => by rw [h1, if_neg c1, if_neg c2, if_pos rfl]) (ih (i + 1) (by omega) (by omega) (by omega))
  ·have e2 : b.drop i = [] := List.drop_eq_nil_of_le (by omega)
   rw [e2, lexC_nil_right _ (by rw [drop_cons ha]; exact List.cons_ne_nil _ _)]
   exact Ev.step (fun k => by simp only [slices_Compare_int_int.l0]; rw [if_pos (by omega), if_pos (by omega), if_pos (by omega), if_pos (by omega)]) (Ev.now _)
theorem cell_less_ev (a b : List Int) (hn : a.length ≤ 4611686018427387904) : Ev (fun k => cell_Less.f k a b) (lexC a b) := by
 have h := less_l0 a b hn a.length 0 (by omega) (by omega) (by omega)
 simp only [List.drop_zero] at h
 have h2 : Ev (fun k => slices_Compare_int_int.f k a b) (lexC a b) := Ev.congr (fun k => by unfold slices_Compare_int_int.f; rfl) h
 exact Ev.congr (fun k => by unfold cell_Less.f; rfl) (Ev.bind h2 (Ev.now _))
theorem ref_less_l0 (a b : List Int) (hn : a.length ≤ 4611686018427387904) (d : Nat) : ∀ i : Nat, a.length - i = d → i ≤ a.length → i ≤ b.length →
  Ev (fun k => hypercuberef2_Less.l0 k a b (i : Int)) (lexC (a.drop i) (b.drop i)) := by
 have hend : ∀ i : Nat, i ≤ a.length → i ≤ b.length → ¬ (i < a.length ∧ i < b.length) → Ev (fun k => hypercuberef2_Less.j1 k a b (i : Int) false) (lexC (a.drop i) (b.drop i)) := by
  intro i hi hib hno
  by_cases ha : i < a.length
  ·have hb : b.drop i = [] := List.drop_eq_nil_of_le (by omega)
   rw [hb, lexC_nil_right _ (by rw [drop_cons ha]; exact List.cons_ne_nil _ _)]
   exact Ev.step (fun k => by simp only [hypercuberef2_Less.j1]; rw [if_neg (by simp), if_neg (by omega), if_pos (by omega)]) (Ev.now _)
  ·have ha' : a.drop i = [] := List.drop_eq_nil_of_le (by omega)
   rw [ha']
   by_cases hb : i < b.length
   ·rw [lexC_nil_left _ (by rw [drop_cons hb]; exact List.cons_ne_nil _ _)]
    exact Ev.step (fun k => by simp only [hypercuberef2_Less.j1]; rw [if_neg (by simp), if_pos (by omega)]) (Ev.now _)
   ·have hb' : b.drop i = [] := List.drop_eq_nil_of_le (by omega)
    rw [hb']
    exact Ev.step (fun k => by simp only [hypercuberef2_Less.j1]; rw [if_neg (by simp), if_neg (by omega), if_neg (by omega)]; rfl) (Ev.now _)
 induction d with
 | zero =>
  intro i hd hi hib
  exact Ev.step (fun k => by simp only [hypercuberef2_Less.l0]; rw [if_neg (by omega)]) (hend i hi hib (by omega))
 | succ d ih =>
  intro i hd hi hib
  have ha : i < a.length := by omega
  by_cases hb : i < b.length
  ·rw [drop_cons ha, drop_cons hb]
   refine Ev.step (f := fun k => hypercuberef2_Less.j1 k a b (i : Int) true) (fun k => by simp only [hypercuberef2_Less.l0]; rw [if_pos (by omega), show decide ((i : Int) < (b.length : Int)) = true from decide_eq_true (by omega)]) ?_
   have h1 : ∀ k, hypercuberef2_Less.j1 (k + 1) a b (i : Int) true = (if a[i] < b[i] then some (-1) else if a[i] > b[i] then some 1 else hypercuberef2_Less.l0 k a b ((i + 1 : Nat) : Int)) := fun k => by
    simp only [hypercuberef2_Less.j1]
    rw [if_pos trivial, if_pos (by omega), if_pos (by omega), if_pos (by omega), rd_get ha, rd_get hb, w64s ha hn]
   unfold lexC
   by_cases c1 : a[i] < b[i]
   ·rw [if_pos c1]
    exact Ev.step (fun k => by rw [h1, if_pos c1]) (Ev.now _)
   ·by_cases c2 : a[i] > b[i]
    ·rw [if_neg c1, if_pos c2]
     exact Ev.step (fun k => by rw [h1, if_neg c1, if_pos c2]) (Ev.now _)
    ·rw [if_neg c1, if_neg c2]
     exact Ev.step (fun k => by rw [h1, if_neg c1, if_neg c2]) (ih (i + 1) (by omega) (by omega) (by omega))
  ·exact Ev.step (fun k => by simp only [hypercuberef2_Less.l0]; rw [if_pos (by omega), show decide ((i : Int) < (b.length : Int)) = false from decide_eq_false (by omega)]) (hend i hi hib (by omega))
theorem ref_less_ev (a b : List Int) (hn : a.length ≤ 4611686018427387904) : Ev (fun k => hypercuberef2_Less.f k a b) (lexC a b) := by
 have h := ref_less_l0 a b hn a.length 0 (by omega) (by omega) (by omega)
 simp only [List.drop_zero] at h
 exact Ev.congr (fun k => by unfold hypercuberef2_Less.f; rfl) h
end Go.Proofs.Ytndkimjmbpbcmaa.Q
