-- packed by wip/tools/pack.py (a program of this session) out of its own texts
import Derived.Test.YtndkimjmbpbcmaaPMergeAll0
import Derived.ArgAppend
import Derived.Below
import Derived.BigQuiet
import Derived.Deep.AppendLies
import Derived.Deep.CutBlock
import Derived.Deep.DeepCutAuto
import Derived.Deep.Draws
import Derived.Deep.LoopGhost
import Derived.Deep.OwnRows
import Derived.Deep.QuietTactic
import Derived.Deep.RegionHeld3
import Derived.KernelRfl
import Derived.Laws.BitsLemmas
import Derived.Laws.BytesArg
import Derived.Laws.EntriesVeiled
import Derived.Laws.Externs
import Derived.Laws.IdiomCopy
import Derived.Laws.MakeOwn
import Derived.Laws.OwnMore
import Derived.Laws.Rows
import Derived.Laws.Slices
import Derived.Lib.AppendStr
import Derived.Lib.AppendZeros
import Derived.Lib.AppendZerosOnto
import Derived.Lib.ConvBytes
import Derived.Lib.JoinLaws
import Derived.Lib.Overlaps
import Derived.Lib.SliceRun
import Derived.Lib.Walk
import Derived.Maps.AppendAt
import Derived.OrdersHeld
import Derived.OwnWalk
import Derived.RowKit
import Derived.RowKit3
import Derived.Shelf.RegionOpenPlain
import Derived.Tactics
import Derived.Test.YtndkimjmbpbcmaaProg
import Derived.WalkKit
import Derived.WalkSpells
import Derived.WideLaws
import Derived.Test.YtndkimjmbpbcmaaPMergeAll1
import Derived.Test.YtndkimjmbpbcmaaPMergeAll3
import Derived.Test.YtndkimjmbpbcmaaPMergeAll4
import Derived.Test.YtndkimjmbpbcmaaPMergeAll5
import Derived.Test.YtndkimjmbpbcmaaPMergeAll6
import Derived.Test.YtndkimjmbpbcmaaPMergeAll7
import Derived.Test.YtndkimjmbpbcmaaPMergeAll8
import Derived.Test.YtndkimjmbpbcmaaPMergeAll10
import Derived.Test.YtndkimjmbpbcmaaPMergeAll11
namespace Go.Proofs.Ytndkimjmbpbcmaa.Q
open Go.RowKit Go.Proofs.YtndkimjmbpbcmaaW.PrintWords Go.Proofs.YtndkimjmbpbcmaaW.PrintLast Go.Proofs.YtndkimjmbpbcmaaW.PrintMore
set_option linter.unusedVariables false
set_option linter.unusedSimpArgs false
def grpGo (k : Nat) : List S44 → List S44 → Option (List S44)
 | acc, [] => some acc
 | acc, c :: cs => (cell_own.f c.f0 c.f1 c.f2 c.f3 c.f4).bind fun t => (cellPut.f k acc ⟨t.1, t.2.1, t.2.2.1, t.2.2.2.1, t.2.2.2.2⟩).bind fun acc' => grpGo k acc' cs
def cell_Group.f (k : Nat) (l0 : List S44) : Option (List S44) := (grpGo k [] l0).bind fun t => if t.length * 104 ≤ 140737488355328 then some t else none
theorem name_calls {P : Program} {f : FuncId} {args : Array Value} {w : World} {R : Ending → World → Prop} (h : ∀ w', w' = w → Calls P f args w' R) : Calls P f args w R := h w rfl
set_option maxHeartbeats 8000000 in
set_option maxRecDepth 100000 in
theorem cell_Group.calls (k : Nat) (A0 : Option Addr) (c0 : Nat) (l0 : List S44) (r : List S44) (w : World) (hr0 : Kd.C k44 w A0 l0.length l0) (hc0 : l0.length ≤ c0) (h : cell_Group.f k l0 = some r) :
    Calls Try.prog 49 #[.slice A0 l0.length c0] w fun e w' => ∃ v0_ : Value, e = .returned (v0_) ∧ Kd.S k44 44 w' w.heap.size (fun _ => True) v0_ r ∧ Below w.heap.size w w' := by
 have hu30 := Try.underlying44
 have hu65 := Try.underlying77
 have HR0 := am hr0
 have HC0 := am hc0
 have hmax := Kd.C_max hr0
 clear hr0 hc0
 unfold cell_Group.f at h
 replace h := Option.bind_eq_some_iff.mp h
 obtain ⟨r0, A1, H⟩ := h
 have hlim : r0.length * 104 ≤ 140737488355328 ∧ r0 = r := by
  split at H
  · exact ⟨by assumption, Option.some.inj H⟩
  · cases H
 obtain ⟨hlim, rfl⟩ := hlim
 have HL := am hlim
 have HA := am A1
 clear A1 H hlim
 have HM := am hmax
 clear hmax
 have HB := am (Below.refl w.heap.size w)
 go_enter Try.func49, Try.ntmps49
 go_wp2_with (((with_reducible refine gate_dst (N := 3) rfl ?_); refine box_event ?hg (N := 3) ?hd (cs := #[.slice none 0 0, .nilFunc]) (t := 77) ?hr ?_; (case hd => rfl); (case hg => rfl); (case hr => first | (go_simp; done) | (go_simp; rfl)); intro og hg w3 hbox hb; have n0_ := am (below_step HB.out hb); have n1_ := am hbox; have n2_ := am (show w.heap.size ≤ og by rw [hg]; exact HB.out.size); clear HB; have HB := n0_; have BKo := n1_; have GEo := n2_; clear n0_ n1_ n2_; clear hb hbox hg; have hcz0 := (blk_cell BKo.out 0).trans rfl; have hcz1 := (blk_cell BKo.out 1).trans rfl; have hfz0 := blk_frozen BKo.out 0; have hfz1 := blk_frozen BKo.out 1))
 have HBo := am (blk_put (blk_put BKo.out 0 (.slice none 0 0) rfl) 1 (.func (.func 57) #[] #[]) (cs' := #[.slice none 0 0, .func (.func 57) #[] #[]]) rfl)
 go_loopg [9] (l0.length + 1) (fun kq v9 w' => ∃ (i : Nat) (acc : List S44) (v : Value), v9 = .int .i64 (i : Int) ∧ Aside0 (grpGo k acc (l0.drop i) = some r0) ∧ Aside0 (i + kq = l0.length + 1 ∧ i ≤ l0.length) ∧ Aside0 (w'.heap[og]? = some (.cells #[v, .func (.func 57) #[] #[]] 77 (0, 0))) ∧ Aside0 (Kd.S k44 44 w' w.heap.size (fun k => k ≠ og) v acc) ∧ Aside0 (Below w.heap.size w w'))
 case atStart => exact ⟨0, [], .slice none 0 0, rfl, HA, ⟨by omega, by omega⟩, HBo, ⟨Kd.S_nil _ _ _ _ _⟩, ⟨below_set (below_set HB.out GEo.out) GEo.out⟩⟩
 case round =>
  clear HA HB BKo HBo
  try clear hcz0
  try clear hcz1
  try clear hfz0
  try clear hfz1
  obtain ⟨i, acc, v, rfl, HA, HI, BKo, HS, HB⟩ := hrel
  cases gk with
  | zero => exact absurd HI.out (by omega)
  | succ k1 =>
   by_cases hi : i < l0.length
   · have H := HA.out
     rw [List.drop_eq_getElem_cons hi] at H
     unfold grpGo at H
     have hel : l0[i] = rd_T44 l0 (i : Int) := by
       unfold rd_T44
       rw [Int.toNat_natCast, List.getD_eq_getElem?_getD, List.getElem?_eq_getElem hi]
       rfl
     rw [hel] at H
     replace H := Option.bind_eq_some_iff.mp H
     obtain ⟨⟨o0, o1, o2, o3, o4⟩, AO, H⟩ := H
     replace H := Option.bind_eq_some_iff.mp H
     obtain ⟨acc', AP, H⟩ := H
     have HO := am AO
     have HP := am AP
     have HH := am H
     clear HA H AO AP hel
     have hi0 : (0 : Int) ≤ (i : Int) := by omega
     have hi1 : (i : Int) < (l0.length : Int) := by omega
     obtain ⟨ad, E0, d0, E2, d2, E3, d3, E4, d4, eA, q0, q1, q2, q3, q4, g0, K0, g2, K2, g3, K3, g4, K4⟩ := at_T44 HR0.out (i : Int) hi0 hi1
     cases eA
     have hq : ∀ p u, w.cell? p = some u → wr.cell? p = some u := fun p u h => (HB.out.cell (World.block_lt_of_cell? w _ h)).trans h
     replace q0 := hq _ _ q0
     replace q1 := hq _ _ q1
     replace q2 := hq _ _ q2
     replace q3 := hq _ _ q3
     replace q4 := hq _ _ q4
     clear hq
     simp only [Int.toNat_natCast] at q0 q1 q2 q3 q4
     have D0 := am (And.intro g0 K0)
     have D2 := am (And.intro g2 K2)
     have D3 := am (And.intro g3 K3)
     have D4 := am (And.intro g4 K4)
     clear g0 K0 g2 K2 g3 K3 g4 K4
     have hc1 : decide ((i : Int) < (l0.length : Int)) = true := decide_eq_true hi1
     have HI1 := am hi1
     have hi1' := eq_true hi1
     clear hi hi1
     have hwr : IntKind.i64.wrap ((i : Int) + 1) = ((i + 1 : Nat) : Int) := by rw [IntKind.wrap_i64]; have := HM.out; have := HI1.out; omega
     go_wp2_with (first
      | ((with_reducible refine gate_dst (N := 5) rfl ?_); refine box_event ?hg (N := 5) ?hd (cs := #[.slice none 0 0, .int .i64 0, .slice none 0 0, .slice none 0 0, .slice none 0 0]) (t := 44) ?hr ?_; (case hd => rfl); (case hg => rfl); (case hr => first | (go_simp; done) | (go_simp; rfl)); intro gb hg w3 hbox hb; have n0_ := am (below_step HB.out hb); have n1_ := am (blk_below BKo.out hb); have n2_ := am (Kd.S_below (Kd.S_mono (Kd.S_bound HS.out) (ok' := fun k => k ≠ og ∧ k < gb) (fun k hk => ⟨hk.1, by rw [hg]; exact hk.2.2.1⟩)) hb); have n3_ := am hbox; have n4_ := am (show og ≠ gb ∧ w.heap.size ≤ gb ∧ og < gb by rw [hg]; have := blk_lt BKo.out; have := HB.out.size; omega); clear HB BKo HS; have HB := n0_; have BKo := n1_; have HS := n2_; have BKb := n3_; have NEb := n4_; clear n0_ n1_ n2_ n3_ n4_; clear hb hbox hg; have hcz0 := (blk_cell BKb.out 0).trans rfl; have hcz1 := (blk_cell BKb.out 1).trans rfl; have hcz2 := (blk_cell BKb.out 2).trans rfl; have hcz3 := (blk_cell BKb.out 3).trans rfl; have hcz4 := (blk_cell BKb.out 4).trans rfl; have hfz0 := blk_frozen BKb.out 0; have hfz1 := blk_frozen BKb.out 1; have hfz2 := blk_frozen BKb.out 2; have hfz3 := blk_frozen BKb.out 3; have hfz4 := blk_frozen BKb.out 4)
      | ((with_reducible refine gate_callee (f := 59) rfl ?_)
         refine goesL_ (some 14) rfl rfl Try.func59 (by kernel_rfl) rfl #[.agg #[.slice E0 (rd_T44 l0 i).f0.length d0, .int .i64 (rd_T44 l0 i).f1, .slice E2 (rd_T44 l0 i).f2.length d2, .slice E3 (rd_T44 l0 i).f3.length d3, .slice E4 (rd_T44 l0 i).f4.length d4]] rfl (by (try simp only [List.map_toArray, List.map_cons, List.map_nil]); first | done | rfl) ?_
         refine name_calls ?_
         intro w4 hw4
         have hk4 : Kept w3 w4 (fun k => k = gb) := by
          rw [hw4]
          refine Kept.setCell (S := fun k => k = gb) (p := ⟨gb, 4, none⟩) ?_ (.inl rfl) _
          refine Kept.setCell (S := fun k => k = gb) (p := ⟨gb, 3, none⟩) ?_ (.inl rfl) _
          refine Kept.setCell (S := fun k => k = gb) (p := ⟨gb, 2, none⟩) ?_ (.inl rfl) _
          refine Kept.setCell (S := fun k => k = gb) (p := ⟨gb, 1, none⟩) ?_ (.inl rfl) _
          refine Kept.setCell (S := fun k => k = gb) (p := ⟨gb, 0, none⟩) ?_ (.inl rfl) _
          exact Kept.refl _ _
         have n0_ : Aside0 (Below w.heap.size w w4) := am (by
          rw [hw4]
          refine below_set (g := gb) (j := 4) ?_ NEb.out.2.1
          refine below_set (g := gb) (j := 3) ?_ NEb.out.2.1
          refine below_set (g := gb) (j := 2) ?_ NEb.out.2.1
          refine below_set (g := gb) (j := 1) ?_ NEb.out.2.1
          refine below_set (g := gb) (j := 0) ?_ NEb.out.2.1
          exact HB.out)
         have n1_ := am (blk_kept BKo.out hk4 NEb.out.1)
         have n2_ := am (Kd.S_kept HS.out hk4 (fun k hk e => by omega))
         have n3_ := am (show gb ≤ w4.heap.size from by have := blk_lt BKb.out; have := hk4.1; omega)
         clear HB BKo HS BKb hk4
         clear hw4
         have HB := n0_
         have BKo := n1_
         have HS := n2_
         have HG := n3_
         clear n0_ n1_ n2_ n3_
         refine (cell_own.calls E0 d0 (rd_T44 l0 i).f0 (rd_T44 l0 i).f1 E2 d2 (rd_T44 l0 i).f2 E3 d3 (rd_T44 l0 i).f3 E4 d4 (rd_T44 l0 i).f4 o0 o1 o2 o3 o4 w4 (Kd.C_below D0.out.2 HB.out) D0.out.1 (Kd.C_below D2.out.2 HB.out) D2.out.1 (Kd.C_below D3.out.2 HB.out) D3.out.1 (Kd.C_below D4.out.2 HB.out) D4.out.1 HO.out).mono ?_
         rintro e w5 ⟨v0, v2, v3, v4, rfl, p0, p2, p3, p4, hb⟩
         refine ⟨_, rfl, ?_⟩
         obtain ⟨B0, b0, rfl⟩ := Kd.R_slice p0
         obtain ⟨B2, b2, rfl⟩ := Kd.R_slice p2
         obtain ⟨B3, b3, rfl⟩ := Kd.R_slice p3
         obtain ⟨B4, b4, rfl⟩ := Kd.R_slice p4
         have hle : w.heap.size ≤ w4.heap.size := HB.out.size
         have hgb := HG.out
         have HX := am (k44_mkM w5 w.heap.size (fun k => gb ≤ k) (⟨o0, o1, o2, o3, o4⟩ : S44) (Kd.R_lower (Kd.R_mono (Kd.R_bound p0) (fun k hk => Nat.le_trans hgb hk.2.1)) hle) (Kd.R_lower (Kd.R_mono (Kd.R_bound p2) (fun k hk => Nat.le_trans hgb hk.2.1)) hle) (Kd.R_lower (Kd.R_mono (Kd.R_bound p3) (fun k hk => Nat.le_trans hgb hk.2.1)) hle) (Kd.R_lower (Kd.R_mono (Kd.R_bound p4) (fun k hk => Nat.le_trans hgb hk.2.1)) hle))
         have n0_ := am (below_step HB.out hb)
         have n1_ := am (blk_below BKo.out hb)
         have n2_ := am (Kd.S_below HS.out hb)
         have n3_ := am (show gb ≤ w5.heap.size from Nat.le_trans hgb hb.size)
         clear HB BKo HS HG hgb hle p0 p2 p3 p4 hb D0 D2 D3 D4 HO
         have HB := n0_
         have BKo := n1_
         have HS := n2_
         have HG := n3_
         clear n0_ n1_ n2_ n3_)
      | ((with_reducible refine gate_callee (f := 58) rfl ?_)
         refine goesL_ (some 15) rfl rfl Try.func58 (by kernel_rfl) rfl #[.pointer (some ⟨og, 0, none⟩), .agg #[.slice B0 o0.length b0, .int .i64 o1, .slice B2 o2.length b2, .slice B3 o3.length b3, .slice B4 o4.length b4], .func (.func 39) #[] #[]] rfl (by (try simp only [List.map_toArray, List.map_cons, List.map_nil]); first | done | rfl) ?_
         refine (cellPut_calls k og gb v acc (⟨o0, o1, o2, o3, o4⟩ : S44) _ acc' w w5 BKo.out GEo.out NEb.out.2.2 HG.out HB.out HS.out HX.out HP.out).mono ?_
         rintro e w6 ⟨rfl, v', h1, h2, h3⟩
         refine ⟨_, rfl, ?_⟩
         have n0_ := am h1
         have n1_ := am h2
         have n2_ := am h3
         clear h1 h2 h3 HB BKo HS HG HX HP))
     go_roundg k1
     case measure => have := HI.out; omega
     case rel => exact ⟨i + 1, acc', v', rfl, HH, ⟨by have := HI.out; have := HI1.out; omega⟩, n0_, n1_, n2_⟩
   · have H := HA.out
     rw [List.drop_eq_nil_of_le (by omega)] at H
     have e : acc = r0 := Option.some.inj H
     subst e
     clear HA H
     have hc1 : decide ((i : Int) < (l0.length : Int)) = false := decide_eq_false (by omega)
     have hc2 : decide (i < l0.length) = false := decide_eq_false hi
     have hc3 : (i < l0.length) = False := eq_false hi
     clear hi
     obtain ⟨A, c, rfl⟩ := Kd.S_slice HS.out
     have hcz0 : wr.cell? ⟨og, 0, none⟩ = some (.slice A acc.length c) := (blk_cell BKo.out 0).trans rfl
     go_wp2_with (first
      | ((with_reducible refine gate_callee (f := 40) rfl ?_)
         refine goesL_ (some 19) rfl rfl Try.func40 (by kernel_rfl) rfl #[.slice A acc.length c] rfl (by (try simp only [List.map_toArray, List.map_cons, List.map_nil]); first | done | rfl) ?_
         obtain ⟨f, hf⟩ := HS.out
         refine (CloneCells_calls (Kd.tag f k44) rfl (.slice A acc.length c) acc.zipIdx w.heap.size (fun k => k ≠ og) w wr HB.out HB.out.size hf (fun k hk => by have := blk_lt BKo.out; omega) (by rw [List.length_zipIdx]; exact HL.out)).mono ?_
         rintro e w7 ⟨v1, rfl, hR, hB, _⟩
         refine ⟨_, rfl, ?_⟩
         have HR7 := am hR
         have HB7 := am hB
         clear hR hB hf))
     go_ret
     exact ⟨_, rfl, Kd.S_mono ⟨_, HR7.out⟩ (fun _ _ => trivial), HB7.out⟩
theorem clone_eq (l : List Int) (h : l.length ≤ 1000000) : slices_Clone_int_int.f l = some l := by
 unfold slices_Clone_int_int.f
 rw [if_pos (by omega)]
theorem rdC_get {l : List S44} {i : Nat} (h : i < l.length) : rd_T44 l (i : Int) = l[i] := by simp [rd_T44, List.getD_eq_getElem?_getD, h]
theorem both_gen (op : Int → Int → Int) (L : Nat → List Int → List Int → List Int → Int → Int → Option (List Int))
  (h : ∀ k x1 x7 x10 x11 x12, L (k + 1) x1 x7 x10 x11 x12 = if x12 < x11 then (if 0 ≤ x12 then (if x12 < (x10.length : Int) then (if x12 < (x1.length : Int) then (if x7.length < 17592186044416 then (L k x1 (x7 ++ [op (rd x10 x12) (rd x1 x12)]) x10 x11 (wrap64 (x12 + 1))) else (none)) else (L k x1 x7 x10 x11 (wrap64 (x12 + 1)))) else (none)) else (none)) else ((slices_Clone_int_int.f x7).bind fun t => (some t)))
  (a b : List Int) (ha : a.length ≤ 100000) (d : Nat) : ∀ (i : Nat) (acc : List Int), a.length - i = d → i ≤ a.length → acc.length ≤ i →
  Ev (fun k => L k b acc a (a.length : Int) (i : Int)) (acc ++ List.zipWith op (a.drop i) (b.drop i)) := by
 induction d with
 | zero =>
  intro i acc hd hi hacc
  have e1 : a.drop i = [] := List.drop_eq_nil_of_le (by omega)
  rw [e1, List.zipWith_nil_left, List.append_nil]
  exact Ev.step (f := fun _ => some acc) (fun k => by rw [h, if_neg (by omega), clone_eq _ (by omega)]; rfl) (Ev.now _)
 | succ d ih =>
  intro i acc hd hi hacc
  have hia : i < a.length := by omega
  by_cases hib : i < b.length
  ·rw [drop_cons hia, drop_cons hib, List.zipWith_cons_cons]
   have := ih (i + 1) (acc ++ [op a[i] b[i]]) (by omega) (by omega) (by simp; omega)
   rw [List.append_assoc, List.singleton_append] at this
   exact Ev.step (fun k => by rw [h, if_pos (by omega), if_pos (by omega), if_pos (by omega), if_pos (by omega), if_pos (by omega), rd_get hia, rd_get hib, w64s hia (by omega)]) this
  ·have e2 : b.drop i = [] := List.drop_eq_nil_of_le (by omega)
   have e3 : b.drop (i + 1) = [] := List.drop_eq_nil_of_le (by omega)
   have := ih (i + 1) acc (by omega) (by omega) (by omega)
   rw [e3, List.zipWith_nil_right] at this
   rw [e2, List.zipWith_nil_right]
   exact Ev.step (fun k => by rw [h, if_pos (by omega), if_pos (by omega), if_pos (by omega), if_neg (by omega), w64s hia (by omega)]) this
theorem both1_ev (a b : List Int) (ha : a.length ≤ 100000) : Ev (fun k => cell_both_J1.f k a b) (List.zipWith (fun x y => wrap64 (x + y)) a b) := by
 have := both_gen (fun x y => wrap64 (x + y)) cell_both_J1.l0 (fun k x1 x7 x10 x11 x12 => by simp only [cell_both_J1.l0, cell_Join_1.f, Option.bind_some]) a b ha a.length 0 [] (by omega) (by omega) (by simp)
 simp only [List.drop_zero, List.nil_append] at this
 exact this
theorem both2_ev (a b : List Int) (ha : a.length ≤ 100000) : Ev (fun k => cell_both_J2.f k a b) (List.zipWith mn a b) := by
 have := both_gen mn cell_both_J2.l0 (fun k x1 x7 x10 x11 x12 => by simp only [cell_both_J2.l0, cell_Join_2.f, Option.bind_some]) a b ha a.length 0 [] (by omega) (by omega) (by simp)
 simp only [List.drop_zero, List.nil_append] at this
 exact this
theorem both3_ev (a b : List Int) (ha : a.length ≤ 100000) : Ev (fun k => cell_both_J3.f k a b) (List.zipWith mx a b) := by
 have := both_gen mx cell_both_J3.l0 (fun k x1 x7 x10 x11 x12 => by simp only [cell_both_J3.l0, cell_Join_3.f, Option.bind_some]) a b ha a.length 0 [] (by omega) (by omega) (by simp)
 simp only [List.drop_zero, List.nil_append] at this
 exact this
def joinC (a b : S44) : S44 := ⟨a.f0, wrap64 (a.f1 + b.f1), List.zipWith (fun x y => wrap64 (x + y)) a.f2 b.f2, List.zipWith mn a.f3 b.f3, List.zipWith mx a.f4 b.f4⟩
def SmallC (c : S44) : Prop := c.f0.length ≤ 100000 ∧ c.f2.length ≤ 100000 ∧ c.f3.length ≤ 100000 ∧ c.f4.length ≤ 100000
def tupC (c : S44) : List Int × Int × List Int × List Int × List Int := (c.f0, c.f1, c.f2, c.f3, c.f4)
theorem join_ev (a b : S44) (ha : SmallC a) : Ev (fun k => cell_Join.f k a.f0 a.f1 a.f2 a.f3 a.f4 b.f0 b.f1 b.f2 b.f3 b.f4) (tupC (joinC a b)) := by
 obtain ⟨h0, h2, h3, h4⟩ := ha
 refine Ev.congr (f := fun k => (cell_both_J1.f k a.f2 b.f2).bind fun t140 => ((cell_both_J2.f k a.f3 b.f3).bind fun t143 => ((cell_both_J3.f k a.f4 b.f4).bind fun t146 => (some (a.f0, wrap64 (a.f1 + b.f1), t140, t143, t146))))) (fun k => by unfold cell_Join.f; rw [clone_eq _ (by omega), Option.bind_some]) ?_
 exact Ev.bind (both1_ev _ _ h2) (Ev.bind (both2_ev _ _ h3) (Ev.bind (both3_ev _ _ h4) (Ev.now _)))
theorem own_eq (c : S44) (h : SmallC c) : cell_own.f c.f0 c.f1 c.f2 c.f3 c.f4 = some (tupC c) := by
 obtain ⟨h0, h2, h3, h4⟩ := h
 unfold cell_own.f
 rw [clone_eq _ (by omega), clone_eq _ (by omega), clone_eq _ (by omega), clone_eq _ (by omega)]
 rfl
theorem joinC_small {a b : S44} (h : SmallC a) : SmallC (joinC a b) := by
 obtain ⟨h0, h2, h3, h4⟩ := h
 refine ⟨h0, ?_, ?_, ?_⟩ <;> (simp only [joinC, List.length_zipWith]; omega)
def putL (x : S44) : List S44 → List S44
 | [] => [x]
 | y :: ys => if lexC y.f0 x.f0 < 0 then y :: putL x ys else if lexC y.f0 x.f0 = 0 then joinC y x :: ys else x :: y :: ys
def groupL (l : List S44) : List S44 := l.foldl (fun acc x => putL x acc) []
def SortedC (l : List S44) : Prop := l.Pairwise fun a b => lexC a.f0 b.f0 < 0
theorem lexC_lt_trans {a b c : List Int} (h1 : lexC a b < 0) (h2 : lexC b c < 0) : lexC a c < 0 := by
 have h := lexC_trans a b c (by omega) (by omega)
 by_cases e : lexC a c = 0
 ·rw [lexC_zero] at e
  subst e
  have := lexC_swap a b
  omega
 ·omega
theorem putL_keys (x : S44) : ∀ (l : List S44) (z : S44), z ∈ putL x l → z.f0 = x.f0 ∨ ∃ y ∈ l, z.f0 = y.f0
 | [], z, h => by simp [putL] at h; exact .inl (by rw [h])
 | y :: ys, z, h => by
  unfold putL at h
  split at h
  ·rcases List.mem_cons.1 h with h | h
   ·exact .inr ⟨y, by simp, by rw [h]⟩
   ·rcases putL_keys x ys z h with h | ⟨q, hq, he⟩
    ·exact .inl h
    ·exact .inr ⟨q, List.mem_cons_of_mem _ hq, he⟩
  ·split at h
   ·rcases List.mem_cons.1 h with h | h
    ·exact .inr ⟨y, by simp, by rw [h]; rfl⟩
    ·exact .inr ⟨z, List.mem_cons_of_mem _ h, rfl⟩
   ·rcases List.mem_cons.1 h with h | h
    ·exact .inl (by rw [h])
    ·exact .inr ⟨z, h, rfl⟩
theorem putL_sorted (x : S44) : ∀ (l : List S44), SortedC l → SortedC (putL x l)
 | [], _ => by simp [putL, SortedC]
 | y :: ys, h => by
  obtain ⟨h1, h2⟩ := List.pairwise_cons.1 h
  unfold putL
  split
  ·rename_i c1
   refine List.pairwise_cons.2 ⟨fun z hz => ?_, putL_sorted x ys h2⟩
   rcases putL_keys x ys z hz with e | ⟨q, hq, e⟩
   ·rw [e]; exact c1
   ·rw [e]; exact h1 q hq
  ·rename_i c1
   split
   ·exact List.pairwise_cons.2 ⟨h1, h2⟩
   ·rename_i c2
    have hlt : lexC x.f0 y.f0 < 0 := by rw [lexC_swap]; omega
    refine List.pairwise_cons.2 ⟨fun z hz => ?_, h⟩
    rcases List.mem_cons.1 hz with e | e
    ·rw [e]; exact hlt
    ·exact lexC_lt_trans hlt (h1 z e)
theorem putL_small (x : S44) (hx : SmallC x) : ∀ (l : List S44), (∀ y ∈ l, SmallC y) → ∀ y ∈ putL x l, SmallC y
 | [], _, y, h => by simp [putL] at h; rw [h]; exact hx
 | z :: zs, hl, y, h => by
  have hz := hl z (by simp)
  have hzs := fun y h => hl y (List.mem_cons_of_mem _ h)
  unfold putL at h
  split at h
  ·rcases List.mem_cons.1 h with h | h
   ·rw [h]; exact hz
   ·exact putL_small x hx zs hzs y h
  ·split at h
   ·rcases List.mem_cons.1 h with h | h
    ·rw [h]; exact joinC_small hz
    ·exact hzs y h
   ·rcases List.mem_cons.1 h with h | h
    ·rw [h]; exact hx
    ·exact hl y h
theorem putL_length (x : S44) : ∀ (l : List S44), (putL x l).length ≤ l.length + 1
 | [] => by simp [putL]
 | y :: ys => by
  unfold putL
  have := putL_length x ys
  split
  ·simp; omega
  ·split <;> simp
theorem putL_at (x : S44) : ∀ (p : Nat) (l : List S44), p ≤ l.length → (∀ m (h : m < l.length), m < p → lexC (l[m]).f0 x.f0 < 0) → (∀ (h : p < l.length), 0 ≤ lexC (l[p]).f0 x.f0) →
  putL x l = if h : p < l.length then (if lexC (l[p]).f0 x.f0 = 0 then l.set p (joinC l[p] x) else l.take p ++ x :: l.drop p) else l.take p ++ x :: l.drop p
 | 0, [], _, _, _ => by simp [putL]
 | 0, y :: ys, _, _, h2 => by
  have := h2 (by simp)
  simp only [List.getElem_cons_zero] at this
  unfold putL
  rw [if_neg (by omega)]
  simp only [List.length_cons, Nat.zero_lt_succ, dite_true, List.getElem_cons_zero, List.set_cons_zero, List.take_zero, List.drop_zero, List.nil_append]
 | p + 1, [], h, _, _ => by simp at h
 | p + 1, y :: ys, hp, h1, h2 => by
  have hy := h1 0 (by simp) (by omega)
  simp only [List.getElem_cons_zero] at hy
  have ih := putL_at x p ys (by simpa using hp) (fun m h hm => by have := h1 (m + 1) (by simpa using h) (by omega); simpa using this) (fun h => by have := h2 (by simpa using h); simpa using this)
  unfold putL
  rw [if_pos hy, ih]
  by_cases hlt : p < ys.length
  ·rw [dif_pos hlt, dif_pos (by simpa using hlt)]
   simp only [List.getElem_cons_succ, List.set_cons_succ, List.take_succ_cons, List.drop_succ_cons, List.cons_append]
   split <;> rfl
  ·rw [dif_neg hlt, dif_neg (by simpa using hlt)]
   simp
theorem wrap_mid (i j : Nat) (h : i + j ≤ 4000000) : wrap64 ((IntKind.u64.wrap (wrap64 ((i : Int) + (j : Int)))) / 2) = (((i + j) / 2 : Nat) : Int) := by
 have h1 : wrap64 ((i : Int) + (j : Int)) = ((i + j : Nat) : Int) := by rw [w64 (by omega) (by omega)]; omega
 have h2 : IntKind.u64.wrap ((i + j : Nat) : Int) = ((i + j : Nat) : Int) := by
  have e : IntKind.u64.wrap ((i + j : Nat) : Int) = ((i + j : Nat) : Int) % 18446744073709551616 := rfl
  rw [e]
  omega
 rw [h1, h2, w64 (by omega) (by omega)]
 omega
theorem bsf_l0 (xs : List S44) (x : S44) (hn : xs.length ≤ 1000000) (hs : ∀ y ∈ xs, SmallC y) (p : Nat) (hp : p ≤ xs.length) (h1 : ∀ m (h : m < xs.length), m < p → lexC (xs[m]).f0 x.f0 < 0) (h2 : ∀ m (h : m < xs.length), p ≤ m → 0 ≤ lexC (xs[m]).f0 x.f0) (d : Nat) :
  ∀ i j : Nat, j - i ≤ d → i ≤ p → p ≤ j → j ≤ xs.length → Ev (fun k => bsf_G1.l0 k xs (xs.length : Int) (i : Int) (j : Int) x.f0 x.f1 x.f2 x.f3 x.f4) ((p : Int), if h : p < xs.length then lexC (xs[p]).f0 x.f0 == 0 else false) := by
 have hcmp : ∀ m (h : m < xs.length), Ev (fun k => cell_Group_1.f k (xs[m]).f0 (xs[m]).f1 (xs[m]).f2 (xs[m]).f3 (xs[m]).f4 x.f0 x.f1 x.f2 x.f3 x.f4) (lexC (xs[m]).f0 x.f0) := fun m h => by
  refine Ev.congr (f := fun k => (cell_Less.f k (xs[m]).f0 x.f0).bind fun t => some t) (fun k => rfl) ?_
  exact Ev.bind (cell_less_ev _ _ (by have := (hs _ (List.getElem_mem h)).1; omega)) (Ev.now _)
 induction d with
 | zero =>
  intro i j hd hip hpj hjn
  have e1 : i = p := by omega
  have e2 : j = p := by omega
  rw [e1, e2]
  by_cases hlt : p < xs.length
  ·rw [dif_pos hlt]
   refine Ev.step (f := fun k => (cell_Group_1.f k (xs[p]).f0 (xs[p]).f1 (xs[p]).f2 (xs[p]).f3 (xs[p]).f4 x.f0 x.f1 x.f2 x.f3 x.f4).bind fun t => some ((p : Int), t == 0)) (fun k => by simp only [bsf_G1.l0]; rw [if_neg (by omega), if_pos (by omega), if_pos (by omega), if_pos (by omega), rdC_get hlt]) (Ev.bind (hcmp p hlt) (Ev.now _))
  ·rw [dif_neg hlt]
   exact Ev.step (f := fun _ => some ((p : Int), false)) (fun k => by simp only [bsf_G1.l0]; rw [if_neg (by omega), if_neg (by omega)]) (Ev.now _)
 | succ d ih =>
  intro i j hd hip hpj hjn
  by_cases hij : i < j
  ·have hh : (i + j) / 2 < xs.length := by omega
   have hstep : ∀ k, bsf_G1.l0 (k + 1) xs (xs.length : Int) (i : Int) (j : Int) x.f0 x.f1 x.f2 x.f3 x.f4 = (cell_Group_1.f k (xs[(i + j) / 2]).f0 (xs[(i + j) / 2]).f1 (xs[(i + j) / 2]).f2 (xs[(i + j) / 2]).f3 (xs[(i + j) / 2]).f4 x.f0 x.f1 x.f2 x.f3 x.f4).bind fun t => if t < 0 then bsf_G1.l0 k xs (xs.length : Int) (((i + j) / 2 + 1 : Nat) : Int) (j : Int) x.f0 x.f1 x.f2 x.f3 x.f4 else bsf_G1.l0 k xs (xs.length : Int) (i : Int) (((i + j) / 2 : Nat) : Int) x.f0 x.f1 x.f2 x.f3 x.f4 := fun k => by
    simp only [bsf_G1.l0]
    rw [if_pos (by omega), wrap_mid i j (by omega), if_pos (by omega), if_pos (by omega), rdC_get hh, w64s hh (by omega)]
   refine Ev.step hstep ?_
   by_cases hlt : (i + j) / 2 < p
   ·have c := h1 _ hh hlt
    exact Ev.bind (hcmp _ hh) (Ev.congr (fun k => by rw [if_pos c]) (ih ((i + j) / 2 + 1) j (by omega) (by omega) hpj hjn))
   ·have c := h2 _ hh (by omega)
    exact Ev.bind (hcmp _ hh) (Ev.congr (fun k => by rw [if_neg (by omega)]) (ih i ((i + j) / 2) (by omega) hip (by omega) (by omega)))
  ·exact ih i j (by omega) hip hpj hjn
theorem place (x : S44) : ∀ (l : List S44), SortedC l → ∃ p, p ≤ l.length ∧ (∀ m (h : m < l.length), m < p → lexC (l[m]).f0 x.f0 < 0) ∧ (∀ m (h : m < l.length), p ≤ m → 0 ≤ lexC (l[m]).f0 x.f0)
 | [], _ => ⟨0, by simp, fun m h => by simp at h, fun m h => by simp at h⟩
 | y :: ys, hs => by
  obtain ⟨h1, h2⟩ := List.pairwise_cons.1 hs
  by_cases c : lexC y.f0 x.f0 < 0
  ·obtain ⟨p, hp, a, b⟩ := place x ys h2
   refine ⟨p + 1, by simpa using hp, fun m h hm => ?_, fun m h hm => ?_⟩
   ·cases m with
    | zero => exact c
    | succ m => exact a m (by simpa using h) (by omega)
   ·cases m with
    | zero => omega
    | succ m => exact b m (by simpa using h) (by omega)
  ·refine ⟨0, by omega, fun m h hm => by omega, fun m h _ => ?_⟩
   cases m with
   | zero => simp only [List.getElem_cons_zero]; omega
   | succ m =>
    simp only [List.getElem_cons_succ]
    have hy := h1 (ys[m]'(by simpa using h)) (List.getElem_mem _)
    rcases Int.lt_or_le (lexC (ys[m]'(by simpa using h)).f0 x.f0) 0 with q | q
    ·exact absurd (lexC_lt_trans hy q) c
    ·exact q
theorem put_ev (xs : List S44) (x : S44) (hn : xs.length ≤ 1000000) (hs : ∀ y ∈ xs, SmallC y) (ho : SortedC xs) : Ev (fun k => cellPut.f k xs x) (putL x xs) := by
 obtain ⟨p, hp, h1, h2⟩ := place x xs ho
 have hb := bsf_l0 xs x hn hs p hp h1 h2 xs.length 0 xs.length (by omega) (by omega) hp (by omega)
 have hb' : Ev (fun k => bsf_G1.f k xs x.f0 x.f1 x.f2 x.f3 x.f4) ((p : Int), if h : p < xs.length then lexC (xs[p]).f0 x.f0 == 0 else false) := hb
 have hput := putL_at x p xs hp h1 (fun h => h2 p h (by omega))
 unfold cellPut.f
 refine Ev.bind hb' ?_
 by_cases hlt : p < xs.length
 ·rw [dif_pos hlt] at hput
  simp only [dif_pos hlt]
  by_cases c : lexC (xs[p]).f0 x.f0 = 0
  ·rw [if_pos c] at hput
   have hj := Ev.bind (f := fun (_ : Nat) (j : List Int × Int × List Int × List Int × List Int) => some (xs.set p (⟨j.1, j.2.1, j.2.2.1, j.2.2.2.1, j.2.2.2.2⟩ : S44))) (join_ev (xs[p]) x (hs _ (List.getElem_mem hlt))) (Ev.now _)
   rw [hput]
   exact Ev.congr (fun k => by rw [if_pos (by simp [c]), if_pos (by omega), rdC_get hlt, Int.toNat_natCast]) hj
  ·rw [if_neg c] at hput
   rw [hput]
   exact Ev.congr (f := fun _ => some (xs.take p ++ x :: xs.drop p)) (fun k => by rw [if_neg (by simp [c]), if_pos (by omega), Int.toNat_natCast]) (Ev.now _)
 ·rw [dif_neg hlt] at hput
  simp only [dif_neg hlt]
  rw [hput]
  exact Ev.congr (f := fun _ => some (xs.take p ++ x :: xs.drop p)) (fun k => by rw [if_neg (by simp), if_pos (by omega), Int.toNat_natCast]) (Ev.now _)
theorem grp_ev : ∀ (l acc : List S44), acc.length + l.length ≤ 1000000 → (∀ y ∈ l, SmallC y) → (∀ y ∈ acc, SmallC y) → SortedC acc → Ev (fun k => grpGo k acc l) (l.foldl (fun acc x => putL x acc) acc)
 | [], acc, _, _, _, _ => Ev.now _
 | c :: cs, acc, hn, hl, ha, ho => by
  have hc := hl c (by simp)
  simp only [List.length_cons] at hn
  have ih := grp_ev cs (putL c acc) (by have := putL_length c acc; omega) (fun y h => hl y (List.mem_cons_of_mem _ h)) (putL_small c hc acc ha) (putL_sorted c acc ho)
  refine Ev.congr (f := fun k => (cellPut.f k acc c).bind fun acc' => grpGo k acc' cs) (fun k => by simp only [grpGo]; rw [own_eq c hc, Option.bind_some]; rfl) ?_
  exact Ev.bind (put_ev acc c (by omega) ha ho) ih
theorem foldl_put_length : ∀ (l acc : List S44), (l.foldl (fun acc x => putL x acc) acc).length ≤ acc.length + l.length
 | [], acc => by simp
 | c :: cs, acc => by
  have := foldl_put_length cs (putL c acc)
  have := putL_length c acc
  simp only [List.foldl_cons, List.length_cons]
  omega
theorem group_ev (l : List S44) (hn : l.length ≤ 1000000) (hl : ∀ y ∈ l, SmallC y) : Ev (fun k => cell_Group.f k l) (groupL l) := by
 have h := grp_ev l [] (by simpa using hn) hl (fun y h => by simp at h) List.Pairwise.nil
 have hlen := foldl_put_length l []
 refine Ev.bind h (Ev.congr (f := fun _ => some (groupL l)) (fun k => ?_) (Ev.now _))
 rw [if_pos (by simp only [List.length_nil] at hlen; omega)]
 rfl
theorem foldl_put_sorted : ∀ (l acc : List S44), SortedC acc → SortedC (l.foldl (fun acc x => putL x acc) acc)
 | [], acc, h => h
 | c :: cs, acc, h => foldl_put_sorted cs _ (putL_sorted c acc h)
theorem groupL_sorted (l : List S44) : SortedC (groupL l) := foldl_put_sorted l [] List.Pairwise.nil
theorem wrap_assoc (a b c : Int) : wrap64 (wrap64 (a + b) + c) = wrap64 (a + wrap64 (b + c)) := by unfold wrap64; omega
theorem mn_comm (a b : Int) : mn a b = mn b a := by unfold mn; split <;> split <;> omega
theorem mx_comm (a b : Int) : mx a b = mx b a := by unfold mx; split <;> split <;> omega
theorem mn_assoc (a b c : Int) : mn (mn a b) c = mn a (mn b c) := by unfold mn; repeat' split
                                                                     all_goals omega
theorem mx_assoc (a b c : Int) : mx (mx a b) c = mx a (mx b c) := by unfold mx; repeat' split
                                                                     all_goals omega
theorem zip_assoc (f : Int → Int → Int) (hf : ∀ a b c, f (f a b) c = f a (f b c)) : ∀ a b c : List Int, List.zipWith f (List.zipWith f a b) c = List.zipWith f a (List.zipWith f b c)
 | [], _, _ => by simp
 | _ :: _, [], _ => by simp
 | _ :: _, _ :: _, [] => by simp
 | x :: xs, y :: ys, z :: zs => by simp only [List.zipWith_cons_cons, hf, zip_assoc f hf xs ys zs]
theorem zip_comm (f : Int → Int → Int) (hf : ∀ a b, f a b = f b a) : ∀ a b : List Int, List.zipWith f a b = List.zipWith f b a
 | [], [] => rfl
 | [], _ :: _ => by simp
 | _ :: _, [] => by simp
 | x :: xs, y :: ys => by simp only [List.zipWith_cons_cons, hf x y, zip_comm f hf xs ys]
theorem joinC_comm {a b : S44} (h : a.f0 = b.f0) : joinC a b = joinC b a := by
 unfold joinC
 rw [h, Int.add_comm, zip_comm _ (fun x y => by rw [Int.add_comm]) a.f2, zip_comm _ mn_comm a.f3, zip_comm _ mx_comm a.f4]
theorem joinC_assoc (a b c : S44) : joinC (joinC a b) c = joinC a (joinC b c) := by
 unfold joinC
 simp only [wrap_assoc]
 rw [zip_assoc _ (fun x y z => wrap_assoc x y z), zip_assoc _ mn_assoc, zip_assoc _ mx_assoc]
theorem lexC_key {a b c : List Int} (h : lexC a b = 0) : lexC c a = lexC c b ∧ lexC a c = lexC b c := by
 rw [lexC_zero] at h
 subst h
 exact ⟨rfl, rfl⟩
theorem putL_lt {x y : S44} (ys : List S44) (h : lexC y.f0 x.f0 < 0) : putL x (y :: ys) = y :: putL x ys := by simp only [putL]; rw [if_pos h]
theorem putL_eq {x y : S44} (ys : List S44) (h : lexC y.f0 x.f0 = 0) : putL x (y :: ys) = joinC y x :: ys := by simp only [putL]; rw [if_neg (by omega), if_pos h]
theorem putL_gt {x y : S44} (ys : List S44) (h : 0 < lexC y.f0 x.f0) : putL x (y :: ys) = x :: y :: ys := by simp only [putL]; rw [if_neg (by omega), if_neg (by omega)]
theorem three (z : Int) : z < 0 ∨ z = 0 ∨ 0 < z := by omega
theorem joinC_key (a b : S44) : (joinC a b).f0 = a.f0 := rfl
theorem put_comm (x y : S44) : ∀ l : List S44, putL x (putL y l) = putL y (putL x l)
 | [] => by
  have hs := lexC_swap y.f0 x.f0
  show putL x [y] = putL y [x]
  rcases three (lexC y.f0 x.f0) with h | h | h
  ·rw [putL_lt _ h, putL_gt _ (by omega)]; rfl
  ·rw [putL_eq _ h, putL_eq _ (by omega), joinC_comm ((lexC_zero _ _).1 h)]
  ·rw [putL_gt _ h, putL_lt _ (by omega)]; rfl
 | z :: zs => by
  have hs := lexC_swap y.f0 x.f0
  have hsx := lexC_swap z.f0 x.f0
  have hsy := lexC_swap z.f0 y.f0
  rcases three (lexC z.f0 y.f0) with cy | cy | cy
  ·rw [putL_lt _ cy]
   rcases three (lexC z.f0 x.f0) with cx | cx | cx
   ·rw [putL_lt _ cx, putL_lt _ cx, putL_lt _ cy, put_comm x y zs]
   ·rw [putL_eq _ cx, putL_eq _ cx, putL_lt _ (by rw [joinC_key]; exact cy)]
   ·have h : lexC x.f0 y.f0 < 0 := lexC_lt_trans (b := z.f0) (by omega) cy
    rw [putL_gt _ cx, putL_gt _ cx, putL_lt _ h, putL_lt _ cy]
  ·have ey := (lexC_zero _ _).1 cy
   rw [putL_eq _ cy]
   rcases three (lexC z.f0 x.f0) with cx | cx | cx
   ·rw [putL_lt _ (by rw [joinC_key]; exact cx), putL_lt _ cx, putL_eq _ cy]
   ·have ex := (lexC_zero _ _).1 cx
    rw [putL_eq _ (by rw [joinC_key]; exact cx), putL_eq _ cx, putL_eq _ (by rw [joinC_key]; exact cy), joinC_assoc, joinC_assoc, joinC_comm (a := y) (b := x) (by rw [← ey, ← ex])]
   ·have h : lexC x.f0 y.f0 < 0 := by rw [← ey]; omega
    rw [putL_gt _ (by rw [joinC_key]; exact cx), putL_gt _ cx, putL_lt _ h, putL_eq _ cy]
  ·rw [putL_gt _ cy]
   rcases three (lexC z.f0 x.f0) with cx | cx | cx
   ·have h : lexC y.f0 x.f0 < 0 := lexC_lt_trans (b := z.f0) (by omega) cx
    rw [putL_lt _ h, putL_lt _ cx, putL_gt _ cy]
   ·have ex := (lexC_zero _ _).1 cx
    have h : lexC y.f0 x.f0 < 0 := by rw [← ex]; omega
    rw [putL_lt _ h, putL_eq _ cx, putL_gt _ (by rw [joinC_key]; exact cy)]
   ·rw [putL_gt _ cx]
    rcases three (lexC y.f0 x.f0) with h | h | h
    ·rw [putL_lt _ h, putL_gt _ cx, putL_gt _ (by omega)]
    ·rw [putL_eq _ h, putL_eq _ (by omega), joinC_comm ((lexC_zero _ _).1 h)]
    ·rw [putL_gt _ h, putL_lt _ (by omega), putL_gt _ cy]
def putAll (acc l : List S44) : List S44 := l.foldl (fun acc x => putL x acc) acc
theorem groupL_all (l : List S44) : groupL l = putAll [] l := rfl
theorem putAll_nil (acc : List S44) : putAll acc [] = acc := rfl
theorem putAll_cons (acc : List S44) (x : S44) (l : List S44) : putAll acc (x :: l) = putAll (putL x acc) l := rfl
theorem putAll_append (acc a b : List S44) : putAll acc (a ++ b) = putAll (putAll acc a) b := by unfold putAll; rw [List.foldl_append]
theorem putAll_put (x : S44) : ∀ (l acc : List S44), putAll (putL x acc) l = putL x (putAll acc l)
 | [], _ => rfl
 | y :: l, acc => by rw [putAll_cons, putAll_cons, put_comm, putAll_put x l]
theorem put_join {x y : S44} (h : lexC y.f0 x.f0 = 0) : ∀ acc : List S44, putL (joinC y x) acc = putL x (putL y acc)
 | [] => by show [joinC y x] = putL x [y]; rw [putL_eq _ h]
 | z :: zs => by
  have e := (lexC_zero _ _).1 h
  rcases three (lexC z.f0 y.f0) with c | c | c
  ·rw [putL_lt _ (by rw [joinC_key]; exact c), putL_lt _ c, putL_lt _ (by rw [← e]; exact c), put_join h zs]
  ·rw [putL_eq _ (by rw [joinC_key]; exact c), putL_eq _ c, putL_eq _ (by rw [joinC_key, ← e]; exact c), joinC_assoc]
  ·rw [putL_gt _ (by rw [joinC_key]; exact c), putL_gt _ c, putL_eq _ h]
theorem putAll_putL (x : S44) : ∀ (g acc : List S44), putAll acc (putL x g) = putL x (putAll acc g)
 | [], _ => rfl
 | z :: zs, acc => by
  rcases three (lexC z.f0 x.f0) with c | c | c
  ·rw [putL_lt _ c, putAll_cons, putAll_cons, putAll_putL x zs]
  ·rw [putL_eq _ c, putAll_cons, putAll_cons, put_join c, putAll_put]
  ·rw [putL_gt _ c, putAll_cons, putAll_cons, putAll_cons, ← put_comm, putAll_put]
theorem putAll_all : ∀ (b g acc : List S44), putAll acc (putAll g b) = putAll (putAll acc g) b
 | [], _, _ => rfl
 | x :: b, g, acc => by rw [putAll_cons, putAll_cons, putAll_all b, putAll_putL]
theorem putAll_group (acc b : List S44) : putAll acc (groupL b) = putAll acc b := by rw [groupL_all, putAll_all, putAll_nil]
theorem group_append (a b : List S44) : groupL (a ++ b) = putAll (groupL a) b := by rw [groupL_all, putAll_append]; rfl
theorem group_group (a : List S44) : groupL (groupL a) = groupL a := putAll_group [] a
theorem group_parts (a b : List S44) : groupL (groupL a ++ groupL b) = groupL (a ++ b) := by rw [group_append, group_group, putAll_group, group_append]
theorem putAll_perm {l l' : List S44} (h : l.Perm l') : ∀ acc, putAll acc l = putAll acc l' := by
 induction h with
 | nil => exact fun _ => rfl
 | cons x _ ih => exact fun acc => by rw [putAll_cons, putAll_cons, ih]
 | swap x y l => exact fun acc => by rw [putAll_cons, putAll_cons, putAll_cons, putAll_cons, put_comm]
 | trans _ _ i1 i2 => exact fun acc => (i1 acc).trans (i2 acc)
theorem group_perm {l l' : List S44} (h : l.Perm l') : groupL l = groupL l' := putAll_perm h []
theorem putAll_sorted : ∀ (l acc : List S44), SortedC acc → SortedC (putAll acc l) := foldl_put_sorted
theorem putL_last (x : S44) : ∀ acc : List S44, (∀ y ∈ acc, lexC y.f0 x.f0 < 0) → putL x acc = acc ++ [x]
 | [], _ => rfl
 | y :: ys, h => by rw [putL_lt _ (h y (by simp)), putL_last x ys (fun z hz => h z (List.mem_cons_of_mem _ hz))]; rfl
theorem putAll_rising : ∀ (g acc : List S44), SortedC (acc ++ g) → putAll acc g = acc ++ g
 | [], acc, _ => by rw [putAll_nil, List.append_nil]
 | x :: g, acc, h => by
  have hx : ∀ y ∈ acc, lexC y.f0 x.f0 < 0 := fun y hy => (List.pairwise_append.1 h).2.2 y hy x (by simp)
  rw [putAll_cons, putL_last x acc hx, putAll_rising g (acc ++ [x]) (by rw [List.append_assoc]; exact h), List.append_assoc]
  rfl
theorem group_rising {g : List S44} (h : SortedC g) : groupL g = g := putAll_rising g [] h
theorem putAll_length : ∀ (l acc : List S44), (putAll acc l).length ≤ acc.length + l.length := foldl_put_length
def hasK (l : List S44) (c : S44) : Bool := l.any fun y => lexC y.f0 c.f0 == 0
theorem hasK_cons (y : S44) (ys : List S44) (c : S44) : hasK (y :: ys) c = ((lexC y.f0 c.f0 == 0) || hasK ys c) := by simp [hasK]
theorem sorted_gt {x y : S44} {ys : List S44} (h : SortedC (y :: ys)) (c : 0 < lexC y.f0 x.f0) : hasK ys x = false := by
 unfold hasK
 rw [List.any_eq_false]
 intro z hz he
 have hyz := (List.pairwise_cons.1 h).1 z hz
 have hzx : lexC z.f0 x.f0 = 0 := by simpa using he
 rw [(lexC_key hzx).1] at hyz
 omega
theorem putL_old (x : S44) : ∀ l : List S44, SortedC l → hasK l x = true → (putL x l).length = l.length
 | [], _, h => by simp [hasK] at h
 | y :: ys, hs, h => by
  rw [hasK_cons, Bool.or_eq_true] at h
  rcases three (lexC y.f0 x.f0) with c | c | c
  ·have hys : hasK ys x = true := h.resolve_left (by simp; omega)
   rw [putL_lt _ c]; simp [putL_old x ys (List.pairwise_cons.1 hs).2 hys]
  ·rw [putL_eq _ c]; simp
  ·have := sorted_gt hs c
   rw [this] at h
   simp at h
   omega
def RegC (n : Nat) (c : S44) : Prop := c.f0.length ≤ 4 ∧ c.f2.length = n ∧ c.f3.length = n ∧ c.f4.length = n
def RegL (n : Nat) (l : List S44) : Prop := ∀ c ∈ l, RegC n c
theorem RegC.small {n : Nat} {c : S44} (h : RegC n c) (hn : n ≤ 100) : SmallC c := ⟨by have := h.1; omega, by rw [h.2.1]; omega, by rw [h.2.2.1]; omega, by rw [h.2.2.2]; omega⟩
theorem RegL.small {n : Nat} {l : List S44} (h : RegL n l) (hn : n ≤ 100) : ∀ y ∈ l, SmallC y := fun y hy => (h y hy).small hn
theorem regC_join {n : Nat} {a b : S44} (ha : RegC n a) (hb : RegC n b) : RegC n (joinC a b) := by
 refine ⟨ha.1, ?_, ?_, ?_⟩
 ·simp only [joinC, List.length_zipWith]; rw [ha.2.1, hb.2.1]; omega
 ·simp only [joinC, List.length_zipWith]; rw [ha.2.2.1, hb.2.2.1]; omega
 ·simp only [joinC, List.length_zipWith]; rw [ha.2.2.2, hb.2.2.2]; omega
theorem regL_put {n : Nat} {x : S44} (hx : RegC n x) : ∀ {l : List S44}, RegL n l → RegL n (putL x l)
 | [], _ => fun c hc => by simp [putL] at hc; rw [hc]; exact hx
 | y :: ys, h => by
  have hy := h y (by simp)
  have hys : RegL n ys := fun c hc => h c (List.mem_cons_of_mem _ hc)
  intro c hc
  unfold putL at hc
  split at hc
  ·rcases List.mem_cons.1 hc with e | e
   ·rw [e]; exact hy
   ·exact regL_put hx hys c e
  ·split at hc
   ·rcases List.mem_cons.1 hc with e | e
    ·rw [e]; exact regC_join hy hx
    ·exact hys c e
   ·rcases List.mem_cons.1 hc with e | e
    ·rw [e]; exact hx
    ·exact h c e
theorem regL_all {n : Nat} : ∀ {l acc : List S44}, RegL n l → RegL n acc → RegL n (putAll acc l)
 | [], _, _, h => h
 | x :: l, acc, hl, ha => regL_all (l := l) (fun c hc => hl c (List.mem_cons_of_mem _ hc)) (regL_put (hl x (by simp)) ha)
theorem regL_group {n : Nat} {l : List S44} (h : RegL n l) : RegL n (groupL l) := regL_all h (fun c hc => by simp at hc)
theorem regL_nil (n : Nat) : RegL n [] := fun c hc => by simp at hc
end Go.Proofs.Ytndkimjmbpbcmaa.Q
