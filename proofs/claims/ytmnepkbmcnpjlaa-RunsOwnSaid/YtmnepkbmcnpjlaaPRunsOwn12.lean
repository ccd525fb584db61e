-- packed by wip/tools/pack.py (a program of this session) out of its own texts
import Derived.Test.YtmnepkbmcnpjlaaPRunsOwn0
import Derived.ArgAppend
import Derived.Below
import Derived.BigQuiet
import Derived.Deep.AppendLies
import Derived.Deep.CutBlock
import Derived.Deep.DeepCutAuto
import Derived.Deep.Draws
import Derived.Deep.LoopGhost
import Derived.Deep.OwnRows
import Derived.Deep.QuietTactic
import Derived.Deep.RegionHeld3
import Derived.KernelRfl
import Derived.Laws.BitsLemmas
import Derived.Laws.BytesArg
import Derived.Laws.EntriesVeiled
import Derived.Laws.Externs
import Derived.Laws.IdiomCopy
import Derived.Laws.MakeOwn
import Derived.Laws.OwnMore
import Derived.Laws.Rows
import Derived.Laws.Slices
import Derived.Lib.AppendStr
import Derived.Lib.AppendZeros
import Derived.Lib.AppendZerosOnto
import Derived.Lib.ConvBytes
import Derived.Lib.JoinLaws
import Derived.Lib.Overlaps
import Derived.Lib.SliceRun
import Derived.Lib.Walk
import Derived.Maps.AppendAt
import Derived.OrdersHeld
import Derived.OwnWalk
import Derived.RowKit
import Derived.RowKit3
import Derived.Shelf.RegionOpenPlain
import Derived.Tactics
import Derived.Test.YtmnepkbmcnpjlaaProg
import Derived.WalkKit
import Derived.WalkSpells
import Derived.WideLaws
import Derived.Test.YtmnepkbmcnpjlaaPRunsOwn1
import Derived.Test.YtmnepkbmcnpjlaaPRunsOwn3
import Derived.Test.YtmnepkbmcnpjlaaPRunsOwn4
import Derived.Test.YtmnepkbmcnpjlaaPRunsOwn5
import Derived.Test.YtmnepkbmcnpjlaaPRunsOwn6
import Derived.Test.YtmnepkbmcnpjlaaPRunsOwn7
import Derived.Test.YtmnepkbmcnpjlaaPRunsOwn8
import Derived.Test.YtmnepkbmcnpjlaaPRunsOwn10
import Derived.Test.YtmnepkbmcnpjlaaPRunsOwn11
namespace Go.Proofs.Ytmnepkbmcnpjlaa.Q
open Go.RowKit Go.Proofs.YtmnepkbmcnpjlaaW.PrintWords Go.Proofs.YtmnepkbmcnpjlaaW.PrintLast Go.Proofs.YtmnepkbmcnpjlaaW.PrintMore
set_option linter.unusedVariables false
set_option linter.unusedSimpArgs false
def grpGo (k : Nat) : List S41 → List S41 → Option (List S41)
 | acc, [] => some acc
 | acc, c :: cs => (cell_own.f c.f0 c.f1 c.f2 c.f3 c.f4).bind fun t => (cellPut.f k acc ⟨t.1, t.2.1, t.2.2.1, t.2.2.2.1, t.2.2.2.2⟩).bind fun acc' => grpGo k acc' cs
def cell_Group.f (k : Nat) (l0 : List S41) : Option (List S41) := (grpGo k [] l0).bind fun t => if t.length * 104 ≤ 140737488355328 then some t else none
theorem name_calls {P : Program} {f : FuncId} {args : Array Value} {w : World} {R : Ending → World → Prop} (h : ∀ w', w' = w → Calls P f args w' R) : Calls P f args w R := h w rfl
set_option maxHeartbeats 8000000 in
set_option maxRecDepth 100000 in
theorem cell_Group.calls (k : Nat) (A0 : Option Addr) (c0 : Nat) (l0 : List S41) (r : List S41) (w : World) (hr0 : Kd.C k41 w A0 l0.length l0) (hc0 : l0.length ≤ c0) (h : cell_Group.f k l0 = some r) :
    Calls Try.prog 40 #[.slice A0 l0.length c0] w fun e w' => ∃ v0_ : Value, e = .returned (v0_) ∧ Kd.S k41 41 w' w.heap.size (fun _ => True) v0_ r ∧ Below w.heap.size w w' := by
 have hu30 := Try.underlying41
 have hu65 := Try.underlying71
 have HR0 := am hr0
 have HC0 := am hc0
 have hmax := Kd.C_max hr0
 clear hr0 hc0
 unfold cell_Group.f at h
 replace h := Option.bind_eq_some_iff.mp h
 obtain ⟨r0, A1, H⟩ := h
 have hlim : r0.length * 104 ≤ 140737488355328 ∧ r0 = r := by
  split at H
  · exact ⟨by assumption, Option.some.inj H⟩
  · cases H
 obtain ⟨hlim, rfl⟩ := hlim
 have HL := am hlim
 have HA := am A1
 clear A1 H hlim
 have HM := am hmax
 clear hmax
 have HB := am (Below.refl w.heap.size w)
 go_enter Try.func40, Try.ntmps40
 go_wp2_with (((with_reducible refine gate_dst (N := 3) rfl ?_); refine box_event ?hg (N := 3) ?hd (cs := #[.slice none 0 0, .nilFunc]) (t := 71) ?hr ?_; (case hd => rfl); (case hg => rfl); (case hr => first | (go_simp; done) | (go_simp; rfl)); intro og hg w3 hbox hb; have n0_ := am (below_step HB.out hb); have n1_ := am hbox; have n2_ := am (show w.heap.size ≤ og by rw [hg]; exact HB.out.size); clear HB; have HB := n0_; have BKo := n1_; have GEo := n2_; clear n0_ n1_ n2_; clear hb hbox hg; have hcz0 := (blk_cell BKo.out 0).trans rfl; have hcz1 := (blk_cell BKo.out 1).trans rfl; have hfz0 := blk_frozen BKo.out 0; have hfz1 := blk_frozen BKo.out 1))
 have HBo := am (blk_put (blk_put BKo.out 0 (.slice none 0 0) rfl) 1 (.func (.func 53) #[] #[]) (cs' := #[.slice none 0 0, .func (.func 53) #[] #[]]) rfl)
 go_loopg [9] (l0.length + 1) (fun kq v9 w' => ∃ (i : Nat) (acc : List S41) (v : Value), v9 = .int .i64 (i : Int) ∧ Aside0 (grpGo k acc (l0.drop i) = some r0) ∧ Aside0 (i + kq = l0.length + 1 ∧ i ≤ l0.length) ∧ Aside0 (w'.heap[og]? = some (.cells #[v, .func (.func 53) #[] #[]] 71 (0, 0))) ∧ Aside0 (Kd.S k41 41 w' w.heap.size (fun k => k ≠ og) v acc) ∧ Aside0 (Below w.heap.size w w'))
 case atStart => exact ⟨0, [], .slice none 0 0, rfl, HA, ⟨by omega, by omega⟩, HBo, ⟨Kd.S_nil _ _ _ _ _⟩, ⟨below_set (below_set HB.out GEo.out) GEo.out⟩⟩
 case round =>
  clear HA HB BKo HBo
  try clear hcz0
  try clear hcz1
  try clear hfz0
  try clear hfz1
  obtain ⟨i, acc, v, rfl, HA, HI, BKo, HS, HB⟩ := hrel
  cases gk with
  | zero => exact absurd HI.out (by omega)
  | succ k1 =>
   by_cases hi : i < l0.length
   · have H := HA.out
     rw [List.drop_eq_getElem_cons hi] at H
     unfold grpGo at H
     have hel : l0[i] = rd_T41 l0 (i : Int) := by
       unfold rd_T41
       rw [Int.toNat_natCast, List.getD_eq_getElem?_getD, List.getElem?_eq_getElem hi]
       rfl
     rw [hel] at H
     replace H := Option.bind_eq_some_iff.mp H
     obtain ⟨⟨o0, o1, o2, o3, o4⟩, AO, H⟩ := H
     replace H := Option.bind_eq_some_iff.mp H
     obtain ⟨acc', AP, H⟩ := H
     have HO := am AO
     have HP := am AP
     have HH := am H
     clear HA H AO AP hel
     have hi0 : (0 : Int) ≤ (i : Int) := by omega
     have hi1 : (i : Int) < (l0.length : Int) := by omega
     obtain ⟨ad, E0, d0, E2, d2, E3, d3, E4, d4, eA, q0, q1, q2, q3, q4, g0, K0, g2, K2, g3, K3, g4, K4⟩ := at_T41 HR0.out (i : Int) hi0 hi1
     cases eA
     have hq : ∀ p u, w.cell? p = some u → wr.cell? p = some u := fun p u h => (HB.out.cell (World.block_lt_of_cell? w _ h)).trans h
     replace q0 := hq _ _ q0
     replace q1 := hq _ _ q1
     replace q2 := hq _ _ q2
     replace q3 := hq _ _ q3
     replace q4 := hq _ _ q4
     clear hq
     simp only [Int.toNat_natCast] at q0 q1 q2 q3 q4
     have D0 := am (And.intro g0 K0)
     have D2 := am (And.intro g2 K2)
     have D3 := am (And.intro g3 K3)
     have D4 := am (And.intro g4 K4)
     clear g0 K0 g2 K2 g3 K3 g4 K4
     have hc1 : decide ((i : Int) < (l0.length : Int)) = true := decide_eq_true hi1
     have HI1 := am hi1
     have hi1' := eq_true hi1
     clear hi hi1
     have hwr : IntKind.i64.wrap ((i : Int) + 1) = ((i + 1 : Nat) : Int) := by rw [IntKind.wrap_i64]; have := HM.out; have := HI1.out; omega
     go_wp2_with (first
      | ((with_reducible refine gate_dst (N := 5) rfl ?_); refine box_event ?hg (N := 5) ?hd (cs := #[.slice none 0 0, .int .i64 0, .slice none 0 0, .slice none 0 0, .slice none 0 0]) (t := 41) ?hr ?_; (case hd => rfl); (case hg => rfl); (case hr => first | (go_simp; done) | (go_simp; rfl)); intro gb hg w3 hbox hb; have n0_ := am (below_step HB.out hb); have n1_ := am (blk_below BKo.out hb); have n2_ := am (Kd.S_below (Kd.S_mono (Kd.S_bound HS.out) (ok' := fun k => k ≠ og ∧ k < gb) (fun k hk => ⟨hk.1, by rw [hg]; exact hk.2.2.1⟩)) hb); have n3_ := am hbox; have n4_ := am (show og ≠ gb ∧ w.heap.size ≤ gb ∧ og < gb by rw [hg]; have := blk_lt BKo.out; have := HB.out.size; omega); clear HB BKo HS; have HB := n0_; have BKo := n1_; have HS := n2_; have BKb := n3_; have NEb := n4_; clear n0_ n1_ n2_ n3_ n4_; clear hb hbox hg; have hcz0 := (blk_cell BKb.out 0).trans rfl; have hcz1 := (blk_cell BKb.out 1).trans rfl; have hcz2 := (blk_cell BKb.out 2).trans rfl; have hcz3 := (blk_cell BKb.out 3).trans rfl; have hcz4 := (blk_cell BKb.out 4).trans rfl; have hfz0 := blk_frozen BKb.out 0; have hfz1 := blk_frozen BKb.out 1; have hfz2 := blk_frozen BKb.out 2; have hfz3 := blk_frozen BKb.out 3; have hfz4 := blk_frozen BKb.out 4)
      | ((with_reducible refine gate_callee (f := 55) rfl ?_)
         refine goesL_ (some 14) rfl rfl Try.func55 (by kernel_rfl) rfl #[.agg #[.slice E0 (rd_T41 l0 i).f0.length d0, .int .i64 (rd_T41 l0 i).f1, .slice E2 (rd_T41 l0 i).f2.length d2, .slice E3 (rd_T41 l0 i).f3.length d3, .slice E4 (rd_T41 l0 i).f4.length d4]] rfl (by (try simp only [List.map_toArray, List.map_cons, List.map_nil]); first | done | rfl) ?_
         refine name_calls ?_
         intro w4 hw4
         have hk4 : Kept w3 w4 (fun k => k = gb) := by
          rw [hw4]
          refine Kept.setCell (S := fun k => k = gb) (p := ⟨gb, 4, none⟩) ?_ (.inl rfl) _
          refine Kept.setCell (S := fun k => k = gb) (p := ⟨gb, 3, none⟩) ?_ (.inl rfl) _
          refine Kept.setCell (S := fun k => k = gb) (p := ⟨gb, 2, none⟩) ?_ (.inl rfl) _
          refine Kept.setCell (S := fun k => k = gb) (p := ⟨gb, 1, none⟩) ?_ (.inl rfl) _
          refine Kept.setCell (S := fun k => k = gb) (p := ⟨gb, 0, none⟩) ?_ (.inl rfl) _
          exact Kept.refl _ _
         have n0_ : Aside0 (Below w.heap.size w w4) := am (by
          rw [hw4]
          refine below_set (g := gb) (j := 4) ?_ NEb.out.2.1
          refine below_set (g := gb) (j := 3) ?_ NEb.out.2.1
          refine below_set (g := gb) (j := 2) ?_ NEb.out.2.1
          refine below_set (g := gb) (j := 1) ?_ NEb.out.2.1
          refine below_set (g := gb) (j := 0) ?_ NEb.out.2.1
          exact HB.out)
         have n1_ := am (blk_kept BKo.out hk4 NEb.out.1)
         have n2_ := am (Kd.S_kept HS.out hk4 (fun k hk e => by omega))
         have n3_ := am (show gb ≤ w4.heap.size from by have := blk_lt BKb.out; have := hk4.1; omega)
         clear HB BKo HS BKb hk4
         clear hw4
         have HB := n0_
         have BKo := n1_
         have HS := n2_
         have HG := n3_
         clear n0_ n1_ n2_ n3_
         refine (cell_own.calls E0 d0 (rd_T41 l0 i).f0 (rd_T41 l0 i).f1 E2 d2 (rd_T41 l0 i).f2 E3 d3 (rd_T41 l0 i).f3 E4 d4 (rd_T41 l0 i).f4 o0 o1 o2 o3 o4 w4 (Kd.C_below D0.out.2 HB.out) D0.out.1 (Kd.C_below D2.out.2 HB.out) D2.out.1 (Kd.C_below D3.out.2 HB.out) D3.out.1 (Kd.C_below D4.out.2 HB.out) D4.out.1 HO.out).mono ?_
         rintro e w5 ⟨v0, v2, v3, v4, rfl, p0, p2, p3, p4, hb⟩
         refine ⟨_, rfl, ?_⟩
         obtain ⟨B0, b0, rfl⟩ := Kd.R_slice p0
         obtain ⟨B2, b2, rfl⟩ := Kd.R_slice p2
         obtain ⟨B3, b3, rfl⟩ := Kd.R_slice p3
         obtain ⟨B4, b4, rfl⟩ := Kd.R_slice p4
         have hle : w.heap.size ≤ w4.heap.size := HB.out.size
         have hgb := HG.out
         have HX := am (k41_mkM w5 w.heap.size (fun k => gb ≤ k) (⟨o0, o1, o2, o3, o4⟩ : S41) (Kd.R_lower (Kd.R_mono (Kd.R_bound p0) (fun k hk => Nat.le_trans hgb hk.2.1)) hle) (Kd.R_lower (Kd.R_mono (Kd.R_bound p2) (fun k hk => Nat.le_trans hgb hk.2.1)) hle) (Kd.R_lower (Kd.R_mono (Kd.R_bound p3) (fun k hk => Nat.le_trans hgb hk.2.1)) hle) (Kd.R_lower (Kd.R_mono (Kd.R_bound p4) (fun k hk => Nat.le_trans hgb hk.2.1)) hle))
         have n0_ := am (below_step HB.out hb)
         have n1_ := am (blk_below BKo.out hb)
         have n2_ := am (Kd.S_below HS.out hb)
         have n3_ := am (show gb ≤ w5.heap.size from Nat.le_trans hgb hb.size)
         clear HB BKo HS HG hgb hle p0 p2 p3 p4 hb D0 D2 D3 D4 HO
         have HB := n0_
         have BKo := n1_
         have HS := n2_
         have HG := n3_
         clear n0_ n1_ n2_ n3_)
      | ((with_reducible refine gate_callee (f := 54) rfl ?_)
         refine goesL_ (some 15) rfl rfl Try.func54 (by kernel_rfl) rfl #[.pointer (some ⟨og, 0, none⟩), .agg #[.slice B0 o0.length b0, .int .i64 o1, .slice B2 o2.length b2, .slice B3 o3.length b3, .slice B4 o4.length b4], .func (.func 38) #[] #[]] rfl (by (try simp only [List.map_toArray, List.map_cons, List.map_nil]); first | done | rfl) ?_
         refine (cellPut_calls k og gb v acc (⟨o0, o1, o2, o3, o4⟩ : S41) _ acc' w w5 BKo.out GEo.out NEb.out.2.2 HG.out HB.out HS.out HX.out HP.out).mono ?_
         rintro e w6 ⟨rfl, v', h1, h2, h3⟩
         refine ⟨_, rfl, ?_⟩
         have n0_ := am h1
         have n1_ := am h2
         have n2_ := am h3
         clear h1 h2 h3 HB BKo HS HG HX HP))
     go_roundg k1
     case measure => have := HI.out; omega
     case rel => exact ⟨i + 1, acc', v', rfl, HH, ⟨by have := HI.out; have := HI1.out; omega⟩, n0_, n1_, n2_⟩
   · have H := HA.out
     rw [List.drop_eq_nil_of_le (by omega)] at H
     have e : acc = r0 := Option.some.inj H
     subst e
     clear HA H
     have hc1 : decide ((i : Int) < (l0.length : Int)) = false := decide_eq_false (by omega)
     have hc2 : decide (i < l0.length) = false := decide_eq_false hi
     have hc3 : (i < l0.length) = False := eq_false hi
     clear hi
     obtain ⟨A, c, rfl⟩ := Kd.S_slice HS.out
     have hcz0 : wr.cell? ⟨og, 0, none⟩ = some (.slice A acc.length c) := (blk_cell BKo.out 0).trans rfl
     go_wp2_with (first
      | ((with_reducible refine gate_callee (f := 29) rfl ?_)
         refine goesL_ (some 19) rfl rfl Try.func29 (by kernel_rfl) rfl #[.slice A acc.length c] rfl (by (try simp only [List.map_toArray, List.map_cons, List.map_nil]); first | done | rfl) ?_
         obtain ⟨f, hf⟩ := HS.out
         refine (CloneCells_calls (Kd.tag f k41) rfl (.slice A acc.length c) acc.zipIdx w.heap.size (fun k => k ≠ og) w wr HB.out HB.out.size hf (fun k hk => by have := blk_lt BKo.out; omega) (by rw [List.length_zipIdx]; exact HL.out)).mono ?_
         rintro e w7 ⟨v1, rfl, hR, hB, _⟩
         refine ⟨_, rfl, ?_⟩
         have HR7 := am hR
         have HB7 := am hB
         clear hR hB hf))
     go_ret
     exact ⟨_, rfl, Kd.S_mono ⟨_, HR7.out⟩ (fun _ _ => trivial), HB7.out⟩
theorem clone_eq (l : List Int) (h : l.length ≤ 1000000) : slices_Clone_int_int.f l = some l := by
 unfold slices_Clone_int_int.f
 rw [if_pos (by omega)]
theorem rdC_get {l : List S41} {i : Nat} (h : i < l.length) : rd_T41 l (i : Int) = l[i] := by simp [rd_T41, List.getD_eq_getElem?_getD, h]
theorem both_gen (op : Int → Int → Int) (L : Nat → List Int → List Int → List Int → Int → Int → Option (List Int))
  (h : ∀ k x1 x7 x10 x11 x12, L (k + 1) x1 x7 x10 x11 x12 = if x12 < x11 then (if 0 ≤ x12 then (if x12 < (x10.length : Int) then (if x12 < (x1.length : Int) then (if x7.length < 17592186044416 then (L k x1 (x7 ++ [op (rd x10 x12) (rd x1 x12)]) x10 x11 (wrap64 (x12 + 1))) else (none)) else (L k x1 x7 x10 x11 (wrap64 (x12 + 1)))) else (none)) else (none)) else ((slices_Clone_int_int.f x7).bind fun t => (some t)))
  (a b : List Int) (ha : a.length ≤ 100000) (d : Nat) : ∀ (i : Nat) (acc : List Int), a.length - i = d → i ≤ a.length → acc.length ≤ i →
  Ev (fun k => L k b acc a (a.length : Int) (i : Int)) (acc ++ List.zipWith op (a.drop i) (b.drop i)) := by
 induction d with
 | zero =>
  intro i acc hd hi hacc
  have e1 : a.drop i = [] := List.drop_eq_nil_of_le (by omega)
  rw [e1, List.zipWith_nil_left, List.append_nil]
  exact Ev.step (f := fun _ => some acc) (fun k => by rw [h, if_neg (by omega), clone_eq _ (by omega)]; rfl) (Ev.now _)
 | succ d ih =>
  intro i acc hd hi hacc
  have hia : i < a.length := by omega
  by_cases hib : i < b.length
  ·rw [drop_cons hia, drop_cons hib, List.zipWith_cons_cons]
   have := ih (i + 1) (acc ++ [op a[i] b[i]]) (by omega) (by omega) (by simp; omega)
   rw [List.append_assoc, List.singleton_append] at this
   exact Ev.step (fun k => by rw [h, if_pos (by omega), if_pos (by omega), if_pos (by omega), if_pos (by omega), if_pos (by omega), rd_get hia, rd_get hib, w64s hia (by omega)]) this
  ·have e2 : b.drop i = [] := List.drop_eq_nil_of_le (by omega)
   have e3 : b.drop (i + 1) = [] := List.drop_eq_nil_of_le (by omega)
   have := ih (i + 1) acc (by omega) (by omega) (by omega)
   rw [e3, List.zipWith_nil_right] at this
   rw [e2, List.zipWith_nil_right]
   exact Ev.step (fun k => by rw [h, if_pos (by omega), if_pos (by omega), if_pos (by omega), if_neg (by omega), w64s hia (by omega)]) this
theorem both1_ev (a b : List Int) (ha : a.length ≤ 100000) : Ev (fun k => cell_both_J1.f k a b) (List.zipWith (fun x y => wrap64 (x + y)) a b) := by
 have := both_gen (fun x y => wrap64 (x + y)) cell_both_J1.l0 (fun k x1 x7 x10 x11 x12 => by simp only [cell_both_J1.l0, cell_Join_1.f, Option.bind_some]) a b ha a.length 0 [] (by omega) (by omega) (by simp)
 simp only [List.drop_zero, List.nil_append] at this
 exact this
theorem both2_ev (a b : List Int) (ha : a.length ≤ 100000) : Ev (fun k => cell_both_J2.f k a b) (List.zipWith mn a b) := by
 have := both_gen mn cell_both_J2.l0 (fun k x1 x7 x10 x11 x12 => by simp only [cell_both_J2.l0, cell_Join_2.f, Option.bind_some]) a b ha a.length 0 [] (by omega) (by omega) (by simp)
 simp only [List.drop_zero, List.nil_append] at this
 exact this
theorem both3_ev (a b : List Int) (ha : a.length ≤ 100000) : Ev (fun k => cell_both_J3.f k a b) (List.zipWith mx a b) := by
 have := both_gen mx cell_both_J3.l0 (fun k x1 x7 x10 x11 x12 => by simp only [cell_both_J3.l0, cell_Join_3.f, Option.bind_some]) a b ha a.length 0 [] (by omega) (by omega) (by simp)
 simp only [List.drop_zero, List.nil_append] at this
 exact this
def joinC (a b : S41) : S41 := ⟨a.f0, wrap64 (a.f1 + b.f1), List.zipWith (fun x y => wrap64 (x + y)) a.f2 b.f2, List.zipWith mn a.f3 b.f3, List.zipWith mx a.f4 b.f4⟩
def SmallC (c : S41) : Prop := c.f0.length ≤ 100000 ∧ c.f2.length ≤ 100000 ∧ c.f3.length ≤ 100000 ∧ c.f4.length ≤ 100000
def tupC (c : S41) : List Int × Int × List Int × List Int × List Int := (c.f0, c.f1, c.f2, c.f3, c.f4)
theorem join_ev (a b : S41) (ha : SmallC a) : Ev (fun k => cell_Join.f k a.f0 a.f1 a.f2 a.f3 a.f4 b.f0 b.f1 b.f2 b.f3 b.f4) (tupC (joinC a b)) := by
 obtain ⟨h0, h2, h3, h4⟩ := ha
 refine Ev.congr (f := fun k => (cell_both_J1.f k a.f2 b.f2).bind fun t140 => ((cell_both_J2.f k a.f3 b.f3).bind fun t143 => ((cell_both_J3.f k a.f4 b.f4).bind fun t146 => (some (a.f0, wrap64 (a.f1 + b.f1), t140, t143, t146))))) (fun k => by unfold cell_Join.f; rw [clone_eq _ (by omega), Option.bind_some]) ?_
 exact Ev.bind (both1_ev _ _ h2) (Ev.bind (both2_ev _ _ h3) (Ev.bind (both3_ev _ _ h4) (Ev.now _)))
theorem own_eq (c : S41) (h : SmallC c) : cell_own.f c.f0 c.f1 c.f2 c.f3 c.f4 = some (tupC c) := by
 obtain ⟨h0, h2, h3, h4⟩ := h
 unfold cell_own.f
 rw [clone_eq _ (by omega), clone_eq _ (by omega), clone_eq _ (by omega), clone_eq _ (by omega)]
 rfl
theorem joinC_small {a b : S41} (h : SmallC a) : SmallC (joinC a b) := by
 obtain ⟨h0, h2, h3, h4⟩ := h
 refine ⟨h0, ?_, ?_, ?_⟩ <;> (simp only [joinC, List.length_zipWith]; omega)
def putL (x : S41) : List S41 → List S41
 | [] => [x]
 | y :: ys => if lexC y.f0 x.f0 < 0 then y :: putL x ys else if lexC y.f0 x.f0 = 0 then joinC y x :: ys else x :: y :: ys
def groupL (l : List S41) : List S41 := l.foldl (fun acc x => putL x acc) []
def SortedC (l : List S41) : Prop := l.Pairwise fun a b => lexC a.f0 b.f0 < 0
theorem lexC_lt_trans {a b c : List Int} (h1 : lexC a b < 0) (h2 : lexC b c < 0) : lexC a c < 0 := by
 have h := lexC_trans a b c (by omega) (by omega)
 by_cases e : lexC a c = 0
 ·rw [lexC_zero] at e
  subst e
  have := lexC_swap a b
  omega
 ·omega
theorem putL_keys (x : S41) : ∀ (l : List S41) (z : S41), z ∈ putL x l → z.f0 = x.f0 ∨ ∃ y ∈ l, z.f0 = y.f0
 | [], z, h => by simp [putL] at h; exact .inl (by rw [h])
 | y :: ys, z, h => by
  unfold putL at h
  split at h
  ·rcases List.mem_cons.1 h with h | h
   ·exact .inr ⟨y, by simp, by rw [h]⟩
   ·rcases putL_keys x ys z h with h | ⟨q, hq, he⟩
    ·exact .inl h
    ·exact .inr ⟨q, List.mem_cons_of_mem _ hq, he⟩
  ·split at h
   ·rcases List.mem_cons.1 h with h | h
    ·exact .inr ⟨y, by simp, by rw [h]; rfl⟩
    ·exact .inr ⟨z, List.mem_cons_of_mem _ h, rfl⟩
   ·rcases List.mem_cons.1 h with h | h
    ·exact .inl (by rw [h])
    ·exact .inr ⟨z, h, rfl⟩
theorem putL_sorted (x : S41) : ∀ (l : List S41), SortedC l → SortedC (putL x l)
 | [], _ => by simp [putL, SortedC]
 | y :: ys, h => by
  obtain ⟨h1, h2⟩ := List.pairwise_cons.1 h
  unfold putL
  split
  ·rename_i c1
   refine List.pairwise_cons.2 ⟨fun z hz => ?_, putL_sorted x ys h2⟩
   rcases putL_keys x ys z hz with e | ⟨q, hq, e⟩
   ·rw [e]; exact c1
   ·rw [e]; exact h1 q hq
  ·rename_i c1
   split
   ·exact List.pairwise_cons.2 ⟨h1, h2⟩
   ·rename_i c2
    have hlt : lexC x.f0 y.f0 < 0 := by rw [lexC_swap]; omega
    refine List.pairwise_cons.2 ⟨fun z hz => ?_, h⟩
    rcases List.mem_cons.1 hz with e | e
    ·rw [e]; exact hlt
    ·exact lexC_lt_trans hlt (h1 z e)
theorem putL_small (x : S41) (hx : SmallC x) : ∀ (l : List S41), (∀ y ∈ l, SmallC y) → ∀ y ∈ putL x l, SmallC y
 | [], _, y, h => by simp [putL] at h; rw [h]; exact hx
 | z :: zs, hl, y, h => by
  have hz := hl z (by simp)
  have hzs := fun y h => hl y (List.mem_cons_of_mem _ h)
  unfold putL at h
  split at h
  ·rcases List.mem_cons.1 h with h | h
   ·rw [h]; exact hz
   ·exact putL_small x hx zs hzs y h
  ·split at h
   ·rcases List.mem_cons.1 h with h | h
    ·rw [h]; exact joinC_small hz
    ·exact hzs y h
   ·rcases List.mem_cons.1 h with h | h
    ·rw [h]; exact hx
    ·exact hl y h
theorem putL_length (x : S41) : ∀ (l : List S41), (putL x l).length ≤ l.length + 1
 | [] => by simp [putL]
 | y :: ys => by
  unfold putL
  have := putL_length x ys
  split
  ·simp; omega
  ·split <;> simp
theorem putL_at (x : S41) : ∀ (p : Nat) (l : List S41), p ≤ l.length → (∀ m (h : m < l.length), m < p → lexC (l[m]).f0 x.f0 < 0) → (∀ (h : p < l.length), 0 ≤ lexC (l[p]).f0 x.f0) →
  putL x l = if h : p < l.length then (if lexC (l[p]).f0 x.f0 = 0 then l.set p (joinC l[p] x) else l.take p ++ x :: l.drop p) else l.take p ++ x :: l.drop p
 | 0, [], _, _, _ => by simp [putL]
 | 0, y :: ys, _, _, h2 => by
  have := h2 (by simp)
  simp only [List.getElem_cons_zero] at this
  unfold putL
  rw [if_neg (by omega)]
  simp only [List.length_cons, Nat.zero_lt_succ, dite_true, List.getElem_cons_zero, List.set_cons_zero, List.take_zero, List.drop_zero, List.nil_append]
 | p + 1, [], h, _, _ => by simp at h
 | p + 1, y :: ys, hp, h1, h2 => by
  have hy := h1 0 (by simp) (by omega)
  simp only [List.getElem_cons_zero] at hy
  have ih := putL_at x p ys (by simpa using hp) (fun m h hm => by have := h1 (m + 1) (by simpa using h) (by omega); simpa using this) (fun h => by have := h2 (by simpa using h); simpa using this)
  unfold putL
  rw [if_pos hy, ih]
  by_cases hlt : p < ys.length
  ·rw [dif_pos hlt, dif_pos (by simpa using hlt)]
   simp only [List.getElem_cons_succ, List.set_cons_succ, List.take_succ_cons, List.drop_succ_cons, List.cons_append]
   split <;> rfl
  ·rw [dif_neg hlt, dif_neg (by simpa using hlt)]
   simp
theorem wrap_mid (i j : Nat) (h : i + j ≤ 4000000) : wrap64 ((IntKind.u64.wrap (wrap64 ((i : Int) + (j : Int)))) / 2) = (((i + j) / 2 : Nat) : Int) := by
 have h1 : wrap64 ((i : Int) + (j : Int)) = ((i + j : Nat) : Int) := by rw [w64 (by omega) (by omega)]; omega
 have h2 : IntKind.u64.wrap ((i + j : Nat) : Int) = ((i + j : Nat) : Int) := by
  have e : IntKind.u64.wrap ((i + j : Nat) : Int) = ((i + j : Nat) : Int) % 18446744073709551616 := rfl
  rw [e]
  omega
 rw [h1, h2, w64 (by omega) (by omega)]
 omega
theorem bsf_l0 (xs : List S41) (x : S41) (hn : xs.length ≤ 1000000) (hs : ∀ y ∈ xs, SmallC y) (p : Nat) (hp : p ≤ xs.length) (h1 : ∀ m (h : m < xs.length), m < p → lexC (xs[m]).f0 x.f0 < 0) (h2 : ∀ m (h : m < xs.length), p ≤ m → 0 ≤ lexC (xs[m]).f0 x.f0) (d : Nat) :
  ∀ i j : Nat, j - i ≤ d → i ≤ p → p ≤ j → j ≤ xs.length → Ev (fun k => bsf_G1.l0 k xs (xs.length : Int) (i : Int) (j : Int) x.f0 x.f1 x.f2 x.f3 x.f4) ((p : Int), if h : p < xs.length then lexC (xs[p]).f0 x.f0 == 0 else false) := by
 have hcmp : ∀ m (h : m < xs.length), Ev (fun k => cell_Group_1.f k (xs[m]).f0 (xs[m]).f1 (xs[m]).f2 (xs[m]).f3 (xs[m]).f4 x.f0 x.f1 x.f2 x.f3 x.f4) (lexC (xs[m]).f0 x.f0) := fun m h => by
  refine Ev.congr (f := fun k => (cell_Less.f k (xs[m]).f0 x.f0).bind fun t => some t) (fun k => rfl) ?_
  exact Ev.bind (cell_less_ev _ _ (by have := (hs _ (List.getElem_mem h)).1; omega)) (Ev.now _)
 induction d with
 | zero =>
  intro i j hd hip hpj hjn
  have e1 : i = p := by omega
  have e2 : j = p := by omega
  rw [e1, e2]
  by_cases hlt : p < xs.length
  ·rw [dif_pos hlt]
   refine Ev.step (f := fun k => (cell_Group_1.f k (xs[p]).f0 (xs[p]).f1 (xs[p]).f2 (xs[p]).f3 (xs[p]).f4 x.f0 x.f1 x.f2 x.f3 x.f4).bind fun t => some ((p : Int), t == 0)) (fun k => by simp only [bsf_G1.l0]; rw [if_neg (by omega), if_pos (by omega), if_pos (by omega), if_pos (by omega), rdC_get hlt]) (Ev.bind (hcmp p hlt) (Ev.now _))
  ·rw [dif_neg hlt]
   exact Ev.step (f := fun _ => some ((p : Int), false)) (fun k => by simp only [bsf_G1.l0]; rw [if_neg (by omega), if_neg (by omega)]) (Ev.now _)
 | succ d ih =>
  intro i j hd hip hpj hjn
  by_cases hij : i < j
  ·have hh : (i + j) / 2 < xs.length := by omega
   have hstep : ∀ k, bsf_G1.l0 (k + 1) xs (xs.length : Int) (i : Int) (j : Int) x.f0 x.f1 x.f2 x.f3 x.f4 = (cell_Group_1.f k (xs[(i + j) / 2]).f0 (xs[(i + j) / 2]).f1 (xs[(i + j) / 2]).f2 (xs[(i + j) / 2]).f3 (xs[(i + j) / 2]).f4 x.f0 x.f1 x.f2 x.f3 x.f4).bind fun t => if t < 0 then bsf_G1.l0 k xs (xs.length : Int) (((i + j) / 2 + 1 : Nat) : Int) (j : Int) x.f0 x.f1 x.f2 x.f3 x.f4 else bsf_G1.l0 k xs (xs.length : Int) (i : Int) (((i + j) / 2 : Nat) : Int) x.f0 x.f1 x.f2 x.f3 x.f4 := fun k => by
    simp only [bsf_G1.l0]
    rw [if_pos (by omega), wrap_mid i j (by omega), if_pos (by omega), if_pos (by omega), rdC_get hh, w64s hh (by omega)]
   refine Ev.step hstep ?_
   by_cases hlt : (i + j) / 2 < p
   ·have c := h1 _ hh hlt
    exact Ev.bind (hcmp _ hh) (Ev.congr (fun k => by rw [if_pos c]) (ih ((i + j) / 2 + 1) j (by omega) (by omega) hpj hjn))
   ·have c := h2 _ hh (by omega)
    exact Ev.bind (hcmp _ hh) (Ev.congr (fun k => by rw [if_neg (by omega)]) (ih i ((i + j) / 2) (by omega) hip (by omega) (by omega)))
  ·exact ih i j (by omega) hip hpj hjn
theorem place (x : S41) : ∀ (l : List S41), SortedC l → ∃ p, p ≤ l.length ∧ (∀ m (h : m < l.length), m < p → lexC (l[m]).f0 x.f0 < 0) ∧ (∀ m (h : m < l.length), p ≤ m → 0 ≤ lexC (l[m]).f0 x.f0)
 | [], _ => ⟨0, by simp, fun m h => by simp at h, fun m h => by simp at h⟩
 | y :: ys, hs => by
  obtain ⟨h1, h2⟩ := List.pairwise_cons.1 hs
  by_cases c : lexC y.f0 x.f0 < 0
  ·obtain ⟨p, hp, a, b⟩ := place x ys h2
   refine ⟨p + 1, by simpa using hp, fun m h hm => ?_, fun m h hm => ?_⟩
   ·cases m with
    | zero => exact c
    | succ m => exact a m (by simpa using h) (by omega)
   ·cases m with
    | zero => omega
    | succ m => exact b m (by simpa using h) (by omega)
  ·refine ⟨0, by omega, fun m h hm => by omega, fun m h _ => ?_⟩
   cases m with
   | zero => simp only [List.getElem_cons_zero]; omega
   | succ m =>
    simp only [List.getElem_cons_succ]
    have hy := h1 (ys[m]'(by simpa using h)) (List.getElem_mem _)
    rcases Int.lt_or_le (lexC (ys[m]'(by simpa using h)).f0 x.f0) 0 with q | q
    ·exact absurd (lexC_lt_trans hy q) c
    ·exact q
theorem put_ev (xs : List S41) (x : S41) (hn : xs.length ≤ 1000000) (hs : ∀ y ∈ xs, SmallC y) (ho : SortedC xs) : Ev (fun k => cellPut.f k xs x) (putL x xs) := by
 obtain ⟨p, hp, h1, h2⟩ := place x xs ho
 have hb := bsf_l0 xs x hn hs p hp h1 h2 xs.length 0 xs.length (by omega) (by omega) hp (by omega)
 have hb' : Ev (fun k => bsf_G1.f k xs x.f0 x.f1 x.f2 x.f3 x.f4) ((p : Int), if h : p < xs.length then lexC (xs[p]).f0 x.f0 == 0 else false) := hb
 have hput := putL_at x p xs hp h1 (fun h => h2 p h (by omega))
 unfold cellPut.f
 refine Ev.bind hb' ?_
 by_cases hlt : p < xs.length
 ·rw [dif_pos hlt] at hput
  simp only [dif_pos hlt]
  by_cases c : lexC (xs[p]).f0 x.f0 = 0
  ·rw [if_pos c] at hput
   have hj := Ev.bind (f := fun (_ : Nat) (j : List Int × Int × List Int × List Int × List Int) => some (xs.set p (⟨j.1, j.2.1, j.2.2.1, j.2.2.2.1, j.2.2.2.2⟩ : S41))) (join_ev (xs[p]) x (hs _ (List.getElem_mem hlt))) (Ev.now _)
   rw [hput]
   exact Ev.congr (fun k => by rw [if_pos (by simp [c]), if_pos (by omega), rdC_get hlt, Int.toNat_natCast]) hj
  ·rw [if_neg c] at hput
   rw [hput]
   exact Ev.congr (f := fun _ => some (xs.take p ++ x :: xs.drop p)) (fun k => by rw [if_neg (by simp [c]), if_pos (by omega), Int.toNat_natCast]) (Ev.now _)
 ·rw [dif_neg hlt] at hput
  simp only [dif_neg hlt]
  rw [hput]
  exact Ev.congr (f := fun _ => some (xs.take p ++ x :: xs.drop p)) (fun k => by rw [if_neg (by simp), if_pos (by omega), Int.toNat_natCast]) (Ev.now _)
theorem grp_ev : ∀ (l acc : List S41), acc.length + l.length ≤ 1000000 → (∀ y ∈ l, SmallC y) → (∀ y ∈ acc, SmallC y) → SortedC acc → Ev (fun k => grpGo k acc l) (l.foldl (fun acc x => putL x acc) acc)
 | [], acc, _, _, _, _ => Ev.now _
 | c :: cs, acc, hn, hl, ha, ho => by
  have hc := hl c (by simp)
  simp only [List.length_cons] at hn
  have ih := grp_ev cs (putL c acc) (by have := putL_length c acc; omega) (fun y h => hl y (List.mem_cons_of_mem _ h)) (putL_small c hc acc ha) (putL_sorted c acc ho)
  refine Ev.congr (f := fun k => (cellPut.f k acc c).bind fun acc' => grpGo k acc' cs) (fun k => by simp only [grpGo]; rw [own_eq c hc, Option.bind_some]; rfl) ?_
  exact Ev.bind (put_ev acc c (by omega) ha ho) ih
theorem foldl_put_length : ∀ (l acc : List S41), (l.foldl (fun acc x => putL x acc) acc).length ≤ acc.length + l.length
 | [], acc => by simp
 | c :: cs, acc => by
  have := foldl_put_length cs (putL c acc)
  have := putL_length c acc
  simp only [List.foldl_cons, List.length_cons]
  omega
theorem group_ev (l : List S41) (hn : l.length ≤ 1000000) (hl : ∀ y ∈ l, SmallC y) : Ev (fun k => cell_Group.f k l) (groupL l) := by
 have h := grp_ev l [] (by simpa using hn) hl (fun y h => by simp at h) List.Pairwise.nil
 have hlen := foldl_put_length l []
 refine Ev.bind h (Ev.congr (f := fun _ => some (groupL l)) (fun k => ?_) (Ev.now _))
 rw [if_pos (by simp only [List.length_nil] at hlen; omega)]
 rfl
theorem lexC_key {a b c : List Int} (h : lexC a b = 0) : lexC c a = lexC c b ∧ lexC a c = lexC b c := by
 rw [lexC_zero] at h
 subst h
 exact ⟨rfl, rfl⟩
theorem putL_lt {x y : S41} (ys : List S41) (h : lexC y.f0 x.f0 < 0) : putL x (y :: ys) = y :: putL x ys := by simp only [putL]; rw [if_pos h]
theorem putL_eq {x y : S41} (ys : List S41) (h : lexC y.f0 x.f0 = 0) : putL x (y :: ys) = joinC y x :: ys := by simp only [putL]; rw [if_neg (by omega), if_pos h]
theorem three (z : Int) : z < 0 ∨ z = 0 ∨ 0 < z := by omega
def putAll (acc l : List S41) : List S41 := l.foldl (fun acc x => putL x acc) acc
def hasK (l : List S41) (c : S41) : Bool := l.any fun y => lexC y.f0 c.f0 == 0
theorem hasK_cons (y : S41) (ys : List S41) (c : S41) : hasK (y :: ys) c = ((lexC y.f0 c.f0 == 0) || hasK ys c) := by simp [hasK]
theorem sorted_gt {x y : S41} {ys : List S41} (h : SortedC (y :: ys)) (c : 0 < lexC y.f0 x.f0) : hasK ys x = false := by
 unfold hasK
 rw [List.any_eq_false]
 intro z hz he
 have hyz := (List.pairwise_cons.1 h).1 z hz
 have hzx : lexC z.f0 x.f0 = 0 := by simpa using he
 rw [(lexC_key hzx).1] at hyz
 omega
theorem putL_old (x : S41) : ∀ l : List S41, SortedC l → hasK l x = true → (putL x l).length = l.length
 | [], _, h => by simp [hasK] at h
 | y :: ys, hs, h => by
  rw [hasK_cons, Bool.or_eq_true] at h
  rcases three (lexC y.f0 x.f0) with c | c | c
  ·have hys : hasK ys x = true := h.resolve_left (by simp; omega)
   rw [putL_lt _ c]; simp [putL_old x ys (List.pairwise_cons.1 hs).2 hys]
  ·rw [putL_eq _ c]; simp
  ·have := sorted_gt hs c
   rw [this] at h
   simp at h
   omega
def RegC (n : Nat) (c : S41) : Prop := c.f0.length ≤ 4 ∧ c.f2.length = n ∧ c.f3.length = n ∧ c.f4.length = n
def RegL (n : Nat) (l : List S41) : Prop := ∀ c ∈ l, RegC n c
theorem RegC.small {n : Nat} {c : S41} (h : RegC n c) (hn : n ≤ 100) : SmallC c := ⟨by have := h.1; omega, by rw [h.2.1]; omega, by rw [h.2.2.1]; omega, by rw [h.2.2.2]; omega⟩
theorem RegL.small {n : Nat} {l : List S41} (h : RegL n l) (hn : n ≤ 100) : ∀ y ∈ l, SmallC y := fun y hy => (h y hy).small hn
theorem regC_join {n : Nat} {a b : S41} (ha : RegC n a) (hb : RegC n b) : RegC n (joinC a b) := by
 refine ⟨ha.1, ?_, ?_, ?_⟩
 ·simp only [joinC, List.length_zipWith]; rw [ha.2.1, hb.2.1]; omega
 ·simp only [joinC, List.length_zipWith]; rw [ha.2.2.1, hb.2.2.1]; omega
 ·simp only [joinC, List.length_zipWith]; rw [ha.2.2.2, hb.2.2.2]; omega
theorem regL_put {n : Nat} {x : S41} (hx : RegC n x) : ∀ {l : List S41}, RegL n l → RegL n (putL x l)
 | [], _ => fun c hc => by simp [putL] at hc; rw [hc]; exact hx
 | y :: ys, h => by
  have hy := h y (by simp)
  have hys : RegL n ys := fun c hc => h c (List.mem_cons_of_mem _ hc)
  intro c hc
  unfold putL at hc
  split at hc
  ·rcases List.mem_cons.1 hc with e | e
   ·rw [e]; exact hy
   ·exact regL_put hx hys c e
  ·split at hc
   ·rcases List.mem_cons.1 hc with e | e
    ·rw [e]; exact regC_join hy hx
    ·exact hys c e
   ·rcases List.mem_cons.1 hc with e | e
    ·rw [e]; exact hx
    ·exact h c e
theorem regL_nil (n : Nat) : RegL n [] := fun c hc => by simp at hc
theorem ref_join_l0 (n : Nat) (hn : n ≤ 100) (a b : S41) (ha : RegC n a) (hb : RegC n b) (f0 : List Int) (f1 : Int) (d : Nat) : ∀ (i : Nat) (s m x : List Int), n - i = d → i ≤ n → s.length = i → m.length = i → x.length = i →
  Ev (fun k => hypercuberef2_Join.l0 k (i : Int) a.f0 a.f1 a.f2 a.f3 a.f4 b.f0 b.f1 b.f2 b.f3 b.f4 f0 f1 s m x)
   (f0, f1, s ++ List.zipWith (fun x y => wrap64 (x + y)) (a.f2.drop i) (b.f2.drop i), m ++ List.zipWith mn (a.f3.drop i) (b.f3.drop i), x ++ List.zipWith mx (a.f4.drop i) (b.f4.drop i)) := by
 obtain ⟨a0, a2, a3, a4⟩ := ha
 obtain ⟨b0, b2, b3, b4⟩ := hb
 induction d with
 | zero =>
  intro i s m x hd hi hs hm hx
  have e2 : a.f2.drop i = [] := List.drop_eq_nil_of_le (by omega)
  have e3 : a.f3.drop i = [] := List.drop_eq_nil_of_le (by omega)
  have e4 : a.f4.drop i = [] := List.drop_eq_nil_of_le (by omega)
  rw [e2, e3, e4, List.zipWith_nil_left, List.zipWith_nil_left, List.zipWith_nil_left, List.append_nil, List.append_nil, List.append_nil]
  exact Ev.step (f := fun _ => some (f0, f1, s, m, x)) (fun k => by simp only [hypercuberef2_Join.l0]; rw [if_neg (by omega)]) (Ev.now _)
 | succ d ih =>
  intro i s m x hd hi hs hm hx
  have ia2 : i < a.f2.length := by omega
  have ia3 : i < a.f3.length := by omega
  have ia4 : i < a.f4.length := by omega
  have ib2 : i < b.f2.length := by omega
  have ib3 : i < b.f3.length := by omega
  have ib4 : i < b.f4.length := by omega
  have h := ih (i + 1) (s ++ [wrap64 (a.f2[i] + b.f2[i])]) (m ++ [mn a.f3[i] b.f3[i]]) (x ++ [mx a.f4[i] b.f4[i]]) (by omega) (by omega) (by simp; omega) (by simp; omega) (by simp; omega)
  rw [List.append_assoc, List.append_assoc, List.append_assoc, List.singleton_append, List.singleton_append, List.singleton_append] at h
  rw [drop_cons ia2, drop_cons ia3, drop_cons ia4, drop_cons ib2, drop_cons ib3, drop_cons ib4, List.zipWith_cons_cons, List.zipWith_cons_cons, List.zipWith_cons_cons]
  exact Ev.step (fun k => by
   simp only [hypercuberef2_Join.l0]
   rw [if_pos (by omega), if_pos (by omega), if_pos (by omega), if_pos (by omega), if_pos (by omega), if_pos (by omega), if_pos (by omega), if_pos (by omega), if_pos (by omega), if_pos (by omega), rd_get ia2, rd_get ia3, rd_get ia4, rd_get ib2, rd_get ib3, rd_get ib4, w64s ia2 (by omega)]) h
theorem ref_join_ev {n : Nat} (hn : n ≤ 100) {a b : S41} (ha : RegC n a) (hb : RegC n b) : Ev (fun k => hypercuberef2_Join.f k a.f0 a.f1 a.f2 a.f3 a.f4 b.f0 b.f1 b.f2 b.f3 b.f4) (tupC (joinC a b)) := by
 have h := ref_join_l0 n hn a b ha hb a.f0 (wrap64 (a.f1 + b.f1)) n 0 [] [] [] (by omega) (by omega) rfl rfl rfl
 simp only [List.drop_zero, List.nil_append] at h
 refine Ev.congr (fun k => ?_) h
 unfold hypercuberef2_Join.f
 rw [Option.bind_some, if_pos (by have := ha.1; simp only [List.length_nil]; omega), List.nil_append]
 rfl
theorem ref_copy_eq {c : S41} (h : SmallC c) : hypercuberef2_Copy.f c.f0 c.f1 c.f2 c.f3 c.f4 = some (tupC c) := by
 obtain ⟨h0, h2, h3, h4⟩ := h
 unfold hypercuberef2_Copy.f
 rw [if_pos ⟨by omega, by omega, by omega, by omega⟩]
 rfl
theorem ref_put_end {n : Nat} (hn : n ≤ 100) {xs : List S41} {x : S41} (hl : xs.length ≤ 1000000) (hr : RegL n xs) (hx : RegC n x) (i : Nat) (hi : i ≤ xs.length) (h1 : ∀ m (h : m < xs.length), m < i → lexC (xs[m]).f0 x.f0 < 0) (h2 : ∀ (h : i < xs.length), 0 ≤ lexC (xs[i]).f0 x.f0) :
  Ev (fun k => hypercuberef2_Put.j1 k xs (i : Int) x.f0 x.f1 x.f2 x.f3 x.f4) (putL x xs) := by
 have hput := putL_at x i xs hi h1 h2
 have hcat : xs.take i ++ [x] ++ xs.drop i = xs.take i ++ x :: xs.drop i := by simp
 have hins : Ev (fun k => hypercuberef2_Put.j2 k xs (i : Int) false x.f0 x.f1 x.f2 x.f3 x.f4) (xs.take i ++ x :: xs.drop i) := by
  refine Ev.step (f := fun _ => some (xs.take i ++ x :: xs.drop i)) (fun k => ?_) (Ev.now _)
  simp only [hypercuberef2_Put.j2]
  rw [if_neg (by simp), Option.bind_some, if_pos (by omega), if_pos (by omega), Option.bind_some, if_pos (by simp; omega), Option.bind_some, ref_copy_eq (hx.small hn), Option.bind_some, if_pos (by simp; omega), Option.bind_some, Option.bind_some, if_pos (by simp; omega)]
  simp only [List.nil_append, Int.toNat_natCast, tupC, ← hcat]
 by_cases hlt : i < xs.length
 ·have hc := ref_less_ev (xs[i]).f0 x.f0 (by have := (hr _ (List.getElem_mem hlt)).1; omega)
  refine Ev.step (f := fun k => (hypercuberef2_Less.f k (xs[i]).f0 x.f0).bind fun t => hypercuberef2_Put.j2 k xs (i : Int) (t == 0) x.f0 x.f1 x.f2 x.f3 x.f4) (fun k => ?_) (Ev.bind hc ?_)
  ·simp only [hypercuberef2_Put.j1]
   rw [if_pos (by omega), if_pos (by omega), rdC_get hlt]
  ·rw [hput, dif_pos hlt]
   by_cases c : lexC (xs[i]).f0 x.f0 = 0
   ·rw [if_pos c, show (lexC (xs[i]).f0 x.f0 == 0) = true by simp [c]]
    have hj := ref_join_ev hn (hr _ (List.getElem_mem hlt)) hx
    refine Ev.step (f := fun k => (hypercuberef2_Join.f k (xs[i]).f0 (xs[i]).f1 (xs[i]).f2 (xs[i]).f3 (xs[i]).f4 x.f0 x.f1 x.f2 x.f3 x.f4).bind fun bt => some (xs.set i (⟨bt.1, bt.2.1, bt.2.2.1, bt.2.2.2.1, bt.2.2.2.2⟩ : S41))) (fun k => ?_) (Ev.bind hj (Ev.now _))
    simp only [hypercuberef2_Put.j2]
    rw [if_pos trivial, Option.bind_some, if_pos (by simp; omega), Option.bind_some, if_pos (by omega), if_pos (by omega), rdC_get hlt, List.nil_append]
    congr 1
    funext bt
    rw [if_pos (by omega), Int.toNat_natCast]
   ·rw [if_neg c, show (lexC (xs[i]).f0 x.f0 == 0) = false by simp [c]]
    exact hins
 ·rw [hput, dif_neg hlt]
  refine Ev.step (fun k => ?_) hins
  simp only [hypercuberef2_Put.j1]
  rw [if_neg (by omega)]
theorem ref_put_l0 {n : Nat} (hn : n ≤ 100) {xs : List S41} {x : S41} (hl : xs.length ≤ 1000000) (hr : RegL n xs) (hx : RegC n x) (d : Nat) : ∀ i : Nat, xs.length - i = d → i ≤ xs.length → (∀ m (h : m < xs.length), m < i → lexC (xs[m]).f0 x.f0 < 0) →
  Ev (fun k => hypercuberef2_Put.l0 k xs (i : Int) x.f0 x.f1 x.f2 x.f3 x.f4) (putL x xs) := by
 induction d with
 | zero =>
  intro i hd hi h1
  refine Ev.step (fun k => ?_) (ref_put_end hn hl hr hx i hi h1 (fun h => by omega))
  simp only [hypercuberef2_Put.l0]
  rw [if_neg (by omega)]
 | succ d ih =>
  intro i hd hi h1
  have hlt : i < xs.length := by omega
  have hc := ref_less_ev (xs[i]).f0 x.f0 (by have := (hr _ (List.getElem_mem hlt)).1; omega)
  refine Ev.step (f := fun k => (hypercuberef2_Less.f k (xs[i]).f0 x.f0).bind fun t => if t < 0 then hypercuberef2_Put.l0 k xs ((i + 1 : Nat) : Int) x.f0 x.f1 x.f2 x.f3 x.f4 else hypercuberef2_Put.j1 k xs (i : Int) x.f0 x.f1 x.f2 x.f3 x.f4) (fun k => ?_) (Ev.bind hc ?_)
  ·simp only [hypercuberef2_Put.l0]
   rw [if_pos (by omega), if_pos (by omega), rdC_get hlt, w64s hlt (by omega)]
  ·by_cases c : lexC (xs[i]).f0 x.f0 < 0
   ·refine Ev.congr (fun k => by rw [if_pos c]) (ih (i + 1) (by omega) (by omega) (fun m h hm => ?_))
    by_cases e : m = i
    ·subst e; exact c
    ·exact h1 m h (by omega)
   ·exact Ev.congr (fun k => by rw [if_neg c]) (ref_put_end hn hl hr hx i hi h1 (fun _ => by omega))
theorem ref_put_ev {n : Nat} (hn : n ≤ 100) {xs : List S41} {x : S41} (hl : xs.length ≤ 1000000) (hr : RegL n xs) (hx : RegC n x) : Ev (fun k => hypercuberef2_Put.f k xs x.f0 x.f1 x.f2 x.f3 x.f4) (putL x xs) :=
 Ev.congr (fun k => by unfold hypercuberef2_Put.f; rfl) (ref_put_l0 hn hl hr hx xs.length 0 (by omega) (by omega) (fun m h hm => by omega))
theorem equal_true {c : S41} (ha : SmallC c) : Ev (fun k => hypercuberef2_Equal.f k c.f0 c.f1 c.f2 c.f3 c.f4 c.f0 c.f1 c.f2 c.f3 c.f4) true := by
 obtain ⟨h0, h2, h3, h4⟩ := ha
 have e : ∀ l : List Int, l.length ≤ 100000 → Ev (fun k => hypercuberef1_Ints.f k l l) true := fun l hl => by
  have := ints_ev l l (by omega)
  rw [decide_eq_true rfl] at this
  exact this
 refine Ev.congr (fun k => by unfold hypercuberef2_Equal.f; rw [if_pos rfl]) ?_
 refine Ev.bind (e _ h0) (Ev.congr (fun k => by rw [if_pos rfl]) ?_)
 refine Ev.bind (e _ h2) (Ev.congr (fun k => by rw [if_pos rfl]) ?_)
 refine Ev.bind (e _ h3) (Ev.congr (fun k => by rw [if_pos rfl]) ?_)
 exact Ev.bind (e _ h4) (Ev.now _)
theorem same_l0 (l : List S41) (hl : l.length ≤ 1000000) (hs : ∀ c ∈ l, SmallC c) (d : Nat) : ∀ i : Nat, l.length - i = d → i ≤ l.length → Ev (fun k => hypercuberef2_Same.l0 k l l (i : Int)) true := by
 induction d with
 | zero =>
  intro i hd hi
  exact Ev.step (f := fun _ => some true) (fun k => by simp only [hypercuberef2_Same.l0]; rw [if_neg (by omega)]) (Ev.now _)
 | succ d ih =>
  intro i hd hi
  have hlt : i < l.length := by omega
  refine Ev.step (f := fun k => (hypercuberef2_Equal.f k (l[i]).f0 (l[i]).f1 (l[i]).f2 (l[i]).f3 (l[i]).f4 (l[i]).f0 (l[i]).f1 (l[i]).f2 (l[i]).f3 (l[i]).f4).bind fun t => if t = true then hypercuberef2_Same.l0 k l l ((i + 1 : Nat) : Int) else some false) (fun k => ?_) (Ev.bind (equal_true (hs _ (List.getElem_mem hlt))) ?_)
  ·simp only [hypercuberef2_Same.l0]
   rw [if_pos (by omega), if_pos (by omega), if_pos (by omega), rdC_get hlt, w64s hlt (by omega)]
  ·exact Ev.congr (fun k => by rw [if_pos rfl]) (ih (i + 1) (by omega) (by omega))
theorem same_true {l l' : List S41} (h : l = l') (hl : l.length ≤ 1000000) (hs : ∀ c ∈ l, SmallC c) : Ev (fun k => hypercuberef2_Same.f k l l') true := by
 subst h
 exact Ev.congr (fun k => by unfold hypercuberef2_Same.f; rw [if_pos rfl]; rfl) (same_l0 l hl hs l.length 0 (by omega) (by omega))
theorem within_eq (a n : Int) (h0 : 0 < n) (h1 : n ≤ 4611686018427387904) : hypercubelaw1_within.f a n = some (a % n) := by
 unfold hypercubelaw1_within.f
 rw [if_neg (by omega)]
 have hb := Int.emod_nonneg a (show n ≠ 0 by omega)
 have hl := Int.emod_lt_of_pos a h0
 by_cases ha : 0 ≤ a
 ·rw [Int.tmod_eq_emod_of_nonneg ha, if_neg (by omega)]
 ·have ht : Int.tmod a n = if a % n = 0 then 0 else a % n - n := by
   rw [Int.tmod_eq_emod]
   split
   ·rename_i h
    rcases h with h | h
    ·omega
    ·rw [Int.emod_eq_zero_of_dvd h]; simp
   ·rename_i h
    have : a % n ≠ 0 := fun e => h (.inr (Int.dvd_of_emod_eq_zero e))
    rw [if_neg this, Int.natAbs_of_nonneg (by omega)]
  by_cases hz : a % n = 0
  ·rw [ht, if_pos hz, if_neg (by omega), hz]
  ·rw [ht, if_neg hz, if_pos (by omega)]
   congr 1
   rw [w64 (by omega) (by omega)]
   omega
def checkP (cards : List Int) (meas : Int) : Bool := decide (1 ≤ cards.length) && decide (cards.length ≤ 4) && (cards.all fun x => decide (1 ≤ x) && decide (x ≤ 16)) && decide (0 ≤ meas) && decide (meas ≤ 2)
def rightP (cards : List Int) (meas : Int) (x : S45) : Bool := decide (x.f0.length = cards.length) && decide ((x.f1.length : Int) = meas) && (List.range x.f0.length).all fun i => decide (0 ≤ rd x.f0 i) && decide (rd x.f0 i < rd cards i)
theorem check_open {cards : List Int} {meas : Int} (h : checkP cards meas = true) : 1 ≤ cards.length ∧ cards.length ≤ 4 ∧ (∀ x ∈ cards, 1 ≤ x ∧ x ≤ 16) ∧ 0 ≤ meas ∧ meas ≤ 2 := by
 unfold checkP at h
 simp only [Bool.and_eq_true, decide_eq_true_eq, List.all_eq_true] at h
 exact ⟨h.1.1.1.1, h.1.1.1.2, fun x hx => h.1.1.2 x hx, h.1.2, h.2⟩
theorem check_mk {cards : List Int} {meas : Int} (h1 : 1 ≤ cards.length) (h2 : cards.length ≤ 4) (h3 : ∀ x ∈ cards, 1 ≤ x ∧ x ≤ 16) (h4 : 0 ≤ meas) (h5 : meas ≤ 2) : checkP cards meas = true := by
 unfold checkP
 simp only [Bool.and_eq_true, decide_eq_true_eq, List.all_eq_true]
 exact ⟨⟨⟨⟨h1, h2⟩, h3⟩, h4⟩, h5⟩
theorem right_open {cards : List Int} {meas : Int} {x : S45} (h : rightP cards meas x = true) : x.f0.length = cards.length ∧ (x.f1.length : Int) = meas ∧ ∀ i : Nat, i < x.f0.length → 0 ≤ rd x.f0 i ∧ rd x.f0 i < rd cards i := by
 unfold rightP at h
 simp only [Bool.and_eq_true, decide_eq_true_eq, List.all_eq_true, List.mem_range] at h
 exact ⟨h.1.1, h.1.2, fun i hi => h.2 i hi⟩
theorem right_mk {cards : List Int} {meas : Int} {x : S45} (h1 : x.f0.length = cards.length) (h2 : (x.f1.length : Int) = meas) (h3 : ∀ i : Nat, i < x.f0.length → 0 ≤ rd x.f0 i ∧ rd x.f0 i < rd cards i) : rightP cards meas x = true := by
 unfold rightP
 simp only [Bool.and_eq_true, decide_eq_true_eq, List.all_eq_true, List.mem_range]
 exact ⟨⟨h1, h2⟩, fun i hi => h3 i hi⟩
abbrev FR := List Int × Int × List S45
def RowOk (cards : List Int) (meas : Int) (x : S45) : Prop := rightP cards meas x = true ∧ ∀ y ∈ x.f1, -100 ≤ y ∧ y ≤ 100
theorem facts_l3 (x3 : List Int) (rows : List S45) (i : Nat) (hi : i < 1000) (kk : Int) (cards : List Int) (meas : Int) (hm0 : 0 ≤ meas) (hm : meas ≤ 2) (hrl : rows.length ≤ 1000) (key : List Int) {Q : FR → Prop}
  (H : ∀ ms : List Int, (ms.length : Int) = meas → (∀ y ∈ ms, -100 ≤ y ∧ y ≤ 100) → ∃ p, Ev (fun k => hypercubelaw1_Facts.l1 k x3 (rows ++ [⟨key, ms⟩]) ((i + 1 : Nat) : Int) cards meas) p ∧ Q p) (d : Nat) :
  ∀ (j : Nat) (ms : List Int), (meas.toNat - j) = d → (j : Int) ≤ meas → ms.length = j → (∀ y ∈ ms, -100 ≤ y ∧ y ≤ 100) → ∃ p, Ev (fun k => hypercubelaw1_Facts.l3 k x3 rows (i : Int) kk (j : Int) cards meas key ms) p ∧ Q p := by
 induction d with
 | zero =>
  intro j ms hd hj hl hb
  obtain ⟨p, h1, h2⟩ := H ms (by omega) hb
  exact ⟨p, Ev.step (fun k => by simp only [hypercubelaw1_Facts.l3]; rw [if_neg (by omega), if_pos (by omega), w64s hi (by omega)]) h1, h2⟩
 | succ d ih =>
  intro j ms hd hj hl hb
  have hw := within_eq (wrap64 (kk + (wrap64 (7 * (j : Int))))) 201 (by omega) (by omega)
  have b0 := Int.emod_nonneg (wrap64 (kk + (wrap64 (7 * (j : Int))))) (show (201 : Int) ≠ 0 by omega)
  have b1 := Int.emod_lt_of_pos (wrap64 (kk + (wrap64 (7 * (j : Int))))) (show (0 : Int) < 201 by omega)
  generalize (wrap64 (kk + (wrap64 (7 * (j : Int))))) % 201 = q at hw b0 b1
  obtain ⟨p, h1, h2⟩ := ih (j + 1) (ms ++ [wrap64 (q - 100)]) (by omega) (by omega) (by simp; omega) (fun y hy => by
   rcases List.mem_append.1 hy with hy | hy
   ·exact hb y hy
   ·rw [List.mem_singleton.1 hy, w64 (by omega) (by omega)]; omega)
  refine ⟨p, Ev.step (fun k => by simp only [hypercubelaw1_Facts.l3]; rw [if_pos (by omega), hw]; simp only [Option.bind_some]; rw [if_pos (by omega), w64s (show j < 1000 by omega) (by omega)]) h1, h2⟩
theorem facts_l2 (x3 : List Int) (rows : List S45) (i : Nat) (hi : i < 1000) (cards : List Int) (meas : Int) (hc : checkP cards meas = true) (hrl : rows.length ≤ 1000) {Q : FR → Prop}
  (H : ∀ x, RowOk cards meas x → ∃ p, Ev (fun k => hypercubelaw1_Facts.l1 k x3 (rows ++ [x]) ((i + 1 : Nat) : Int) cards meas) p ∧ Q p) (d : Nat) :
  ∀ (j : Nat) (kk : Int) (key : List Int), cards.length - j = d → j ≤ cards.length → key.length = j → (∀ a : Nat, a < key.length → 0 ≤ rd key a ∧ rd key a < rd cards a) →
   ∃ p, Ev (fun k => hypercubelaw1_Facts.l2 k x3 rows (i : Int) kk (j : Int) cards meas key) p ∧ Q p := by
 obtain ⟨h1, h2, h3, h4, h5⟩ := check_open hc
 induction d with
 | zero =>
  intro j kk key hd hj hl hb
  have := facts_l3 x3 rows i hi kk cards meas h4 h5 hrl key (fun ms hml hmb => H ⟨key, ms⟩ ⟨right_mk (by show key.length = _; omega) hml hb, hmb⟩) meas.toNat 0 [] (by omega) (by omega) rfl (by simp)
  obtain ⟨p, e1, e2⟩ := this
  exact ⟨p, Ev.step (fun k => by simp only [hypercubelaw1_Facts.l2]; rw [if_neg (by omega)]; rfl) e1, e2⟩
 | succ d ih =>
  intro j kk key hd hj hl hb
  have hja : j < cards.length := by omega
  have hcd := h3 cards[j] (List.getElem_mem hja)
  have hw := within_eq kk cards[j] (by omega) (by omega)
  have b0 := Int.emod_nonneg kk (show cards[j] ≠ 0 by omega)
  have b1 := Int.emod_lt_of_pos kk (show (0 : Int) < cards[j] by omega)
  generalize kk % cards[j] = q at hw b0 b1
  obtain ⟨p, e1, e2⟩ := ih (j + 1) (wrap64 (Int.tdiv kk 5)) (key ++ [q]) (by omega) (by omega) (by simp; omega) (fun a ha => by
   by_cases hak : a < key.length
   ·have hb1 := hb a hak
    have : rd (key ++ [q]) (a : Int) = rd key (a : Int) := by rw [rd_get ha, rd_get hak, List.getElem_append_left hak]
    rw [this]; exact hb1
   ·have hae : a = key.length := by simp at ha; omega
    subst hae
    have : rd (key ++ [q]) (key.length : Int) = q := by rw [rd_get ha]; simp
    rw [this, hl, rd_get hja]; exact ⟨b0, b1⟩)
  refine ⟨p, Ev.step (fun k => by simp only [hypercubelaw1_Facts.l2]; rw [if_pos (by omega), if_pos (by omega), rd_get hja, hw]; simp only [Option.bind_some]; rw [if_pos (by omega), w64s hja (by omega)]) e1, e2⟩
theorem facts_l1 (x3 : List Int) (cards : List Int) (meas : Int) (hc : checkP cards meas = true) (d : Nat) : ∀ (i : Nat) (rows : List S45), (min x3.length 40) - i = d → i ≤ min x3.length 40 → rows.length = i → (∀ x ∈ rows, RowOk cards meas x) →
  ∃ p, Ev (fun k => hypercubelaw1_Facts.l1 k x3 rows (i : Int) cards meas) p ∧ (p.1 = cards ∧ p.2.1 = meas ∧ p.2.2.length = min x3.length 40 ∧ ∀ x ∈ p.2.2, RowOk cards meas x) := by
 induction d with
 | zero =>
  intro i rows hd hi hl hr
  have fin : Ev (fun k => hypercubelaw1_Facts.j3 k x3 rows (i : Int) false cards meas) (cards, meas, rows) := Ev.step (fun k => by simp only [hypercubelaw1_Facts.j3]; rw [if_neg (by simp)]) (Ev.now _)
  refine ⟨(cards, meas, rows), ?_, rfl, rfl, by show rows.length = _; omega, hr⟩
  by_cases h : (i : Int) < x3.length
  ·have : decide ((i : Int) < 40) = false := decide_eq_false (by omega)
   exact Ev.step (fun k => by simp only [hypercubelaw1_Facts.l1]; rw [if_pos h, this]) fin
  ·exact Ev.step (fun k => by simp only [hypercubelaw1_Facts.l1]; rw [if_neg h]) fin
 | succ d ih =>
  intro i rows hd hi hl hr
  have hia : i < x3.length := by omega
  have hdec : decide ((i : Int) < 40) = true := decide_eq_true (by omega)
  obtain ⟨p, e1, e2⟩ := facts_l2 x3 rows i (by omega) cards meas hc (by omega) (fun x hx => ih (i + 1) (rows ++ [x]) (by omega) (by omega) (by simp; omega) (fun y hy => by
   rcases List.mem_append.1 hy with hy | hy
   ·exact hr y hy
   ·rw [List.mem_singleton.1 hy]; exact hx)) cards.length 0 (rd x3 i) [] (by omega) (by omega) rfl (fun a ha => by simp at ha)
  refine ⟨p, ?_, e2⟩
  refine Ev.step (fun k => by simp only [hypercubelaw1_Facts.l1]; rw [if_pos (by omega), hdec]) ?_
  exact Ev.step (fun k => by simp only [hypercubelaw1_Facts.j3]; rw [if_pos trivial, if_pos (by omega), if_pos (by omega)]; rfl) e1
theorem facts_l0 (x0 : Int) (x1 x3 : List Int) (meas : Int) (hm0 : 0 ≤ meas) (hm : meas ≤ 2) (d : Nat) : ∀ (i : Nat) (cards : List Int), (x0 % 4 + 1).toNat - i = d → (i : Int) ≤ x0 % 4 + 1 → cards.length = i → (∀ x ∈ cards, 1 ≤ x ∧ x ≤ 5) →
  ∃ p, Ev (fun k => hypercubelaw1_Facts.l0 k x0 x1 x3 (i : Int) cards meas) p ∧ (checkP p.1 p.2.1 = true ∧ p.2.1 = meas ∧ (p.1.length : Int) = x0 % 4 + 1 ∧ p.2.2.length = min x3.length 40 ∧ ∀ x ∈ p.2.2, RowOk p.1 p.2.1 x) := by
 have b0 := Int.emod_nonneg x0 (show (4 : Int) ≠ 0 by omega)
 have b1 := Int.emod_lt_of_pos x0 (show (0 : Int) < 4 by omega)
 have hw4 := within_eq x0 4 (by omega) (by omega)
 have hw7 := within_eq x0 7 (by omega) (by omega)
 induction d with
 | zero =>
  intro i cards hd hi hl hc
  have go : ∀ cs : List Int, cs.length = cards.length → (∀ x ∈ cs, 1 ≤ x ∧ x ≤ 16) → ∃ p, Ev (fun k => hypercubelaw1_Facts.j1 k x3 cs meas) p ∧ (checkP p.1 p.2.1 = true ∧ p.2.1 = meas ∧ (p.1.length : Int) = x0 % 4 + 1 ∧ p.2.2.length = min x3.length 40 ∧ ∀ x ∈ p.2.2, RowOk p.1 p.2.1 x) := by
   intro cs h1 h2
   have hck : checkP cs meas = true := check_mk (by omega) (by omega) h2 hm0 hm
   obtain ⟨p, e1, e2, e3, e4, e5⟩ := facts_l1 x3 cs meas hck (min x3.length 40) 0 [] (by omega) (by omega) rfl (by simp)
   refine ⟨p, Ev.step (fun k => by simp only [hypercubelaw1_Facts.j1]; rfl) e1, ?_, e3, ?_, e4, ?_⟩
   ·rw [e2, e3]; exact hck
   ·rw [e2]; omega
   ·rw [e2, e3]; exact e5
  by_cases h7 : x0 % 7 = 0
  ·obtain ⟨p, e1, e2⟩ := go (cards.set (0 : Int).toNat 16) (by simp) (fun x hx => by
    rcases List.mem_or_eq_of_mem_set hx with hx | rfl
    ·have := hc x hx; omega
    ·omega)
   refine ⟨p, ?_, e2⟩
   exact Ev.step (fun k => by simp only [hypercubelaw1_Facts.l0]; rw [hw4]; simp only [Option.bind_some]; rw [if_neg (by omega), hw7]; simp only [Option.bind_some]; rw [if_pos h7, if_pos (by omega)]) e1
  ·obtain ⟨p, e1, e2⟩ := go cards rfl (fun x hx => by have := hc x hx; omega)
   refine ⟨p, ?_, e2⟩
   exact Ev.step (fun k => by simp only [hypercubelaw1_Facts.l0]; rw [hw4]; simp only [Option.bind_some]; rw [if_neg (by omega), hw7]; simp only [Option.bind_some]; rw [if_neg h7]) e1
 | succ d ih =>
  intro i cards hd hi hl hc
  have next : ∀ q : Int, 0 ≤ q → q < 5 → ∃ p, Ev (fun k => hypercubelaw1_Facts.l0 k x0 x1 x3 ((i + 1 : Nat) : Int) (cards ++ [wrap64 (1 + q)]) meas) p ∧ (checkP p.1 p.2.1 = true ∧ p.2.1 = meas ∧ (p.1.length : Int) = x0 % 4 + 1 ∧ p.2.2.length = min x3.length 40 ∧ ∀ x ∈ p.2.2, RowOk p.1 p.2.1 x) := by
   intro q q0 q1
   refine ih (i + 1) (cards ++ [wrap64 (1 + q)]) (by omega) (by omega) (by simp; omega) (fun x hx => ?_)
   rcases List.mem_append.1 hx with hx | hx
   ·exact hc x hx
   ·rw [List.mem_singleton.1 hx, w64 (by omega) (by omega)]; omega
  by_cases h1 : (i : Int) < x1.length
  ·have hw := within_eq (rd x1 (i : Int)) 5 (by omega) (by omega)
   obtain ⟨p, e1, e2⟩ := next (rd x1 (i : Int) % 5) (by omega) (by omega)
   refine ⟨p, ?_, e2⟩
   exact Ev.step (fun k => by simp only [hypercubelaw1_Facts.l0]; rw [hw4]; simp only [Option.bind_some]; rw [if_pos (by omega), if_pos h1, if_pos (by omega), hw]; simp only [Option.bind_some]; rw [if_pos (by omega), w64s (show i < 1000 by omega) (by omega)]) e1
  ·have hw := within_eq (wrap64 ((i : Int) + 2)) 5 (by omega) (by omega)
   obtain ⟨p, e1, e2⟩ := next (wrap64 ((i : Int) + 2) % 5) (by omega) (by omega)
   refine ⟨p, ?_, e2⟩
   exact Ev.step (fun k => by simp only [hypercubelaw1_Facts.l0]; rw [hw4]; simp only [Option.bind_some]; rw [if_pos (by omega), if_neg h1, hw]; simp only [Option.bind_some]; rw [if_pos (by omega), w64s (show i < 1000 by omega) (by omega)]) e1
theorem facts_ev (a0 : Int) (l1 : List Int) (a2 : Int) (l3 : List Int) : ∃ cards meas rows, Ev (fun k => hypercubelaw1_Facts.f k a0 l1 a2 l3) (cards, meas, rows) ∧ checkP cards meas = true ∧ meas = a2 % 3 ∧ (cards.length : Int) = a0 % 4 + 1 ∧ rows.length = min l3.length 40 ∧ ∀ x ∈ rows, RowOk cards meas x := by
 have hw := within_eq a2 3 (by omega) (by omega)
 obtain ⟨⟨cards, meas, rows⟩, e1, e2, e3, e4, e5, e6⟩ := facts_l0 a0 l1 l3 (a2 % 3) (by omega) (by omega) (a0 % 4 + 1).toNat 0 [] (by omega) (by omega) rfl (by simp)
 refine ⟨cards, meas, rows, ?_, e2, e3, e4, e5, e6⟩
 exact Ev.congr (fun k => by unfold hypercubelaw1_Facts.f; rw [hw]; rfl) e1
theorem set_eq {cards : List Int} {meas : Int} (hc : checkP cards meas = true) (a : Int) : ∃ s, hypercubelaw2_Set.f cards meas a = some s ∧ 0 ≤ s ∧ s < 16 := by
 obtain ⟨h1, h2, _⟩ := check_open hc
 have go : ∀ n : Int, 0 < n → n ≤ 16 → ∃ s, ((hypercubelaw2_within.f a n).bind fun t => some t) = some s ∧ 0 ≤ s ∧ s < 16 := fun n h0 h16 => by
  rw [within2_eq a n h0 (by omega)]
  have := Int.emod_nonneg a (show n ≠ 0 by omega)
  have := Int.emod_lt_of_pos a h0
  exact ⟨a % n, rfl, by omega, by omega⟩
 unfold hypercubelaw2_Set.f
 have hl : cards.length = 1 ∨ cards.length = 2 ∨ cards.length = 3 ∨ cards.length = 4 := by omega
 rcases hl with h | h | h | h
 ·rw [h, if_pos (by decide), show shl .i64 1 (IntKind.u64.wrap ((1 : Nat) : Int)) = 2 by decide]; exact go 2 (by omega) (by omega)
 ·rw [h, if_pos (by decide), show shl .i64 1 (IntKind.u64.wrap ((2 : Nat) : Int)) = 4 by decide]; exact go 4 (by omega) (by omega)
 ·rw [h, if_pos (by decide), show shl .i64 1 (IntKind.u64.wrap ((3 : Nat) : Int)) = 8 by decide]; exact go 8 (by omega) (by omega)
 ·rw [h, if_pos (by decide), show shl .i64 1 (IntKind.u64.wrap ((4 : Nat) : Int)) = 16 by decide]; exact go 16 (by omega) (by omega)
def bitR (s : Int) (i : Nat) : Bool := decide (Go.bits .and .i64 (shr .i64 s (IntKind.u64.wrap (i : Int))) 1 = 1)
def keysR (s : Int) : Nat → List Int → List Int
 | _, [] => []
 | i, x :: xs => if bitR s i = true then x :: keysR s (i + 1) xs else keysR s (i + 1) xs
theorem keysR_length (s : Int) : ∀ (i : Nat) (l : List Int), (keysR s i l).length ≤ l.length
 | _, [] => by simp [keysR]
 | i, x :: xs => by
  have := keysR_length s (i + 1) xs
  unfold keysR
  split <;> simp <;> omega
def ofR (s : Int) (r : S45) : S41 := ⟨keysR s 0 r.f0, 1, r.f1, r.f1, r.f1⟩
def RegR (n : Nat) (r : S45) : Prop := r.f0.length ≤ 4 ∧ r.f1.length = n
theorem u64_nat (i : Nat) (h : i ≤ 1000) : 0 ≤ IntKind.u64.wrap (i : Int) := by
 have e : IntKind.u64.wrap (i : Int) = (i : Int) % 18446744073709551616 := rfl
 rw [e]; omega
theorem of_l0 (s : Int) (f0 f1 : List Int) (h0 : f0.length ≤ 4) (h1 : f1.length ≤ 100) (d : Nat) : ∀ (i : Nat) (acc : List Int), f0.length - i = d → i ≤ f0.length → acc.length ≤ i →
  Ev (fun k => hypercuberef2_Of.l0 k s (i : Int) f0 f1 acc 1) (acc ++ keysR s i (f0.drop i), 1, f1, f1, f1) := by
 induction d with
 | zero =>
  intro i acc hd hi ha
  have e : f0.drop i = [] := List.drop_eq_nil_of_le (by omega)
  rw [e]
  refine Ev.step (f := fun _ => some (acc, 1, f1, f1, f1)) (fun k => ?_) (by simp only [keysR, List.append_nil]; exact Ev.now _)
  simp only [hypercuberef2_Of.l0]
  rw [if_neg (by omega), Option.bind_some, if_pos (by simp; omega), Option.bind_some, if_pos (by simp; omega), Option.bind_some, if_pos (by simp; omega)]
  rfl
 | succ d ih =>
  intro i acc hd hi ha
  have hlt : i < f0.length := by omega
  rw [drop_cons hlt]
  unfold keysR
  by_cases hb : bitR s i = true
  ·have hb' : Go.bits .and .i64 (shr .i64 s (IntKind.u64.wrap (i : Int))) 1 = 1 := by unfold bitR at hb; simpa using hb
   have h := ih (i + 1) (acc ++ [f0[i]]) (by omega) (by omega) (by simp; omega)
   rw [List.append_assoc, List.singleton_append] at h
   rw [if_pos hb]
   exact Ev.step (fun k => by simp only [hypercuberef2_Of.l0]; rw [if_pos (by omega), if_pos (u64_nat i (by omega)), if_pos hb', if_pos (by omega), if_pos (by omega), rd_get hlt, w64s hlt (by omega)]) h
  ·have hb' : ¬ Go.bits .and .i64 (shr .i64 s (IntKind.u64.wrap (i : Int))) 1 = 1 := by unfold bitR at hb; simpa using hb
   have h := ih (i + 1) acc (by omega) (by omega) (by omega)
   rw [if_neg hb]
   exact Ev.step (fun k => by simp only [hypercuberef2_Of.l0]; rw [if_pos (by omega), if_pos (u64_nat i (by omega)), if_neg hb', w64s hlt (by omega)]) h
theorem of_ev {n : Nat} (hn : n ≤ 100) {r : S45} (hr : RegR n r) (s : Int) : Ev (fun k => hypercuberef2_Of.f k r.f0 r.f1 s) (tupC (ofR s r)) := by
 have h := of_l0 s r.f0 r.f1 hr.1 (by rw [hr.2]; exact hn) r.f0.length 0 [] (by omega) (by omega) (by simp)
 simp only [List.drop_zero, List.nil_append] at h
 exact Ev.congr (fun k => by unfold hypercuberef2_Of.f; rfl) h
theorem ofR_reg {n : Nat} {r : S45} (hr : RegR n r) (s : Int) : RegC n (ofR s r) := ⟨Nat.le_trans (keysR_length _ _ _) hr.1, hr.2, hr.2, hr.2⟩
def makeL (s : Int) (rows : List S45) : List S41 := rows.map (ofR s)
theorem makeL_reg {n : Nat} {rows : List S45} (hr : ∀ r ∈ rows, RegR n r) (s : Int) : RegL n (makeL s rows) := fun c hc => by
 obtain ⟨r, h, rfl⟩ := List.mem_map.1 hc
 exact ofR_reg (hr r h) s
theorem makeL_length (s : Int) (rows : List S45) : (makeL s rows).length = rows.length := by simp [makeL]
theorem rdR_get {l : List S45} {i : Nat} (h : i < l.length) : rd_T45 l (i : Int) = l[i] := by simp [rd_T45, List.getD_eq_getElem?_getD, h]
theorem make_l0 {n : Nat} (hn : n ≤ 100) (s : Int) (rows : List S45) (hl : rows.length ≤ 1000000) (hr : ∀ r ∈ rows, RegR n r) (d : Nat) : ∀ (i : Nat) (acc : List S41), rows.length - i = d → i ≤ rows.length → acc.length ≤ i →
  Ev (fun k => hypercubelaw2_Make.l0 k rows s acc (i : Int)) (acc ++ makeL s (rows.drop i)) := by
 induction d with
 | zero =>
  intro i acc hd hi ha
  have e : rows.drop i = [] := List.drop_eq_nil_of_le (by omega)
  rw [e]
  refine Ev.step (f := fun _ => some acc) (fun k => ?_) (by simp only [makeL, List.map_nil, List.append_nil]; exact Ev.now _)
  simp only [hypercubelaw2_Make.l0]
  rw [if_neg (by omega)]
 | succ d ih =>
  intro i acc hd hi ha
  have hlt : i < rows.length := by omega
  have h := ih (i + 1) (acc ++ [ofR s rows[i]]) (by omega) (by omega) (by simp; omega)
  rw [List.append_assoc, List.singleton_append] at h
  rw [drop_cons hlt]
  refine Ev.step (f := fun k => (hypercuberef2_Of.f k (rows[i]).f0 (rows[i]).f1 s).bind fun bt => hypercubelaw2_Make.l0 k rows s (acc ++ [(⟨bt.1, bt.2.1, bt.2.2.1, bt.2.2.2.1, bt.2.2.2.2⟩ : S41)]) ((i + 1 : Nat) : Int)) (fun k => ?_) (Ev.bind (of_ev hn (hr _ (List.getElem_mem hlt)) s) h)
  simp only [hypercubelaw2_Make.l0]
  rw [if_pos (by omega), if_pos (by omega), rdR_get hlt, w64s hlt (by omega)]
  congr 1
  funext bt
  rw [if_pos (by omega)]
theorem make_ev {n : Nat} (hn : n ≤ 100) (s : Int) (rows : List S45) (hl : rows.length ≤ 1000000) (hr : ∀ r ∈ rows, RegR n r) : Ev (fun k => hypercubelaw2_Make.f k rows s) (makeL s rows) := by
 have h := make_l0 hn s rows hl hr rows.length 0 [] (by omega) (by omega) (by simp)
 simp only [List.drop_zero, List.nil_append] at h
 exact Ev.congr (fun k => by unfold hypercubelaw2_Make.f; rfl) h
theorem facts_set (a0 : Int) (l1 : List Int) (a2 : Int) (l3 : List Int) (a4 : Int) : ∃ cards meas rows s n, Ev (fun k => hypercubelaw1_Facts.f k a0 l1 a2 l3) (cards, meas, rows) ∧ hypercubelaw2_Set.f cards meas a4 = some s ∧ checkP cards meas = true ∧ n ≤ 100 ∧ rows.length ≤ 40 ∧ (∀ r ∈ rows, RegR n r) ∧ (0 ≤ s ∧ s < 16) ∧ (∀ r ∈ rows, RowOk cards meas r) := by
 obtain ⟨cards, meas, rows, h1, h2, h3, h4, h5, h6⟩ := facts_ev a0 l1 a2 l3
 obtain ⟨s, hs, hs0⟩ := set_eq h2 a4
 obtain ⟨c1, c2, c3, c4, c5⟩ := check_open h2
 refine ⟨cards, meas, rows, s, meas.toNat, h1, hs, h2, by omega, by omega, fun r hr => ?_, hs0, h6⟩
 obtain ⟨r1, r2, _⟩ := right_open (h6 r hr).1
 exact ⟨by omega, by omega⟩
theorem S_single {w : World} {base : Nat} {v : Value} {y : S41} (h : Kd.S k41 41 w base (fun _ => True) v [y]) : ∃ g9 c9 cur cs, v = .slice (some ⟨g9, 0, none⟩) 1 c9 ∧ base ≤ g9 ∧ 1 ≤ c9 ∧ w.heap[g9]? = some (.cells cur 41 (0, 0)) ∧ cur.toList.take 5 = cs ∧ k41.M w base (fun _ => True) y cs := by
 obtain ⟨f, h0, inner, hown, hr⟩ := h
 have hz : [y].zipIdx = [(y, 0)] := rfl
 rw [hz] at hown hr
 obtain ⟨hil, hown⟩ := hown
 rcases hown with ⟨_, h1⟩ | ⟨g, cap, cur, hv, hb, hh, hnc, hcm, hcs, ht⟩
 ·simp at h1
 ·refine ⟨g, cap, cur, inner, hv, hb, hnc, hh, ?_, ?_⟩
  ·exact ht
  ·have h2 := hr.2 0 (y, 0) rfl
   have hl : inner.length = 5 := hil
   have e : (inner.drop (0 * 5)).take 5 = inner := by rw [Nat.zero_mul, List.drop_zero]; exact List.take_of_length_le (by omega)
   exact e ▸ k41.M_mono (fun _ _ => trivial) h2
theorem C_single {w : World} {g : Nat} {x : S41} {cs : List Value} {t : Nat} (hh : w.heap[g]? = some (.cells cs.toArray t (0, 0))) (hK : k41.K w x cs) (hl : cs.length = 5) : Kd.C k41 w (some ⟨g, 0, none⟩) 1 [x] := by
 refine ⟨rfl, by show (1 : Nat) ≤ _; decide, fun _ => ⟨_, rfl, fun j p hj => ⟨cs, hl, ?_, fun q u hq => ?_⟩⟩⟩
 ·have : j = 0 := by have := (List.getElem?_eq_some_iff.1 hj).1; simp at this; exact this
  subst this
  have e : x = p := by simpa using hj
  exact e ▸ hK
 ·have : j = 0 := by have := (List.getElem?_eq_some_iff.1 hj).1; simp at this; exact this
  subst this
  rw [Addr.add_lit, cell_of_row w g _ _ _ _ hh, List.getElem?_toArray]
  simpa using hq
def runsPut.f (k : Nat) (xs : List S41) (x : S41) (most : Int) : Option (Bool × List S41) := (bsf_R1.f k xs x.f0 x.f1 x.f2 x.f3 x.f4).bind fun t =>
 if t.2 = true then (if 0 ≤ t.1 ∧ t.1 < (xs.length : Int) then ((cell_Join.f k (rd_T41 xs t.1).f0 (rd_T41 xs t.1).f1 (rd_T41 xs t.1).f2 (rd_T41 xs t.1).f3 (rd_T41 xs t.1).f4 x.f0 x.f1 x.f2 x.f3 x.f4).bind fun j => some (true, xs.set t.1.toNat ⟨j.1, j.2.1, j.2.2.1, j.2.2.2.1, j.2.2.2.2⟩)) else none)
 else (if most ≤ (xs.length : Int) then some (false, xs)
 else (cell_Group.f k [x]).bind fun g => (if 0 ≤ t.1 ∧ t.1 ≤ (xs.length : Int) ∧ (xs.length + 1) * 104 ≤ 140737488355328 ∧ g.length = 1 then some (true, xs.take t.1.toNat ++ g ++ xs.drop t.1.toNat) else none))
def runsPut.T1 : Bool × List (List Nat × List Nat) := (true, [([], []), ([0], [0]), ([1], [1]), ([2], [2]), ([], []), ([3, 4], [3, 4]), ([5], [5]), ([6], [6]), ([6], [6]), ([7, 5, 0, 1, 2, 3, 4, 5, 6, 7], [7]), ([8, 9, 0, 1, 2, 3, 4, 5, 6, 7, 8, 9], [8])])
def runsPut.B1 : List Nat := [0, 1, 3, 7, 0, 31, 63, 127, 127, 255, 1023]
theorem runsPut.tab1 : rtab .any (opsOf Try.f28 1) = runsPut.T1 := by kernel_rfl
theorem runsPut.bits1 : waitsOk runsPut.T1.2 runsPut.B1 = true := by kernel_rfl
def runsPut.T4 : Bool × List (List Nat × List Nat) := (true, [([], []), ([0], [0]), ([1], [1]), ([2], [2]), ([], []), ([], []), ([5], [5]), ([6], [6]), ([7], [7]), ([], []), ([8, 9], [8, 9]), ([10], [10]), ([], []), ([11, 12], [11, 12]), ([3, 4, 0, 1, 2, 3, 4, 5, 6, 7, 8, 9, 10, 11, 12, 13], [3, 4]), ([14, 13, 13, 0, 1, 2, 3, 4, 5, 6, 7, 8, 9, 10, 11, 12, 13], [13, 14])])
def runsPut.B4 : List Nat := [0, 1, 3, 7, 0, 0, 32, 96, 224, 0, 992, 2016, 0, 8160, 16383, 32767]
theorem runsPut.tab4 : rtab .any (opsOf Try.f28 4) = runsPut.T4 := by kernel_rfl
theorem runsPut.bits4 : waitsOk runsPut.T4.2 runsPut.B4 = true := by kernel_rfl
def runsPut.T2 : Bool × List (List Nat × List Nat) := (true, [([], []), ([], []), ([1], [1]), ([2], [2]), ([3], [3]), ([], []), ([], []), ([6], [6]), ([7], [7]), ([4, 5, 8, 8], [4, 5, 8]), ([0, 0, 1, 2, 3, 4, 5, 6, 7, 8, 9], [0]), ([10, 0, 1, 2, 3, 4, 5, 6, 7, 8, 9], [10]), ([11, 9, 9, 0, 1, 2, 3, 4, 5, 6, 7, 8, 9], [9, 11])])
def runsPut.B2 : List Nat := [0, 0, 2, 6, 14, 0, 0, 64, 192, 510, 1023, 2047, 4095]
theorem runsPut.tab2 : rtab .any (opsOf Try.f28 2) = runsPut.T2 := by kernel_rfl
theorem runsPut.bits2 : waitsOk runsPut.T2.2 runsPut.B2 = true := by kernel_rfl
set_option maxHeartbeats 8000000 in
set_option maxRecDepth 100000 in
theorem runsPut_calls (k og : Nat) (v : Value) (xs : List S41) (x : S41) (most : Int) (A0 : Option Addr) (c0 : Nat) (A2 : Option Addr) (c2 : Nat) (A3 : Option Addr) (c3 : Nat) (A4 : Option Addr) (c4 : Nat) (b : Bool) (r : List S41) (w0 w : World) (hog : w.heap[og]? = some (.cells #[v] 50 (0, 0))) (hogb : w0.heap.size ≤ og) (hB : Below w0.heap.size w0 w)
    (hS : Kd.S k41 41 w w0.heap.size (fun k => k ≠ og) v xs) (hr0 : Kd.C (Kd.int .i64) w0 A0 x.f0.length x.f0) (hc0 : x.f0.length ≤ c0) (hr2 : Kd.C (Kd.int .i64) w0 A2 x.f2.length x.f2) (hc2 : x.f2.length ≤ c2) (hr3 : Kd.C (Kd.int .i64) w0 A3 x.f3.length x.f3) (hc3 : x.f3.length ≤ c3) (hr4 : Kd.C (Kd.int .i64) w0 A4 x.f4.length x.f4) (hc4 : x.f4.length ≤ c4) (h : runsPut.f k xs x most = some (b, r)) :
    Calls Try.prog 28 #[.pointer (some ⟨og, 0, none⟩), .agg #[.slice A0 x.f0.length c0, .int .i64 x.f1, .slice A2 x.f2.length c2, .slice A3 x.f3.length c3, .slice A4 x.f4.length c4], .int .i64 most] w fun e w' => e = .returned (.bool b) ∧ ∃ v', w'.heap[og]? = some (.cells #[v'] 50 (0, 0)) ∧ Kd.S k41 41 w' w0.heap.size (fun k => k ≠ og) v' r ∧ Below w0.heap.size w0 w' ∧ (b = false → Below w.heap.size w w') := by
 have hu30 := Try.underlying41
 have hu65 := Try.underlying50
 obtain ⟨A, c, rfl⟩ := Kd.S_slice hS
 have G0 := am (And.intro hr0 hc0)
 have G2 := am (And.intro hr2 hc2)
 have G3 := am (And.intro hr3 hc3)
 have G4 := am (And.intro hr4 hc4)
 have HS := am hS
 have HB := am hB
 have BKo := am hog
 have GEo := am hogb
 clear hr0 hr2 hr3 hr4 hc0 hc2 hc3 hc4 hS hB hog hogb
 unfold runsPut.f at h
 replace h := Option.bind_eq_some_iff.mp h
 obtain ⟨⟨t1, t2⟩, A1, H⟩ := h
 have HA := am A1
 have HH := am H
 clear A1 H
 go_enter Try.func28, Try.ntmps28
 go_wp2_with (((with_reducible refine gate_dst (N := 4) rfl ?_); refine box_event ?hg (N := 4) ?hd (cs := #[.slice A0 x.f0.length c0, .int .i64 x.f1, .slice A2 x.f2.length c2, .slice A3 x.f3.length c3, .slice A4 x.f4.length c4]) (t := 41) ?hr ?_; (case hd => rfl); (case hg => rfl); (case hr => first | (go_simp; done) | (go_simp; rfl)); intro gb hg w3 hbox hb; have n0_ := am (below_step HB.out hb); have n1_ := am hbox; have n2_ := am (blk_below BKo.out hb); have n3_ := am (Kd.S_below HS.out hb); have n4_ := am (show gb ≠ og ∧ w0.heap.size ≤ gb by have := blk_lt BKo.out; have := HB.out.size; omega); have n5_ := am (Kd.S_mono (Kd.S_bound HS.out) (ok' := fun k => k ≠ og ∧ k ≠ gb) (fun k hk => ⟨hk.1, by have := hk.2.2.1; omega⟩)); have n6_ := am (Kd.S_below n5_.out hb); clear n3_ n5_; have HW := am hb; clear HB BKo HS; have HB := n0_; have BKx := n1_; have BKo := n2_; have HS := n6_; have HN := n4_; clear n0_ n1_ n2_ n4_ n6_; clear hb hbox hg))

 refine start_ (n := 11) (S := fun w' => w'.cell? ⟨og, 0, none⟩ = some (.slice A xs.length c) ∧ w'.cell? ⟨gb, 0, none⟩ = some (.slice A0 x.f0.length c0) ∧ w'.cell? ⟨gb, 1, none⟩ = some (.int .i64 x.f1) ∧ w'.cell? ⟨gb, 2, none⟩ = some (.slice A2 x.f2.length c2) ∧ w'.cell? ⟨gb, 3, none⟩ = some (.slice A3 x.f3.length c3) ∧ w'.cell? ⟨gb, 4, none⟩ = some (.slice A4 x.f4.length c4)) (ds := []) (bb 11 0) (by kernel_rfl) rfl rfl ⟨(blk_cell BKo.out 0).trans rfl, (blk_cell BKx.out 0).trans rfl, (blk_cell BKx.out 1).trans rfl, (blk_cell BKx.out 2).trans rfl, (blk_cell BKx.out 3).trans rfl, (blk_cell BKx.out 4).trans rfl⟩ (fun hHeld => ?_); refine with_tabW runsPut.tab1 runsPut.bits1 (fun HT_ HW_ => ?_)
 have n0_ := am (below_drew1 HB.out)
 have n1_ := am (blk_drew BKx.out)
 have n2_ := am (blk_drew BKo.out)
 have n3_ := am (Kd.S_drew HS.out)
 have n4_ := am (below_drew1 HW.out)
 clear HB BKx BKo HS HW
 have HB := n0_
 have BKx := n1_
 have BKo := n2_
 have HS := n3_
 have HW := n4_
 clear n0_ n1_ n2_ n3_ n4_
 generalize w3.drew = w4 at HB BKx BKo HS HW hHeld ⊢
 refine pure_ (i := 0) (N := some 10) (v := ?_) (a' := ?_) (bb 11 1) rfl rfl (any_of HT_.out (by kernel_rfl)) (fun _ _ _ h => h) (Or.inl ⟨by rfl, ?_⟩) ?_ ?_
 rotate_left
 ·intro w'
  go_simp
  with_reducible rfl
 rotate_left
 ·simp only [Act.put, List.setIfInBounds_toArray, List.set_cons_zero, List.set_cons_succ, i64_w, i32_w]
  rfl
 refine pure_ (i := 1) (N := some 11) (v := ?_) (a' := ?_) (bb 11 3) rfl rfl (any_of HT_.out (by kernel_rfl)) (fun _ _ _ h => h) (Or.inl ⟨by rfl, ?_⟩) ?_ ?_
 rotate_left
 ·intro w'
  go_simp
  with_reducible rfl
 rotate_left
 ·simp only [Act.put, List.setIfInBounds_toArray, List.set_cons_zero, List.set_cons_succ, i64_w, i32_w]
  rfl
 refine pure_ (i := 2) (N := some 12) (v := ?_) (a' := ?_) (bb 11 7) rfl rfl (any_of HT_.out (by kernel_rfl)) (fun _ _ _ h => h) (Or.inl ⟨by rfl, ?_⟩) ?_ ?_
 rotate_left
 ·intro w'
  go_simp
  with_reducible rfl
 rotate_left
 ·simp only [Act.put, List.setIfInBounds_toArray, List.set_cons_zero, List.set_cons_succ, i64_w, i32_w]
  rfl
 refine take_ (i := 3) (N := some 13) (v := ?_) (a' := ?_) (bb 11 15) rfl rfl (take_ofW HT_.out HW_.out (by kernel_rfl)) (fun _ _ _ h => h) (Or.inl ⟨by rfl, ?_⟩) hHeld ?_ ?_
 rotate_left
 ·rintro w' ⟨s0, s1, s2, s3, s4, s5⟩
  go_simp
  with_reducible rfl
 rotate_left
 ·simp only [Act.put, List.setIfInBounds_toArray, List.set_cons_zero, List.set_cons_succ, i64_w, i32_w]
  rfl
 refine take_ (i := 4) (N := some 14) (v := ?_) (a' := ?_) (bb 11 31) rfl rfl (take_ofW HT_.out HW_.out (by kernel_rfl)) (fun _ _ _ h => h) (Or.inl ⟨by rfl, ?_⟩) hHeld ?_ ?_
 rotate_left
 ·rintro w' ⟨s0, s1, s2, s3, s4, s5⟩
  go_simp
  with_reducible rfl
 rotate_left
 ·simp only [Act.put, List.setIfInBounds_toArray, List.set_cons_zero, List.set_cons_succ, i64_w, i32_w]
  rfl
 refine one_ (i := 5) (N := some 15) (bb 11 63) rfl rfl (one_of HT_.out (by kernel_rfl)) (by decide) (fun K hK => ?_)
 refine goes_ Try.func37 (by kernel_rfl) rfl #[.slice A xs.length c, .agg #[.slice A0 x.f0.length c0, .int .i64 x.f1, .slice A2 x.f2.length c2, .slice A3 x.f3.length c3, .slice A4 x.f4.length c4], .func (.func 34) #[] #[]] (by rfl) rfl rfl (by (try simp only [List.map_toArray, List.map_cons, List.map_nil]); first | done | rfl) ?_
 refine (bsf_R1.calls k A c xs A0 c0 x.f0 x.f1 A2 c2 x.f2 A3 c3 x.f3 A4 c4 x.f4 t1 t2 _ (Kd.S_reads' HS.out).2.2 (Kd.S_reads' HS.out).2.1 (Kd.C_below G0.out.1 HB.out) G0.out.2 (Kd.C_below G2.out.1 HB.out) G2.out.2 (Kd.C_below G3.out.1 HB.out) G3.out.2 (Kd.C_below G4.out.1 HB.out) G4.out.2 HA.out).mono ?_
 rintro e w5 ⟨rfl, hb⟩
 refine ⟨_, rfl, ?_⟩
 have n0_ := am (below_step HB.out hb)
 have n1_ := am (blk_below BKx.out hb)
 have n2_ := am (blk_below BKo.out hb)
 have n3_ := am (Kd.S_below HS.out hb)
 have n4_ := am (below_step HW.out hb)
 clear HB BKx BKo HS HW
 have HB := n0_
 have BKx := n1_
 have BKo := n2_
 have HS := n3_
 have HW := n4_
 clear n0_ n1_ n2_ n3_ n4_
 clear hb
 refine hK.out _ _ ⟨(blk_cell BKo.out 0).trans rfl, (blk_cell BKx.out 0).trans rfl, (blk_cell BKx.out 1).trans rfl, (blk_cell BKx.out 2).trans rfl, (blk_cell BKx.out 3).trans rfl, (blk_cell BKx.out 4).trans rfl⟩ (fun hHeld => ?_)
 clear hK K
 refine norm_ (a' := ?_) ?_ ?_
 rotate_left
 ·show Act.put _ (some 15) _ = _
  simp only [Act.put, List.setIfInBounds_toArray, List.set_cons_zero, List.set_cons_succ, i64_w, i32_w]
  rfl
 refine pure_ (i := 6) (N := some 9) (v := ?_) (a' := ?_) (bb 11 127) rfl rfl (any_of HT_.out (by kernel_rfl)) (fun _ _ _ h => h) (Or.inl ⟨by rfl, ?_⟩) ?_ ?_
 rotate_left
 ·intro w'
  go_simp
  with_reducible rfl
 rotate_left
 ·simp only [Act.put, List.setIfInBounds_toArray, List.set_cons_zero, List.set_cons_succ, i64_w, i32_w]
  rfl
 refine pure_ (i := 7) (N := some 16) (v := ?_) (a' := ?_) (bb 11 255) rfl rfl (any_of HT_.out (by kernel_rfl)) (fun _ _ _ h => h) (Or.inl ⟨by rfl, ?_⟩) ?_ ?_
 rotate_left
 ·intro w'
  go_simp
  with_reducible rfl
 rotate_left
 ·simp only [Act.put, List.setIfInBounds_toArray, List.set_cons_zero, List.set_cons_succ, i64_w, i32_w]
  rfl
 refine pure_ (i := 8) (N := some 17) (v := ?_) (a' := ?_) (bb 11 511) rfl rfl (any_of HT_.out (by kernel_rfl)) (fun _ _ _ h => h) (Or.inl ⟨by rfl, ?_⟩) ?_ ?_
 rotate_left
 ·intro w'
  go_simp
  with_reducible rfl
 rotate_left
 ·simp only [Act.put, List.setIfInBounds_toArray, List.set_cons_zero, List.set_cons_succ, i64_w, i32_w]
  rfl
 refine pure_ (i := 9) (N := some 7) (v := ?_) (a' := ?_) (bb 11 1023) rfl rfl (any_of HT_.out (by kernel_rfl)) (fun _ _ _ h => h) (Or.inl ⟨by rfl, ?_⟩) ?_ ?_
 rotate_left
 ·intro w'
  go_simp
  with_reducible rfl
 rotate_left
 ·simp only [Act.put, List.setIfInBounds_toArray, List.set_cons_zero, List.set_cons_succ, i64_w, i32_w]
  rfl
 refine pure_ (i := 10) (N := some 8) (v := ?_) (a' := ?_) (bb 11 2047) rfl rfl (any_of HT_.out (by kernel_rfl)) (fun _ _ _ h => h) (Or.inl ⟨by rfl, ?_⟩) ?_ ?_
 rotate_left
 ·intro w'
  go_simp
  with_reducible rfl
 rotate_left
 ·simp only [Act.put, List.setIfInBounds_toArray, List.set_cons_zero, List.set_cons_succ, i64_w, i32_w]
  rfl
 refine done_ (done_of HT_.out (by kernel_rfl)) ?_
 have H := HH.out
 clear HH HA
 try dsimp only at H
 cases t2 with
 | true =>
  rw [if_pos rfl] at H
  by_cases hc : 0 ≤ t1 ∧ t1 < (xs.length : Int)
  · rw [if_pos hc] at H
    replace H := Option.bind_eq_some_iff.mp H
    obtain ⟨⟨j0, j1, j2, j3, j4⟩, AJ, H⟩ := H
    have HJ := am AJ
    have HRr := am (Option.some.inj H)
    clear H AJ
    obtain ⟨hc0, hc1⟩ := hc
    obtain ⟨ad, E0, d0, E2, d2, E3, d3, E4, d4, eA, q0, q1, q2, q3, q4, l0, K0, l2, K2, l3, K3, l4, K4⟩ := at_T41 (Kd.S_reads' HS.out).2.2 t1 hc0 hc1
    cases eA
    have Q0 := am q0
    have Q1 := am q1
    have Q2 := am q2
    have Q3 := am q3
    have Q4 := am q4
    have D0 := am (And.intro l0 (Kd.C_drew K0))
    have D2 := am (And.intro l2 (Kd.C_drew K2))
    have D3 := am (And.intro l3 (Kd.C_drew K3))
    have D4 := am (And.intro l4 (Kd.C_drew K4))
    clear q0 q1 q2 q3 q4 l0 K0 l2 K2 l3 K3 l4 K4
    have HC := am (And.intro hc0 hc1)
    replace hc0 := eq_true hc0
    replace hc1 := eq_true hc1
    go_wp2
    refine start_ (n := 16) (S := fun w' => w'.cell? ⟨og, 0, none⟩ = some (.slice (some ad) xs.length c) ∧ w'.cell? ⟨gb, 0, none⟩ = some (.slice A0 x.f0.length c0) ∧ w'.cell? ⟨gb, 1, none⟩ = some (.int .i64 x.f1) ∧ w'.cell? ⟨gb, 2, none⟩ = some (.slice A2 x.f2.length c2) ∧ w'.cell? ⟨gb, 3, none⟩ = some (.slice A3 x.f3.length c3) ∧ w'.cell? ⟨gb, 4, none⟩ = some (.slice A4 x.f4.length c4) ∧ w'.cell? (ad.add (t1.toNat * 5)) = some (.slice E0 (rd_T41 xs t1).f0.length d0) ∧ w'.cell? ⟨(ad.add (t1.toNat * 5)).block, (ad.add (t1.toNat * 5)).off + 1, none⟩ = some (.int .i64 (rd_T41 xs t1).f1) ∧ w'.cell? ⟨(ad.add (t1.toNat * 5)).block, (ad.add (t1.toNat * 5)).off + 2, none⟩ = some (.slice E2 (rd_T41 xs t1).f2.length d2) ∧ w'.cell? ⟨(ad.add (t1.toNat * 5)).block, (ad.add (t1.toNat * 5)).off + 3, none⟩ = some (.slice E3 (rd_T41 xs t1).f3.length d3) ∧ w'.cell? ⟨(ad.add (t1.toNat * 5)).block, (ad.add (t1.toNat * 5)).off + 4, none⟩ = some (.slice E4 (rd_T41 xs t1).f4.length d4)) (ds := [15]) (bb 16 0) (by kernel_rfl) rfl rfl ⟨(blk_cell BKo.out 0).trans rfl, (blk_cell BKx.out 0).trans rfl, (blk_cell BKx.out 1).trans rfl, (blk_cell BKx.out 2).trans rfl, (blk_cell BKx.out 3).trans rfl, (blk_cell BKx.out 4).trans rfl, Q0.out, Q1.out, Q2.out, Q3.out, Q4.out⟩ (fun hHeld => ?_); refine with_tabW runsPut.tab4 runsPut.bits4 (fun HT_ HW_ => ?_)
    clear Q0 Q1 Q2 Q3 Q4
    have n0_ := am (below_drew1 HB.out)
    have n1_ := am (blk_drew BKx.out)
    have n2_ := am (blk_drew BKo.out)
    have n3_ := am (Kd.S_drew HS.out)
    have n4_ := am (below_drew1 HW.out)
    clear HB BKx BKo HS HW
    have HB := n0_
    have BKx := n1_
    have BKo := n2_
    have HS := n3_
    have HW := n4_
    clear n0_ n1_ n2_ n3_ n4_
    generalize w5.drew = w6 at HB BKx BKo HS HW D0 D2 D3 D4 hHeld ⊢
    refine pure_ (i := 0) (N := some 32) (v := ?_) (a' := ?_) (bb 16 1) rfl rfl (any_of HT_.out (by kernel_rfl)) (fun _ _ _ h => h) (Or.inl ⟨by rfl, ?_⟩) ?_ ?_
    rotate_left
    ·intro w'
     go_simp
     with_reducible rfl
    rotate_left
    ·simp only [Act.put, List.setIfInBounds_toArray, List.set_cons_zero, List.set_cons_succ, i64_w, i32_w]
     rfl
    refine pure_ (i := 1) (N := some 33) (v := ?_) (a' := ?_) (bb 16 3) rfl rfl (any_of HT_.out (by kernel_rfl)) (fun _ _ _ h => h) (Or.inl ⟨by rfl, ?_⟩) ?_ ?_
    rotate_left
    ·intro w'
     go_simp
     with_reducible rfl
    rotate_left
    ·simp only [Act.put, List.setIfInBounds_toArray, List.set_cons_zero, List.set_cons_succ, i64_w, i32_w]
     rfl
    refine pure_ (i := 2) (N := some 34) (v := ?_) (a' := ?_) (bb 16 7) rfl rfl (any_of HT_.out (by kernel_rfl)) (fun _ _ _ h => h) (Or.inl ⟨by rfl, ?_⟩) ?_ ?_
    rotate_left
    ·intro w'
     go_simp
     with_reducible rfl
    rotate_left
    ·simp only [Act.put, List.setIfInBounds_toArray, List.set_cons_zero, List.set_cons_succ, i64_w, i32_w]
     rfl
    refine pure_ (i := 4) (N := some 36) (v := ?_) (a' := ?_) (bb 16 23) rfl rfl (any_of HT_.out (by kernel_rfl)) (fun _ _ _ h => h) (Or.inl ⟨by rfl, ?_⟩) ?_ ?_
    rotate_left
    ·intro w'
     go_simp
     with_reducible rfl
    rotate_left
    ·simp only [Act.put, List.setIfInBounds_toArray, List.set_cons_zero, List.set_cons_succ, i64_w, i32_w]
     rfl
    refine pure_ (i := 5) (N := some 37) (v := ?_) (a' := ?_) (bb 16 55) rfl rfl (any_of HT_.out (by kernel_rfl)) (fun _ _ _ h => h) (Or.inl ⟨by rfl, ?_⟩) ?_ ?_
    rotate_left
    ·intro w'
     go_simp
     with_reducible rfl
    rotate_left
    ·simp only [Act.put, List.setIfInBounds_toArray, List.set_cons_zero, List.set_cons_succ, i64_w, i32_w]
     rfl
    refine pure_ (i := 6) (N := some 38) (v := ?_) (a' := ?_) (bb 16 119) rfl rfl (any_of HT_.out (by kernel_rfl)) (fun _ _ _ h => h) (Or.inl ⟨by rfl, ?_⟩) ?_ ?_
    rotate_left
    ·intro w'
     go_simp
     with_reducible rfl
    rotate_left
    ·simp only [Act.put, List.setIfInBounds_toArray, List.set_cons_zero, List.set_cons_succ, i64_w, i32_w]
     rfl
    refine pure_ (i := 7) (N := some 39) (v := ?_) (a' := ?_) (bb 16 247) rfl rfl (any_of HT_.out (by kernel_rfl)) (fun _ _ _ h => h) (Or.inl ⟨by rfl, ?_⟩) ?_ ?_
    rotate_left
    ·intro w'
     go_simp
     with_reducible rfl
    rotate_left
    ·simp only [Act.put, List.setIfInBounds_toArray, List.set_cons_zero, List.set_cons_succ, i64_w, i32_w]
     rfl
    refine pure_ (i := 9) (N := some 41) (v := ?_) (a' := ?_) (bb 16 759) rfl rfl (any_of HT_.out (by kernel_rfl)) (fun _ _ _ h => h) (Or.inl ⟨by rfl, ?_⟩) ?_ ?_
    rotate_left
    ·intro w'
     go_simp
     with_reducible rfl
    rotate_left
    ·simp only [Act.put, List.setIfInBounds_toArray, List.set_cons_zero, List.set_cons_succ, i64_w, i32_w]
     rfl
    refine take_ (i := 3) (N := some 35) (v := ?_) (a' := ?_) (bb 16 767) rfl rfl (take_ofW HT_.out HW_.out (by kernel_rfl)) (fun _ _ _ h => h) (Or.inl ⟨by rfl, ?_⟩) hHeld ?_ ?_
    rotate_left
    ·rintro w' ⟨s0, s1, s2, s3, s4, s5, s6, s7, s8, s9, s10⟩
     go_simp
     with_reducible rfl
    rotate_left
    ·simp only [Act.put, List.setIfInBounds_toArray, List.set_cons_zero, List.set_cons_succ, i64_w, i32_w]
     rfl
    refine take_ (i := 8) (N := some 40) (v := ?_) (a' := ?_) (bb 16 1023) rfl rfl (take_ofW HT_.out HW_.out (by kernel_rfl)) (fun _ _ _ h => h) (Or.inl ⟨by rfl, ?_⟩) hHeld ?_ ?_
    rotate_left
    ·rintro w' ⟨s0, s1, s2, s3, s4, s5, s6, s7, s8, s9, s10⟩
     go_simp
     with_reducible rfl
    rotate_left
    ·simp only [Act.put, List.setIfInBounds_toArray, List.set_cons_zero, List.set_cons_succ, i64_w, i32_w]
     rfl
    refine take_ (i := 12) (N := some 44) (v := ?_) (a' := ?_) (bb 16 5119) rfl rfl (take_ofW HT_.out HW_.out (by kernel_rfl)) (fun _ _ _ h => h) (Or.inl ⟨by rfl, ?_⟩) hHeld ?_ ?_
    rotate_left
    ·rintro w' ⟨s0, s1, s2, s3, s4, s5, s6, s7, s8, s9, s10⟩
     go_simp
     with_reducible rfl
    rotate_left
    ·simp only [Act.put, List.setIfInBounds_toArray, List.set_cons_zero, List.set_cons_succ, i64_w, i32_w]
     rfl
    refine pure_ (i := 10) (N := some 42) (v := ?_) (a' := ?_) (bb 16 6143) rfl rfl (any_of HT_.out (by kernel_rfl)) (fun _ _ _ h => h) (Or.inl ⟨by rfl, ?_⟩) ?_ ?_
    rotate_left
    ·intro w'
     go_simp
     with_reducible rfl
    rotate_left
    ·simp only [Act.put, List.setIfInBounds_toArray, List.set_cons_zero, List.set_cons_succ, i64_w, i32_w]
     rfl
    refine take_ (i := 11) (N := some 43) (v := ?_) (a' := ?_) (bb 16 8191) rfl rfl (take_ofW HT_.out HW_.out (by kernel_rfl)) (fun _ _ _ h => h) (Or.inl ⟨by rfl, ?_⟩) hHeld ?_ ?_
    rotate_left
    ·rintro w' ⟨s0, s1, s2, s3, s4, s5, s6, s7, s8, s9, s10⟩
     go_simp
     with_reducible rfl
    rotate_left
    ·simp only [Act.put, List.setIfInBounds_toArray, List.set_cons_zero, List.set_cons_succ, i64_w, i32_w]
     rfl
    refine one_ (i := 13) (N := some 45) (bb 16 16383) rfl rfl (one_of HT_.out (by kernel_rfl)) (by decide) (fun K hK => ?_)
    refine goes_ Try.func38 (by kernel_rfl) rfl #[.agg #[.slice E0 (rd_T41 xs t1).f0.length d0, .int .i64 (rd_T41 xs t1).f1, .slice E2 (rd_T41 xs t1).f2.length d2, .slice E3 (rd_T41 xs t1).f3.length d3, .slice E4 (rd_T41 xs t1).f4.length d4], .agg #[.slice A0 x.f0.length c0, .int .i64 x.f1, .slice A2 x.f2.length c2, .slice A3 x.f3.length c3, .slice A4 x.f4.length c4]] (by rfl) rfl rfl (by (try simp only [List.map_toArray, List.map_cons, List.map_nil]); first | done | rfl) ?_
    refine (cell_Join.calls k E0 d0 (rd_T41 xs t1).f0 (rd_T41 xs t1).f1 E2 d2 (rd_T41 xs t1).f2 E3 d3 (rd_T41 xs t1).f3 E4 d4 (rd_T41 xs t1).f4 A0 c0 x.f0 x.f1 A2 c2 x.f2 A3 c3 x.f3 A4 c4 x.f4 j0 j1 j2 j3 j4 _ D0.out.2 D0.out.1 D2.out.2 D2.out.1 D3.out.2 D3.out.1 D4.out.2 D4.out.1 (Kd.C_below G0.out.1 HB.out) G0.out.2 (Kd.C_below G2.out.1 HB.out) G2.out.2 (Kd.C_below G3.out.1 HB.out) G3.out.2 (Kd.C_below G4.out.1 HB.out) G4.out.2 HJ.out).mono ?_
    rintro e w7 ⟨v0, v2, v3, v4, rfl, o0, o2, o3, o4, hb⟩
    refine ⟨_, rfl, ?_⟩
    obtain ⟨B0, b0, rfl⟩ := Kd.R_slice o0
    obtain ⟨B2, b2, rfl⟩ := Kd.R_slice o2
    obtain ⟨B3, b3, rfl⟩ := Kd.R_slice o3
    obtain ⟨B4, b4, rfl⟩ := Kd.R_slice o4
    have hle : w0.heap.size ≤ w6.heap.size := HB.out.size
    have HM := am (k41_mkM w7 w0.heap.size (fun k => w6.heap.size ≤ k) (⟨j0, j1, j2, j3, j4⟩ : S41) (Kd.R_lower (Kd.R_mono (Kd.R_bound o0) (fun k hk => hk.2.1)) hle) (Kd.R_lower (Kd.R_mono (Kd.R_bound o2) (fun k hk => hk.2.1)) hle) (Kd.R_lower (Kd.R_mono (Kd.R_bound o3) (fun k hk => hk.2.1)) hle) (Kd.R_lower (Kd.R_mono (Kd.R_bound o4) (fun k hk => hk.2.1)) hle))
    have nb_ := am (Kd.S_mono (Kd.S_bound HS.out) (ok' := fun k => k ≠ og ∧ k ≠ gb ∧ k < w6.heap.size) (fun k hk => ⟨hk.1.1, hk.1.2, hk.2.2.1⟩))
    have na_ := am (blk_lt BKo.out)
    have nq_ : Aside0 (∀ p : Addr, p.block < w6.heap.size → w7.cell? p = w6.cell? p) := ⟨fun p hp => hb.cell hp⟩
    clear HS
    have HS := nb_
    clear nb_
    have n0_ := am (below_step HB.out hb)
    have n1_ := am (blk_below BKx.out hb)
    have n2_ := am (blk_below BKo.out hb)
    have n3_ := am (Kd.S_below HS.out hb)
    have n4_ := am (below_step HW.out hb)
    clear HB BKx BKo HS HW
    have HB := n0_
    have BKx := n1_
    have BKo := n2_
    have HS := n3_
    have HW := n4_
    clear n0_ n1_ n2_ n3_ n4_
    clear D0 D2 D3 D4 HJ
    clear hb o0 o2 o3 o4 hle
    refine hK.out _ _ ⟨(blk_cell BKo.out 0).trans rfl, (blk_cell BKx.out 0).trans rfl, (blk_cell BKx.out 1).trans rfl, (blk_cell BKx.out 2).trans rfl, (blk_cell BKx.out 3).trans rfl, (blk_cell BKx.out 4).trans rfl, (nq_.out _ (World.block_lt_of_cell? _ _ hHeld.2.2.2.2.2.2.1)).trans hHeld.2.2.2.2.2.2.1, (nq_.out _ (World.block_lt_of_cell? _ _ hHeld.2.2.2.2.2.2.2.1)).trans hHeld.2.2.2.2.2.2.2.1, (nq_.out _ (World.block_lt_of_cell? _ _ hHeld.2.2.2.2.2.2.2.2.1)).trans hHeld.2.2.2.2.2.2.2.2.1, (nq_.out _ (World.block_lt_of_cell? _ _ hHeld.2.2.2.2.2.2.2.2.2.1)).trans hHeld.2.2.2.2.2.2.2.2.2.1, (nq_.out _ (World.block_lt_of_cell? _ _ hHeld.2.2.2.2.2.2.2.2.2.2)).trans hHeld.2.2.2.2.2.2.2.2.2.2⟩ (fun hHeld => ?_)
    clear hK K
    refine norm_ (a' := ?_) ?_ ?_
    rotate_left
    ·show Act.put _ (some 45) _ = _
     simp only [Act.put, List.setIfInBounds_toArray, List.set_cons_zero, List.set_cons_succ, i64_w, i32_w]
     rfl
    clear nq_
    refine pure_ (i := 14) (N := some 46) (v := ?_) (a' := ?_) (bb 16 32767) rfl rfl (any_of HT_.out (by kernel_rfl)) (fun _ _ _ h => h) (Or.inl ⟨by rfl, ?_⟩) ?_ ?_
    rotate_left
    ·intro w'
     go_simp
     with_reducible rfl
    rotate_left
    ·simp only [Act.put, List.setIfInBounds_toArray, List.set_cons_zero, List.set_cons_succ, i64_w, i32_w]
     rfl
    refine last_ (i := 15) (N := none) (bb 16 65535) rfl rfl (one_of HT_.out (by kernel_rfl)) (by decide) (fun K hK => ?_)
    obtain ⟨g, eg⟩ := Kd.R_head (Kd.S_R HS.out)
    subst eg
    obtain ⟨f, hf⟩ := HS.out
    have hf2 := Kd.R_mono (Kd.R_tag (f' := fun k => if w6.heap.size ≤ k then t1.toNat else f k) (Kd.R_mono hf (ok' := fun k => k ≠ og ∧ k < w6.heap.size) (fun k hk => ⟨hk.1, hk.2.2⟩)) (fun k hk _ => if_neg (by omega))) (ok' := fun k => k ≠ og) (fun k hk => hk.1)
    have hgo : g ≠ og ∧ g < w6.heap.size := by
      have := hf.1 g (by simp [Value.ownBlock])
      omega
    have hol := na_.out
    refine R_store_step (Kd.tag (fun k => if w6.heap.size ≤ k then t1.toNat else f k) k41) w0.heap.size (by rfl) rfl 41 (.tmp 46) (.tmp 45) rfl 41 (g := g) (n := xs.length) (cap := c) (o' := t1.toNat * 5) t1 xs.zipIdx ((⟨j0, j1, j2, j3, j4⟩ : S41), t1.toNat) _ [.slice B0 j0.length b0, .int .i64 j1, .slice B2 j2.length b2, .slice B3 j3.length b3, .slice B4 j4.length b4] [] (fun k => k ≠ og) (fun k => w6.heap.size ≤ k) ?haddr rfl rfl rfl (by kernel_rfl) rfl ?h1 hf2 HC.out.1 HC.out.2 ?hM ?hokp ?_
    case haddr => exact Eq.trans rfl (congrArg (fun p => Value.pointer (some p)) (by rw [Addr.add_lit, Nat.zero_add]))
    case h1 => intro q hq; simp only [List.mem_cons, List.not_mem_nil, or_false] at hq; rcases hq with rfl | rfl | rfl | rfl | rfl <;> rfl
    case hM => exact k41.M_mono (fun k hk => ⟨hk, if_pos hk⟩) HM.out
    case hokp => intro k hk; exact ⟨by omega, by omega⟩
    intro w8 hR hg
    have n0_ := am (blk_grown BKo.out hg (fun e => by injection e with e; omega))
    have n1_ := am (HB.out.grown hg HB.out.size (fun k e => by injection e with e; have := Kd.R_base hf k (by simp [Value.ownBlock, e]); omega))
    have n2_ := am (relabel (xs := xs.set t1.toNat (⟨j0, j1, j2, j3, j4⟩ : S41)) id hR (by simp) (fun q p hq => ⟨q, by
      rw [List.getElem?_set] at hq ⊢
      by_cases hqi : t1.toNat = q
      · subst hqi
        rw [if_pos rfl] at hq ⊢
        split at hq
        · rename_i hlt
          rw [if_pos (by rw [List.length_zipIdx]; exact hlt)]
          injection hq with hq
          rw [hq]
        · cases hq
      · rw [if_neg hqi] at hq ⊢
        exact Kd.zip_at hq, rfl⟩))
    clear hR hg hgo hol hf hf2
    refine hK.out _ _ ?_
    clear hK K
    refine done_ (done_of HT_.out (by kernel_rfl)) ?_
    have e := HRr.out
    clear HRr
    injection e with e1 e2
    subst e1
    subst e2
    go_wp2
    go_ret
    exact ⟨rfl, _, n0_.out, n2_.out, n1_.out⟩
  · rw [if_neg hc] at H
    cases H
 | false =>
  rw [if_neg (by simp)] at H
  have hcz0 : w5.cell? ⟨og, 0, none⟩ = some (.slice A xs.length c) := (blk_cell BKo.out 0).trans rfl
  by_cases hm : most ≤ (xs.length : Int)
  · rw [if_pos hm] at H
    have e := Option.some.inj H
    clear H
    injection e with e1 e2
    subst e1
    subst e2
    have hm1 := decide_eq_true hm
    have hm2 := eq_true hm
    clear hm
    go_wp2
    go_ret
    exact ⟨rfl, _, BKo.out, Kd.S_mono HS.out (fun k hk => hk.1), HB.out, HW.out⟩
  rw [if_neg hm] at H
  have hm1 := decide_eq_false hm
  have hm2 := eq_false hm
  clear hm
  replace H := Option.bind_eq_some_iff.mp H
  obtain ⟨gl, AG, H⟩ := H
  by_cases hc : 0 ≤ t1 ∧ t1 ≤ (xs.length : Int) ∧ (xs.length + 1) * 104 ≤ 140737488355328 ∧ gl.length = 1
  · rw [if_pos hc] at H
    have HRr := am (Option.some.inj H)
    clear H
    obtain ⟨hc0, hc1, hc2, hc3⟩ := hc
    obtain ⟨y, rfl⟩ := List.length_eq_one_iff.1 hc3
    obtain ⟨i, rfl⟩ := Int.eq_ofNat_of_zero_le hc0
    have HC := am (show i ≤ xs.length ∧ (xs.length + 1) * 104 ≤ 140737488355328 by omega)
    have HG := am AG
    clear hc0 hc1 hc2 hc3 AG
    go_wp2
    clear hcz0 hm1 hm2
    refine start_ (n := 13) (S := fun w' => w'.cell? ⟨og, 0, none⟩ = some (.slice A xs.length c) ∧ w'.cell? ⟨gb, 0, none⟩ = some (.slice A0 x.f0.length c0) ∧ w'.cell? ⟨gb, 1, none⟩ = some (.int .i64 x.f1) ∧ w'.cell? ⟨gb, 2, none⟩ = some (.slice A2 x.f2.length c2) ∧ w'.cell? ⟨gb, 3, none⟩ = some (.slice A3 x.f3.length c3) ∧ w'.cell? ⟨gb, 4, none⟩ = some (.slice A4 x.f4.length c4)) (ds := [12]) (bb 13 0) (by kernel_rfl) rfl rfl ⟨(blk_cell BKo.out 0).trans rfl, (blk_cell BKx.out 0).trans rfl, (blk_cell BKx.out 1).trans rfl, (blk_cell BKx.out 2).trans rfl, (blk_cell BKx.out 3).trans rfl, (blk_cell BKx.out 4).trans rfl⟩ (fun hHeld => ?_); refine with_tabW runsPut.tab2 runsPut.bits2 (fun HT_ HW_ => ?_)
    have n0_ := am (below_drew1 HB.out)
    have n1_ := am (blk_drew BKx.out)
    have n2_ := am (blk_drew BKo.out)
    have n3_ := am (Kd.S_drew HS.out)
    have n4_ := am (below_drew1 HW.out)
    clear HB BKx BKo HS HW
    have HB := n0_
    have BKx := n1_
    have BKo := n2_
    have HS := n3_
    have HW := n4_
    clear n0_ n1_ n2_ n3_ n4_
    generalize w5.drew = w6 at HB BKx BKo HS HW hHeld ⊢
    refine pure_ (i := 0) (N := some 18) (v := ?_) (a' := ?_) (bb 13 1) rfl rfl (any_of HT_.out (by kernel_rfl)) (fun _ _ _ h => h) (Or.inl ⟨by rfl, ?_⟩) ?_ ?_
    rotate_left
    ·intro w'
     go_simp
     with_reducible rfl
    rotate_left
    ·simp only [Act.put, List.setIfInBounds_toArray, List.set_cons_zero, List.set_cons_succ, i64_w, i32_w]
     rfl
    refine pure_ (i := 1) (N := some 19) (v := ?_) (a' := ?_) (bb 13 3) rfl rfl (any_of HT_.out (by kernel_rfl)) (fun _ _ _ h => h) (Or.inl ⟨by rfl, ?_⟩) ?_ ?_
    rotate_left
    ·intro w'
     go_simp
     with_reducible rfl
    rotate_left
    ·simp only [Act.put, List.setIfInBounds_toArray, List.set_cons_zero, List.set_cons_succ, i64_w, i32_w]
     rfl
    refine pure_ (i := 2) (N := some 20) (v := ?_) (a' := ?_) (bb 13 7) rfl rfl (any_of HT_.out (by kernel_rfl)) (fun _ _ _ h => h) (Or.inl ⟨by rfl, ?_⟩) ?_ ?_
    rotate_left
    ·intro w'
     go_simp
     with_reducible rfl
    rotate_left
    ·simp only [Act.put, List.setIfInBounds_toArray, List.set_cons_zero, List.set_cons_succ, i64_w, i32_w]
     rfl
    refine pure_ (i := 3) (N := some 21) (v := ?_) (a' := ?_) (bb 13 15) rfl rfl (any_of HT_.out (by kernel_rfl)) (fun _ _ _ h => h) (Or.inl ⟨by rfl, ?_⟩) ?_ ?_
    rotate_left
    ·intro w'
     go_simp
     with_reducible rfl
    rotate_left
    ·simp only [Act.put, List.setIfInBounds_toArray, List.set_cons_zero, List.set_cons_succ, i64_w, i32_w]
     rfl
    refine pure_ (i := 5) (N := some 23) (v := ?_) (a' := ?_) (bb 13 47) rfl rfl (any_of HT_.out (by kernel_rfl)) (fun _ _ _ h => h) (Or.inl ⟨by rfl, ?_⟩) ?_ ?_
    rotate_left
    ·intro w'
     go_simp
     with_reducible rfl
    rotate_left
    ·simp only [Act.put, List.setIfInBounds_toArray, List.set_cons_zero, List.set_cons_succ, i64_w, i32_w]
     rfl
    refine take_ (i := 4) (N := some 22) (v := ?_) (a' := ?_) (bb 13 63) rfl rfl (take_ofW HT_.out HW_.out (by kernel_rfl)) (fun _ _ _ h => h) (Or.inl ⟨by rfl, ?_⟩) hHeld ?_ ?_
    rotate_left
    ·rintro w' ⟨s0, s1, s2, s3, s4, s5⟩
     go_simp
     with_reducible rfl
    rotate_left
    ·simp only [Act.put, List.setIfInBounds_toArray, List.set_cons_zero, List.set_cons_succ, i64_w, i32_w]
     rfl
    refine take_ (i := 6) (N := some 24) (v := ?_) (a' := ?_) (bb 13 127) rfl rfl (take_ofW HT_.out HW_.out (by kernel_rfl)) (fun _ _ _ h => h) (Or.inl ⟨by rfl, ?_⟩) hHeld ?_ ?_
    rotate_left
    ·rintro w' ⟨s0, s1, s2, s3, s4, s5⟩
     go_simp
     with_reducible rfl
    rotate_left
    ·simp only [Act.put, List.setIfInBounds_toArray, List.set_cons_zero, List.set_cons_succ, i64_w, i32_w]
     rfl
    refine one_ (i := 7) (N := some 25) (bb 13 255) rfl rfl (one_of HT_.out (by kernel_rfl)) (by decide) (fun K hK => ?_)
    refine value_ (w1 := w6.alloc (.cells #[.slice A0 x.f0.length c0, .int .i64 x.f1, .slice A2 x.f2.length c2, .slice A3 x.f3.length c3, .slice A4 x.f4.length c4] 41)) (v := .slice (some ⟨w6.heap.size, 0, none⟩) 1 1) (by rfl) rfl (by go_simp; first | done | rfl | (constructor <;> rfl)) ?_
    have hnew := blk_new w6 (.cells #[.slice A0 x.f0.length c0, .int .i64 x.f1, .slice A2 x.f2.length c2, .slice A3 x.f3.length c3, .slice A4 x.f4.length c4] 41)
    have hb := below_alloc (Below.refl w6.heap.size w6) (.cells #[.slice A0 x.f0.length c0, .int .i64 x.f1, .slice A2 x.f2.length c2, .slice A3 x.f3.length c3, .slice A4 x.f4.length c4] 41)
    generalize w6.alloc (.cells #[.slice A0 x.f0.length c0, .int .i64 x.f1, .slice A2 x.f2.length c2, .slice A3 x.f3.length c3, .slice A4 x.f4.length c4] 41) = w7 at hnew hb ⊢
    have nb_ := am (Kd.S_mono (Kd.S_bound HS.out) (ok' := fun k => k ≠ og ∧ k ≠ gb ∧ k < w6.heap.size) (fun k hk => ⟨hk.1.1, hk.1.2, hk.2.2.1⟩))
    have nl_ : Aside0 (og < w6.heap.size ∧ gb < w6.heap.size ∧ w6.heap.size ≤ w7.heap.size) := ⟨blk_lt BKo.out, blk_lt BKx.out, hb.size⟩
    clear HS
    have HS := nb_
    clear nb_
    have n0_ := am (below_step HB.out hb)
    have n1_ := am (blk_below BKx.out hb)
    have n2_ := am (blk_below BKo.out hb)
    have n3_ := am (Kd.S_below HS.out hb)
    have n4_ := am (below_step HW.out hb)
    clear HB BKx BKo HS HW
    have HB := n0_
    have BKx := n1_
    have BKo := n2_
    have HS := n3_
    have HW := n4_
    clear n0_ n1_ n2_ n3_ n4_
    have HV := am hnew
    clear hnew hb
    refine hK.out _ _ ⟨(blk_cell BKo.out 0).trans rfl, (blk_cell BKx.out 0).trans rfl, (blk_cell BKx.out 1).trans rfl, (blk_cell BKx.out 2).trans rfl, (blk_cell BKx.out 3).trans rfl, (blk_cell BKx.out 4).trans rfl⟩ (fun hHeld => ?_)
    clear hK K
    refine norm_ (a' := ?_) ?_ ?_
    rotate_left
    ·show Act.put _ (some 25) _ = _
     simp only [Act.put, List.setIfInBounds_toArray, List.set_cons_zero, List.set_cons_succ, i64_w, i32_w]
     rfl
    refine one_ (i := 8) (N := some 26) (bb 13 511) rfl rfl (one_of HT_.out (by kernel_rfl)) (by decide) (fun K hK => ?_)
    refine goes_ Try.func40 (by kernel_rfl) rfl #[.slice (some ⟨w6.heap.size, 0, none⟩) 1 1] (by rfl) rfl rfl (by (try simp only [List.map_toArray, List.map_cons, List.map_nil]); first | done | rfl) ?_
    refine (cell_Group.calls k (some ⟨w6.heap.size, 0, none⟩) 1 [x] [y] w7 (C_single HV.out (k41_mk w7 x G0.out.2 (Kd.C_below G0.out.1 HB.out) G2.out.2 (Kd.C_below G2.out.1 HB.out) G3.out.2 (Kd.C_below G3.out.1 HB.out) G4.out.2 (Kd.C_below G4.out.1 HB.out)) rfl) (Nat.le_refl _) HG.out).mono ?_
    rintro e w8 ⟨vg, rfl, hvg, hb⟩
    refine ⟨_, rfl, ?_⟩
    obtain ⟨g9, c9, cur, cs9, rfl, hg9, hc9, hh9, ht9, hM9⟩ := S_single hvg
    have HV2 := am (And.intro hg9 (And.intro hc9 (And.intro hh9 (And.intro ht9 hM9))))
    have nl2_ : Aside0 (og < w6.heap.size ∧ gb < w6.heap.size ∧ w6.heap.size ≤ w7.heap.size ∧ w7.heap.size ≤ w8.heap.size) := ⟨nl_.out.1, nl_.out.2.1, nl_.out.2.2, hb.size⟩
    have nb0_ := am HB.out.size
    clear hg9 hc9 hh9 ht9 hM9 hvg HG HV nl_
    have n0_ := am (below_step HB.out hb)
    have n1_ := am (blk_below BKx.out hb)
    have n2_ := am (blk_below BKo.out hb)
    have n3_ := am (Kd.S_below HS.out hb)
    have n4_ := am (below_step HW.out hb)
    clear HB BKx BKo HS HW
    have HB := n0_
    have BKx := n1_
    have BKo := n2_
    have HS := n3_
    have HW := n4_
    clear n0_ n1_ n2_ n3_ n4_
    clear hb
    refine hK.out _ _ ⟨(blk_cell BKo.out 0).trans rfl, (blk_cell BKx.out 0).trans rfl, (blk_cell BKx.out 1).trans rfl, (blk_cell BKx.out 2).trans rfl, (blk_cell BKx.out 3).trans rfl, (blk_cell BKx.out 4).trans rfl⟩ (fun hHeld => ?_)
    clear hK K
    refine norm_ (a' := ?_) ?_ ?_
    rotate_left
    ·show Act.put _ (some 26) _ = _
     simp only [Act.put, List.setIfInBounds_toArray, List.set_cons_zero, List.set_cons_succ, i64_w, i32_w]
     rfl
    refine one_ (i := 9) (N := some 27) (bb 13 1023) rfl rfl (one_of HT_.out (by kernel_rfl)) (by decide) (fun K hK => ?_)
    obtain ⟨f, hf⟩ := HS.out
    obtain ⟨hg9, hc9, hh9, ht9, hM9⟩ := HV2.out
    have hf2 := Kd.R_mono (Kd.R_tag (f' := fun k => if w7.heap.size ≤ k then xs.length else f k) hf (fun k hk _ => if_neg (by have := nl2_.out; omega))) (ok' := fun k => k ≠ og) (fun k hk => hk.1)
    have hxx : (Kd.tag (fun k => if w7.heap.size ≤ k then xs.length else f k) k41).M w8 w0.heap.size (fun k => w7.heap.size ≤ k) (y, xs.length) cs9 := k41.M_mono (fun k hk => ⟨hk, if_pos hk⟩) (k41.M_lower (by have := HB.out.size; have := nl2_.out; have := nb0_.out; omega) (k41.M_mono (fun k hk => hk.2.1) (k41.M_bound hM9)))
    refine goes_ Try.func39 (by kernel_rfl) rfl #[.slice A xs.length c, .int .i64 i, .slice (some ⟨g9, 0, none⟩) 1 c9] (by rfl) rfl rfl (by (try simp only [List.map_toArray, List.map_cons, List.map_nil]); first | done | rfl) ?_
    refine (insert_callsV (Kd.tag (fun k => if w7.heap.size ≤ k then xs.length else f k) k41) rfl (.slice A xs.length c) xs.zipIdx i (by rw [List.length_zipIdx]; exact HC.out.1) g9 c9 hc9 (y, xs.length) cs9 cur 41 w8 w0.heap.size (fun k => k ≠ og) (fun k => w7.heap.size ≤ k) hf2 hxx (fun k hk => ⟨by have := nl2_.out; omega, fun e => by have := hf.1 k e.symm; have := nl2_.out; omega⟩) hh9 ht9 (fun e => by have := hf.1 _ e.symm; have := nl2_.out; omega) (fun k hk => by have := nl2_.out; omega) HB.out.size (by rw [List.length_zipIdx]; exact HC.out.2)).mono ?_
    rintro e w9 ⟨v', rfl, hR, hg, hat⟩
    refine ⟨_, rfl, ?_⟩
    have hog2 : some og ≠ (Value.slice A xs.length c).ownBlock := fun e => by have := hf.1 og e.symm; omega
    have hl9 : ∀ kk, v'.ownBlock = some kk → kk ≠ og := fun kk e => hR.1 kk e
    have n0_ := am (blk_grown BKo.out hg hog2)
    have n1_ := am (HB.out.grown hg HB.out.size (fun k e => Kd.R_base hf k e))
    have n5_ := am (blk_grown BKx.out hg (fun e => by have := hf.1 gb e.symm; omega))
    have n2_ := am (relabel (xs := xs.take i ++ y :: xs.drop i) (fun m => if m < i then m else if m = xs.length then i else m + 1) hR (by simp) (fun q p hq => by
      have hil := HC.out.1
      rw [List.getElem?_append] at hq ⊢
      rw [List.length_take, Nat.min_eq_left hil] at hq
      rw [List.length_take, List.length_zipIdx, Nat.min_eq_left hil]
      by_cases h1 : q < i
      · rw [if_pos h1] at hq
        refine ⟨q, ?_, if_pos h1⟩
        rw [if_pos h1, List.getElem?_take, if_pos h1]
        rw [List.getElem?_take, if_pos h1] at hq
        exact Kd.zip_at hq
      · rw [if_neg h1] at hq
        rcases Nat.eq_or_lt_of_le (Nat.le_of_not_lt h1) with h2 | h2
        · subst h2
          rw [Nat.sub_self] at hq
          refine ⟨xs.length, ?_, ?_⟩
          · rw [if_neg h1, Nat.sub_self]
            simp only [List.getElem?_cons_zero] at hq ⊢
            injection hq with hq
            rw [hq]
          · show (if xs.length < i then xs.length else if xs.length = xs.length then i else xs.length + 1) = i
            rw [if_neg (by omega), if_pos rfl]
        · obtain ⟨s, hs⟩ : ∃ s, q - i = s + 1 := ⟨q - i - 1, by omega⟩
          rw [hs, List.getElem?_cons_succ, List.getElem?_drop] at hq
          have hlt := (List.getElem?_eq_some_iff.1 hq).1
          refine ⟨i + s, ?_, ?_⟩
          · rw [if_neg h1, hs, List.getElem?_cons_succ, List.getElem?_drop]
            exact Kd.zip_at hq
          · show (if i + s < i then i + s else if i + s = xs.length then i else i + s + 1) = q
            rw [if_neg (by omega), if_neg (by omega)]
            omega))
    obtain ⟨ys, hys⟩ : ∃ ys, ys = xs.take i ++ y :: xs.drop i := ⟨_, rfl⟩
    have n3_ := n2_.out
    rw [← hys] at n3_
    obtain ⟨A', c', ev⟩ := Kd.S_slice n3_
    subst ev
    have HY := am hys
    clear hys n2_
    have n2_ := am n3_
    clear n3_
    clear HB BKx BKo HS hR hg hat hf hf2 hxx hog2 hg9 hc9 hh9 ht9 hM9 HV2 nl2_ nb0_
    have HB := n1_
    have BKo := n0_
    have BKx := n5_
    have HS := n2_
    clear n0_ n1_ n2_ n5_
    refine hK.out _ _ ⟨(blk_cell BKo.out 0).trans rfl, (blk_cell BKx.out 0).trans rfl, (blk_cell BKx.out 1).trans rfl, (blk_cell BKx.out 2).trans rfl, (blk_cell BKx.out 3).trans rfl, (blk_cell BKx.out 4).trans rfl⟩ (fun hHeld => ?_)
    clear hK K
    refine norm_ (a' := ?_) ?_ ?_
    rotate_left
    ·show Act.put _ (some 27) _ = _
     simp only [Act.put, List.setIfInBounds_toArray, List.set_cons_zero, List.set_cons_succ, i64_w, i32_w]
     rfl
    refine pure_ (i := 10) (N := some 28) (v := ?_) (a' := ?_) (bb 13 2047) rfl rfl (any_of HT_.out (by kernel_rfl)) (fun _ _ _ h => h) (Or.inl ⟨by rfl, ?_⟩) ?_ ?_
    rotate_left
    ·intro w'
     go_simp
     with_reducible rfl
    rotate_left
    ·simp only [Act.put, List.setIfInBounds_toArray, List.set_cons_zero, List.set_cons_succ, i64_w, i32_w]
     rfl
    refine pure_ (i := 11) (N := some 29) (v := ?_) (a' := ?_) (bb 13 4095) rfl rfl (any_of HT_.out (by kernel_rfl)) (fun _ _ _ h => h) (Or.inl ⟨by rfl, ?_⟩) ?_ ?_
    rotate_left
    ·intro w'
     go_simp
     with_reducible rfl
    rotate_left
    ·simp only [Act.put, List.setIfInBounds_toArray, List.set_cons_zero, List.set_cons_succ, i64_w, i32_w]
     rfl
    refine last_ (i := 12) (N := none) (bb 13 8191) rfl rfl (one_of HT_.out (by kernel_rfl)) (by decide) (fun K hK => ?_)
    have hs22 := (blk_cell BKo.out 0).trans rfl
    have hfs22 := blk_frozen BKo.out 0
    refine skip_ (w1 := ?_) (by rfl) rfl ?_ ?_
    rotate_left
    ·go_simp
     rfl
    refine hK.out _ _ ?_
    clear hK K hs22 hfs22
    refine done_ (done_of HT_.out (by kernel_rfl)) ?_
    have e := HRr.out
    clear HRr
    injection e with e1 e2
    subst e1
    have e : ys = r := HY.out.trans (by rw [← e2]; simp)
    subst e
    clear HY e2
    go_wp2
    go_ret
    first | exact ⟨rfl, _, blk_put BKo.out 0 _ rfl, Kd.S_far HS.out (fun k hk => hk) _, below_set HB.out GEo.out⟩ | exact ⟨rfl, _, blk_put BKo.out 0 _ rfl, Kd.S_far HS.out (fun k hk => hk) _, below_set HB.out GEo.out, fun e => by cases e⟩
  · rw [if_neg hc] at H
    cases H
end Go.Proofs.Ytmnepkbmcnpjlaa.Q
namespace Go.Proofs.Ytmnepkbmcnpjlaa.Q
open Go.RowKit Go.Proofs.YtmnepkbmcnpjlaaW.PrintWords Go.Proofs.YtmnepkbmcnpjlaaW.PrintLast Go.Proofs.YtmnepkbmcnpjlaaW.PrintMore
attribute [local go_sem] max2_int min2_int max_two min_two max_three min_three max_four min_four
set_option linter.unusedVariables false
set_option linter.unusedSimpArgs false
def runsGo (k : Nat) (most : Int) : List (List S41) → List S41 → List S41 → Option (List (List S41) × List S41)
 | out, held, [] => some (out, held)
 | out, held, c :: cs => (runsPut.f k held c most).bind fun t => if t.1 = true then runsGo k most out t.2 cs
  else (if t.2.length * 104 ≤ 140737488355328 ∧ (out.length + 1) * 24 ≤ 140737488355328 then (runsPut.f k [] c (mx most 1)).bind fun u => runsGo k most (out ++ [t.2]) u.2 cs else none)
def runs_Runs.f (k : Nat) (l0 : List S41) (a1 : Int) : Option (List (List S41)) := (runsGo k a1 [] [] l0).bind fun t =>
 (if 0 < t.2.length then (if t.2.length * 104 ≤ 140737488355328 ∧ (t.1.length + 1) * 24 ≤ 140737488355328 then some (t.1 ++ [t.2]) else none) else some t.1).bind fun o => if o.length * 24 ≤ 140737488355328 then some o else none
set_option maxHeartbeats 8000000 in
set_option maxRecDepth 100000 in
theorem runs_Runs.calls (k : Nat) (A0 : Option Addr) (c0 : Nat) (l0 : List S41) (a1 : Int) (r : List (List S41)) (w : World) (hr0 : Kd.C k41 w A0 l0.length l0) (hc0 : l0.length ≤ c0) (h : runs_Runs.f k l0 a1 = some r) :
    Calls Try.prog 18 #[.slice A0 l0.length c0, .int .i64 a1] w fun e w' => ∃ v0_ : Value, e = .returned (v0_) ∧ Kd.R (Kd.slice 41 k41) 29 w' w.heap.size (fun _ => True) v0_ r ∧ Below w.heap.size w w' := by
 have hu30 := Try.underlying41
 have hu65 := Try.underlying50
 have HR0 := am hr0
 have HC0 := am hc0
 have hmax := Kd.C_max hr0
 clear hr0 hc0
 unfold runs_Runs.f at h
 replace h := Option.bind_eq_some_iff.mp h
 obtain ⟨⟨o1, h1⟩, A1, H⟩ := h
 have HA := am A1
 have HH := am H
 clear A1 H
 have HM := am hmax
 clear hmax
 go_enter Try.func18, Try.ntmps18
 go_wp2_with (((with_reducible refine gate_dst (N := 10) rfl ?_); refine box_event ?hg (N := 10) ?hd (cs := #[.slice none 0 0]) (t := 50) ?hr ?_; (case hd => rfl); (case hg => rfl); (case hr => first | (go_simp; done) | (go_simp; rfl)); intro og hg w3 hbox hb; have HB := am hb; have BKo := am hbox; have GEo := am (show w.heap.size ≤ og by rw [hg]; exact Nat.le_refl _); clear hb hbox hg))
 go_loopg [5, 6, 13] (l0.length + 1) (fun kq v5 v6 v13 w' => ∃ (i : Nat) (out : List (List S41)) (held : List S41) (og : Nat) (wE : World) (v : Value), v13 = .int .i64 (i : Int) ∧ v6 = .pointer (some ⟨og, 0, none⟩) ∧ Aside0 (runsGo k a1 out held (l0.drop i) = some (o1, h1)) ∧ Aside0 (i + kq = l0.length + 1 ∧ i ≤ l0.length) ∧ Aside0 (Below w.heap.size w wE) ∧ Aside0 (wE.heap.size ≤ og) ∧ Aside0 (Kd.R (Kd.slice 41 k41) 29 wE w.heap.size (fun _ => True) v5 out) ∧ Aside0 (w'.heap[og]? = some (.cells #[v] 50 (0, 0))) ∧ Aside0 (Kd.S k41 41 w' wE.heap.size (fun k => k ≠ og) v held) ∧ Aside0 (Below wE.heap.size wE w'))
 case atStart => exact ⟨0, [], [], og, w, .slice none 0 0, rfl, rfl, HA, ⟨by omega, by omega⟩, ⟨Below.refl _ _⟩, GEo, ⟨Kd.R_nil _ _ _ _ _⟩, BKo, ⟨Kd.S_nil _ _ _ _ _⟩, HB⟩
 case round =>
  clear HA HB BKo GEo
  obtain ⟨i, out, held, og, wE, v, rfl, rfl, HA, HI, HBw, GEo, HO, BKo, HS, HB⟩ := hrel
  cases gk with
  | zero => exact absurd HI.out (by omega)
  | succ k1 =>
   by_cases hi : i < l0.length
   · have H := HA.out
     rw [List.drop_eq_getElem_cons hi] at H
     unfold runsGo at H
     have hel : l0[i] = rd_T41 l0 (i : Int) := by
       unfold rd_T41
       rw [Int.toNat_natCast, List.getD_eq_getElem?_getD, List.getElem?_eq_getElem hi]
       rfl
     rw [hel] at H
     replace H := Option.bind_eq_some_iff.mp H
     obtain ⟨⟨b, held'⟩, AP, H⟩ := H
     have HP := am AP
     clear HA AP hel
     have hi0 : (0 : Int) ≤ (i : Int) := by omega
     have hi1 : (i : Int) < (l0.length : Int) := by omega
     obtain ⟨ad, E0, d0, E2, d2, E3, d3, E4, d4, eA, q0, q1, q2, q3, q4, g0, K0, g2, K2, g3, K3, g4, K4⟩ := at_T41 HR0.out (i : Int) hi0 hi1
     cases eA
     have hq : ∀ p u, w.cell? p = some u → wr.cell? p = some u := fun p u h => ((below_step HBw.out HB.out).cell (World.block_lt_of_cell? w _ h)).trans h
     replace q0 := hq _ _ q0
     replace q1 := hq _ _ q1
     replace q2 := hq _ _ q2
     replace q3 := hq _ _ q3
     replace q4 := hq _ _ q4
     clear hq
     simp only [Int.toNat_natCast] at q0 q1 q2 q3 q4
     have D0 := am (And.intro g0 K0)
     have D2 := am (And.intro g2 K2)
     have D3 := am (And.intro g3 K3)
     have D4 := am (And.intro g4 K4)
     clear g0 K0 g2 K2 g3 K3 g4 K4
     have hc1 : decide ((i : Int) < (l0.length : Int)) = true := decide_eq_true hi1
     have HI1 := am hi1
     have hi1' := eq_true hi1
     clear hi hi1
     have hwr : IntKind.i64.wrap ((i : Int) + 1) = ((i + 1 : Nat) : Int) := by rw [IntKind.wrap_i64]; have := HM.out; have := HI1.out; omega
     cases b with
     | true =>
       replace H := (if_pos (rfl : true = true)).symm.trans H
       have HH2 := am H
       clear H
       go_wp2_with (first
      | ((with_reducible refine gate_dst (N := 8) rfl ?_); refine box_event ?hg (N := 8) ?hd (cs := #[.slice none 0 0, .int .i64 0, .slice none 0 0, .slice none 0 0, .slice none 0 0]) (t := 41) ?hr ?_; (case hd => rfl); (case hg => rfl); (case hr => first | (go_simp; done) | (go_simp; rfl)); intro gb hg w3 hbox hb; have n0_ := am (below_step HB.out hb); have n1_ := am (blk_below BKo.out hb); have n2_ := am (Kd.S_below (Kd.S_mono (Kd.S_bound HS.out) (ok' := fun k => k ≠ og ∧ k < gb) (fun k hk => ⟨hk.1, by rw [hg]; exact hk.2.2.1⟩)) hb); have n3_ := am hbox; have n4_ := am (show og ≠ gb ∧ wE.heap.size ≤ gb ∧ og < gb by rw [hg]; have := blk_lt BKo.out; have := HB.out.size; omega); clear HB BKo HS; have HB := n0_; have BKo := n1_; have HS := n2_; have BKb := n3_; have NEb := n4_; clear n0_ n1_ n2_ n3_ n4_; clear hb hbox hg; have hcz0 := (blk_cell BKb.out 0).trans rfl; have hcz1 := (blk_cell BKb.out 1).trans rfl; have hcz2 := (blk_cell BKb.out 2).trans rfl; have hcz3 := (blk_cell BKb.out 3).trans rfl; have hcz4 := (blk_cell BKb.out 4).trans rfl; have hfz0 := blk_frozen BKb.out 0; have hfz1 := blk_frozen BKb.out 1; have hfz2 := blk_frozen BKb.out 2; have hfz3 := blk_frozen BKb.out 3; have hfz4 := blk_frozen BKb.out 4)
      | ((with_reducible refine gate_callee (f := 28) rfl ?_)
         refine goesL_ (some 20) rfl rfl Try.func28 (by kernel_rfl) rfl #[.pointer (some ⟨og, 0, none⟩), .agg #[.slice E0 (rd_T41 l0 i).f0.length d0, .int .i64 (rd_T41 l0 i).f1, .slice E2 (rd_T41 l0 i).f2.length d2, .slice E3 (rd_T41 l0 i).f3.length d3, .slice E4 (rd_T41 l0 i).f4.length d4], .int .i64 a1] rfl (by (try simp only [List.map_toArray, List.map_cons, List.map_nil]); first | done | rfl) ?_
         refine name_calls ?_
         intro w4 hw4
         have hk4 : Kept w3 w4 (fun k => k = gb) := by
          rw [hw4]
          refine Kept.setCell (S := fun k => k = gb) (p := ⟨gb, 4, none⟩) ?_ (.inl rfl) _
          refine Kept.setCell (S := fun k => k = gb) (p := ⟨gb, 3, none⟩) ?_ (.inl rfl) _
          refine Kept.setCell (S := fun k => k = gb) (p := ⟨gb, 2, none⟩) ?_ (.inl rfl) _
          refine Kept.setCell (S := fun k => k = gb) (p := ⟨gb, 1, none⟩) ?_ (.inl rfl) _
          refine Kept.setCell (S := fun k => k = gb) (p := ⟨gb, 0, none⟩) ?_ (.inl rfl) _
          exact Kept.refl _ _
         have n0_ : Aside0 (Below wE.heap.size wE w4) := am (by
          rw [hw4]
          refine below_set (g := gb) (j := 4) ?_ NEb.out.2.1
          refine below_set (g := gb) (j := 3) ?_ NEb.out.2.1
          refine below_set (g := gb) (j := 2) ?_ NEb.out.2.1
          refine below_set (g := gb) (j := 1) ?_ NEb.out.2.1
          refine below_set (g := gb) (j := 0) ?_ NEb.out.2.1
          exact HB.out)
         have n1_ := am (blk_kept BKo.out hk4 NEb.out.1)
         have n2_ := am (Kd.S_kept HS.out hk4 (fun k hk e => by omega))
         have n3_ : Aside0 (w4.heap[gb]? = some (.cells #[.slice E0 (rd_T41 l0 i).f0.length d0, .int .i64 (rd_T41 l0 i).f1, .slice E2 (rd_T41 l0 i).f2.length d2, .slice E3 (rd_T41 l0 i).f3.length d3, .slice E4 (rd_T41 l0 i).f4.length d4] 41 (0, 0))) := am (by
          rw [hw4]
          refine blk_put (i := 4) (cs := #[.slice E0 (rd_T41 l0 i).f0.length d0, .int .i64 (rd_T41 l0 i).f1, .slice E2 (rd_T41 l0 i).f2.length d2, .slice E3 (rd_T41 l0 i).f3.length d3, .slice none 0 0]) ?_ _ rfl
          refine blk_put (i := 3) (cs := #[.slice E0 (rd_T41 l0 i).f0.length d0, .int .i64 (rd_T41 l0 i).f1, .slice E2 (rd_T41 l0 i).f2.length d2, .slice none 0 0, .slice none 0 0]) ?_ _ rfl
          refine blk_put (i := 2) (cs := #[.slice E0 (rd_T41 l0 i).f0.length d0, .int .i64 (rd_T41 l0 i).f1, .slice none 0 0, .slice none 0 0, .slice none 0 0]) ?_ _ rfl
          refine blk_put (i := 1) (cs := #[.slice E0 (rd_T41 l0 i).f0.length d0, .int .i64 0, .slice none 0 0, .slice none 0 0, .slice none 0 0]) ?_ _ rfl
          refine blk_put (i := 0) (cs := #[.slice none 0 0, .int .i64 0, .slice none 0 0, .slice none 0 0, .slice none 0 0]) ?_ _ rfl
          exact BKb.out)
         have nd_ : Aside0 (og ≠ gb ∧ wE.heap.size ≤ gb ∧ og < gb) := NEb
         clear HB BKo HS BKb hk4
         clear hw4
         have HB := n0_
         have BKo := n1_
         have HS := n2_
         have BKb := n3_
         clear n0_ n1_ n2_ n3_ nd_
         refine (runsPut_calls k og v held (rd_T41 l0 i) a1 E0 d0 E2 d2 E3 d3 E4 d4 true held' wE w4 BKo.out GEo.out HB.out (Kd.S_mono HS.out (fun k hk => hk.1)) (Kd.C_below D0.out.2 HBw.out) D0.out.1 (Kd.C_below D2.out.2 HBw.out) D2.out.1 (Kd.C_below D3.out.2 HBw.out) D3.out.1 (Kd.C_below D4.out.2 HBw.out) D4.out.1 HP.out).mono ?_
         rintro e w5 ⟨rfl, v', h1, h2, h3, _⟩
         refine ⟨_, rfl, ?_⟩
         obtain ⟨A', c', rfl⟩ := Kd.S_slice h2
         have n0_ := am h1
         have n1_ := am h2
         have n2_ := am h3
         clear h1 h2 h3 HB BKo HS HP BKb
         have BKo := n0_
         have HS := n1_
         have HB := n2_
         clear n0_ n1_ n2_))
       go_roundg k1
       case measure => have := HI.out; omega
       case rel => exact ⟨i + 1, out, held', og, wE, _, rfl, rfl, HH2, ⟨by have := HI.out; have := HI1.out; omega⟩, HBw, GEo, HO, BKo, HS, HB⟩
     | false =>
       replace H := (if_neg (by decide : ¬ (false = true))).symm.trans H
       by_cases hlim : held'.length * 104 ≤ 140737488355328 ∧ (out.length + 1) * 24 ≤ 140737488355328
       · replace H := (if_pos hlim).symm.trans H
         replace H := Option.bind_eq_some_iff.mp H
         obtain ⟨⟨u1, u2⟩, AU, H⟩ := H
         have HU := am AU
         have HH2 := am H
         have HL := am hlim
         clear H AU hlim
         go_wp2_with (first
      | ((with_reducible refine gate_dst (N := 8) rfl ?_); refine box_event ?hg (N := 8) ?hd (cs := #[.slice none 0 0, .int .i64 0, .slice none 0 0, .slice none 0 0, .slice none 0 0]) (t := 41) ?hr ?_; (case hd => rfl); (case hg => rfl); (case hr => first | (go_simp; done) | (go_simp; rfl)); intro gb hg w3 hbox hb; have n0_ := am (below_step HB.out hb); have n1_ := am (blk_below BKo.out hb); have n2_ := am (Kd.S_below (Kd.S_mono (Kd.S_bound HS.out) (ok' := fun k => k ≠ og ∧ k < gb) (fun k hk => ⟨hk.1, by rw [hg]; exact hk.2.2.1⟩)) hb); have n3_ := am hbox; have n4_ := am (show og ≠ gb ∧ wE.heap.size ≤ gb ∧ og < gb by rw [hg]; have := blk_lt BKo.out; have := HB.out.size; omega); clear HB BKo HS; have HB := n0_; have BKo := n1_; have HS := n2_; have BKb := n3_; have NEb := n4_; clear n0_ n1_ n2_ n3_ n4_; clear hb hbox hg; have hcz0 := (blk_cell BKb.out 0).trans rfl; have hcz1 := (blk_cell BKb.out 1).trans rfl; have hcz2 := (blk_cell BKb.out 2).trans rfl; have hcz3 := (blk_cell BKb.out 3).trans rfl; have hcz4 := (blk_cell BKb.out 4).trans rfl; have hfz0 := blk_frozen BKb.out 0; have hfz1 := blk_frozen BKb.out 1; have hfz2 := blk_frozen BKb.out 2; have hfz3 := blk_frozen BKb.out 3; have hfz4 := blk_frozen BKb.out 4)
      | ((with_reducible refine gate_callee (f := 28) rfl ?_)
         refine goesL_ (some 20) rfl rfl Try.func28 (by kernel_rfl) rfl #[.pointer (some ⟨og, 0, none⟩), .agg #[.slice E0 (rd_T41 l0 i).f0.length d0, .int .i64 (rd_T41 l0 i).f1, .slice E2 (rd_T41 l0 i).f2.length d2, .slice E3 (rd_T41 l0 i).f3.length d3, .slice E4 (rd_T41 l0 i).f4.length d4], .int .i64 a1] rfl (by (try simp only [List.map_toArray, List.map_cons, List.map_nil]); first | done | rfl) ?_
         refine name_calls ?_
         intro w4 hw4
         have hk4 : Kept w3 w4 (fun k => k = gb) := by
          rw [hw4]
          refine Kept.setCell (S := fun k => k = gb) (p := ⟨gb, 4, none⟩) ?_ (.inl rfl) _
          refine Kept.setCell (S := fun k => k = gb) (p := ⟨gb, 3, none⟩) ?_ (.inl rfl) _
          refine Kept.setCell (S := fun k => k = gb) (p := ⟨gb, 2, none⟩) ?_ (.inl rfl) _
          refine Kept.setCell (S := fun k => k = gb) (p := ⟨gb, 1, none⟩) ?_ (.inl rfl) _
          refine Kept.setCell (S := fun k => k = gb) (p := ⟨gb, 0, none⟩) ?_ (.inl rfl) _
          exact Kept.refl _ _
         have n0_ : Aside0 (Below wE.heap.size wE w4) := am (by
          rw [hw4]
          refine below_set (g := gb) (j := 4) ?_ NEb.out.2.1
          refine below_set (g := gb) (j := 3) ?_ NEb.out.2.1
          refine below_set (g := gb) (j := 2) ?_ NEb.out.2.1
          refine below_set (g := gb) (j := 1) ?_ NEb.out.2.1
          refine below_set (g := gb) (j := 0) ?_ NEb.out.2.1
          exact HB.out)
         have n1_ := am (blk_kept BKo.out hk4 NEb.out.1)
         have n2_ := am (Kd.S_kept HS.out hk4 (fun k hk e => by omega))
         have n3_ : Aside0 (w4.heap[gb]? = some (.cells #[.slice E0 (rd_T41 l0 i).f0.length d0, .int .i64 (rd_T41 l0 i).f1, .slice E2 (rd_T41 l0 i).f2.length d2, .slice E3 (rd_T41 l0 i).f3.length d3, .slice E4 (rd_T41 l0 i).f4.length d4] 41 (0, 0))) := am (by
          rw [hw4]
          refine blk_put (i := 4) (cs := #[.slice E0 (rd_T41 l0 i).f0.length d0, .int .i64 (rd_T41 l0 i).f1, .slice E2 (rd_T41 l0 i).f2.length d2, .slice E3 (rd_T41 l0 i).f3.length d3, .slice none 0 0]) ?_ _ rfl
          refine blk_put (i := 3) (cs := #[.slice E0 (rd_T41 l0 i).f0.length d0, .int .i64 (rd_T41 l0 i).f1, .slice E2 (rd_T41 l0 i).f2.length d2, .slice none 0 0, .slice none 0 0]) ?_ _ rfl
          refine blk_put (i := 2) (cs := #[.slice E0 (rd_T41 l0 i).f0.length d0, .int .i64 (rd_T41 l0 i).f1, .slice none 0 0, .slice none 0 0, .slice none 0 0]) ?_ _ rfl
          refine blk_put (i := 1) (cs := #[.slice E0 (rd_T41 l0 i).f0.length d0, .int .i64 0, .slice none 0 0, .slice none 0 0, .slice none 0 0]) ?_ _ rfl
          refine blk_put (i := 0) (cs := #[.slice none 0 0, .int .i64 0, .slice none 0 0, .slice none 0 0, .slice none 0 0]) ?_ _ rfl
          exact BKb.out)
         have nd_ : Aside0 (og ≠ gb ∧ wE.heap.size ≤ gb ∧ og < gb) := NEb
         clear HB BKo HS BKb hk4
         clear hw4
         have HB := n0_
         have BKo := n1_
         have HS := n2_
         have BKb := n3_
         clear n0_ n1_ n2_ n3_ nd_
         refine (runsPut_calls k og v held (rd_T41 l0 i) a1 E0 d0 E2 d2 E3 d3 E4 d4 false held' wE w4 BKo.out GEo.out HB.out (Kd.S_mono HS.out (fun k hk => hk.1)) (Kd.C_below D0.out.2 HBw.out) D0.out.1 (Kd.C_below D2.out.2 HBw.out) D2.out.1 (Kd.C_below D3.out.2 HBw.out) D3.out.1 (Kd.C_below D4.out.2 HBw.out) D4.out.1 HP.out).mono ?_
         rintro e w5 ⟨rfl, v', h1, h2, h3, h4⟩
         refine ⟨_, rfl, ?_⟩
         obtain ⟨A', c', rfl⟩ := Kd.S_slice h2
         have n0_ := am h1
         have n1_ := am h2
         have n2_ := am h3
         have n3_ := am (blk_below BKb.out (h4 rfl))
         have nl_ := am ((h4 rfl).size)
         clear h1 h2 h3 HB BKo HS HP BKb h4
         have BKo := n0_
         have HS := n1_
         have HB := n2_
         have BKb := n3_
         clear n0_ n1_ n2_ n3_
         have hcz : w5.cell? ⟨og, 0, none⟩ = some (.slice A' held'.length c') := (blk_cell BKo.out 0).trans rfl)
      | ((with_reducible refine gate_callee (f := 29) rfl ?_)
         refine goesL_ (some 27) rfl rfl Try.func29 (by kernel_rfl) rfl #[.slice A' held'.length c'] rfl (by (try simp only [List.map_toArray, List.map_cons, List.map_nil]); first | done | rfl) ?_
         refine (CloneCells_calls k41 rfl (.slice A' held'.length c') held' wE.heap.size (fun k => k ≠ og) wE w5 HB.out HB.out.size (Kd.S_R HS.out) (fun k hk => by have := blk_lt BKo.out; omega) HL.out.1).mono ?_
         rintro e w6 ⟨v1, rfl, hR, hB6, hb⟩
         refine ⟨_, rfl, ?_⟩
         obtain ⟨A1', c1', rfl⟩ := Kd.R_slice hR
         have HV1 := am hR
         have HB6 := am hB6
         have BKb6 := am (blk_below BKb.out hb)
         clear hR hB6 hb)
      | ((with_reducible refine gate_builtin (b := .append) (xs := #[.tmp 22, .tmp 28]) rfl ?_)
         (try (refine gate_guard (by rfl) ?_; dsimp only))
         at_builtin
         refine Kd.R_append (Kd.slice 41 k41) (w0 := w) w.heap.size rfl (.tmp 22) (.tmp 28) 34 29 (.slice none 0 0) 24 rfl Try.underlying34 info29 rfl (by decide) (by omega) u5 out held' [.slice A1' held'.length c1'] (fun _ => True) (fun k => wE.heap.size ≤ k) rfl rfl ?aP ?aO ?aF (Kd.R_below HO.out HB6.out) (below_step HBw.out HB6.out) (below_step HBw.out HB6.out).size ?aL ?_
         (case aP => exact ⟨_, rfl, Kd.R_lower (Kd.R_mono (Kd.R_bound HV1.out) (fun k hk => hk.2.1)) HBw.out.size⟩)
         (case aO => intro k hk; exact ⟨trivial, fun e => by have := ((Kd.R_bound HO.out).1 k e.symm).2.2.1; omega⟩)
         (case aF => intro _ _; trivial)
         (case aL => exact HL.out.2)
         intro v51 w7 ho hb7 hg hat
         have HO7 := am ho
         have HB7 := am hb7
         have BKb7 := am (blk_grown BKb6.out hg (fun e => by have := ((Kd.R_bound HO.out).1 gb e.symm).2.2.1; have := NEb.out; omega))
         clear ho hb7 hg hat)
      | ((with_reducible refine gate_dst (N := 31) rfl ?_); refine box_event ?hg (N := 31) ?hd (cs := #[.slice none 0 0]) (t := 50) ?hr ?_; (case hd => rfl); (case hg => rfl); (case hr => first | (go_simp; done) | (go_simp; rfl)); intro og2 hg2 w8 hbox hb; have HB8 := am hb; have BKo2 := am hbox; have GE2 := am (show w7.heap.size ≤ og2 by rw [hg2]; exact Nat.le_refl _); have BKb8 := am (blk_below BKb7.out hb); clear hb hbox hg2; have hcy0 := (blk_cell BKb8.out 0).trans rfl; have hcy1 := (blk_cell BKb8.out 1).trans rfl; have hcy2 := (blk_cell BKb8.out 2).trans rfl; have hcy3 := (blk_cell BKb8.out 3).trans rfl; have hcy4 := (blk_cell BKb8.out 4).trans rfl)
      | ((with_reducible refine gate_callee (f := 28) rfl ?_)
         refine goesL_ (some 36) rfl rfl Try.func28 (by kernel_rfl) rfl #[.pointer (some ⟨og2, 0, none⟩), .agg #[.slice E0 (rd_T41 l0 i).f0.length d0, .int .i64 (rd_T41 l0 i).f1, .slice E2 (rd_T41 l0 i).f2.length d2, .slice E3 (rd_T41 l0 i).f3.length d3, .slice E4 (rd_T41 l0 i).f4.length d4], .int .i64 (mx a1 1)] rfl (by (try simp only [List.map_toArray, List.map_cons, List.map_nil]); first | done | rfl) ?_
         refine (runsPut_calls k og2 (.slice none 0 0) [] (rd_T41 l0 i) (mx a1 1) E0 d0 E2 d2 E3 d3 E4 d4 u1 u2 w7 w8 BKo2.out GE2.out HB8.out (Kd.S_nil _ _ _ _ _) (Kd.C_below D0.out.2 HB7.out) D0.out.1 (Kd.C_below D2.out.2 HB7.out) D2.out.1 (Kd.C_below D3.out.2 HB7.out) D3.out.1 (Kd.C_below D4.out.2 HB7.out) D4.out.1 HU.out).mono ?_
         rintro e w9 ⟨rfl, v9, h1, h2, h3, _⟩
         refine ⟨_, rfl, ?_⟩
         have n0_ := am h1
         have n1_ := am h2
         have n2_ := am h3
         clear h1 h2 h3))
         all_goals
          go_roundg k1
          case measure => have := HI.out; omega
          case rel => exact ⟨i + 1, out ++ [held'], u2, og2, w7, _, rfl, rfl, HH2, ⟨by have := HI.out; have := HI1.out; omega⟩, HB7, GE2, HO7, n0_, n1_, n2_⟩
       · replace H := (if_neg hlim).symm.trans H
         cases H
   · have H := HA.out
     rw [List.drop_eq_nil_of_le (by omega)] at H
     have e : (out, held) = (o1, h1) := Option.some.inj H
     injection e with e1 e2
     subst e1
     subst e2
     clear HA H
     have hc1 : decide ((i : Int) < (l0.length : Int)) = false := decide_eq_false (by omega)
     have hc2 : decide (i < l0.length) = false := decide_eq_false hi
     have hc3 : (i < l0.length) = False := eq_false hi
     clear hi
     obtain ⟨A', c', rfl⟩ := Kd.S_slice HS.out
     have hcz0 : wr.cell? ⟨og, 0, none⟩ = some (.slice A' held.length c') := (blk_cell BKo.out 0).trans rfl
     have H := HH.out
     clear HH
     by_cases hl : 0 < held.length
     · have hd1 : decide ((0 : Int) < (held.length : Int)) = true := decide_eq_true (by omega)
       have hd2 : decide ((held.length : Int) > 0) = true := decide_eq_true (by omega)
       have hd3 : decide (0 < held.length) = true := decide_eq_true hl
       have hd4 : (0 < held.length) = True := eq_true hl
       try dsimp only at H
       rw [if_pos hl] at H
       by_cases hlim : held.length * 104 ≤ 140737488355328 ∧ (out.length + 1) * 24 ≤ 140737488355328
       · rw [if_pos hlim, Option.bind_some] at H
         by_cases hlc : (out ++ [held]).length * 24 ≤ 140737488355328
         · rw [if_pos hlc] at H
           have e := Option.some.inj H
           subst e
           have HL := am hlim
           have HLC := am hlc
           clear H hlim hlc hl
           go_wp2_with (first
      | ((with_reducible refine gate_callee (f := 29) rfl ?_)
         refine goesL_ (some 49) rfl rfl Try.func29 (by kernel_rfl) rfl #[.slice A' held.length c'] rfl (by (try simp only [List.map_toArray, List.map_cons, List.map_nil]); first | done | rfl) ?_
         refine (CloneCells_calls k41 rfl (.slice A' held.length c') held wE.heap.size (fun k => k ≠ og) wE wr HB.out HB.out.size (Kd.S_R HS.out) (fun k hk => by have := blk_lt BKo.out; omega) HL.out.1).mono ?_
         rintro e w6 ⟨v1, rfl, hR, hB6, hb⟩
         refine ⟨_, rfl, ?_⟩
         obtain ⟨A1', c1', rfl⟩ := Kd.R_slice hR
         have HV1 := am hR
         have HB6 := am hB6
         clear hR hB6 hb)
      | ((with_reducible refine gate_builtin (b := .append) (xs := #[.tmp 44, .tmp 50]) rfl ?_)
         (try (refine gate_guard (by rfl) ?_; dsimp only))
         at_builtin
         refine Kd.R_append (Kd.slice 41 k41) (w0 := w) w.heap.size rfl (.tmp 44) (.tmp 50) 34 29 (.slice none 0 0) 24 rfl Try.underlying34 info29 rfl (by decide) (by omega) u5 out held [.slice A1' held.length c1'] (fun _ => True) (fun k => wE.heap.size ≤ k) rfl rfl ?aP ?aO ?aF (Kd.R_below HO.out HB6.out) (below_step HBw.out HB6.out) (below_step HBw.out HB6.out).size ?aL ?_
         (case aP => exact ⟨_, rfl, Kd.R_lower (Kd.R_mono (Kd.R_bound HV1.out) (fun k hk => hk.2.1)) HBw.out.size⟩)
         (case aO => intro k hk; exact ⟨trivial, fun e => by have := ((Kd.R_bound HO.out).1 k e.symm).2.2.1; omega⟩)
         (case aF => intro _ _; trivial)
         (case aL => exact HL.out.2)
         intro v51 w7 ho hb7 hg hat
         have HO7 := am ho
         have HB7 := am hb7
         clear ho hb7 hg hat)
      | ((with_reducible refine gate_callee (f := 30) rfl ?_)
         refine goesL_ (some 53) rfl rfl Try.func30 (by kernel_rfl) rfl #[v51] rfl (by (try simp only [List.map_toArray, List.map_cons, List.map_nil]); first | done | rfl) ?_
         refine (CloneRuns_calls (Kd.slice 41 k41) rfl (v51) (out ++ [held]) w.heap.size (fun _ => True) w w7 HB7.out (HB7.out).size HO7.out (fun _ _ => trivial) HLC.out).mono ?_
         rintro e w9 ⟨v9, rfl, hR, hB, _⟩
         refine ⟨_, rfl, ?_⟩
         have HR9 := am hR
         have HB9 := am hB
         clear hR hB))
           go_ret
           exact ⟨_, rfl, HR9.out, HB9.out⟩
         · rw [if_neg hlc] at H
           cases H
       · rw [if_neg hlim] at H
         cases H
     · have hd1 : decide ((0 : Int) < (held.length : Int)) = false := decide_eq_false (by omega)
       have hd2 : decide ((held.length : Int) > 0) = false := decide_eq_false (by omega)
       have hd3 : decide (0 < held.length) = false := decide_eq_false hl
       have hd4 : (0 < held.length) = False := eq_false hl
       try dsimp only at H
       rw [if_neg hl, Option.bind_some] at H
       by_cases hlc : out.length * 24 ≤ 140737488355328
       · rw [if_pos hlc] at H
         have e := Option.some.inj H
         subst e
         have HLC := am hlc
         clear H hlc hl
         go_wp2_with (first
      | ((with_reducible refine gate_callee (f := 30) rfl ?_)
         refine goesL_ (some 53) rfl rfl Try.func30 (by kernel_rfl) rfl #[u5] rfl (by (try simp only [List.map_toArray, List.map_cons, List.map_nil]); first | done | rfl) ?_
         refine (CloneRuns_calls (Kd.slice 41 k41) rfl (u5) out w.heap.size (fun _ => True) w wr (below_step HBw.out HB.out) ((below_step HBw.out HB.out)).size (Kd.R_below HO.out HB.out) (fun _ _ => trivial) HLC.out).mono ?_
         rintro e w9 ⟨v9, rfl, hR, hB, _⟩
         refine ⟨_, rfl, ?_⟩
         have HR9 := am hR
         have HB9 := am hB
         clear hR hB))
         go_ret
         exact ⟨_, rfl, HR9.out, HB9.out⟩
       · rw [if_neg hlc] at H
         cases H
end Go.Proofs.Ytmnepkbmcnpjlaa.Q
