-- packed by wip/tools/pack.py (a program of this session) out of its own texts
import Derived.Test.YtmkjkkmilopcpaaPCellBack0
import Derived.ArgAppend
import Derived.Below
import Derived.BigQuiet
import Derived.Deep.AppendLies
import Derived.Deep.CutBlock
import Derived.Deep.DeepCutAuto
import Derived.Deep.Draws
import Derived.Deep.LoopGhost
import Derived.Deep.OwnRows
import Derived.Deep.QuietTactic
import Derived.Deep.RegionHeld3
import Derived.KernelRfl
import Derived.Laws.BitsLemmas
import Derived.Laws.BytesArg
import Derived.Laws.EntriesVeiled
import Derived.Laws.Externs
import Derived.Laws.IdiomCopy
import Derived.Laws.MakeOwn
import Derived.Laws.OwnMore
import Derived.Laws.Rows
import Derived.Laws.Slices
import Derived.Lib.AppendStr
import Derived.Lib.AppendZeros
import Derived.Lib.AppendZerosOnto
import Derived.Lib.ConvBytes
import Derived.Lib.JoinLaws
import Derived.Lib.Overlaps
import Derived.Lib.SliceRun
import Derived.Lib.Walk
import Derived.Maps.AppendAt
import Derived.OrdersHeld
import Derived.OwnWalk
import Derived.RowKit
import Derived.RowKit3
import Derived.Shelf.RegionOpenPlain
import Derived.Tactics
import Derived.Test.YtmkjkkmilopcpaaProg
import Derived.WalkKit
import Derived.WalkSpells
import Derived.WideLaws
import Derived.Test.YtmkjkkmilopcpaaPCellBack1
import Derived.Test.YtmkjkkmilopcpaaPCellBack3
import Derived.Test.YtmkjkkmilopcpaaPCellBack4
import Derived.Test.YtmkjkkmilopcpaaPCellBack5
import Derived.Test.YtmkjkkmilopcpaaPCellBack6
import Derived.Test.YtmkjkkmilopcpaaPCellBack7
import Derived.Test.YtmkjkkmilopcpaaPCellBack9
import Derived.Test.YtmkjkkmilopcpaaPCellBack10
namespace Go.Proofs.Ytmkjkkmilopcpaa.Q
open Go.RowKit Go.Proofs.YtmkjkkmilopcpaaW.PrintWords Go.Proofs.YtmkjkkmilopcpaaW.PrintLast Go.Proofs.YtmkjkkmilopcpaaW.PrintMore
set_option linter.unusedVariables false
set_option linter.unusedSimpArgs false
def grpGo (k : Nat) : List S30 → List S30 → Option (List S30)
 | acc, [] => some acc
 | acc, c :: cs => (cell_own.f c.f0 c.f1 c.f2 c.f3 c.f4).bind fun t => (cellPut.f k acc ⟨t.1, t.2.1, t.2.2.1, t.2.2.2.1, t.2.2.2.2⟩).bind fun acc' => grpGo k acc' cs
def cell_Group.f (k : Nat) (l0 : List S30) : Option (List S30) := (grpGo k [] l0).bind fun t => if t.length * 104 ≤ 140737488355328 then some t else none
theorem name_calls {P : Program} {f : FuncId} {args : Array Value} {w : World} {R : Ending → World → Prop} (h : ∀ w', w' = w → Calls P f args w' R) : Calls P f args w R := h w rfl
set_option maxHeartbeats 8000000 in
set_option maxRecDepth 100000 in
theorem cell_Group.calls (k : Nat) (A0 : Option Addr) (c0 : Nat) (l0 : List S30) (r : List S30) (w : World) (hr0 : Kd.C k30 w A0 l0.length l0) (hc0 : l0.length ≤ c0) (h : cell_Group.f k l0 = some r) :
    Calls Try.prog 26 #[.slice A0 l0.length c0] w fun e w' => ∃ v0_ : Value, e = .returned (v0_) ∧ Kd.S k30 30 w' w.heap.size (fun _ => True) v0_ r ∧ Below w.heap.size w w' := by
 have hu30 := Try.underlying30
 have hu65 := Try.underlying65
 have HR0 := am hr0
 have HC0 := am hc0
 have hmax := Kd.C_max hr0
 clear hr0 hc0
 unfold cell_Group.f at h
 replace h := Option.bind_eq_some_iff.mp h
 obtain ⟨r0, A1, H⟩ := h
 have hlim : r0.length * 104 ≤ 140737488355328 ∧ r0 = r := by
  split at H
  · exact ⟨by assumption, Option.some.inj H⟩
  · cases H
 obtain ⟨hlim, rfl⟩ := hlim
 have HL := am hlim
 have HA := am A1
 clear A1 H hlim
 have HM := am hmax
 clear hmax
 have HB := am (Below.refl w.heap.size w)
 go_enter Try.func26, Try.ntmps26
 go_wp2_with (((with_reducible refine gate_dst (N := 3) rfl ?_); refine zX #[.slice none 0 0, .nilFunc] 65 ?_; intro og hg w3 hbox hb; have n0_ := am (below_step HB.out hb); have n1_ := am hbox; have n2_ := am (show w.heap.size ≤ og by rw [hg]; exact HB.out.size); clear HB; have HB := n0_; have BKo := n1_; have GEo := n2_; clear n0_ n1_ n2_; clear hb hbox hg; have hcz0 := (blk_cell BKo.out 0).trans rfl; have hcz1 := (blk_cell BKo.out 1).trans rfl; have hfz0 := blk_frozen BKo.out 0; have hfz1 := blk_frozen BKo.out 1))
 have HBo := am (blk_put (blk_put BKo.out 0 (.slice none 0 0) rfl) 1 (.func (.func 46) #[] #[]) (cs' := #[.slice none 0 0, .func (.func 46) #[] #[]]) rfl)
 go_loopg [9] (l0.length + 1) (fun kq v9 w' => ∃ (i : Nat) (acc : List S30) (v : Value), v9 = .int .i64 (i : Int) ∧ Aside0 (grpGo k acc (l0.drop i) = some r0) ∧ Aside0 (i + kq = l0.length + 1 ∧ i ≤ l0.length) ∧ Aside0 (w'.heap[og]? = some (.cells #[v, .func (.func 46) #[] #[]] 65 (0, 0))) ∧ Aside0 (Kd.S k30 30 w' w.heap.size (fun k => k ≠ og) v acc) ∧ Aside0 (Below w.heap.size w w'))
 case atStart => exact ⟨0, [], .slice none 0 0, rfl, HA, ⟨by omega, by omega⟩, HBo, ⟨Kd.S_nil _ _ _ _ _⟩, ⟨below_set (below_set HB.out GEo.out) GEo.out⟩⟩
 case round =>
  clear HA HB BKo HBo
  try clear hcz0
  try clear hcz1
  try clear hfz0
  try clear hfz1
  obtain ⟨i, acc, v, rfl, HA, HI, BKo, HS, HB⟩ := hrel
  cases gk with
  | zero => exact absurd HI.out (by omega)
  | succ k1 =>
   by_cases hi : i < l0.length
   · have H := HA.out
     rw [List.drop_eq_getElem_cons hi] at H
     unfold grpGo at H
     have hel : l0[i] = rd_T30 l0 (i : Int) := by
       unfold rd_T30
       rw [Int.toNat_natCast, List.getD_eq_getElem?_getD, List.getElem?_eq_getElem hi]
       rfl
     rw [hel] at H
     replace H := Option.bind_eq_some_iff.mp H
     obtain ⟨⟨o0, o1, o2, o3, o4⟩, AO, H⟩ := H
     replace H := Option.bind_eq_some_iff.mp H
     obtain ⟨acc', AP, H⟩ := H
     have HO := am AO
     have HP := am AP
     have HH := am H
     clear HA H AO AP hel
     have hi0 : (0 : Int) ≤ (i : Int) := by omega
     have hi1 : (i : Int) < (l0.length : Int) := by omega
     obtain ⟨ad, E0, d0, E2, d2, E3, d3, E4, d4, eA, q0, q1, q2, q3, q4, g0, K0, g2, K2, g3, K3, g4, K4⟩ := at_T30 HR0.out (i : Int) hi0 hi1
     cases eA
     have hq : ∀ p u, w.cell? p = some u → wr.cell? p = some u := fun p u h => zc HB h
     replace q0 := hq _ _ q0
     replace q1 := hq _ _ q1
     replace q2 := hq _ _ q2
     replace q3 := hq _ _ q3
     replace q4 := hq _ _ q4
     clear hq
     simp only [Int.toNat_natCast] at q0 q1 q2 q3 q4
     have D0 := am (And.intro g0 K0)
     have D2 := am (And.intro g2 K2)
     have D3 := am (And.intro g3 K3)
     have D4 := am (And.intro g4 K4)
     clear g0 K0 g2 K2 g3 K3 g4 K4
     have hc1 : decide ((i : Int) < (l0.length : Int)) = true := decide_eq_true hi1
     have HI1 := am hi1
     have hi1' := eq_true hi1
     clear hi hi1
     have hwr : IntKind.i64.wrap ((i : Int) + 1) = ((i + 1 : Nat) : Int) := by rw [IntKind.wrap_i64]; have := HM.out; have := HI1.out; omega
     go_wp2_with (first
      | ((with_reducible refine gate_dst (N := 5) rfl ?_); refine zX #[.slice none 0 0, .int .i64 0, .slice none 0 0, .slice none 0 0, .slice none 0 0] 30 ?_; intro gb hg w3 hbox hb; have n0_ := am (below_step HB.out hb); have n1_ := am (blk_below BKo.out hb); have n2_ := am (Kd.S_below (Kd.S_mono (Kd.S_bound HS.out) (ok' := fun k => k ≠ og ∧ k < gb) (fun k hk => ⟨hk.1, by rw [hg]; exact hk.2.2.1⟩)) hb); have n3_ := am hbox; have n4_ := am (show og ≠ gb ∧ w.heap.size ≤ gb ∧ og < gb by rw [hg]; have := blk_lt BKo.out; have := HB.out.size; omega); clear HB BKo HS; have HB := n0_; have BKo := n1_; have HS := n2_; have BKb := n3_; have NEb := n4_; clear n0_ n1_ n2_ n3_ n4_; clear hb hbox hg; have hcz0 := (blk_cell BKb.out 0).trans rfl; have hcz1 := (blk_cell BKb.out 1).trans rfl; have hcz2 := (blk_cell BKb.out 2).trans rfl; have hcz3 := (blk_cell BKb.out 3).trans rfl; have hcz4 := (blk_cell BKb.out 4).trans rfl; have hfz0 := blk_frozen BKb.out 0; have hfz1 := blk_frozen BKb.out 1; have hfz2 := blk_frozen BKb.out 2; have hfz3 := blk_frozen BKb.out 3; have hfz4 := blk_frozen BKb.out 4)
      | ((with_reducible refine gate_callee (f := 48) rfl ?_)
         refine goesL_ (some 14) rfl rfl Try.func48 (by kernel_rfl) rfl #[.agg #[.slice E0 (rd_T30 l0 i).f0.length d0, .int .i64 (rd_T30 l0 i).f1, .slice E2 (rd_T30 l0 i).f2.length d2, .slice E3 (rd_T30 l0 i).f3.length d3, .slice E4 (rd_T30 l0 i).f4.length d4]] rfl (by (try simp only [List.map_toArray, List.map_cons, List.map_nil]); first | done | rfl) ?_
         refine name_calls ?_
         intro w4 hw4
         have hk4 : Kept w3 w4 (fun k => k = gb) := by
          rw [hw4]
          refine Kept.setCell (S := fun k => k = gb) (p := ⟨gb, 4, none⟩) ?_ (.inl rfl) _
          refine Kept.setCell (S := fun k => k = gb) (p := ⟨gb, 3, none⟩) ?_ (.inl rfl) _
          refine Kept.setCell (S := fun k => k = gb) (p := ⟨gb, 2, none⟩) ?_ (.inl rfl) _
          refine Kept.setCell (S := fun k => k = gb) (p := ⟨gb, 1, none⟩) ?_ (.inl rfl) _
          refine Kept.setCell (S := fun k => k = gb) (p := ⟨gb, 0, none⟩) ?_ (.inl rfl) _
          exact Kept.refl _ _
         have n0_ : Aside0 (Below w.heap.size w w4) := am (by
          rw [hw4]
          refine below_set (g := gb) (j := 4) ?_ NEb.out.2.1
          refine below_set (g := gb) (j := 3) ?_ NEb.out.2.1
          refine below_set (g := gb) (j := 2) ?_ NEb.out.2.1
          refine below_set (g := gb) (j := 1) ?_ NEb.out.2.1
          refine below_set (g := gb) (j := 0) ?_ NEb.out.2.1
          exact HB.out)
         have n1_ := am (blk_kept BKo.out hk4 NEb.out.1)
         have n2_ := am (Kd.S_kept HS.out hk4 (fun k hk e => by omega))
         have n3_ := am (show gb ≤ w4.heap.size from by have := blk_lt BKb.out; have := hk4.1; omega)
         clear HB BKo HS BKb hk4
         clear hw4
         have HB := n0_
         have BKo := n1_
         have HS := n2_
         have HG := n3_
         clear n0_ n1_ n2_ n3_
         refine (cell_own.calls E0 d0 (rd_T30 l0 i).f0 (rd_T30 l0 i).f1 E2 d2 (rd_T30 l0 i).f2 E3 d3 (rd_T30 l0 i).f3 E4 d4 (rd_T30 l0 i).f4 o0 o1 o2 o3 o4 w4 (Kd.C_below D0.out.2 HB.out) D0.out.1 (Kd.C_below D2.out.2 HB.out) D2.out.1 (Kd.C_below D3.out.2 HB.out) D3.out.1 (Kd.C_below D4.out.2 HB.out) D4.out.1 HO.out).mono ?_
         rintro e w5 ⟨v0, v2, v3, v4, rfl, p0, p2, p3, p4, hb⟩
         refine ⟨_, rfl, ?_⟩
         obtain ⟨B0, b0, rfl⟩ := Kd.R_slice p0
         obtain ⟨B2, b2, rfl⟩ := Kd.R_slice p2
         obtain ⟨B3, b3, rfl⟩ := Kd.R_slice p3
         obtain ⟨B4, b4, rfl⟩ := Kd.R_slice p4
         have hle : w.heap.size ≤ w4.heap.size := HB.out.size
         have hgb := HG.out
         have HX := am (k30_mkM w5 w.heap.size (fun k => gb ≤ k) (⟨o0, o1, o2, o3, o4⟩ : S30) (Kd.R_lower (Kd.R_mono (Kd.R_bound p0) (fun k hk => Nat.le_trans hgb hk.2.1)) hle) (Kd.R_lower (Kd.R_mono (Kd.R_bound p2) (fun k hk => Nat.le_trans hgb hk.2.1)) hle) (Kd.R_lower (Kd.R_mono (Kd.R_bound p3) (fun k hk => Nat.le_trans hgb hk.2.1)) hle) (Kd.R_lower (Kd.R_mono (Kd.R_bound p4) (fun k hk => Nat.le_trans hgb hk.2.1)) hle))
         have n0_ := am (below_step HB.out hb)
         have n1_ := am (blk_below BKo.out hb)
         have n2_ := am (Kd.S_below HS.out hb)
         have n3_ := am (show gb ≤ w5.heap.size from Nat.le_trans hgb hb.size)
         clear HB BKo HS HG hgb hle p0 p2 p3 p4 hb D0 D2 D3 D4 HO
         have HB := n0_
         have BKo := n1_
         have HS := n2_
         have HG := n3_
         clear n0_ n1_ n2_ n3_)
      | ((with_reducible refine gate_callee (f := 47) rfl ?_)
         refine goesL_ (some 15) rfl rfl Try.func47 (by kernel_rfl) rfl #[.pointer (some ⟨og, 0, none⟩), .agg #[.slice B0 o0.length b0, .int .i64 o1, .slice B2 o2.length b2, .slice B3 o3.length b3, .slice B4 o4.length b4], .func (.func 21) #[] #[]] rfl (by (try simp only [List.map_toArray, List.map_cons, List.map_nil]); first | done | rfl) ?_
         refine (cellPut_calls k og gb v acc (⟨o0, o1, o2, o3, o4⟩ : S30) _ acc' w w5 BKo.out GEo.out NEb.out.2.2 HG.out HB.out HS.out HX.out HP.out).mono ?_
         rintro e w6 ⟨rfl, v', h1, h2, h3⟩
         refine ⟨_, rfl, ?_⟩
         have n0_ := am h1
         have n1_ := am h2
         have n2_ := am h3
         clear h1 h2 h3 HB BKo HS HG HX HP))
     go_roundg k1
     case measure => have := HI.out; omega
     case rel => exact ⟨i + 1, acc', v', rfl, HH, ⟨by have := HI.out; have := HI1.out; omega⟩, n0_, n1_, n2_⟩
   · have H := HA.out
     rw [List.drop_eq_nil_of_le (by omega)] at H
     have e : acc = r0 := Option.some.inj H
     subst e
     clear HA H
     have hc1 : decide ((i : Int) < (l0.length : Int)) = false := decide_eq_false (by omega)
     have hc2 : decide (i < l0.length) = false := decide_eq_false hi
     have hc3 : (i < l0.length) = False := eq_false hi
     clear hi
     obtain ⟨A, c, rfl⟩ := Kd.S_slice HS.out
     have hcz0 : wr.cell? ⟨og, 0, none⟩ = some (.slice A acc.length c) := (blk_cell BKo.out 0).trans rfl
     go_wp2_with (first
      | ((with_reducible refine gate_callee (f := 49) rfl ?_)
         refine goesL_ (some 19) rfl rfl Try.func49 (by kernel_rfl) rfl #[.slice A acc.length c] rfl (by (try simp only [List.map_toArray, List.map_cons, List.map_nil]); first | done | rfl) ?_
         obtain ⟨f, hf⟩ := HS.out
         refine (CloneCells_calls (Kd.tag f k30) rfl (.slice A acc.length c) acc.zipIdx w.heap.size (fun k => k ≠ og) w wr HB.out HB.out.size hf (fun k hk => by have := blk_lt BKo.out; omega) (by rw [List.length_zipIdx]; exact HL.out)).mono ?_
         rintro e w7 ⟨v1, rfl, hR, hB, _⟩
         refine ⟨_, rfl, ?_⟩
         have HR7 := am hR
         have HB7 := am hB
         clear hR hB hf))
     go_ret
     exact ⟨_, rfl, Kd.S_mono ⟨_, HR7.out⟩ (fun _ _ => trivial), HB7.out⟩
end Go.Proofs.Ytmkjkkmilopcpaa.Q
