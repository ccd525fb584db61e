-- packed by wip/tools/pack.py (a program of this session) out of its own texts
import Derived.Test.YtmnepkbmcnpjlaaPRunsSorted0
import Derived.ArgAppend
import Derived.Below
import Derived.BigQuiet
import Derived.Deep.AppendLies
import Derived.Deep.CutBlock
import Derived.Deep.DeepCutAuto
import Derived.Deep.Draws
import Derived.Deep.LoopGhost
import Derived.Deep.OwnRows
import Derived.Deep.QuietTactic
import Derived.Deep.RegionHeld3
import Derived.KernelRfl
import Derived.Laws.BitsLemmas
import Derived.Laws.BytesArg
import Derived.Laws.EntriesVeiled
import Derived.Laws.Externs
import Derived.Laws.IdiomCopy
import Derived.Laws.MakeOwn
import Derived.Laws.OwnMore
import Derived.Laws.Rows
import Derived.Laws.Slices
import Derived.Lib.AppendStr
import Derived.Lib.AppendZeros
import Derived.Lib.AppendZerosOnto
import Derived.Lib.ConvBytes
import Derived.Lib.JoinLaws
import Derived.Lib.Overlaps
import Derived.Lib.SliceRun
import Derived.Lib.Walk
import Derived.Maps.AppendAt
import Derived.OrdersHeld
import Derived.OwnWalk
import Derived.RowKit
import Derived.RowKit3
import Derived.Shelf.RegionOpenPlain
import Derived.Tactics
import Derived.Test.YtmnepkbmcnpjlaaProg
import Derived.WalkKit
import Derived.WalkSpells
import Derived.WideLaws
import Derived.Test.YtmnepkbmcnpjlaaPRunsSorted1
import Derived.Test.YtmnepkbmcnpjlaaPRunsSorted3
import Derived.Test.YtmnepkbmcnpjlaaPRunsSorted4
import Derived.Test.YtmnepkbmcnpjlaaPRunsSorted5
import Derived.Test.YtmnepkbmcnpjlaaPRunsSorted6
import Derived.Test.YtmnepkbmcnpjlaaPRunsSorted8
import Derived.Test.YtmnepkbmcnpjlaaPRunsSorted9
namespace Go.Proofs.Ytmnepkbmcnpjlaa.Q
open Go.RowKit Go.Proofs.YtmnepkbmcnpjlaaW.PrintWords Go.Proofs.YtmnepkbmcnpjlaaW.PrintLast Go.Proofs.YtmnepkbmcnpjlaaW.PrintMore
set_option linter.unusedVariables false
set_option linter.unusedSimpArgs false
def grpGo (k : Nat) : List S41 → List S41 → Option (List S41)
 | acc, [] => some acc
 | acc, c :: cs => (cell_own.f c.f0 c.f1 c.f2 c.f3 c.f4).bind fun t => (cellPut.f k acc ⟨t.1, t.2.1, t.2.2.1, t.2.2.2.1, t.2.2.2.2⟩).bind fun acc' => grpGo k acc' cs
def cell_Group.f (k : Nat) (l0 : List S41) : Option (List S41) := (grpGo k [] l0).bind fun t => if t.length * 104 ≤ 140737488355328 then some t else none
theorem name_calls {P : Program} {f : FuncId} {args : Array Value} {w : World} {R : Ending → World → Prop} (h : ∀ w', w' = w → Calls P f args w' R) : Calls P f args w R := h w rfl
set_option maxHeartbeats 8000000 in
set_option maxRecDepth 100000 in
theorem cell_Group.calls (k : Nat) (A0 : Option Addr) (c0 : Nat) (l0 : List S41) (r : List S41) (w : World) (hr0 : Kd.C k41 w A0 l0.length l0) (hc0 : l0.length ≤ c0) (h : cell_Group.f k l0 = some r) :
    Calls Try.prog 40 #[.slice A0 l0.length c0] w fun e w' => ∃ v0_ : Value, e = .returned (v0_) ∧ Kd.S k41 41 w' w.heap.size (fun _ => True) v0_ r ∧ Below w.heap.size w w' := by
 have hu30 := Try.underlying41
 have hu65 := Try.underlying71
 have HR0 := am hr0
 have HC0 := am hc0
 have hmax := Kd.C_max hr0
 clear hr0 hc0
 unfold cell_Group.f at h
 replace h := Option.bind_eq_some_iff.mp h
 obtain ⟨r0, A1, H⟩ := h
 have hlim : r0.length * 104 ≤ 140737488355328 ∧ r0 = r := by
  split at H
  · exact ⟨by assumption, Option.some.inj H⟩
  · cases H
 obtain ⟨hlim, rfl⟩ := hlim
 have HL := am hlim
 have HA := am A1
 clear A1 H hlim
 have HM := am hmax
 clear hmax
 have HB := am (Below.refl w.heap.size w)
 go_enter Try.func40, Try.ntmps40
 go_wp2_with (((with_reducible refine gate_dst (N := 3) rfl ?_); refine box_event ?hg (N := 3) ?hd (cs := #[.slice none 0 0, .nilFunc]) (t := 71) ?hr ?_; (case hd => rfl); (case hg => rfl); (case hr => first | (go_simp; done) | (go_simp; rfl)); intro og hg w3 hbox hb; have n0_ := am (below_step HB.out hb); have n1_ := am hbox; have n2_ := am (show w.heap.size ≤ og by rw [hg]; exact HB.out.size); clear HB; have HB := n0_; have BKo := n1_; have GEo := n2_; clear n0_ n1_ n2_; clear hb hbox hg; have hcz0 := (blk_cell BKo.out 0).trans rfl; have hcz1 := (blk_cell BKo.out 1).trans rfl; have hfz0 := blk_frozen BKo.out 0; have hfz1 := blk_frozen BKo.out 1))
 have HBo := am (blk_put (blk_put BKo.out 0 (.slice none 0 0) rfl) 1 (.func (.func 53) #[] #[]) (cs' := #[.slice none 0 0, .func (.func 53) #[] #[]]) rfl)
 go_loopg [9] (l0.length + 1) (fun kq v9 w' => ∃ (i : Nat) (acc : List S41) (v : Value), v9 = .int .i64 (i : Int) ∧ Aside0 (grpGo k acc (l0.drop i) = some r0) ∧ Aside0 (i + kq = l0.length + 1 ∧ i ≤ l0.length) ∧ Aside0 (w'.heap[og]? = some (.cells #[v, .func (.func 53) #[] #[]] 71 (0, 0))) ∧ Aside0 (Kd.S k41 41 w' w.heap.size (fun k => k ≠ og) v acc) ∧ Aside0 (Below w.heap.size w w'))
 case atStart => exact ⟨0, [], .slice none 0 0, rfl, HA, ⟨by omega, by omega⟩, HBo, ⟨Kd.S_nil _ _ _ _ _⟩, ⟨below_set (below_set HB.out GEo.out) GEo.out⟩⟩
 case round =>
  clear HA HB BKo HBo
  try clear hcz0
  try clear hcz1
  try clear hfz0
  try clear hfz1
  obtain ⟨i, acc, v, rfl, HA, HI, BKo, HS, HB⟩ := hrel
  cases gk with
  | zero => exact absurd HI.out (by omega)
  | succ k1 =>
   by_cases hi : i < l0.length
   · have H := HA.out
     rw [List.drop_eq_getElem_cons hi] at H
     unfold grpGo at H
     have hel : l0[i] = rd_T41 l0 (i : Int) := by
       unfold rd_T41
       rw [Int.toNat_natCast, List.getD_eq_getElem?_getD, List.getElem?_eq_getElem hi]
       rfl
     rw [hel] at H
     replace H := Option.bind_eq_some_iff.mp H
     obtain ⟨⟨o0, o1, o2, o3, o4⟩, AO, H⟩ := H
     replace H := Option.bind_eq_some_iff.mp H
     obtain ⟨acc', AP, H⟩ := H
     have HO := am AO
     have HP := am AP
     have HH := am H
     clear HA H AO AP hel
     have hi0 : (0 : Int) ≤ (i : Int) := by omega
     have hi1 : (i : Int) < (l0.length : Int) := by omega
     obtain ⟨ad, E0, d0, E2, d2, E3, d3, E4, d4, eA, q0, q1, q2, q3, q4, g0, K0, g2, K2, g3, K3, g4, K4⟩ := at_T41 HR0.out (i : Int) hi0 hi1
     cases eA
     have hq : ∀ p u, w.cell? p = some u → wr.cell? p = some u := fun p u h => (HB.out.cell (World.block_lt_of_cell? w _ h)).trans h
     replace q0 := hq _ _ q0
     replace q1 := hq _ _ q1
     replace q2 := hq _ _ q2
     replace q3 := hq _ _ q3
     replace q4 := hq _ _ q4
     clear hq
     simp only [Int.toNat_natCast] at q0 q1 q2 q3 q4
     have D0 := am (And.intro g0 K0)
     have D2 := am (And.intro g2 K2)
     have D3 := am (And.intro g3 K3)
     have D4 := am (And.intro g4 K4)
     clear g0 K0 g2 K2 g3 K3 g4 K4
     have hc1 : decide ((i : Int) < (l0.length : Int)) = true := decide_eq_true hi1
     have HI1 := am hi1
     have hi1' := eq_true hi1
     clear hi hi1
     have hwr : IntKind.i64.wrap ((i : Int) + 1) = ((i + 1 : Nat) : Int) := by rw [IntKind.wrap_i64]; have := HM.out; have := HI1.out; omega
     go_wp2_with (first
      | ((with_reducible refine gate_dst (N := 5) rfl ?_); refine box_event ?hg (N := 5) ?hd (cs := #[.slice none 0 0, .int .i64 0, .slice none 0 0, .slice none 0 0, .slice none 0 0]) (t := 41) ?hr ?_; (case hd => rfl); (case hg => rfl); (case hr => first | (go_simp; done) | (go_simp; rfl)); intro gb hg w3 hbox hb; have n0_ := am (below_step HB.out hb); have n1_ := am (blk_below BKo.out hb); have n2_ := am (Kd.S_below (Kd.S_mono (Kd.S_bound HS.out) (ok' := fun k => k ≠ og ∧ k < gb) (fun k hk => ⟨hk.1, by rw [hg]; exact hk.2.2.1⟩)) hb); have n3_ := am hbox; have n4_ := am (show og ≠ gb ∧ w.heap.size ≤ gb ∧ og < gb by rw [hg]; have := blk_lt BKo.out; have := HB.out.size; omega); clear HB BKo HS; have HB := n0_; have BKo := n1_; have HS := n2_; have BKb := n3_; have NEb := n4_; clear n0_ n1_ n2_ n3_ n4_; clear hb hbox hg; have hcz0 := (blk_cell BKb.out 0).trans rfl; have hcz1 := (blk_cell BKb.out 1).trans rfl; have hcz2 := (blk_cell BKb.out 2).trans rfl; have hcz3 := (blk_cell BKb.out 3).trans rfl; have hcz4 := (blk_cell BKb.out 4).trans rfl; have hfz0 := blk_frozen BKb.out 0; have hfz1 := blk_frozen BKb.out 1; have hfz2 := blk_frozen BKb.out 2; have hfz3 := blk_frozen BKb.out 3; have hfz4 := blk_frozen BKb.out 4)
      | ((with_reducible refine gate_callee (f := 55) rfl ?_)
         refine goesL_ (some 14) rfl rfl Try.func55 (by kernel_rfl) rfl #[.agg #[.slice E0 (rd_T41 l0 i).f0.length d0, .int .i64 (rd_T41 l0 i).f1, .slice E2 (rd_T41 l0 i).f2.length d2, .slice E3 (rd_T41 l0 i).f3.length d3, .slice E4 (rd_T41 l0 i).f4.length d4]] rfl (by (try simp only [List.map_toArray, List.map_cons, List.map_nil]); first | done | rfl) ?_
         refine name_calls ?_
         intro w4 hw4
         have hk4 : Kept w3 w4 (fun k => k = gb) := by
          rw [hw4]
          refine Kept.setCell (S := fun k => k = gb) (p := ⟨gb, 4, none⟩) ?_ (.inl rfl) _
          refine Kept.setCell (S := fun k => k = gb) (p := ⟨gb, 3, none⟩) ?_ (.inl rfl) _
          refine Kept.setCell (S := fun k => k = gb) (p := ⟨gb, 2, none⟩) ?_ (.inl rfl) _
          refine Kept.setCell (S := fun k => k = gb) (p := ⟨gb, 1, none⟩) ?_ (.inl rfl) _
          refine Kept.setCell (S := fun k => k = gb) (p := ⟨gb, 0, none⟩) ?_ (.inl rfl) _
          exact Kept.refl _ _
         have n0_ : Aside0 (Below w.heap.size w w4) := am (by
          rw [hw4]
          refine below_set (g := gb) (j := 4) ?_ NEb.out.2.1
          refine below_set (g := gb) (j := 3) ?_ NEb.out.2.1
          refine below_set (g := gb) (j := 2) ?_ NEb.out.2.1
          refine below_set (g := gb) (j := 1) ?_ NEb.out.2.1
          refine below_set (g := gb) (j := 0) ?_ NEb.out.2.1
          exact HB.out)
         have n1_ := am (blk_kept BKo.out hk4 NEb.out.1)
         have n2_ := am (Kd.S_kept HS.out hk4 (fun k hk e => by omega))
         have n3_ := am (show gb ≤ w4.heap.size from by have := blk_lt BKb.out; have := hk4.1; omega)
         clear HB BKo HS BKb hk4
         clear hw4
         have HB := n0_
         have BKo := n1_
         have HS := n2_
         have HG := n3_
         clear n0_ n1_ n2_ n3_
         refine (cell_own.calls E0 d0 (rd_T41 l0 i).f0 (rd_T41 l0 i).f1 E2 d2 (rd_T41 l0 i).f2 E3 d3 (rd_T41 l0 i).f3 E4 d4 (rd_T41 l0 i).f4 o0 o1 o2 o3 o4 w4 (Kd.C_below D0.out.2 HB.out) D0.out.1 (Kd.C_below D2.out.2 HB.out) D2.out.1 (Kd.C_below D3.out.2 HB.out) D3.out.1 (Kd.C_below D4.out.2 HB.out) D4.out.1 HO.out).mono ?_
         rintro e w5 ⟨v0, v2, v3, v4, rfl, p0, p2, p3, p4, hb⟩
         refine ⟨_, rfl, ?_⟩
         obtain ⟨B0, b0, rfl⟩ := Kd.R_slice p0
         obtain ⟨B2, b2, rfl⟩ := Kd.R_slice p2
         obtain ⟨B3, b3, rfl⟩ := Kd.R_slice p3
         obtain ⟨B4, b4, rfl⟩ := Kd.R_slice p4
         have hle : w.heap.size ≤ w4.heap.size := HB.out.size
         have hgb := HG.out
         have HX := am (k41_mkM w5 w.heap.size (fun k => gb ≤ k) (⟨o0, o1, o2, o3, o4⟩ : S41) (Kd.R_lower (Kd.R_mono (Kd.R_bound p0) (fun k hk => Nat.le_trans hgb hk.2.1)) hle) (Kd.R_lower (Kd.R_mono (Kd.R_bound p2) (fun k hk => Nat.le_trans hgb hk.2.1)) hle) (Kd.R_lower (Kd.R_mono (Kd.R_bound p3) (fun k hk => Nat.le_trans hgb hk.2.1)) hle) (Kd.R_lower (Kd.R_mono (Kd.R_bound p4) (fun k hk => Nat.le_trans hgb hk.2.1)) hle))
         have n0_ := am (below_step HB.out hb)
         have n1_ := am (blk_below BKo.out hb)
         have n2_ := am (Kd.S_below HS.out hb)
         have n3_ := am (show gb ≤ w5.heap.size from Nat.le_trans hgb hb.size)
         clear HB BKo HS HG hgb hle p0 p2 p3 p4 hb D0 D2 D3 D4 HO
         have HB := n0_
         have BKo := n1_
         have HS := n2_
         have HG := n3_
         clear n0_ n1_ n2_ n3_)
      | ((with_reducible refine gate_callee (f := 54) rfl ?_)
         refine goesL_ (some 15) rfl rfl Try.func54 (by kernel_rfl) rfl #[.pointer (some ⟨og, 0, none⟩), .agg #[.slice B0 o0.length b0, .int .i64 o1, .slice B2 o2.length b2, .slice B3 o3.length b3, .slice B4 o4.length b4], .func (.func 38) #[] #[]] rfl (by (try simp only [List.map_toArray, List.map_cons, List.map_nil]); first | done | rfl) ?_
         refine (cellPut_calls k og gb v acc (⟨o0, o1, o2, o3, o4⟩ : S41) _ acc' w w5 BKo.out GEo.out NEb.out.2.2 HG.out HB.out HS.out HX.out HP.out).mono ?_
         rintro e w6 ⟨rfl, v', h1, h2, h3⟩
         refine ⟨_, rfl, ?_⟩
         have n0_ := am h1
         have n1_ := am h2
         have n2_ := am h3
         clear h1 h2 h3 HB BKo HS HG HX HP))
     go_roundg k1
     case measure => have := HI.out; omega
     case rel => exact ⟨i + 1, acc', v', rfl, HH, ⟨by have := HI.out; have := HI1.out; omega⟩, n0_, n1_, n2_⟩
   · have H := HA.out
     rw [List.drop_eq_nil_of_le (by omega)] at H
     have e : acc = r0 := Option.some.inj H
     subst e
     clear HA H
     have hc1 : decide ((i : Int) < (l0.length : Int)) = false := decide_eq_false (by omega)
     have hc2 : decide (i < l0.length) = false := decide_eq_false hi
     have hc3 : (i < l0.length) = False := eq_false hi
     clear hi
     obtain ⟨A, c, rfl⟩ := Kd.S_slice HS.out
     have hcz0 : wr.cell? ⟨og, 0, none⟩ = some (.slice A acc.length c) := (blk_cell BKo.out 0).trans rfl
     go_wp2_with (first
      | ((with_reducible refine gate_callee (f := 29) rfl ?_)
         refine goesL_ (some 19) rfl rfl Try.func29 (by kernel_rfl) rfl #[.slice A acc.length c] rfl (by (try simp only [List.map_toArray, List.map_cons, List.map_nil]); first | done | rfl) ?_
         obtain ⟨f, hf⟩ := HS.out
         refine (CloneCells_calls (Kd.tag f k41) rfl (.slice A acc.length c) acc.zipIdx w.heap.size (fun k => k ≠ og) w wr HB.out HB.out.size hf (fun k hk => by have := blk_lt BKo.out; omega) (by rw [List.length_zipIdx]; exact HL.out)).mono ?_
         rintro e w7 ⟨v1, rfl, hR, hB, _⟩
         refine ⟨_, rfl, ?_⟩
         have HR7 := am hR
         have HB7 := am hB
         clear hR hB hf))
     go_ret
     exact ⟨_, rfl, Kd.S_mono ⟨_, HR7.out⟩ (fun _ _ => trivial), HB7.out⟩
theorem rdC_get {l : List S41} {i : Nat} (h : i < l.length) : rd_T41 l (i : Int) = l[i] := by simp [rd_T41, List.getD_eq_getElem?_getD, h]
def SmallC (c : S41) : Prop := c.f0.length ≤ 100000 ∧ c.f2.length ≤ 100000 ∧ c.f3.length ≤ 100000 ∧ c.f4.length ≤ 100000
def SortedC (l : List S41) : Prop := l.Pairwise fun a b => lexC a.f0 b.f0 < 0
theorem S_single {w : World} {base : Nat} {v : Value} {y : S41} (h : Kd.S k41 41 w base (fun _ => True) v [y]) : ∃ g9 c9 cur cs, v = .slice (some ⟨g9, 0, none⟩) 1 c9 ∧ base ≤ g9 ∧ 1 ≤ c9 ∧ w.heap[g9]? = some (.cells cur 41 (0, 0)) ∧ cur.toList.take 5 = cs ∧ k41.M w base (fun _ => True) y cs := by
 obtain ⟨f, h0, inner, hown, hr⟩ := h
 have hz : [y].zipIdx = [(y, 0)] := rfl
 rw [hz] at hown hr
 obtain ⟨hil, hown⟩ := hown
 rcases hown with ⟨_, h1⟩ | ⟨g, cap, cur, hv, hb, hh, hnc, hcm, hcs, ht⟩
 ·simp at h1
 ·refine ⟨g, cap, cur, inner, hv, hb, hnc, hh, ?_, ?_⟩
  ·exact ht
  ·have h2 := hr.2 0 (y, 0) rfl
   have hl : inner.length = 5 := hil
   have e : (inner.drop (0 * 5)).take 5 = inner := by rw [Nat.zero_mul, List.drop_zero]; exact List.take_of_length_le (by omega)
   exact e ▸ k41.M_mono (fun _ _ => trivial) h2
theorem C_single {w : World} {g : Nat} {x : S41} {cs : List Value} {t : Nat} (hh : w.heap[g]? = some (.cells cs.toArray t (0, 0))) (hK : k41.K w x cs) (hl : cs.length = 5) : Kd.C k41 w (some ⟨g, 0, none⟩) 1 [x] := by
 refine ⟨rfl, by show (1 : Nat) ≤ _; decide, fun _ => ⟨_, rfl, fun j p hj => ⟨cs, hl, ?_, fun q u hq => ?_⟩⟩⟩
 ·have : j = 0 := by have := (List.getElem?_eq_some_iff.1 hj).1; simp at this; exact this
  subst this
  have e : x = p := by simpa using hj
  exact e ▸ hK
 ·have : j = 0 := by have := (List.getElem?_eq_some_iff.1 hj).1; simp at this; exact this
  subst this
  rw [Addr.add_lit, cell_of_row w g _ _ _ _ hh, List.getElem?_toArray]
  simpa using hq
def runsPut.f (k : Nat) (xs : List S41) (x : S41) (most : Int) : Option (Bool × List S41) := (bsf_R1.f k xs x.f0 x.f1 x.f2 x.f3 x.f4).bind fun t =>
 if t.2 = true then (if 0 ≤ t.1 ∧ t.1 < (xs.length : Int) then ((cell_Join.f k (rd_T41 xs t.1).f0 (rd_T41 xs t.1).f1 (rd_T41 xs t.1).f2 (rd_T41 xs t.1).f3 (rd_T41 xs t.1).f4 x.f0 x.f1 x.f2 x.f3 x.f4).bind fun j => some (true, xs.set t.1.toNat ⟨j.1, j.2.1, j.2.2.1, j.2.2.2.1, j.2.2.2.2⟩)) else none)
 else (if most ≤ (xs.length : Int) then some (false, xs)
 else (cell_Group.f k [x]).bind fun g => (if 0 ≤ t.1 ∧ t.1 ≤ (xs.length : Int) ∧ (xs.length + 1) * 104 ≤ 140737488355328 ∧ g.length = 1 then some (true, xs.take t.1.toNat ++ g ++ xs.drop t.1.toNat) else none))
def runsPut.T1 : Bool × List (List Nat × List Nat) := (true, [([], []), ([0], [0]), ([1], [1]), ([2], [2]), ([], []), ([3, 4], [3, 4]), ([5], [5]), ([6], [6]), ([6], [6]), ([7, 5, 0, 1, 2, 3, 4, 5, 6, 7], [7]), ([8, 9, 0, 1, 2, 3, 4, 5, 6, 7, 8, 9], [8])])
def runsPut.B1 : List Nat := [0, 1, 3, 7, 0, 31, 63, 127, 127, 255, 1023]
theorem runsPut.tab1 : rtab .any (opsOf Try.f28 1) = runsPut.T1 := by kernel_rfl
theorem runsPut.bits1 : waitsOk runsPut.T1.2 runsPut.B1 = true := by kernel_rfl
def runsPut.T4 : Bool × List (List Nat × List Nat) := (true, [([], []), ([0], [0]), ([1], [1]), ([2], [2]), ([], []), ([], []), ([5], [5]), ([6], [6]), ([7], [7]), ([], []), ([8, 9], [8, 9]), ([10], [10]), ([], []), ([11, 12], [11, 12]), ([3, 4, 0, 1, 2, 3, 4, 5, 6, 7, 8, 9, 10, 11, 12, 13], [3, 4]), ([14, 13, 13, 0, 1, 2, 3, 4, 5, 6, 7, 8, 9, 10, 11, 12, 13], [13, 14])])
def runsPut.B4 : List Nat := [0, 1, 3, 7, 0, 0, 32, 96, 224, 0, 992, 2016, 0, 8160, 16383, 32767]
theorem runsPut.tab4 : rtab .any (opsOf Try.f28 4) = runsPut.T4 := by kernel_rfl
theorem runsPut.bits4 : waitsOk runsPut.T4.2 runsPut.B4 = true := by kernel_rfl
def runsPut.T2 : Bool × List (List Nat × List Nat) := (true, [([], []), ([], []), ([1], [1]), ([2], [2]), ([3], [3]), ([], []), ([], []), ([6], [6]), ([7], [7]), ([4, 5, 8, 8], [4, 5, 8]), ([0, 0, 1, 2, 3, 4, 5, 6, 7, 8, 9], [0]), ([10, 0, 1, 2, 3, 4, 5, 6, 7, 8, 9], [10]), ([11, 9, 9, 0, 1, 2, 3, 4, 5, 6, 7, 8, 9], [9, 11])])
def runsPut.B2 : List Nat := [0, 0, 2, 6, 14, 0, 0, 64, 192, 510, 1023, 2047, 4095]
theorem runsPut.tab2 : rtab .any (opsOf Try.f28 2) = runsPut.T2 := by kernel_rfl
theorem runsPut.bits2 : waitsOk runsPut.T2.2 runsPut.B2 = true := by kernel_rfl
set_option maxHeartbeats 8000000 in
set_option maxRecDepth 100000 in
theorem runsPut_calls (k og : Nat) (v : Value) (xs : List S41) (x : S41) (most : Int) (A0 : Option Addr) (c0 : Nat) (A2 : Option Addr) (c2 : Nat) (A3 : Option Addr) (c3 : Nat) (A4 : Option Addr) (c4 : Nat) (b : Bool) (r : List S41) (w0 w : World) (hog : w.heap[og]? = some (.cells #[v] 50 (0, 0))) (hogb : w0.heap.size ≤ og) (hB : Below w0.heap.size w0 w)
    (hS : Kd.S k41 41 w w0.heap.size (fun k => k ≠ og) v xs) (hr0 : Kd.C (Kd.int .i64) w0 A0 x.f0.length x.f0) (hc0 : x.f0.length ≤ c0) (hr2 : Kd.C (Kd.int .i64) w0 A2 x.f2.length x.f2) (hc2 : x.f2.length ≤ c2) (hr3 : Kd.C (Kd.int .i64) w0 A3 x.f3.length x.f3) (hc3 : x.f3.length ≤ c3) (hr4 : Kd.C (Kd.int .i64) w0 A4 x.f4.length x.f4) (hc4 : x.f4.length ≤ c4) (h : runsPut.f k xs x most = some (b, r)) :
    Calls Try.prog 28 #[.pointer (some ⟨og, 0, none⟩), .agg #[.slice A0 x.f0.length c0, .int .i64 x.f1, .slice A2 x.f2.length c2, .slice A3 x.f3.length c3, .slice A4 x.f4.length c4], .int .i64 most] w fun e w' => e = .returned (.bool b) ∧ ∃ v', w'.heap[og]? = some (.cells #[v'] 50 (0, 0)) ∧ Kd.S k41 41 w' w0.heap.size (fun k => k ≠ og) v' r ∧ Below w0.heap.size w0 w' ∧ (b = false → Below w.heap.size w w') := by
 have hu30 := Try.underlying41
 have hu65 := Try.underlying50
 obtain ⟨A, c, rfl⟩ := Kd.S_slice hS
 have G0 := am (And.intro hr0 hc0)
 have G2 := am (And.intro hr2 hc2)
 have G3 := am (And.intro hr3 hc3)
 have G4 := am (And.intro hr4 hc4)
 have HS := am hS
 have HB := am hB
 have BKo := am hog
 have GEo := am hogb
 clear hr0 hr2 hr3 hr4 hc0 hc2 hc3 hc4 hS hB hog hogb
 unfold runsPut.f at h
 replace h := Option.bind_eq_some_iff.mp h
 obtain ⟨⟨t1, t2⟩, A1, H⟩ := h
 have HA := am A1
 have HH := am H
 clear A1 H
 go_enter Try.func28, Try.ntmps28
 go_wp2_with (((with_reducible refine gate_dst (N := 4) rfl ?_); refine box_event ?hg (N := 4) ?hd (cs := #[.slice A0 x.f0.length c0, .int .i64 x.f1, .slice A2 x.f2.length c2, .slice A3 x.f3.length c3, .slice A4 x.f4.length c4]) (t := 41) ?hr ?_; (case hd => rfl); (case hg => rfl); (case hr => first | (go_simp; done) | (go_simp; rfl)); intro gb hg w3 hbox hb; have n0_ := am (below_step HB.out hb); have n1_ := am hbox; have n2_ := am (blk_below BKo.out hb); have n3_ := am (Kd.S_below HS.out hb); have n4_ := am (show gb ≠ og ∧ w0.heap.size ≤ gb by have := blk_lt BKo.out; have := HB.out.size; omega); have n5_ := am (Kd.S_mono (Kd.S_bound HS.out) (ok' := fun k => k ≠ og ∧ k ≠ gb) (fun k hk => ⟨hk.1, by have := hk.2.2.1; omega⟩)); have n6_ := am (Kd.S_below n5_.out hb); clear n3_ n5_; have HW := am hb; clear HB BKo HS; have HB := n0_; have BKx := n1_; have BKo := n2_; have HS := n6_; have HN := n4_; clear n0_ n1_ n2_ n4_ n6_; clear hb hbox hg))

 refine start_ (n := 11) (S := fun w' => w'.cell? ⟨og, 0, none⟩ = some (.slice A xs.length c) ∧ w'.cell? ⟨gb, 0, none⟩ = some (.slice A0 x.f0.length c0) ∧ w'.cell? ⟨gb, 1, none⟩ = some (.int .i64 x.f1) ∧ w'.cell? ⟨gb, 2, none⟩ = some (.slice A2 x.f2.length c2) ∧ w'.cell? ⟨gb, 3, none⟩ = some (.slice A3 x.f3.length c3) ∧ w'.cell? ⟨gb, 4, none⟩ = some (.slice A4 x.f4.length c4)) (ds := []) (bb 11 0) (by kernel_rfl) rfl rfl ⟨(blk_cell BKo.out 0).trans rfl, (blk_cell BKx.out 0).trans rfl, (blk_cell BKx.out 1).trans rfl, (blk_cell BKx.out 2).trans rfl, (blk_cell BKx.out 3).trans rfl, (blk_cell BKx.out 4).trans rfl⟩ (fun hHeld => ?_); refine with_tabW runsPut.tab1 runsPut.bits1 (fun HT_ HW_ => ?_)
 have n0_ := am (below_drew1 HB.out)
 have n1_ := am (blk_drew BKx.out)
 have n2_ := am (blk_drew BKo.out)
 have n3_ := am (Kd.S_drew HS.out)
 have n4_ := am (below_drew1 HW.out)
 clear HB BKx BKo HS HW
 have HB := n0_
 have BKx := n1_
 have BKo := n2_
 have HS := n3_
 have HW := n4_
 clear n0_ n1_ n2_ n3_ n4_
 generalize w3.drew = w4 at HB BKx BKo HS HW hHeld ⊢
 refine pure_ (i := 0) (N := some 10) (v := ?_) (a' := ?_) (bb 11 1) rfl rfl (any_of HT_.out (by kernel_rfl)) (fun _ _ _ h => h) (Or.inl ⟨by rfl, ?_⟩) ?_ ?_
 rotate_left
 ·intro w'
  go_simp
  with_reducible rfl
 rotate_left
 ·simp only [Act.put, List.setIfInBounds_toArray, List.set_cons_zero, List.set_cons_succ, i64_w, i32_w]
  rfl
 refine pure_ (i := 1) (N := some 11) (v := ?_) (a' := ?_) (bb 11 3) rfl rfl (any_of HT_.out (by kernel_rfl)) (fun _ _ _ h => h) (Or.inl ⟨by rfl, ?_⟩) ?_ ?_
 rotate_left
 ·intro w'
  go_simp
  with_reducible rfl
 rotate_left
 ·simp only [Act.put, List.setIfInBounds_toArray, List.set_cons_zero, List.set_cons_succ, i64_w, i32_w]
  rfl
 refine pure_ (i := 2) (N := some 12) (v := ?_) (a' := ?_) (bb 11 7) rfl rfl (any_of HT_.out (by kernel_rfl)) (fun _ _ _ h => h) (Or.inl ⟨by rfl, ?_⟩) ?_ ?_
 rotate_left
 ·intro w'
  go_simp
  with_reducible rfl
 rotate_left
 ·simp only [Act.put, List.setIfInBounds_toArray, List.set_cons_zero, List.set_cons_succ, i64_w, i32_w]
  rfl
 refine take_ (i := 3) (N := some 13) (v := ?_) (a' := ?_) (bb 11 15) rfl rfl (take_ofW HT_.out HW_.out (by kernel_rfl)) (fun _ _ _ h => h) (Or.inl ⟨by rfl, ?_⟩) hHeld ?_ ?_
 rotate_left
 ·rintro w' ⟨s0, s1, s2, s3, s4, s5⟩
  go_simp
  with_reducible rfl
 rotate_left
 ·simp only [Act.put, List.setIfInBounds_toArray, List.set_cons_zero, List.set_cons_succ, i64_w, i32_w]
  rfl
 refine take_ (i := 4) (N := some 14) (v := ?_) (a' := ?_) (bb 11 31) rfl rfl (take_ofW HT_.out HW_.out (by kernel_rfl)) (fun _ _ _ h => h) (Or.inl ⟨by rfl, ?_⟩) hHeld ?_ ?_
 rotate_left
 ·rintro w' ⟨s0, s1, s2, s3, s4, s5⟩
  go_simp
  with_reducible rfl
 rotate_left
 ·simp only [Act.put, List.setIfInBounds_toArray, List.set_cons_zero, List.set_cons_succ, i64_w, i32_w]
  rfl
 refine one_ (i := 5) (N := some 15) (bb 11 63) rfl rfl (one_of HT_.out (by kernel_rfl)) (by decide) (fun K hK => ?_)
 refine goes_ Try.func37 (by kernel_rfl) rfl #[.slice A xs.length c, .agg #[.slice A0 x.f0.length c0, .int .i64 x.f1, .slice A2 x.f2.length c2, .slice A3 x.f3.length c3, .slice A4 x.f4.length c4], .func (.func 34) #[] #[]] (by rfl) rfl rfl (by (try simp only [List.map_toArray, List.map_cons, List.map_nil]); first | done | rfl) ?_
 refine (bsf_R1.calls k A c xs A0 c0 x.f0 x.f1 A2 c2 x.f2 A3 c3 x.f3 A4 c4 x.f4 t1 t2 _ (Kd.S_reads' HS.out).2.2 (Kd.S_reads' HS.out).2.1 (Kd.C_below G0.out.1 HB.out) G0.out.2 (Kd.C_below G2.out.1 HB.out) G2.out.2 (Kd.C_below G3.out.1 HB.out) G3.out.2 (Kd.C_below G4.out.1 HB.out) G4.out.2 HA.out).mono ?_
 rintro e w5 ⟨rfl, hb⟩
 refine ⟨_, rfl, ?_⟩
 have n0_ := am (below_step HB.out hb)
 have n1_ := am (blk_below BKx.out hb)
 have n2_ := am (blk_below BKo.out hb)
 have n3_ := am (Kd.S_below HS.out hb)
 have n4_ := am (below_step HW.out hb)
 clear HB BKx BKo HS HW
 have HB := n0_
 have BKx := n1_
 have BKo := n2_
 have HS := n3_
 have HW := n4_
 clear n0_ n1_ n2_ n3_ n4_
 clear hb
 refine hK.out _ _ ⟨(blk_cell BKo.out 0).trans rfl, (blk_cell BKx.out 0).trans rfl, (blk_cell BKx.out 1).trans rfl, (blk_cell BKx.out 2).trans rfl, (blk_cell BKx.out 3).trans rfl, (blk_cell BKx.out 4).trans rfl⟩ (fun hHeld => ?_)
 clear hK K
 refine norm_ (a' := ?_) ?_ ?_
 rotate_left
 ·show Act.put _ (some 15) _ = _
  simp only [Act.put, List.setIfInBounds_toArray, List.set_cons_zero, List.set_cons_succ, i64_w, i32_w]
  rfl
 refine pure_ (i := 6) (N := some 9) (v := ?_) (a' := ?_) (bb 11 127) rfl rfl (any_of HT_.out (by kernel_rfl)) (fun _ _ _ h => h) (Or.inl ⟨by rfl, ?_⟩) ?_ ?_
 rotate_left
 ·intro w'
  go_simp
  with_reducible rfl
 rotate_left
 ·simp only [Act.put, List.setIfInBounds_toArray, List.set_cons_zero, List.set_cons_succ, i64_w, i32_w]
  rfl
 refine pure_ (i := 7) (N := some 16) (v := ?_) (a' := ?_) (bb 11 255) rfl rfl (any_of HT_.out (by kernel_rfl)) (fun _ _ _ h => h) (Or.inl ⟨by rfl, ?_⟩) ?_ ?_
 rotate_left
 ·intro w'
  go_simp
  with_reducible rfl
 rotate_left
 ·simp only [Act.put, List.setIfInBounds_toArray, List.set_cons_zero, List.set_cons_succ, i64_w, i32_w]
  rfl
 refine pure_ (i := 8) (N := some 17) (v := ?_) (a' := ?_) (bb 11 511) rfl rfl (any_of HT_.out (by kernel_rfl)) (fun _ _ _ h => h) (Or.inl ⟨by rfl, ?_⟩) ?_ ?_
 rotate_left
 ·intro w'
  go_simp
  with_reducible rfl
 rotate_left
 ·simp only [Act.put, List.setIfInBounds_toArray, List.set_cons_zero, List.set_cons_succ, i64_w, i32_w]
  rfl
 refine pure_ (i := 9) (N := some 7) (v := ?_) (a' := ?_) (bb 11 1023) rfl rfl (any_of HT_.out (by kernel_rfl)) (fun _ _ _ h => h) (Or.inl ⟨by rfl, ?_⟩) ?_ ?_
 rotate_left
 ·intro w'
  go_simp
  with_reducible rfl
 rotate_left
 ·simp only [Act.put, List.setIfInBounds_toArray, List.set_cons_zero, List.set_cons_succ, i64_w, i32_w]
  rfl
 refine pure_ (i := 10) (N := some 8) (v := ?_) (a' := ?_) (bb 11 2047) rfl rfl (any_of HT_.out (by kernel_rfl)) (fun _ _ _ h => h) (Or.inl ⟨by rfl, ?_⟩) ?_ ?_
 rotate_left
 ·intro w'
  go_simp
  with_reducible rfl
 rotate_left
 ·simp only [Act.put, List.setIfInBounds_toArray, List.set_cons_zero, List.set_cons_succ, i64_w, i32_w]
  rfl
 refine done_ (done_of HT_.out (by kernel_rfl)) ?_
 have H := HH.out
 clear HH HA
 try dsimp only at H
 cases t2 with
 | true =>
  rw [if_pos rfl] at H
  by_cases hc : 0 ≤ t1 ∧ t1 < (xs.length : Int)
  · rw [if_pos hc] at H
    replace H := Option.bind_eq_some_iff.mp H
    obtain ⟨⟨j0, j1, j2, j3, j4⟩, AJ, H⟩ := H
    have HJ := am AJ
    have HRr := am (Option.some.inj H)
    clear H AJ
    obtain ⟨hc0, hc1⟩ := hc
    obtain ⟨ad, E0, d0, E2, d2, E3, d3, E4, d4, eA, q0, q1, q2, q3, q4, l0, K0, l2, K2, l3, K3, l4, K4⟩ := at_T41 (Kd.S_reads' HS.out).2.2 t1 hc0 hc1
    cases eA
    have Q0 := am q0
    have Q1 := am q1
    have Q2 := am q2
    have Q3 := am q3
    have Q4 := am q4
    have D0 := am (And.intro l0 (Kd.C_drew K0))
    have D2 := am (And.intro l2 (Kd.C_drew K2))
    have D3 := am (And.intro l3 (Kd.C_drew K3))
    have D4 := am (And.intro l4 (Kd.C_drew K4))
    clear q0 q1 q2 q3 q4 l0 K0 l2 K2 l3 K3 l4 K4
    have HC := am (And.intro hc0 hc1)
    replace hc0 := eq_true hc0
    replace hc1 := eq_true hc1
    go_wp2
    refine start_ (n := 16) (S := fun w' => w'.cell? ⟨og, 0, none⟩ = some (.slice (some ad) xs.length c) ∧ w'.cell? ⟨gb, 0, none⟩ = some (.slice A0 x.f0.length c0) ∧ w'.cell? ⟨gb, 1, none⟩ = some (.int .i64 x.f1) ∧ w'.cell? ⟨gb, 2, none⟩ = some (.slice A2 x.f2.length c2) ∧ w'.cell? ⟨gb, 3, none⟩ = some (.slice A3 x.f3.length c3) ∧ w'.cell? ⟨gb, 4, none⟩ = some (.slice A4 x.f4.length c4) ∧ w'.cell? (ad.add (t1.toNat * 5)) = some (.slice E0 (rd_T41 xs t1).f0.length d0) ∧ w'.cell? ⟨(ad.add (t1.toNat * 5)).block, (ad.add (t1.toNat * 5)).off + 1, none⟩ = some (.int .i64 (rd_T41 xs t1).f1) ∧ w'.cell? ⟨(ad.add (t1.toNat * 5)).block, (ad.add (t1.toNat * 5)).off + 2, none⟩ = some (.slice E2 (rd_T41 xs t1).f2.length d2) ∧ w'.cell? ⟨(ad.add (t1.toNat * 5)).block, (ad.add (t1.toNat * 5)).off + 3, none⟩ = some (.slice E3 (rd_T41 xs t1).f3.length d3) ∧ w'.cell? ⟨(ad.add (t1.toNat * 5)).block, (ad.add (t1.toNat * 5)).off + 4, none⟩ = some (.slice E4 (rd_T41 xs t1).f4.length d4)) (ds := [15]) (bb 16 0) (by kernel_rfl) rfl rfl ⟨(blk_cell BKo.out 0).trans rfl, (blk_cell BKx.out 0).trans rfl, (blk_cell BKx.out 1).trans rfl, (blk_cell BKx.out 2).trans rfl, (blk_cell BKx.out 3).trans rfl, (blk_cell BKx.out 4).trans rfl, Q0.out, Q1.out, Q2.out, Q3.out, Q4.out⟩ (fun hHeld => ?_); refine with_tabW runsPut.tab4 runsPut.bits4 (fun HT_ HW_ => ?_)
    clear Q0 Q1 Q2 Q3 Q4
    have n0_ := am (below_drew1 HB.out)
    have n1_ := am (blk_drew BKx.out)
    have n2_ := am (blk_drew BKo.out)
    have n3_ := am (Kd.S_drew HS.out)
    have n4_ := am (below_drew1 HW.out)
    clear HB BKx BKo HS HW
    have HB := n0_
    have BKx := n1_
    have BKo := n2_
    have HS := n3_
    have HW := n4_
    clear n0_ n1_ n2_ n3_ n4_
    generalize w5.drew = w6 at HB BKx BKo HS HW D0 D2 D3 D4 hHeld ⊢
    refine pure_ (i := 0) (N := some 32) (v := ?_) (a' := ?_) (bb 16 1) rfl rfl (any_of HT_.out (by kernel_rfl)) (fun _ _ _ h => h) (Or.inl ⟨by rfl, ?_⟩) ?_ ?_
    rotate_left
    ·intro w'
     go_simp
     with_reducible rfl
    rotate_left
    ·simp only [Act.put, List.setIfInBounds_toArray, List.set_cons_zero, List.set_cons_succ, i64_w, i32_w]
     rfl
    refine pure_ (i := 1) (N := some 33) (v := ?_) (a' := ?_) (bb 16 3) rfl rfl (any_of HT_.out (by kernel_rfl)) (fun _ _ _ h => h) (Or.inl ⟨by rfl, ?_⟩) ?_ ?_
    rotate_left
    ·intro w'
     go_simp
     with_reducible rfl
    rotate_left
    ·simp only [Act.put, List.setIfInBounds_toArray, List.set_cons_zero, List.set_cons_succ, i64_w, i32_w]
     rfl
    refine pure_ (i := 2) (N := some 34) (v := ?_) (a' := ?_) (bb 16 7) rfl rfl (any_of HT_.out (by kernel_rfl)) (fun _ _ _ h => h) (Or.inl ⟨by rfl, ?_⟩) ?_ ?_
    rotate_left
    ·intro w'
     go_simp
     with_reducible rfl
    rotate_left
    ·simp only [Act.put, List.setIfInBounds_toArray, List.set_cons_zero, List.set_cons_succ, i64_w, i32_w]
     rfl
    refine pure_ (i := 4) (N := some 36) (v := ?_) (a' := ?_) (bb 16 23) rfl rfl (any_of HT_.out (by kernel_rfl)) (fun _ _ _ h => h) (Or.inl ⟨by rfl, ?_⟩) ?_ ?_
    rotate_left
    ·intro w'
     go_simp
     with_reducible rfl
    rotate_left
    ·simp only [Act.put, List.setIfInBounds_toArray, List.set_cons_zero, List.set_cons_succ, i64_w, i32_w]
     rfl
    refine pure_ (i := 5) (N := some 37) (v := ?_) (a' := ?_) (bb 16 55) rfl rfl (any_of HT_.out (by kernel_rfl)) (fun _ _ _ h => h) (Or.inl ⟨by rfl, ?_⟩) ?_ ?_
    rotate_left
    ·intro w'
     go_simp
     with_reducible rfl
    rotate_left
    ·simp only [Act.put, List.setIfInBounds_toArray, List.set_cons_zero, List.set_cons_succ, i64_w, i32_w]
     rfl
    refine pure_ (i := 6) (N := some 38) (v := ?_) (a' := ?_) (bb 16 119) rfl rfl (any_of HT_.out (by kernel_rfl)) (fun _ _ _ h => h) (Or.inl ⟨by rfl, ?_⟩) ?_ ?_
    rotate_left
    ·intro w'
     go_simp
     with_reducible rfl
    rotate_left
    ·simp only [Act.put, List.setIfInBounds_toArray, List.set_cons_zero, List.set_cons_succ, i64_w, i32_w]
     rfl
    refine pure_ (i := 7) (N := some 39) (v := ?_) (a' := ?_) (bb 16 247) rfl rfl (any_of HT_.out (by kernel_rfl)) (fun _ _ _ h => h) (Or.inl ⟨by rfl, ?_⟩) ?_ ?_
    rotate_left
    ·intro w'
     go_simp
     with_reducible rfl
    rotate_left
    ·simp only [Act.put, List.setIfInBounds_toArray, List.set_cons_zero, List.set_cons_succ, i64_w, i32_w]
     rfl
    refine pure_ (i := 9) (N := some 41) (v := ?_) (a' := ?_) (bb 16 759) rfl rfl (any_of HT_.out (by kernel_rfl)) (fun _ _ _ h => h) (Or.inl ⟨by rfl, ?_⟩) ?_ ?_
    rotate_left
    ·intro w'
     go_simp
     with_reducible rfl
    rotate_left
    ·simp only [Act.put, List.setIfInBounds_toArray, List.set_cons_zero, List.set_cons_succ, i64_w, i32_w]
     rfl
    refine take_ (i := 3) (N := some 35) (v := ?_) (a' := ?_) (bb 16 767) rfl rfl (take_ofW HT_.out HW_.out (by kernel_rfl)) (fun _ _ _ h => h) (Or.inl ⟨by rfl, ?_⟩) hHeld ?_ ?_
    rotate_left
    ·rintro w' ⟨s0, s1, s2, s3, s4, s5, s6, s7, s8, s9, s10⟩
     go_simp
     with_reducible rfl
    rotate_left
    ·simp only [Act.put, List.setIfInBounds_toArray, List.set_cons_zero, List.set_cons_succ, i64_w, i32_w]
     rfl
    refine take_ (i := 8) (N := some 40) (v := ?_) (a' := ?_) (bb 16 1023) rfl rfl (take_ofW HT_.out HW_.out (by kernel_rfl)) (fun _ _ _ h => h) (Or.inl ⟨by rfl, ?_⟩) hHeld ?_ ?_
    rotate_left
    ·rintro w' ⟨s0, s1, s2, s3, s4, s5, s6, s7, s8, s9, s10⟩
     go_simp
     with_reducible rfl
    rotate_left
    ·simp only [Act.put, List.setIfInBounds_toArray, List.set_cons_zero, List.set_cons_succ, i64_w, i32_w]
     rfl
    refine take_ (i := 12) (N := some 44) (v := ?_) (a' := ?_) (bb 16 5119) rfl rfl (take_ofW HT_.out HW_.out (by kernel_rfl)) (fun _ _ _ h => h) (Or.inl ⟨by rfl, ?_⟩) hHeld ?_ ?_
    rotate_left
    ·rintro w' ⟨s0, s1, s2, s3, s4, s5, s6, s7, s8, s9, s10⟩
     go_simp
     with_reducible rfl
    rotate_left
    ·simp only [Act.put, List.setIfInBounds_toArray, List.set_cons_zero, List.set_cons_succ, i64_w, i32_w]
     rfl
    refine pure_ (i := 10) (N := some 42) (v := ?_) (a' := ?_) (bb 16 6143) rfl rfl (any_of HT_.out (by kernel_rfl)) (fun _ _ _ h => h) (Or.inl ⟨by rfl, ?_⟩) ?_ ?_
    rotate_left
    ·intro w'
     go_simp
     with_reducible rfl
    rotate_left
    ·simp only [Act.put, List.setIfInBounds_toArray, List.set_cons_zero, List.set_cons_succ, i64_w, i32_w]
     rfl
    refine take_ (i := 11) (N := some 43) (v := ?_) (a' := ?_) (bb 16 8191) rfl rfl (take_ofW HT_.out HW_.out (by kernel_rfl)) (fun _ _ _ h => h) (Or.inl ⟨by rfl, ?_⟩) hHeld ?_ ?_
    rotate_left
    ·rintro w' ⟨s0, s1, s2, s3, s4, s5, s6, s7, s8, s9, s10⟩
     go_simp
     with_reducible rfl
    rotate_left
    ·simp only [Act.put, List.setIfInBounds_toArray, List.set_cons_zero, List.set_cons_succ, i64_w, i32_w]
     rfl
    refine one_ (i := 13) (N := some 45) (bb 16 16383) rfl rfl (one_of HT_.out (by kernel_rfl)) (by decide) (fun K hK => ?_)
    refine goes_ Try.func38 (by kernel_rfl) rfl #[.agg #[.slice E0 (rd_T41 xs t1).f0.length d0, .int .i64 (rd_T41 xs t1).f1, .slice E2 (rd_T41 xs t1).f2.length d2, .slice E3 (rd_T41 xs t1).f3.length d3, .slice E4 (rd_T41 xs t1).f4.length d4], .agg #[.slice A0 x.f0.length c0, .int .i64 x.f1, .slice A2 x.f2.length c2, .slice A3 x.f3.length c3, .slice A4 x.f4.length c4]] (by rfl) rfl rfl (by (try simp only [List.map_toArray, List.map_cons, List.map_nil]); first | done | rfl) ?_
    refine (cell_Join.calls k E0 d0 (rd_T41 xs t1).f0 (rd_T41 xs t1).f1 E2 d2 (rd_T41 xs t1).f2 E3 d3 (rd_T41 xs t1).f3 E4 d4 (rd_T41 xs t1).f4 A0 c0 x.f0 x.f1 A2 c2 x.f2 A3 c3 x.f3 A4 c4 x.f4 j0 j1 j2 j3 j4 _ D0.out.2 D0.out.1 D2.out.2 D2.out.1 D3.out.2 D3.out.1 D4.out.2 D4.out.1 (Kd.C_below G0.out.1 HB.out) G0.out.2 (Kd.C_below G2.out.1 HB.out) G2.out.2 (Kd.C_below G3.out.1 HB.out) G3.out.2 (Kd.C_below G4.out.1 HB.out) G4.out.2 HJ.out).mono ?_
    rintro e w7 ⟨v0, v2, v3, v4, rfl, o0, o2, o3, o4, hb⟩
    refine ⟨_, rfl, ?_⟩
    obtain ⟨B0, b0, rfl⟩ := Kd.R_slice o0
    obtain ⟨B2, b2, rfl⟩ := Kd.R_slice o2
    obtain ⟨B3, b3, rfl⟩ := Kd.R_slice o3
    obtain ⟨B4, b4, rfl⟩ := Kd.R_slice o4
    have hle : w0.heap.size ≤ w6.heap.size := HB.out.size
    have HM := am (k41_mkM w7 w0.heap.size (fun k => w6.heap.size ≤ k) (⟨j0, j1, j2, j3, j4⟩ : S41) (Kd.R_lower (Kd.R_mono (Kd.R_bound o0) (fun k hk => hk.2.1)) hle) (Kd.R_lower (Kd.R_mono (Kd.R_bound o2) (fun k hk => hk.2.1)) hle) (Kd.R_lower (Kd.R_mono (Kd.R_bound o3) (fun k hk => hk.2.1)) hle) (Kd.R_lower (Kd.R_mono (Kd.R_bound o4) (fun k hk => hk.2.1)) hle))
    have nb_ := am (Kd.S_mono (Kd.S_bound HS.out) (ok' := fun k => k ≠ og ∧ k ≠ gb ∧ k < w6.heap.size) (fun k hk => ⟨hk.1.1, hk.1.2, hk.2.2.1⟩))
    have na_ := am (blk_lt BKo.out)
    have nq_ : Aside0 (∀ p : Addr, p.block < w6.heap.size → w7.cell? p = w6.cell? p) := ⟨fun p hp => hb.cell hp⟩
    clear HS
    have HS := nb_
    clear nb_
    have n0_ := am (below_step HB.out hb)
    have n1_ := am (blk_below BKx.out hb)
    have n2_ := am (blk_below BKo.out hb)
    have n3_ := am (Kd.S_below HS.out hb)
    have n4_ := am (below_step HW.out hb)
    clear HB BKx BKo HS HW
    have HB := n0_
    have BKx := n1_
    have BKo := n2_
    have HS := n3_
    have HW := n4_
    clear n0_ n1_ n2_ n3_ n4_
    clear D0 D2 D3 D4 HJ
    clear hb o0 o2 o3 o4 hle
    refine hK.out _ _ ⟨(blk_cell BKo.out 0).trans rfl, (blk_cell BKx.out 0).trans rfl, (blk_cell BKx.out 1).trans rfl, (blk_cell BKx.out 2).trans rfl, (blk_cell BKx.out 3).trans rfl, (blk_cell BKx.out 4).trans rfl, (nq_.out _ (World.block_lt_of_cell? _ _ hHeld.2.2.2.2.2.2.1)).trans hHeld.2.2.2.2.2.2.1, (nq_.out _ (World.block_lt_of_cell? _ _ hHeld.2.2.2.2.2.2.2.1)).trans hHeld.2.2.2.2.2.2.2.1, (nq_.out _ (World.block_lt_of_cell? _ _ hHeld.2.2.2.2.2.2.2.2.1)).trans hHeld.2.2.2.2.2.2.2.2.1, (nq_.out _ (World.block_lt_of_cell? _ _ hHeld.2.2.2.2.2.2.2.2.2.1)).trans hHeld.2.2.2.2.2.2.2.2.2.1, (nq_.out _ (World.block_lt_of_cell? _ _ hHeld.2.2.2.2.2.2.2.2.2.2)).trans hHeld.2.2.2.2.2.2.2.2.2.2⟩ (fun hHeld => ?_)
    clear hK K
    refine norm_ (a' := ?_) ?_ ?_
    rotate_left
    ·show Act.put _ (some 45) _ = _
     simp only [Act.put, List.setIfInBounds_toArray, List.set_cons_zero, List.set_cons_succ, i64_w, i32_w]
     rfl
    clear nq_
    refine pure_ (i := 14) (N := some 46) (v := ?_) (a' := ?_) (bb 16 32767) rfl rfl (any_of HT_.out (by kernel_rfl)) (fun _ _ _ h => h) (Or.inl ⟨by rfl, ?_⟩) ?_ ?_
    rotate_left
    ·intro w'
     go_simp
     with_reducible rfl
    rotate_left
    ·simp only [Act.put, List.setIfInBounds_toArray, List.set_cons_zero, List.set_cons_succ, i64_w, i32_w]
     rfl
    refine last_ (i := 15) (N := none) (bb 16 65535) rfl rfl (one_of HT_.out (by kernel_rfl)) (by decide) (fun K hK => ?_)
    obtain ⟨g, eg⟩ := Kd.R_head (Kd.S_R HS.out)
    subst eg
    obtain ⟨f, hf⟩ := HS.out
    have hf2 := Kd.R_mono (Kd.R_tag (f' := fun k => if w6.heap.size ≤ k then t1.toNat else f k) (Kd.R_mono hf (ok' := fun k => k ≠ og ∧ k < w6.heap.size) (fun k hk => ⟨hk.1, hk.2.2⟩)) (fun k hk _ => if_neg (by omega))) (ok' := fun k => k ≠ og) (fun k hk => hk.1)
    have hgo : g ≠ og ∧ g < w6.heap.size := by
      have := hf.1 g (by simp [Value.ownBlock])
      omega
    have hol := na_.out
    refine R_store_step (Kd.tag (fun k => if w6.heap.size ≤ k then t1.toNat else f k) k41) w0.heap.size (by rfl) rfl 41 (.tmp 46) (.tmp 45) rfl 41 (g := g) (n := xs.length) (cap := c) (o' := t1.toNat * 5) t1 xs.zipIdx ((⟨j0, j1, j2, j3, j4⟩ : S41), t1.toNat) _ [.slice B0 j0.length b0, .int .i64 j1, .slice B2 j2.length b2, .slice B3 j3.length b3, .slice B4 j4.length b4] [] (fun k => k ≠ og) (fun k => w6.heap.size ≤ k) ?haddr rfl rfl rfl (by kernel_rfl) rfl ?h1 hf2 HC.out.1 HC.out.2 ?hM ?hokp ?_
    case haddr => exact Eq.trans rfl (congrArg (fun p => Value.pointer (some p)) (by rw [Addr.add_lit, Nat.zero_add]))
    case h1 => intro q hq; simp only [List.mem_cons, List.not_mem_nil, or_false] at hq; rcases hq with rfl | rfl | rfl | rfl | rfl <;> rfl
    case hM => exact k41.M_mono (fun k hk => ⟨hk, if_pos hk⟩) HM.out
    case hokp => intro k hk; exact ⟨by omega, by omega⟩
    intro w8 hR hg
    have n0_ := am (blk_grown BKo.out hg (fun e => by injection e with e; omega))
    have n1_ := am (HB.out.grown hg HB.out.size (fun k e => by injection e with e; have := Kd.R_base hf k (by simp [Value.ownBlock, e]); omega))
    have n2_ := am (relabel (xs := xs.set t1.toNat (⟨j0, j1, j2, j3, j4⟩ : S41)) id hR (by simp) (fun q p hq => ⟨q, by
      rw [List.getElem?_set] at hq ⊢
      by_cases hqi : t1.toNat = q
      · subst hqi
        rw [if_pos rfl] at hq ⊢
        split at hq
        · rename_i hlt
          rw [if_pos (by rw [List.length_zipIdx]; exact hlt)]
          injection hq with hq
          rw [hq]
        · cases hq
      · rw [if_neg hqi] at hq ⊢
        exact Kd.zip_at hq, rfl⟩))
    clear hR hg hgo hol hf hf2
    refine hK.out _ _ ?_
    clear hK K
    refine done_ (done_of HT_.out (by kernel_rfl)) ?_
    have e := HRr.out
    clear HRr
    injection e with e1 e2
    subst e1
    subst e2
    go_wp2
    go_ret
    exact ⟨rfl, _, n0_.out, n2_.out, n1_.out⟩
  · rw [if_neg hc] at H
    cases H
 | false =>
  rw [if_neg (by simp)] at H
  have hcz0 : w5.cell? ⟨og, 0, none⟩ = some (.slice A xs.length c) := (blk_cell BKo.out 0).trans rfl
  by_cases hm : most ≤ (xs.length : Int)
  · rw [if_pos hm] at H
    have e := Option.some.inj H
    clear H
    injection e with e1 e2
    subst e1
    subst e2
    have hm1 := decide_eq_true hm
    have hm2 := eq_true hm
    clear hm
    go_wp2
    go_ret
    exact ⟨rfl, _, BKo.out, Kd.S_mono HS.out (fun k hk => hk.1), HB.out, HW.out⟩
  rw [if_neg hm] at H
  have hm1 := decide_eq_false hm
  have hm2 := eq_false hm
  clear hm
  replace H := Option.bind_eq_some_iff.mp H
  obtain ⟨gl, AG, H⟩ := H
  by_cases hc : 0 ≤ t1 ∧ t1 ≤ (xs.length : Int) ∧ (xs.length + 1) * 104 ≤ 140737488355328 ∧ gl.length = 1
  · rw [if_pos hc] at H
    have HRr := am (Option.some.inj H)
    clear H
    obtain ⟨hc0, hc1, hc2, hc3⟩ := hc
    obtain ⟨y, rfl⟩ := List.length_eq_one_iff.1 hc3
    obtain ⟨i, rfl⟩ := Int.eq_ofNat_of_zero_le hc0
    have HC := am (show i ≤ xs.length ∧ (xs.length + 1) * 104 ≤ 140737488355328 by omega)
    have HG := am AG
    clear hc0 hc1 hc2 hc3 AG
    go_wp2
    clear hcz0 hm1 hm2
    refine start_ (n := 13) (S := fun w' => w'.cell? ⟨og, 0, none⟩ = some (.slice A xs.length c) ∧ w'.cell? ⟨gb, 0, none⟩ = some (.slice A0 x.f0.length c0) ∧ w'.cell? ⟨gb, 1, none⟩ = some (.int .i64 x.f1) ∧ w'.cell? ⟨gb, 2, none⟩ = some (.slice A2 x.f2.length c2) ∧ w'.cell? ⟨gb, 3, none⟩ = some (.slice A3 x.f3.length c3) ∧ w'.cell? ⟨gb, 4, none⟩ = some (.slice A4 x.f4.length c4)) (ds := [12]) (bb 13 0) (by kernel_rfl) rfl rfl ⟨(blk_cell BKo.out 0).trans rfl, (blk_cell BKx.out 0).trans rfl, (blk_cell BKx.out 1).trans rfl, (blk_cell BKx.out 2).trans rfl, (blk_cell BKx.out 3).trans rfl, (blk_cell BKx.out 4).trans rfl⟩ (fun hHeld => ?_); refine with_tabW runsPut.tab2 runsPut.bits2 (fun HT_ HW_ => ?_)
    have n0_ := am (below_drew1 HB.out)
    have n1_ := am (blk_drew BKx.out)
    have n2_ := am (blk_drew BKo.out)
    have n3_ := am (Kd.S_drew HS.out)
    have n4_ := am (below_drew1 HW.out)
    clear HB BKx BKo HS HW
    have HB := n0_
    have BKx := n1_
    have BKo := n2_
    have HS := n3_
    have HW := n4_
    clear n0_ n1_ n2_ n3_ n4_
    generalize w5.drew = w6 at HB BKx BKo HS HW hHeld ⊢
    refine pure_ (i := 0) (N := some 18) (v := ?_) (a' := ?_) (bb 13 1) rfl rfl (any_of HT_.out (by kernel_rfl)) (fun _ _ _ h => h) (Or.inl ⟨by rfl, ?_⟩) ?_ ?_
    rotate_left
    ·intro w'
     go_simp
     with_reducible rfl
    rotate_left
    ·simp only [Act.put, List.setIfInBounds_toArray, List.set_cons_zero, List.set_cons_succ, i64_w, i32_w]
     rfl
    refine pure_ (i := 1) (N := some 19) (v := ?_) (a' := ?_) (bb 13 3) rfl rfl (any_of HT_.out (by kernel_rfl)) (fun _ _ _ h => h) (Or.inl ⟨by rfl, ?_⟩) ?_ ?_
    rotate_left
    ·intro w'
     go_simp
     with_reducible rfl
    rotate_left
    ·simp only [Act.put, List.setIfInBounds_toArray, List.set_cons_zero, List.set_cons_succ, i64_w, i32_w]
     rfl
    refine pure_ (i := 2) (N := some 20) (v := ?_) (a' := ?_) (bb 13 7) rfl rfl (any_of HT_.out (by kernel_rfl)) (fun _ _ _ h => h) (Or.inl ⟨by rfl, ?_⟩) ?_ ?_
    rotate_left
    ·intro w'
     go_simp
     with_reducible rfl
    rotate_left
    ·simp only [Act.put, List.setIfInBounds_toArray, List.set_cons_zero, List.set_cons_succ, i64_w, i32_w]
     rfl
    refine pure_ (i := 3) (N := some 21) (v := ?_) (a' := ?_) (bb 13 15) rfl rfl (any_of HT_.out (by kernel_rfl)) (fun _ _ _ h => h) (Or.inl ⟨by rfl, ?_⟩) ?_ ?_
    rotate_left
    ·intro w'
     go_simp
     with_reducible rfl
    rotate_left
    ·simp only [Act.put, List.setIfInBounds_toArray, List.set_cons_zero, List.set_cons_succ, i64_w, i32_w]
     rfl
    refine pure_ (i := 5) (N := some 23) (v := ?_) (a' := ?_) (bb 13 47) rfl rfl (any_of HT_.out (by kernel_rfl)) (fun _ _ _ h => h) (Or.inl ⟨by rfl, ?_⟩) ?_ ?_
    rotate_left
    ·intro w'
     go_simp
     with_reducible rfl
    rotate_left
    ·simp only [Act.put, List.setIfInBounds_toArray, List.set_cons_zero, List.set_cons_succ, i64_w, i32_w]
     rfl
    refine take_ (i := 4) (N := some 22) (v := ?_) (a' := ?_) (bb 13 63) rfl rfl (take_ofW HT_.out HW_.out (by kernel_rfl)) (fun _ _ _ h => h) (Or.inl ⟨by rfl, ?_⟩) hHeld ?_ ?_
    rotate_left
    ·rintro w' ⟨s0, s1, s2, s3, s4, s5⟩
     go_simp
     with_reducible rfl
    rotate_left
    ·simp only [Act.put, List.setIfInBounds_toArray, List.set_cons_zero, List.set_cons_succ, i64_w, i32_w]
     rfl
    refine take_ (i := 6) (N := some 24) (v := ?_) (a' := ?_) (bb 13 127) rfl rfl (take_ofW HT_.out HW_.out (by kernel_rfl)) (fun _ _ _ h => h) (Or.inl ⟨by rfl, ?_⟩) hHeld ?_ ?_
    rotate_left
    ·rintro w' ⟨s0, s1, s2, s3, s4, s5⟩
     go_simp
     with_reducible rfl
    rotate_left
    ·simp only [Act.put, List.setIfInBounds_toArray, List.set_cons_zero, List.set_cons_succ, i64_w, i32_w]
     rfl
    refine one_ (i := 7) (N := some 25) (bb 13 255) rfl rfl (one_of HT_.out (by kernel_rfl)) (by decide) (fun K hK => ?_)
    refine value_ (w1 := w6.alloc (.cells #[.slice A0 x.f0.length c0, .int .i64 x.f1, .slice A2 x.f2.length c2, .slice A3 x.f3.length c3, .slice A4 x.f4.length c4] 41)) (v := .slice (some ⟨w6.heap.size, 0, none⟩) 1 1) (by rfl) rfl (by go_simp; first | done | rfl | (constructor <;> rfl)) ?_
    have hnew := blk_new w6 (.cells #[.slice A0 x.f0.length c0, .int .i64 x.f1, .slice A2 x.f2.length c2, .slice A3 x.f3.length c3, .slice A4 x.f4.length c4] 41)
    have hb := below_alloc (Below.refl w6.heap.size w6) (.cells #[.slice A0 x.f0.length c0, .int .i64 x.f1, .slice A2 x.f2.length c2, .slice A3 x.f3.length c3, .slice A4 x.f4.length c4] 41)
    generalize w6.alloc (.cells #[.slice A0 x.f0.length c0, .int .i64 x.f1, .slice A2 x.f2.length c2, .slice A3 x.f3.length c3, .slice A4 x.f4.length c4] 41) = w7 at hnew hb ⊢
    have nb_ := am (Kd.S_mono (Kd.S_bound HS.out) (ok' := fun k => k ≠ og ∧ k ≠ gb ∧ k < w6.heap.size) (fun k hk => ⟨hk.1.1, hk.1.2, hk.2.2.1⟩))
    have nl_ : Aside0 (og < w6.heap.size ∧ gb < w6.heap.size ∧ w6.heap.size ≤ w7.heap.size) := ⟨blk_lt BKo.out, blk_lt BKx.out, hb.size⟩
    clear HS
    have HS := nb_
    clear nb_
    have n0_ := am (below_step HB.out hb)
    have n1_ := am (blk_below BKx.out hb)
    have n2_ := am (blk_below BKo.out hb)
    have n3_ := am (Kd.S_below HS.out hb)
    have n4_ := am (below_step HW.out hb)
    clear HB BKx BKo HS HW
    have HB := n0_
    have BKx := n1_
    have BKo := n2_
    have HS := n3_
    have HW := n4_
    clear n0_ n1_ n2_ n3_ n4_
    have HV := am hnew
    clear hnew hb
    refine hK.out _ _ ⟨(blk_cell BKo.out 0).trans rfl, (blk_cell BKx.out 0).trans rfl, (blk_cell BKx.out 1).trans rfl, (blk_cell BKx.out 2).trans rfl, (blk_cell BKx.out 3).trans rfl, (blk_cell BKx.out 4).trans rfl⟩ (fun hHeld => ?_)
    clear hK K
    refine norm_ (a' := ?_) ?_ ?_
    rotate_left
    ·show Act.put _ (some 25) _ = _
     simp only [Act.put, List.setIfInBounds_toArray, List.set_cons_zero, List.set_cons_succ, i64_w, i32_w]
     rfl
    refine one_ (i := 8) (N := some 26) (bb 13 511) rfl rfl (one_of HT_.out (by kernel_rfl)) (by decide) (fun K hK => ?_)
    refine goes_ Try.func40 (by kernel_rfl) rfl #[.slice (some ⟨w6.heap.size, 0, none⟩) 1 1] (by rfl) rfl rfl (by (try simp only [List.map_toArray, List.map_cons, List.map_nil]); first | done | rfl) ?_
    refine (cell_Group.calls k (some ⟨w6.heap.size, 0, none⟩) 1 [x] [y] w7 (C_single HV.out (k41_mk w7 x G0.out.2 (Kd.C_below G0.out.1 HB.out) G2.out.2 (Kd.C_below G2.out.1 HB.out) G3.out.2 (Kd.C_below G3.out.1 HB.out) G4.out.2 (Kd.C_below G4.out.1 HB.out)) rfl) (Nat.le_refl _) HG.out).mono ?_
    rintro e w8 ⟨vg, rfl, hvg, hb⟩
    refine ⟨_, rfl, ?_⟩
    obtain ⟨g9, c9, cur, cs9, rfl, hg9, hc9, hh9, ht9, hM9⟩ := S_single hvg
    have HV2 := am (And.intro hg9 (And.intro hc9 (And.intro hh9 (And.intro ht9 hM9))))
    have nl2_ : Aside0 (og < w6.heap.size ∧ gb < w6.heap.size ∧ w6.heap.size ≤ w7.heap.size ∧ w7.heap.size ≤ w8.heap.size) := ⟨nl_.out.1, nl_.out.2.1, nl_.out.2.2, hb.size⟩
    have nb0_ := am HB.out.size
    clear hg9 hc9 hh9 ht9 hM9 hvg HG HV nl_
    have n0_ := am (below_step HB.out hb)
    have n1_ := am (blk_below BKx.out hb)
    have n2_ := am (blk_below BKo.out hb)
    have n3_ := am (Kd.S_below HS.out hb)
    have n4_ := am (below_step HW.out hb)
    clear HB BKx BKo HS HW
    have HB := n0_
    have BKx := n1_
    have BKo := n2_
    have HS := n3_
    have HW := n4_
    clear n0_ n1_ n2_ n3_ n4_
    clear hb
    refine hK.out _ _ ⟨(blk_cell BKo.out 0).trans rfl, (blk_cell BKx.out 0).trans rfl, (blk_cell BKx.out 1).trans rfl, (blk_cell BKx.out 2).trans rfl, (blk_cell BKx.out 3).trans rfl, (blk_cell BKx.out 4).trans rfl⟩ (fun hHeld => ?_)
    clear hK K
    refine norm_ (a' := ?_) ?_ ?_
    rotate_left
    ·show Act.put _ (some 26) _ = _
     simp only [Act.put, List.setIfInBounds_toArray, List.set_cons_zero, List.set_cons_succ, i64_w, i32_w]
     rfl
    refine one_ (i := 9) (N := some 27) (bb 13 1023) rfl rfl (one_of HT_.out (by kernel_rfl)) (by decide) (fun K hK => ?_)
    obtain ⟨f, hf⟩ := HS.out
    obtain ⟨hg9, hc9, hh9, ht9, hM9⟩ := HV2.out
    have hf2 := Kd.R_mono (Kd.R_tag (f' := fun k => if w7.heap.size ≤ k then xs.length else f k) hf (fun k hk _ => if_neg (by have := nl2_.out; omega))) (ok' := fun k => k ≠ og) (fun k hk => hk.1)
    have hxx : (Kd.tag (fun k => if w7.heap.size ≤ k then xs.length else f k) k41).M w8 w0.heap.size (fun k => w7.heap.size ≤ k) (y, xs.length) cs9 := k41.M_mono (fun k hk => ⟨hk, if_pos hk⟩) (k41.M_lower (by have := HB.out.size; have := nl2_.out; have := nb0_.out; omega) (k41.M_mono (fun k hk => hk.2.1) (k41.M_bound hM9)))
    refine goes_ Try.func39 (by kernel_rfl) rfl #[.slice A xs.length c, .int .i64 i, .slice (some ⟨g9, 0, none⟩) 1 c9] (by rfl) rfl rfl (by (try simp only [List.map_toArray, List.map_cons, List.map_nil]); first | done | rfl) ?_
    refine (insert_callsV (Kd.tag (fun k => if w7.heap.size ≤ k then xs.length else f k) k41) rfl (.slice A xs.length c) xs.zipIdx i (by rw [List.length_zipIdx]; exact HC.out.1) g9 c9 hc9 (y, xs.length) cs9 cur 41 w8 w0.heap.size (fun k => k ≠ og) (fun k => w7.heap.size ≤ k) hf2 hxx (fun k hk => ⟨by have := nl2_.out; omega, fun e => by have := hf.1 k e.symm; have := nl2_.out; omega⟩) hh9 ht9 (fun e => by have := hf.1 _ e.symm; have := nl2_.out; omega) (fun k hk => by have := nl2_.out; omega) HB.out.size (by rw [List.length_zipIdx]; exact HC.out.2)).mono ?_
    rintro e w9 ⟨v', rfl, hR, hg, hat⟩
    refine ⟨_, rfl, ?_⟩
    have hog2 : some og ≠ (Value.slice A xs.length c).ownBlock := fun e => by have := hf.1 og e.symm; omega
    have hl9 : ∀ kk, v'.ownBlock = some kk → kk ≠ og := fun kk e => hR.1 kk e
    have n0_ := am (blk_grown BKo.out hg hog2)
    have n1_ := am (HB.out.grown hg HB.out.size (fun k e => Kd.R_base hf k e))
    have n5_ := am (blk_grown BKx.out hg (fun e => by have := hf.1 gb e.symm; omega))
    have n2_ := am (relabel (xs := xs.take i ++ y :: xs.drop i) (fun m => if m < i then m else if m = xs.length then i else m + 1) hR (by simp) (fun q p hq => by
      have hil := HC.out.1
      rw [List.getElem?_append] at hq ⊢
      rw [List.length_take, Nat.min_eq_left hil] at hq
      rw [List.length_take, List.length_zipIdx, Nat.min_eq_left hil]
      by_cases h1 : q < i
      · rw [if_pos h1] at hq
        refine ⟨q, ?_, if_pos h1⟩
        rw [if_pos h1, List.getElem?_take, if_pos h1]
        rw [List.getElem?_take, if_pos h1] at hq
        exact Kd.zip_at hq
      · rw [if_neg h1] at hq
        rcases Nat.eq_or_lt_of_le (Nat.le_of_not_lt h1) with h2 | h2
        · subst h2
          rw [Nat.sub_self] at hq
          refine ⟨xs.length, ?_, ?_⟩
          · rw [if_neg h1, Nat.sub_self]
            simp only [List.getElem?_cons_zero] at hq ⊢
            injection hq with hq
            rw [hq]
          · show (if xs.length < i then xs.length else if xs.length = xs.length then i else xs.length + 1) = i
            rw [if_neg (by omega), if_pos rfl]
        · obtain ⟨s, hs⟩ : ∃ s, q - i = s + 1 := ⟨q - i - 1, by omega⟩
          rw [hs, List.getElem?_cons_succ, List.getElem?_drop] at hq
          have hlt := (List.getElem?_eq_some_iff.1 hq).1
          refine ⟨i + s, ?_, ?_⟩
          · rw [if_neg h1, hs, List.getElem?_cons_succ, List.getElem?_drop]
            exact Kd.zip_at hq
          · show (if i + s < i then i + s else if i + s = xs.length then i else i + s + 1) = q
            rw [if_neg (by omega), if_neg (by omega)]
            omega))
    obtain ⟨ys, hys⟩ : ∃ ys, ys = xs.take i ++ y :: xs.drop i := ⟨_, rfl⟩
    have n3_ := n2_.out
    rw [← hys] at n3_
    obtain ⟨A', c', ev⟩ := Kd.S_slice n3_
    subst ev
    have HY := am hys
    clear hys n2_
    have n2_ := am n3_
    clear n3_
    clear HB BKx BKo HS hR hg hat hf hf2 hxx hog2 hg9 hc9 hh9 ht9 hM9 HV2 nl2_ nb0_
    have HB := n1_
    have BKo := n0_
    have BKx := n5_
    have HS := n2_
    clear n0_ n1_ n2_ n5_
    refine hK.out _ _ ⟨(blk_cell BKo.out 0).trans rfl, (blk_cell BKx.out 0).trans rfl, (blk_cell BKx.out 1).trans rfl, (blk_cell BKx.out 2).trans rfl, (blk_cell BKx.out 3).trans rfl, (blk_cell BKx.out 4).trans rfl⟩ (fun hHeld => ?_)
    clear hK K
    refine norm_ (a' := ?_) ?_ ?_
    rotate_left
    ·show Act.put _ (some 27) _ = _
     simp only [Act.put, List.setIfInBounds_toArray, List.set_cons_zero, List.set_cons_succ, i64_w, i32_w]
     rfl
    refine pure_ (i := 10) (N := some 28) (v := ?_) (a' := ?_) (bb 13 2047) rfl rfl (any_of HT_.out (by kernel_rfl)) (fun _ _ _ h => h) (Or.inl ⟨by rfl, ?_⟩) ?_ ?_
    rotate_left
    ·intro w'
     go_simp
     with_reducible rfl
    rotate_left
    ·simp only [Act.put, List.setIfInBounds_toArray, List.set_cons_zero, List.set_cons_succ, i64_w, i32_w]
     rfl
    refine pure_ (i := 11) (N := some 29) (v := ?_) (a' := ?_) (bb 13 4095) rfl rfl (any_of HT_.out (by kernel_rfl)) (fun _ _ _ h => h) (Or.inl ⟨by rfl, ?_⟩) ?_ ?_
    rotate_left
    ·intro w'
     go_simp
     with_reducible rfl
    rotate_left
    ·simp only [Act.put, List.setIfInBounds_toArray, List.set_cons_zero, List.set_cons_succ, i64_w, i32_w]
     rfl
    refine last_ (i := 12) (N := none) (bb 13 8191) rfl rfl (one_of HT_.out (by kernel_rfl)) (by decide) (fun K hK => ?_)
    have hs22 := (blk_cell BKo.out 0).trans rfl
    have hfs22 := blk_frozen BKo.out 0
    refine skip_ (w1 := ?_) (by rfl) rfl ?_ ?_
    rotate_left
    ·go_simp
     rfl
    refine hK.out _ _ ?_
    clear hK K hs22 hfs22
    refine done_ (done_of HT_.out (by kernel_rfl)) ?_
    have e := HRr.out
    clear HRr
    injection e with e1 e2
    subst e1
    have e : ys = r := HY.out.trans (by rw [← e2]; simp)
    subst e
    clear HY e2
    go_wp2
    go_ret
    first | exact ⟨rfl, _, blk_put BKo.out 0 _ rfl, Kd.S_far HS.out (fun k hk => hk) _, below_set HB.out GEo.out⟩ | exact ⟨rfl, _, blk_put BKo.out 0 _ rfl, Kd.S_far HS.out (fun k hk => hk) _, below_set HB.out GEo.out, fun e => by cases e⟩
  · rw [if_neg hc] at H
    cases H
end Go.Proofs.Ytmnepkbmcnpjlaa.Q
namespace Go.Proofs.Ytmnepkbmcnpjlaa.Q
open Go.RowKit Go.Proofs.YtmnepkbmcnpjlaaW.PrintWords Go.Proofs.YtmnepkbmcnpjlaaW.PrintLast Go.Proofs.YtmnepkbmcnpjlaaW.PrintMore
attribute [local go_sem] max2_int min2_int max_two min_two max_three min_three max_four min_four
set_option linter.unusedVariables false
set_option linter.unusedSimpArgs false
def runsGo (k : Nat) (most : Int) : List (List S41) → List S41 → List S41 → Option (List (List S41) × List S41)
 | out, held, [] => some (out, held)
 | out, held, c :: cs => (runsPut.f k held c most).bind fun t => if t.1 = true then runsGo k most out t.2 cs
  else (if t.2.length * 104 ≤ 140737488355328 ∧ (out.length + 1) * 24 ≤ 140737488355328 then (runsPut.f k [] c (mx most 1)).bind fun u => runsGo k most (out ++ [t.2]) u.2 cs else none)
def runs_Runs.f (k : Nat) (l0 : List S41) (a1 : Int) : Option (List (List S41)) := (runsGo k a1 [] [] l0).bind fun t =>
 (if 0 < t.2.length then (if t.2.length * 104 ≤ 140737488355328 ∧ (t.1.length + 1) * 24 ≤ 140737488355328 then some (t.1 ++ [t.2]) else none) else some t.1).bind fun o => if o.length * 24 ≤ 140737488355328 then some o else none
set_option maxHeartbeats 8000000 in
set_option maxRecDepth 100000 in
theorem runs_Runs.calls (k : Nat) (A0 : Option Addr) (c0 : Nat) (l0 : List S41) (a1 : Int) (r : List (List S41)) (w : World) (hr0 : Kd.C k41 w A0 l0.length l0) (hc0 : l0.length ≤ c0) (h : runs_Runs.f k l0 a1 = some r) :
    Calls Try.prog 18 #[.slice A0 l0.length c0, .int .i64 a1] w fun e w' => ∃ v0_ : Value, e = .returned (v0_) ∧ Kd.R (Kd.slice 41 k41) 29 w' w.heap.size (fun _ => True) v0_ r ∧ Below w.heap.size w w' := by
 have hu30 := Try.underlying41
 have hu65 := Try.underlying50
 have HR0 := am hr0
 have HC0 := am hc0
 have hmax := Kd.C_max hr0
 clear hr0 hc0
 unfold runs_Runs.f at h
 replace h := Option.bind_eq_some_iff.mp h
 obtain ⟨⟨o1, h1⟩, A1, H⟩ := h
 have HA := am A1
 have HH := am H
 clear A1 H
 have HM := am hmax
 clear hmax
 go_enter Try.func18, Try.ntmps18
 go_wp2_with (((with_reducible refine gate_dst (N := 10) rfl ?_); refine box_event ?hg (N := 10) ?hd (cs := #[.slice none 0 0]) (t := 50) ?hr ?_; (case hd => rfl); (case hg => rfl); (case hr => first | (go_simp; done) | (go_simp; rfl)); intro og hg w3 hbox hb; have HB := am hb; have BKo := am hbox; have GEo := am (show w.heap.size ≤ og by rw [hg]; exact Nat.le_refl _); clear hb hbox hg))
 go_loopg [5, 6, 13] (l0.length + 1) (fun kq v5 v6 v13 w' => ∃ (i : Nat) (out : List (List S41)) (held : List S41) (og : Nat) (wE : World) (v : Value), v13 = .int .i64 (i : Int) ∧ v6 = .pointer (some ⟨og, 0, none⟩) ∧ Aside0 (runsGo k a1 out held (l0.drop i) = some (o1, h1)) ∧ Aside0 (i + kq = l0.length + 1 ∧ i ≤ l0.length) ∧ Aside0 (Below w.heap.size w wE) ∧ Aside0 (wE.heap.size ≤ og) ∧ Aside0 (Kd.R (Kd.slice 41 k41) 29 wE w.heap.size (fun _ => True) v5 out) ∧ Aside0 (w'.heap[og]? = some (.cells #[v] 50 (0, 0))) ∧ Aside0 (Kd.S k41 41 w' wE.heap.size (fun k => k ≠ og) v held) ∧ Aside0 (Below wE.heap.size wE w'))
 case atStart => exact ⟨0, [], [], og, w, .slice none 0 0, rfl, rfl, HA, ⟨by omega, by omega⟩, ⟨Below.refl _ _⟩, GEo, ⟨Kd.R_nil _ _ _ _ _⟩, BKo, ⟨Kd.S_nil _ _ _ _ _⟩, HB⟩
 case round =>
  clear HA HB BKo GEo
  obtain ⟨i, out, held, og, wE, v, rfl, rfl, HA, HI, HBw, GEo, HO, BKo, HS, HB⟩ := hrel
  cases gk with
  | zero => exact absurd HI.out (by omega)
  | succ k1 =>
   by_cases hi : i < l0.length
   · have H := HA.out
     rw [List.drop_eq_getElem_cons hi] at H
     unfold runsGo at H
     have hel : l0[i] = rd_T41 l0 (i : Int) := by
       unfold rd_T41
       rw [Int.toNat_natCast, List.getD_eq_getElem?_getD, List.getElem?_eq_getElem hi]
       rfl
     rw [hel] at H
     replace H := Option.bind_eq_some_iff.mp H
     obtain ⟨⟨b, held'⟩, AP, H⟩ := H
     have HP := am AP
     clear HA AP hel
     have hi0 : (0 : Int) ≤ (i : Int) := by omega
     have hi1 : (i : Int) < (l0.length : Int) := by omega
     obtain ⟨ad, E0, d0, E2, d2, E3, d3, E4, d4, eA, q0, q1, q2, q3, q4, g0, K0, g2, K2, g3, K3, g4, K4⟩ := at_T41 HR0.out (i : Int) hi0 hi1
     cases eA
     have hq : ∀ p u, w.cell? p = some u → wr.cell? p = some u := fun p u h => ((below_step HBw.out HB.out).cell (World.block_lt_of_cell? w _ h)).trans h
     replace q0 := hq _ _ q0
     replace q1 := hq _ _ q1
     replace q2 := hq _ _ q2
     replace q3 := hq _ _ q3
     replace q4 := hq _ _ q4
     clear hq
     simp only [Int.toNat_natCast] at q0 q1 q2 q3 q4
     have D0 := am (And.intro g0 K0)
     have D2 := am (And.intro g2 K2)
     have D3 := am (And.intro g3 K3)
     have D4 := am (And.intro g4 K4)
     clear g0 K0 g2 K2 g3 K3 g4 K4
     have hc1 : decide ((i : Int) < (l0.length : Int)) = true := decide_eq_true hi1
     have HI1 := am hi1
     have hi1' := eq_true hi1
     clear hi hi1
     have hwr : IntKind.i64.wrap ((i : Int) + 1) = ((i + 1 : Nat) : Int) := by rw [IntKind.wrap_i64]; have := HM.out; have := HI1.out; omega
     cases b with
     | true =>
       replace H := (if_pos (rfl : true = true)).symm.trans H
       have HH2 := am H
       clear H
       go_wp2_with (first
      | ((with_reducible refine gate_dst (N := 8) rfl ?_); refine box_event ?hg (N := 8) ?hd (cs := #[.slice none 0 0, .int .i64 0, .slice none 0 0, .slice none 0 0, .slice none 0 0]) (t := 41) ?hr ?_; (case hd => rfl); (case hg => rfl); (case hr => first | (go_simp; done) | (go_simp; rfl)); intro gb hg w3 hbox hb; have n0_ := am (below_step HB.out hb); have n1_ := am (blk_below BKo.out hb); have n2_ := am (Kd.S_below (Kd.S_mono (Kd.S_bound HS.out) (ok' := fun k => k ≠ og ∧ k < gb) (fun k hk => ⟨hk.1, by rw [hg]; exact hk.2.2.1⟩)) hb); have n3_ := am hbox; have n4_ := am (show og ≠ gb ∧ wE.heap.size ≤ gb ∧ og < gb by rw [hg]; have := blk_lt BKo.out; have := HB.out.size; omega); clear HB BKo HS; have HB := n0_; have BKo := n1_; have HS := n2_; have BKb := n3_; have NEb := n4_; clear n0_ n1_ n2_ n3_ n4_; clear hb hbox hg; have hcz0 := (blk_cell BKb.out 0).trans rfl; have hcz1 := (blk_cell BKb.out 1).trans rfl; have hcz2 := (blk_cell BKb.out 2).trans rfl; have hcz3 := (blk_cell BKb.out 3).trans rfl; have hcz4 := (blk_cell BKb.out 4).trans rfl; have hfz0 := blk_frozen BKb.out 0; have hfz1 := blk_frozen BKb.out 1; have hfz2 := blk_frozen BKb.out 2; have hfz3 := blk_frozen BKb.out 3; have hfz4 := blk_frozen BKb.out 4)
      | ((with_reducible refine gate_callee (f := 28) rfl ?_)
         refine goesL_ (some 20) rfl rfl Try.func28 (by kernel_rfl) rfl #[.pointer (some ⟨og, 0, none⟩), .agg #[.slice E0 (rd_T41 l0 i).f0.length d0, .int .i64 (rd_T41 l0 i).f1, .slice E2 (rd_T41 l0 i).f2.length d2, .slice E3 (rd_T41 l0 i).f3.length d3, .slice E4 (rd_T41 l0 i).f4.length d4], .int .i64 a1] rfl (by (try simp only [List.map_toArray, List.map_cons, List.map_nil]); first | done | rfl) ?_
         refine name_calls ?_
         intro w4 hw4
         have hk4 : Kept w3 w4 (fun k => k = gb) := by
          rw [hw4]
          refine Kept.setCell (S := fun k => k = gb) (p := ⟨gb, 4, none⟩) ?_ (.inl rfl) _
          refine Kept.setCell (S := fun k => k = gb) (p := ⟨gb, 3, none⟩) ?_ (.inl rfl) _
          refine Kept.setCell (S := fun k => k = gb) (p := ⟨gb, 2, none⟩) ?_ (.inl rfl) _
          refine Kept.setCell (S := fun k => k = gb) (p := ⟨gb, 1, none⟩) ?_ (.inl rfl) _
          refine Kept.setCell (S := fun k => k = gb) (p := ⟨gb, 0, none⟩) ?_ (.inl rfl) _
          exact Kept.refl _ _
         have n0_ : Aside0 (Below wE.heap.size wE w4) := am (by
          rw [hw4]
          refine below_set (g := gb) (j := 4) ?_ NEb.out.2.1
          refine below_set (g := gb) (j := 3) ?_ NEb.out.2.1
          refine below_set (g := gb) (j := 2) ?_ NEb.out.2.1
          refine below_set (g := gb) (j := 1) ?_ NEb.out.2.1
          refine below_set (g := gb) (j := 0) ?_ NEb.out.2.1
          exact HB.out)
         have n1_ := am (blk_kept BKo.out hk4 NEb.out.1)
         have n2_ := am (Kd.S_kept HS.out hk4 (fun k hk e => by omega))
         have n3_ : Aside0 (w4.heap[gb]? = some (.cells #[.slice E0 (rd_T41 l0 i).f0.length d0, .int .i64 (rd_T41 l0 i).f1, .slice E2 (rd_T41 l0 i).f2.length d2, .slice E3 (rd_T41 l0 i).f3.length d3, .slice E4 (rd_T41 l0 i).f4.length d4] 41 (0, 0))) := am (by
          rw [hw4]
          refine blk_put (i := 4) (cs := #[.slice E0 (rd_T41 l0 i).f0.length d0, .int .i64 (rd_T41 l0 i).f1, .slice E2 (rd_T41 l0 i).f2.length d2, .slice E3 (rd_T41 l0 i).f3.length d3, .slice none 0 0]) ?_ _ rfl
          refine blk_put (i := 3) (cs := #[.slice E0 (rd_T41 l0 i).f0.length d0, .int .i64 (rd_T41 l0 i).f1, .slice E2 (rd_T41 l0 i).f2.length d2, .slice none 0 0, .slice none 0 0]) ?_ _ rfl
          refine blk_put (i := 2) (cs := #[.slice E0 (rd_T41 l0 i).f0.length d0, .int .i64 (rd_T41 l0 i).f1, .slice none 0 0, .slice none 0 0, .slice none 0 0]) ?_ _ rfl
          refine blk_put (i := 1) (cs := #[.slice E0 (rd_T41 l0 i).f0.length d0, .int .i64 0, .slice none 0 0, .slice none 0 0, .slice none 0 0]) ?_ _ rfl
          refine blk_put (i := 0) (cs := #[.slice none 0 0, .int .i64 0, .slice none 0 0, .slice none 0 0, .slice none 0 0]) ?_ _ rfl
          exact BKb.out)
         have nd_ : Aside0 (og ≠ gb ∧ wE.heap.size ≤ gb ∧ og < gb) := NEb
         clear HB BKo HS BKb hk4
         clear hw4
         have HB := n0_
         have BKo := n1_
         have HS := n2_
         have BKb := n3_
         clear n0_ n1_ n2_ n3_ nd_
         refine (runsPut_calls k og v held (rd_T41 l0 i) a1 E0 d0 E2 d2 E3 d3 E4 d4 true held' wE w4 BKo.out GEo.out HB.out (Kd.S_mono HS.out (fun k hk => hk.1)) (Kd.C_below D0.out.2 HBw.out) D0.out.1 (Kd.C_below D2.out.2 HBw.out) D2.out.1 (Kd.C_below D3.out.2 HBw.out) D3.out.1 (Kd.C_below D4.out.2 HBw.out) D4.out.1 HP.out).mono ?_
         rintro e w5 ⟨rfl, v', h1, h2, h3, _⟩
         refine ⟨_, rfl, ?_⟩
         obtain ⟨A', c', rfl⟩ := Kd.S_slice h2
         have n0_ := am h1
         have n1_ := am h2
         have n2_ := am h3
         clear h1 h2 h3 HB BKo HS HP BKb
         have BKo := n0_
         have HS := n1_
         have HB := n2_
         clear n0_ n1_ n2_))
       go_roundg k1
       case measure => have := HI.out; omega
       case rel => exact ⟨i + 1, out, held', og, wE, _, rfl, rfl, HH2, ⟨by have := HI.out; have := HI1.out; omega⟩, HBw, GEo, HO, BKo, HS, HB⟩
     | false =>
       replace H := (if_neg (by decide : ¬ (false = true))).symm.trans H
       by_cases hlim : held'.length * 104 ≤ 140737488355328 ∧ (out.length + 1) * 24 ≤ 140737488355328
       · replace H := (if_pos hlim).symm.trans H
         replace H := Option.bind_eq_some_iff.mp H
         obtain ⟨⟨u1, u2⟩, AU, H⟩ := H
         have HU := am AU
         have HH2 := am H
         have HL := am hlim
         clear H AU hlim
         go_wp2_with (first
      | ((with_reducible refine gate_dst (N := 8) rfl ?_); refine box_event ?hg (N := 8) ?hd (cs := #[.slice none 0 0, .int .i64 0, .slice none 0 0, .slice none 0 0, .slice none 0 0]) (t := 41) ?hr ?_; (case hd => rfl); (case hg => rfl); (case hr => first | (go_simp; done) | (go_simp; rfl)); intro gb hg w3 hbox hb; have n0_ := am (below_step HB.out hb); have n1_ := am (blk_below BKo.out hb); have n2_ := am (Kd.S_below (Kd.S_mono (Kd.S_bound HS.out) (ok' := fun k => k ≠ og ∧ k < gb) (fun k hk => ⟨hk.1, by rw [hg]; exact hk.2.2.1⟩)) hb); have n3_ := am hbox; have n4_ := am (show og ≠ gb ∧ wE.heap.size ≤ gb ∧ og < gb by rw [hg]; have := blk_lt BKo.out; have := HB.out.size; omega); clear HB BKo HS; have HB := n0_; have BKo := n1_; have HS := n2_; have BKb := n3_; have NEb := n4_; clear n0_ n1_ n2_ n3_ n4_; clear hb hbox hg; have hcz0 := (blk_cell BKb.out 0).trans rfl; have hcz1 := (blk_cell BKb.out 1).trans rfl; have hcz2 := (blk_cell BKb.out 2).trans rfl; have hcz3 := (blk_cell BKb.out 3).trans rfl; have hcz4 := (blk_cell BKb.out 4).trans rfl; have hfz0 := blk_frozen BKb.out 0; have hfz1 := blk_frozen BKb.out 1; have hfz2 := blk_frozen BKb.out 2; have hfz3 := blk_frozen BKb.out 3; have hfz4 := blk_frozen BKb.out 4)
      | ((with_reducible refine gate_callee (f := 28) rfl ?_)
         refine goesL_ (some 20) rfl rfl Try.func28 (by kernel_rfl) rfl #[.pointer (some ⟨og, 0, none⟩), .agg #[.slice E0 (rd_T41 l0 i).f0.length d0, .int .i64 (rd_T41 l0 i).f1, .slice E2 (rd_T41 l0 i).f2.length d2, .slice E3 (rd_T41 l0 i).f3.length d3, .slice E4 (rd_T41 l0 i).f4.length d4], .int .i64 a1] rfl (by (try simp only [List.map_toArray, List.map_cons, List.map_nil]); first | done | rfl) ?_
         refine name_calls ?_
         intro w4 hw4
         have hk4 : Kept w3 w4 (fun k => k = gb) := by
          rw [hw4]
          refine Kept.setCell (S := fun k => k = gb) (p := ⟨gb, 4, none⟩) ?_ (.inl rfl) _
          refine Kept.setCell (S := fun k => k = gb) (p := ⟨gb, 3, none⟩) ?_ (.inl rfl) _
          refine Kept.setCell (S := fun k => k = gb) (p := ⟨gb, 2, none⟩) ?_ (.inl rfl) _
          refine Kept.setCell (S := fun k => k = gb) (p := ⟨gb, 1, none⟩) ?_ (.inl rfl) _
          refine Kept.setCell (S := fun k => k = gb) (p := ⟨gb, 0, none⟩) ?_ (.inl rfl) _
          exact Kept.refl _ _
         have n0_ : Aside0 (Below wE.heap.size wE w4) := am (by
          rw [hw4]
          refine below_set (g := gb) (j := 4) ?_ NEb.out.2.1
          refine below_set (g := gb) (j := 3) ?_ NEb.out.2.1
          refine below_set (g := gb) (j := 2) ?_ NEb.out.2.1
          refine below_set (g := gb) (j := 1) ?_ NEb.out.2.1
          refine below_set (g := gb) (j := 0) ?_ NEb.out.2.1
          exact HB.out)
         have n1_ := am (blk_kept BKo.out hk4 NEb.out.1)
         have n2_ := am (Kd.S_kept HS.out hk4 (fun k hk e => by omega))
         have n3_ : Aside0 (w4.heap[gb]? = some (.cells #[.slice E0 (rd_T41 l0 i).f0.length d0, .int .i64 (rd_T41 l0 i).f1, .slice E2 (rd_T41 l0 i).f2.length d2, .slice E3 (rd_T41 l0 i).f3.length d3, .slice E4 (rd_T41 l0 i).f4.length d4] 41 (0, 0))) := am (by
          rw [hw4]
          refine blk_put (i := 4) (cs := #[.slice E0 (rd_T41 l0 i).f0.length d0, .int .i64 (rd_T41 l0 i).f1, .slice E2 (rd_T41 l0 i).f2.length d2, .slice E3 (rd_T41 l0 i).f3.length d3, .slice none 0 0]) ?_ _ rfl
          refine blk_put (i := 3) (cs := #[.slice E0 (rd_T41 l0 i).f0.length d0, .int .i64 (rd_T41 l0 i).f1, .slice E2 (rd_T41 l0 i).f2.length d2, .slice none 0 0, .slice none 0 0]) ?_ _ rfl
          refine blk_put (i := 2) (cs := #[.slice E0 (rd_T41 l0 i).f0.length d0, .int .i64 (rd_T41 l0 i).f1, .slice none 0 0, .slice none 0 0, .slice none 0 0]) ?_ _ rfl
          refine blk_put (i := 1) (cs := #[.slice E0 (rd_T41 l0 i).f0.length d0, .int .i64 0, .slice none 0 0, .slice none 0 0, .slice none 0 0]) ?_ _ rfl
          refine blk_put (i := 0) (cs := #[.slice none 0 0, .int .i64 0, .slice none 0 0, .slice none 0 0, .slice none 0 0]) ?_ _ rfl
          exact BKb.out)
         have nd_ : Aside0 (og ≠ gb ∧ wE.heap.size ≤ gb ∧ og < gb) := NEb
         clear HB BKo HS BKb hk4
         clear hw4
         have HB := n0_
         have BKo := n1_
         have HS := n2_
         have BKb := n3_
         clear n0_ n1_ n2_ n3_ nd_
         refine (runsPut_calls k og v held (rd_T41 l0 i) a1 E0 d0 E2 d2 E3 d3 E4 d4 false held' wE w4 BKo.out GEo.out HB.out (Kd.S_mono HS.out (fun k hk => hk.1)) (Kd.C_below D0.out.2 HBw.out) D0.out.1 (Kd.C_below D2.out.2 HBw.out) D2.out.1 (Kd.C_below D3.out.2 HBw.out) D3.out.1 (Kd.C_below D4.out.2 HBw.out) D4.out.1 HP.out).mono ?_
         rintro e w5 ⟨rfl, v', h1, h2, h3, h4⟩
         refine ⟨_, rfl, ?_⟩
         obtain ⟨A', c', rfl⟩ := Kd.S_slice h2
         have n0_ := am h1
         have n1_ := am h2
         have n2_ := am h3
         have n3_ := am (blk_below BKb.out (h4 rfl))
         have nl_ := am ((h4 rfl).size)
         clear h1 h2 h3 HB BKo HS HP BKb h4
         have BKo := n0_
         have HS := n1_
         have HB := n2_
         have BKb := n3_
         clear n0_ n1_ n2_ n3_
         have hcz : w5.cell? ⟨og, 0, none⟩ = some (.slice A' held'.length c') := (blk_cell BKo.out 0).trans rfl)
      | ((with_reducible refine gate_callee (f := 29) rfl ?_)
         refine goesL_ (some 27) rfl rfl Try.func29 (by kernel_rfl) rfl #[.slice A' held'.length c'] rfl (by (try simp only [List.map_toArray, List.map_cons, List.map_nil]); first | done | rfl) ?_
         refine (CloneCells_calls k41 rfl (.slice A' held'.length c') held' wE.heap.size (fun k => k ≠ og) wE w5 HB.out HB.out.size (Kd.S_R HS.out) (fun k hk => by have := blk_lt BKo.out; omega) HL.out.1).mono ?_
         rintro e w6 ⟨v1, rfl, hR, hB6, hb⟩
         refine ⟨_, rfl, ?_⟩
         obtain ⟨A1', c1', rfl⟩ := Kd.R_slice hR
         have HV1 := am hR
         have HB6 := am hB6
         have BKb6 := am (blk_below BKb.out hb)
         clear hR hB6 hb)
      | ((with_reducible refine gate_builtin (b := .append) (xs := #[.tmp 22, .tmp 28]) rfl ?_)
         (try (refine gate_guard (by rfl) ?_; dsimp only))
         at_builtin
         refine Kd.R_append (Kd.slice 41 k41) (w0 := w) w.heap.size rfl (.tmp 22) (.tmp 28) 34 29 (.slice none 0 0) 24 rfl Try.underlying34 info29 rfl (by decide) (by omega) u5 out held' [.slice A1' held'.length c1'] (fun _ => True) (fun k => wE.heap.size ≤ k) rfl rfl ?aP ?aO ?aF (Kd.R_below HO.out HB6.out) (below_step HBw.out HB6.out) (below_step HBw.out HB6.out).size ?aL ?_
         (case aP => exact ⟨_, rfl, Kd.R_lower (Kd.R_mono (Kd.R_bound HV1.out) (fun k hk => hk.2.1)) HBw.out.size⟩)
         (case aO => intro k hk; exact ⟨trivial, fun e => by have := ((Kd.R_bound HO.out).1 k e.symm).2.2.1; omega⟩)
         (case aF => intro _ _; trivial)
         (case aL => exact HL.out.2)
         intro v51 w7 ho hb7 hg hat
         have HO7 := am ho
         have HB7 := am hb7
         have BKb7 := am (blk_grown BKb6.out hg (fun e => by have := ((Kd.R_bound HO.out).1 gb e.symm).2.2.1; have := NEb.out; omega))
         clear ho hb7 hg hat)
      | ((with_reducible refine gate_dst (N := 31) rfl ?_); refine box_event ?hg (N := 31) ?hd (cs := #[.slice none 0 0]) (t := 50) ?hr ?_; (case hd => rfl); (case hg => rfl); (case hr => first | (go_simp; done) | (go_simp; rfl)); intro og2 hg2 w8 hbox hb; have HB8 := am hb; have BKo2 := am hbox; have GE2 := am (show w7.heap.size ≤ og2 by rw [hg2]; exact Nat.le_refl _); have BKb8 := am (blk_below BKb7.out hb); clear hb hbox hg2; have hcy0 := (blk_cell BKb8.out 0).trans rfl; have hcy1 := (blk_cell BKb8.out 1).trans rfl; have hcy2 := (blk_cell BKb8.out 2).trans rfl; have hcy3 := (blk_cell BKb8.out 3).trans rfl; have hcy4 := (blk_cell BKb8.out 4).trans rfl)
      | ((with_reducible refine gate_callee (f := 28) rfl ?_)
         refine goesL_ (some 36) rfl rfl Try.func28 (by kernel_rfl) rfl #[.pointer (some ⟨og2, 0, none⟩), .agg #[.slice E0 (rd_T41 l0 i).f0.length d0, .int .i64 (rd_T41 l0 i).f1, .slice E2 (rd_T41 l0 i).f2.length d2, .slice E3 (rd_T41 l0 i).f3.length d3, .slice E4 (rd_T41 l0 i).f4.length d4], .int .i64 (mx a1 1)] rfl (by (try simp only [List.map_toArray, List.map_cons, List.map_nil]); first | done | rfl) ?_
         refine (runsPut_calls k og2 (.slice none 0 0) [] (rd_T41 l0 i) (mx a1 1) E0 d0 E2 d2 E3 d3 E4 d4 u1 u2 w7 w8 BKo2.out GE2.out HB8.out (Kd.S_nil _ _ _ _ _) (Kd.C_below D0.out.2 HB7.out) D0.out.1 (Kd.C_below D2.out.2 HB7.out) D2.out.1 (Kd.C_below D3.out.2 HB7.out) D3.out.1 (Kd.C_below D4.out.2 HB7.out) D4.out.1 HU.out).mono ?_
         rintro e w9 ⟨rfl, v9, h1, h2, h3, _⟩
         refine ⟨_, rfl, ?_⟩
         have n0_ := am h1
         have n1_ := am h2
         have n2_ := am h3
         clear h1 h2 h3))
         all_goals
          go_roundg k1
          case measure => have := HI.out; omega
          case rel => exact ⟨i + 1, out ++ [held'], u2, og2, w7, _, rfl, rfl, HH2, ⟨by have := HI.out; have := HI1.out; omega⟩, HB7, GE2, HO7, n0_, n1_, n2_⟩
       · replace H := (if_neg hlim).symm.trans H
         cases H
   · have H := HA.out
     rw [List.drop_eq_nil_of_le (by omega)] at H
     have e : (out, held) = (o1, h1) := Option.some.inj H
     injection e with e1 e2
     subst e1
     subst e2
     clear HA H
     have hc1 : decide ((i : Int) < (l0.length : Int)) = false := decide_eq_false (by omega)
     have hc2 : decide (i < l0.length) = false := decide_eq_false hi
     have hc3 : (i < l0.length) = False := eq_false hi
     clear hi
     obtain ⟨A', c', rfl⟩ := Kd.S_slice HS.out
     have hcz0 : wr.cell? ⟨og, 0, none⟩ = some (.slice A' held.length c') := (blk_cell BKo.out 0).trans rfl
     have H := HH.out
     clear HH
     by_cases hl : 0 < held.length
     · have hd1 : decide ((0 : Int) < (held.length : Int)) = true := decide_eq_true (by omega)
       have hd2 : decide ((held.length : Int) > 0) = true := decide_eq_true (by omega)
       have hd3 : decide (0 < held.length) = true := decide_eq_true hl
       have hd4 : (0 < held.length) = True := eq_true hl
       try dsimp only at H
       rw [if_pos hl] at H
       by_cases hlim : held.length * 104 ≤ 140737488355328 ∧ (out.length + 1) * 24 ≤ 140737488355328
       · rw [if_pos hlim, Option.bind_some] at H
         by_cases hlc : (out ++ [held]).length * 24 ≤ 140737488355328
         · rw [if_pos hlc] at H
           have e := Option.some.inj H
           subst e
           have HL := am hlim
           have HLC := am hlc
           clear H hlim hlc hl
           go_wp2_with (first
      | ((with_reducible refine gate_callee (f := 29) rfl ?_)
         refine goesL_ (some 49) rfl rfl Try.func29 (by kernel_rfl) rfl #[.slice A' held.length c'] rfl (by (try simp only [List.map_toArray, List.map_cons, List.map_nil]); first | done | rfl) ?_
         refine (CloneCells_calls k41 rfl (.slice A' held.length c') held wE.heap.size (fun k => k ≠ og) wE wr HB.out HB.out.size (Kd.S_R HS.out) (fun k hk => by have := blk_lt BKo.out; omega) HL.out.1).mono ?_
         rintro e w6 ⟨v1, rfl, hR, hB6, hb⟩
         refine ⟨_, rfl, ?_⟩
         obtain ⟨A1', c1', rfl⟩ := Kd.R_slice hR
         have HV1 := am hR
         have HB6 := am hB6
         clear hR hB6 hb)
      | ((with_reducible refine gate_builtin (b := .append) (xs := #[.tmp 44, .tmp 50]) rfl ?_)
         (try (refine gate_guard (by rfl) ?_; dsimp only))
         at_builtin
         refine Kd.R_append (Kd.slice 41 k41) (w0 := w) w.heap.size rfl (.tmp 44) (.tmp 50) 34 29 (.slice none 0 0) 24 rfl Try.underlying34 info29 rfl (by decide) (by omega) u5 out held [.slice A1' held.length c1'] (fun _ => True) (fun k => wE.heap.size ≤ k) rfl rfl ?aP ?aO ?aF (Kd.R_below HO.out HB6.out) (below_step HBw.out HB6.out) (below_step HBw.out HB6.out).size ?aL ?_
         (case aP => exact ⟨_, rfl, Kd.R_lower (Kd.R_mono (Kd.R_bound HV1.out) (fun k hk => hk.2.1)) HBw.out.size⟩)
         (case aO => intro k hk; exact ⟨trivial, fun e => by have := ((Kd.R_bound HO.out).1 k e.symm).2.2.1; omega⟩)
         (case aF => intro _ _; trivial)
         (case aL => exact HL.out.2)
         intro v51 w7 ho hb7 hg hat
         have HO7 := am ho
         have HB7 := am hb7
         clear ho hb7 hg hat)
      | ((with_reducible refine gate_callee (f := 30) rfl ?_)
         refine goesL_ (some 53) rfl rfl Try.func30 (by kernel_rfl) rfl #[v51] rfl (by (try simp only [List.map_toArray, List.map_cons, List.map_nil]); first | done | rfl) ?_
         refine (CloneRuns_calls (Kd.slice 41 k41) rfl (v51) (out ++ [held]) w.heap.size (fun _ => True) w w7 HB7.out (HB7.out).size HO7.out (fun _ _ => trivial) HLC.out).mono ?_
         rintro e w9 ⟨v9, rfl, hR, hB, _⟩
         refine ⟨_, rfl, ?_⟩
         have HR9 := am hR
         have HB9 := am hB
         clear hR hB))
           go_ret
           exact ⟨_, rfl, HR9.out, HB9.out⟩
         · rw [if_neg hlc] at H
           cases H
       · rw [if_neg hlim] at H
         cases H
     · have hd1 : decide ((0 : Int) < (held.length : Int)) = false := decide_eq_false (by omega)
       have hd2 : decide ((held.length : Int) > 0) = false := decide_eq_false (by omega)
       have hd3 : decide (0 < held.length) = false := decide_eq_false hl
       have hd4 : (0 < held.length) = False := eq_false hl
       try dsimp only at H
       rw [if_neg hl, Option.bind_some] at H
       by_cases hlc : out.length * 24 ≤ 140737488355328
       · rw [if_pos hlc] at H
         have e := Option.some.inj H
         subst e
         have HLC := am hlc
         clear H hlc hl
         go_wp2_with (first
      | ((with_reducible refine gate_callee (f := 30) rfl ?_)
         refine goesL_ (some 53) rfl rfl Try.func30 (by kernel_rfl) rfl #[u5] rfl (by (try simp only [List.map_toArray, List.map_cons, List.map_nil]); first | done | rfl) ?_
         refine (CloneRuns_calls (Kd.slice 41 k41) rfl (u5) out w.heap.size (fun _ => True) w wr (below_step HBw.out HB.out) ((below_step HBw.out HB.out)).size (Kd.R_below HO.out HB.out) (fun _ _ => trivial) HLC.out).mono ?_
         rintro e w9 ⟨v9, rfl, hR, hB, _⟩
         refine ⟨_, rfl, ?_⟩
         have HR9 := am hR
         have HB9 := am hB
         clear hR hB))
         go_ret
         exact ⟨_, rfl, HR9.out, HB9.out⟩
       · rw [if_neg hlc] at H
         cases H
end Go.Proofs.Ytmnepkbmcnpjlaa.Q
