-- packed by wip/tools/pack.py (a program of this session) out of its own texts
import Derived.Test.YtmkjkkmilopcpaaPCellBack0
import Derived.ArgAppend
import Derived.Below
import Derived.BigQuiet
import Derived.Deep.AppendLies
import Derived.Deep.CutBlock
import Derived.Deep.DeepCutAuto
import Derived.Deep.Draws
import Derived.Deep.LoopGhost
import Derived.Deep.OwnRows
import Derived.Deep.QuietTactic
import Derived.Deep.RegionHeld3
import Derived.KernelRfl
import Derived.Laws.BitsLemmas
import Derived.Laws.BytesArg
import Derived.Laws.EntriesVeiled
import Derived.Laws.Externs
import Derived.Laws.IdiomCopy
import Derived.Laws.MakeOwn
import Derived.Laws.OwnMore
import Derived.Laws.Rows
import Derived.Laws.Slices
import Derived.Lib.AppendStr
import Derived.Lib.AppendZeros
import Derived.Lib.AppendZerosOnto
import Derived.Lib.ConvBytes
import Derived.Lib.JoinLaws
import Derived.Lib.Overlaps
import Derived.Lib.SliceRun
import Derived.Lib.Walk
import Derived.LoopIn
import Derived.LoopNIn
import Derived.Maps.AppendAt
import Derived.OrdersHeld
import Derived.OrdersIn
import Derived.OwnWalk
import Derived.OwnWalkIn
import Derived.RangeFuncBound
import Derived.RangeFuncBox
import Derived.RangeFuncCalls
import Derived.RangeFuncLeaves
import Derived.RangeFuncNested
import Derived.RangeFuncOwn
import Derived.RowKit
import Derived.RowKit3
import Derived.Shelf.Abstract
import Derived.Shelf.RegionOpen
import Derived.Shelf.RegionOpenPlain
import Derived.Tactics
import Derived.TacticsInMore
import Derived.Test.YtmkjkkmilopcpaaProg
import Derived.WalkKit
import Derived.WalkSpells
import Derived.WideLaws
import Derived.Test.YtmkjkkmilopcpaaPCellBack1
import Derived.Test.YtmkjkkmilopcpaaPCellBack3
import Derived.Test.YtmkjkkmilopcpaaPCellBack4
import Derived.Test.YtmkjkkmilopcpaaPCellBack5
import Derived.Test.YtmkjkkmilopcpaaPCellBack6
import Derived.Test.YtmkjkkmilopcpaaPCellBack7
import Derived.Test.YtmkjkkmilopcpaaPCellBack8
import Derived.Test.YtmkjkkmilopcpaaPCellBack9
import Derived.Test.YtmkjkkmilopcpaaPCellBack10
import Derived.Test.YtmkjkkmilopcpaaPCellBack11
import Derived.Test.YtmkjkkmilopcpaaPCellBack12
import Derived.Test.YtmkjkkmilopcpaaPCellBack13
import Derived.Test.YtmkjkkmilopcpaaPCellBack14
import Derived.Test.YtmkjkkmilopcpaaPCellBack15
import Derived.Test.YtmkjkkmilopcpaaPCellBack16
import Derived.Test.YtmkjkkmilopcpaaPCellBack17
namespace Go.Proofs.Ytmkjkkmilopcpaa.Q
open Go.RowKit Go.Shelf Go.Proofs.YtmkjkkmilopcpaaW.PrintWords Go.Proofs.YtmkjkkmilopcpaaW.PrintLast Go.Proofs.YtmkjkkmilopcpaaW.PrintMore
set_option linter.unusedVariables false
set_option linter.unusedSimpArgs false
def decW (meas s : Int) : Nat := (dimsM s).length + 2 + 24 * meas.toNat
def decRow (cards : List Int) (meas s : Int) (b : List Int) (i : Nat) := oneR cards meas s (b.drop (i * decW meas s))
def toSC (r : List Int × Int × List Int × List Int × List Int) : S30 := ⟨r.1, r.2.1, r.2.2.1, r.2.2.2.1, r.2.2.2.2⟩
def decCells (cards : List Int) (meas s : Int) (b : List Int) (n : Nat) : List S30 := (List.range n).map fun i => toSC (decRow cards meas s b i).1
theorem decCells_succ (cards : List Int) (meas s : Int) (b : List Int) (n : Nat) : decCells cards meas s b (n + 1) = decCells cards meas s b n ++ [toSC (decRow cards meas s b n).1] := by
 unfold decCells
 rw [List.range_succ, List.map_append]; rfl
theorem decCells_length (cards : List Int) (meas s : Int) (b : List Int) (n : Nat) : (decCells cards meas s b n).length = n := by simp [decCells]
theorem oneR_left {cards : List Int} {meas s : Int} {b : List Int} (h : (oneR cards meas s b).2.2 = true) : (oneR cards meas s b).2.1 = b.drop (decW meas s) := by
 unfold oneR at h ⊢
 split
 ·rfl
 ·rename_i hc
  rw [if_neg hc] at h
  cases h
theorem mem_dimsM (s : Int) (x : DimOf s) : x ∈ dimsM s := by
 obtain ⟨x, hx⟩ := x
 unfold dimsM dimsMTo
 rw [List.mem_filterMap]
 exact ⟨x, List.mem_range.2 hx.2, by rw [dif_pos hx]⟩
theorem oneR_key (cards : List Int) (meas s : Int) (b : List Int) : (oneR cards meas s b).1.1.length ≤ 4 := by
 unfold oneR
 split
 ·show (keysOf b (dimsM s).length).length ≤ 4
  rw [keysOf_length]; exact dimsM_len s
 ·simp
def lessB (x y : List Int) : Bool := decide (lexC x y < 0)
def DecOk (cards : List Int) (meas : Int) (b : List Int) (s n : Int) (b2 : List Int) : Prop :=
 (3 ≤ b.length ∧ b.length ≤ 1000000000000) ∧ rec_Check.f cards meas = some true ∧ (0 ≤ meas ∧ meas ≤ 1000 ∧ cards.length ≤ 100) ∧ (0 ≤ s ∧ s < 16 ∧ s / 2 ^ min cards.length 64 = 0) ∧ (0 ≤ n ∧ n ≤ 300) ∧ bits_OnesCount.f s = some ((dimsM s).length : Int) ∧
 (∀ x ∈ dimsM s, x.1 < cards.length) ∧ b2.length = n.toNat * decW meas s ∧ (∀ i, i < n.toNat → (decRow cards meas s b2 i).2.2 = true) ∧ (∀ i, i < n.toNat → 0 < i → lessB (decRow cards meas s b2 (i - 1)).1.1 (decRow cards meas s b2 i).1.1 = true)
instance (cards : List Int) (meas : Int) (b : List Int) (s n : Int) (b2 : List Int) : Decidable (DecOk cards meas b s n b2) := by unfold DecOk; infer_instance
def decS (b : List Int) : Int := gv (b.take (1 : Int).toNat) 0
def decN (b : List Int) : Int := gv ((b.drop (1 : Int).toNat).take (2 : Int).toNat) 0
def decB (b : List Int) : List Int := (b.drop (1 : Int).toNat).drop (2 : Int).toNat
def cell_Decode.f (l0_0 : List Int) (a0_1 : Int) (l1 : List Int) : Option (Int × (List S30) × Bool) :=
 if DecOk l0_0 a0_1 l1 (decS l1) (decN l1) (decB l1) then some (decS l1, decCells l0_0 a0_1 (decS l1) (decB l1) (decN l1).toNat, true) else none
def cell_Decode.T5 : Bool × List (List Nat × List Nat) := (true, [([], []), ([0], [0]), ([1], [1]), ([2], [2]), ([2], [2]), ([4, 2], [2, 4]), ([5, 2], [2, 5]), ([3, 6, 2], [2, 3, 6]), ([7, 2], [2, 7]), ([2, 8], [2, 8]), ([9, 2], [9]), ([10], [10]), ([11, 10], [10, 11]), ([10, 12], [10, 12]), ([13, 10], [13]), ([14], [14]), ([15, 14], [14, 15]), ([14], [14]), ([14], [14]), ([18, 14], [14, 18]), ([19, 14, 14], [14, 19]), ([20, 14], [14, 20]), ([14], [14]), ([22, 14], [14, 22]), ([23, 14], [14, 23]), ([21, 24, 14], [14, 21, 24]), ([17, 25, 14], [14, 17, 25]), ([16, 26, 14], [14, 16, 26]), ([14, 27], [14, 27])])
def cell_Decode.B5 : List Nat := [0, 1, 3, 7, 7, 23, 55, 127, 255, 511, 1023, 2047, 4095, 8191, 16383, 32767, 65535, 32767, 32767, 294911, 819199, 1867775, 32767, 4227071, 12615679, 33325055, 67010559, 134217727, 268435455]
theorem cell_Decode.tab5 : rtab .any (opsOf Try.f36 5) = cell_Decode.T5 := by kernel_rfl
theorem cell_Decode.bits5 : waitsOk cell_Decode.T5.2 cell_Decode.B5 = true := by kernel_rfl
def cell_Decode.T11 : Bool × List (List Nat × List Nat) := (true, [([], []), ([0], [0]), ([1], [1]), ([2], [2]), ([3, 2], [2, 3]), ([4, 2], [2, 4]), ([5, 2, 2], [2, 5]), ([6], [6]), ([6], [6]), ([8, 6], [6, 8]), ([9, 6], [6, 9]), ([7, 10, 6], [6, 7, 10]), ([11, 6], [6, 11]), ([12, 6], [6, 12]), ([6], [6]), ([14, 6], [6, 14]), ([13, 15, 6, 6], [6, 13, 15]), ([16, 6], [6, 16]), ([6, 17, 2], [2, 6, 17]), ([2, 18], [2, 18])])
def cell_Decode.B11 : List Nat := [0, 1, 3, 7, 15, 31, 63, 127, 127, 383, 895, 2047, 4095, 8191, 127, 16511, 65535, 131071, 262143, 524287]
theorem cell_Decode.tab11 : rtab .any (opsOf Try.f36 11) = cell_Decode.T11 := by kernel_rfl
theorem cell_Decode.bits11 : waitsOk cell_Decode.T11.2 cell_Decode.B11 = true := by kernel_rfl
set_option maxHeartbeats 8000000 in
set_option maxRecDepth 100000 in
theorem cell_Decode.calls (A0_0 : Option Addr) (c0_0 : Nat) (l0_0 : List Int) (a0_1 : Int) (A1 : Option Addr) (c1 : Nat) (l1 : List Int) (r1 : Int) (r2 : List S30) (r3 : Bool) (w : World) (hr0_0 : Kd.C (Kd.int .i64) w A0_0 l0_0.length l0_0) (hc0_0 : l0_0.length ≤ c0_0) (hr1 : Kd.C (Kd.int .u8) w A1 l1.length l1) (hc1 : l1.length ≤ c1) (h : cell_Decode.f l0_0 a0_1 l1 = some (r1, r2, r3)) :
  Calls Try.prog 36 #[.agg #[.slice A0_0 l0_0.length c0_0, .int .i64 a0_1], .slice A1 l1.length c1] w fun e w' => ∃ v1_ : Value, e = .returned (.tuple #[.int .i64 r1, v1_, .bool r3]) ∧ Kd.S k30 30 w' w.heap.size (fun _ => True) v1_ r2 ∧ Below w.heap.size w w' := by
 have hu35 := Try.underlying35
 have hu30 := Try.underlying30
 unfold cell_Decode.f at h
 split at h
 rotate_left
 ·cases h
 rename_i hok
 injection h with h
 injection h with e1 h
 injection h with e2 e3
 subst e1 e2 e3
 obtain ⟨s, hs⟩ : ∃ s, s = decS l1 := ⟨_, rfl⟩
 obtain ⟨n, hn⟩ : ∃ n, n = decN l1 := ⟨_, rfl⟩
 obtain ⟨b2, hb2⟩ : ∃ b, b = decB l1 := ⟨_, rfl⟩
 rw [← hs, ← hn, ← hb2] at hok ⊢
 obtain ⟨⟨k1, k2⟩, k3, ⟨k4, k5, k6⟩, ⟨k7, k8, k9⟩, ⟨k10, k11⟩, k12, k13, k14, k15, k16⟩ := hok
 obtain ⟨N, hN⟩ : ∃ N, N = (dimsM s).length := ⟨_, rfl⟩
 have hN4 : N ≤ 4 := by rw [hN]; exact dimsM_len s
 rw [← hN] at k12
 have hW : decW a0_1 s = N + 2 + 24 * a0_1.toNat := by unfold decW; rw [hN]
 obtain ⟨lA, hlA⟩ : ∃ l, l = l1.drop (1 : Int).toNat := ⟨_, rfl⟩
 have HSS : Aside0 (s = gv (l1.take (1 : Int).toNat) 0) := ⟨hs⟩
 have HNN : Aside0 (n = gv (lA.take (2 : Int).toNat) 0) := ⟨by rw [hlA]; exact hn⟩
 have HB2 : Aside0 (b2 = lA.drop (2 : Int).toNat) := ⟨by rw [hlA]; exact hb2⟩
 have HLA := am hlA
 have HAL : Aside0 (2 ≤ lA.length ∧ lA.length ≤ 1000000000000) := ⟨by rw [hlA, List.length_drop, show (1 : Int).toNat = 1 from rfl]; omega⟩
 have H1 := am (And.intro k1 k2)
 have H3 := am k3
 have H4 := am (And.intro k4 (And.intro k5 k6))
 have H7 := am (And.intro k7 (And.intro k8 k9))
 have H10 := am (And.intro k10 k11)
 have H12 := am k12
 have H13 := am k13
 have H14 := am k14
 have H15 := am k15
 have H16 := am k16
 have HN := am (And.intro hN hN4)
 have HW := am hW
 have HR0 := am (And.intro hr0_0 hc0_0)
 have HR1 := am (And.intro hr1 hc1)
 clear hs hn hb2 k1 k2 k3 k4 k5 k6 k7 k8 k9 k10 k11 k12 k13 k14 k15 k16 hN hN4 hW hlA hr0_0 hc0_0 hr1 hc1
 have d1 : decide ((l1.length : Int) < 3) = false := decide_eq_false (by have := H1.out.1; omega)
 have d2 : decide (l1.length < 3) = false := decide_eq_false (by have := H1.out.1; omega)
 have d3 : decide (3 ≤ l1.length) = true := decide_eq_true H1.out.1
 go_enter Try.func36, Try.ntmps36
 go_wp2_with (first
 | ((with_reducible refine gate_dst (N := 2) rfl ?_); (try (refine gate_guard (by rfl) ?_; dsimp only)); refine zX #[.slice A0_0 l0_0.length c0_0, .int .i64 a0_1] 35 ?_; intro g2 hg wA hbox hbw; have HBa := am hbw; have HKB := am hbox; have g0 : wA.cell? ⟨g2, 0, none⟩ = some (.slice A0_0 l0_0.length c0_0) := (blk_cell hbox 0).trans rfl; have g1 : wA.cell? ⟨g2, 1, none⟩ = some (.int .i64 a0_1) := (blk_cell hbox 1).trans rfl; clear hg hbox hbw)
 | (go_at_call 55; (with_reducible refine (rec_Check.calls A0_0 c0_0 l0_0 a0_1 true _ (Kd.C_below HR0.out.1 HBa.out) HR0.out.2 H3.out).mono ?_); rintro e wB ⟨rfl, hb⟩; have HB1 := am (below_step HBa.out hb); have HKB1 := am (blk_below HKB.out hb); clear hb g0 g1))
 go_wp2_with (fail)
 refine (cell_get.callsC A1 c1 l1 1 w wB HB1.out HR1.out.1 HR1.out.2 (by decide) (by have := H1.out.1; omega) (by have := H1.out.2; omega)).mono ?_
 rw [← HSS.out, ← HLA.out]
 rintro e wC ⟨A2, c2, rfl, hle, hC, hD⟩
 have HCA := am (And.intro hle hC)
 have HB2' := am (below_step HB1.out hD.below)
 have HKB2 := am (blk_below HKB1.out hD.below)
 clear hle hC hD HB1 HKB1
 go_wp2_with (fail)
 refine (cell_get.callsC A2 c2 lA 2 w wC HB2'.out HCA.out.2 HCA.out.1 (by decide) (by have := HAL.out.1; omega) (by have := HAL.out.2; omega)).mono ?_
 rw [← HNN.out, ← HB2.out]
 rintro e wD ⟨A3, c3, rfl, hle, hC, hD⟩
 have HCB := am (And.intro hle hC)
 have HB3 := am (below_step HB2'.out hD.below)
 have HKB3 := am (blk_below HKB2.out hD.below)
 clear hle hC hD HB2' HKB2
 have G0 := am (bc HKB3 0)
 have G1 := am (bc HKB3 1)
 have c16 : decide (s ≥ 16) = false := decide_eq_false (by have := H7.out.2.1; omega)
 have c16' : decide (16 ≤ s) = false := decide_eq_false (by have := H7.out.2.1; omega)
 have c300 : decide (n > 300) = false := decide_eq_false (by have := H10.out.2; omega)
 have c300' : decide (300 < n) = false := decide_eq_false (by have := H10.out.2; omega)
 have hsh : s / 2 ^ min l0_0.length 64 = 0 := H7.out.2.2
 have hmul : (b2.length : Int) = n * ((N : Int) + 2 + 24 * a0_1) := by
  have h1 := H14.out
  have h2 := H4.out.1
  have h3 := H10.out.1
  rw [HW.out] at h1
  rw [h1]
  have e1 : (a0_1.toNat : Int) = a0_1 := by omega
  have e2 : (n.toNat : Int) = n := by omega
  rw [Int.natCast_mul, e2]
  congr 1
  omega
 have hw1 : wrap64 ((N : Int) + 2) = (N : Int) + 2 := by have := HN.out.2; unfold wrap64; omega
 have hw2 : wrap64 (24 * a0_1) = 24 * a0_1 := by have := H4.out; unfold wrap64; omega
 have hw3 : wrap64 ((N : Int) + 2 + 24 * a0_1) = (N : Int) + 2 + 24 * a0_1 := by have := H4.out; have := HN.out.2; unfold wrap64; omega
 have hw4 : wrap64 (n * ((N : Int) + 2 + 24 * a0_1)) = n * ((N : Int) + 2 + 24 * a0_1) := by
  rw [← hmul]
  have h1 : b2.length ≤ lA.length := by rw [HB2.out, List.length_drop]; omega
  have := HAL.out.2
  unfold wrap64; omega
 have hne : ((b2.length : Int) != n * ((N : Int) + 2 + 24 * a0_1)) = false := by rw [hmul]; simp
 have hwu : IntKind.u64.wrap s = s := by
  have h := H7.out
  have h2 : ∀ k : Nat, k < 16 → IntKind.u64.wrap (k : Int) = k := by decide
  have h3 := h2 s.toNat (by omega)
  rwa [Int.toNat_of_nonneg h.1] at h3
 have HMUL := am hmul
 clear hmul
 go_wp2
 refine start_ (n := 29) (S := fun w' => w'.cell? ⟨g2, 0, none⟩ = some (.slice A0_0 l0_0.length c0_0) ∧ w'.cell? ⟨g2, 1, none⟩ = some (.int .i64 a0_1)) (ds := []) (bb 29 0) (by kernel_rfl) rfl rfl ⟨G0.out, G1.out⟩ (fun hHeld => ?_)
 refine with_tabW cell_Decode.tab5 cell_Decode.bits5 (fun HT_ HW_ => ?_)
 have HB := am (below_drew (Below.refl wD.heap.size wD))
 generalize wD.drew = wd at HB hHeld ⊢
 refine zu 0 (some 27) (bb 29 1) HT_ ?_
 refine zu 1 (some 28) (bb 29 3) HT_ ?_
 refine zu 2 (some 29) (bb 29 7) HT_ ?_
 refine zu 3 (some 30) (bb 29 15) HT_ ?_
 refine zu 4 (some 31) (bb 29 31) HT_ ?_
 refine zk 5 (some 32) (bb 29 63) HT_ HW_ hHeld ?_
 refine zu 6 (some 33) (bb 29 127) HT_ ?_
 refine zu 7 (some 34) (bb 29 255) HT_ ?_
 refine zu 8 (some 35) (bb 29 511) HT_ ?_
 refine zu 9 (some 36) (bb 29 1023) HT_ ?_
 refine zu 10 (some 37) (bb 29 2047) HT_ ?_
 refine zu 11 (some 38) (bb 29 4095) HT_ ?_
 refine zu 12 (some 39) (bb 29 8191) HT_ ?_
 refine zu 13 (some 40) (bb 29 16383) HT_ ?_
 refine zu 14 (some 41) (bb 29 32767) HT_ ?_
 refine zu 15 (some 42) (bb 29 65535) HT_ ?_
 refine zu 16 (some 43) (bb 29 131071) HT_ ?_
 refine zu 17 (some 44) (bb 29 262143) HT_ ?_
 refine zu 18 (some 45) (bb 29 524287) HT_ ?_
 refine zu 22 (some 49) (bb 29 4718591) HT_ ?_
 refine zk 19 (some 46) (bb 29 5242879) HT_ HW_ hHeld ?_
 refine zk 23 (some 50) (bb 29 13631487) HT_ HW_ hHeld ?_
 refine zu 24 (some 51) (bb 29 30408703) HT_ ?_
 refine zo 20 (some 47) (bb 29 31457279) HT_ (fun K hK => ?_)
 refine goes_ Try.func57 (by kernel_rfl) rfl #[.int .u64 s] (by rfl) rfl rfl (by (try simp only [List.map_toArray, List.map_cons, List.map_nil]); first | done | rfl) ?_
 with_reducible refine (bits_OnesCount.calls s (N : Int) _ H12.out).mono ?_

 rintro e wd2 ⟨rfl, hd⟩
 replace HB := am (below_step HB.out hd.below)
 clear hd
 refine ⟨_, rfl, ?_⟩
 refine hK.out _ _ ⟨(HB.out.cell (World.block_lt_of_cell? wD _ G0.out)).trans G0.out, (HB.out.cell (World.block_lt_of_cell? wD _ G1.out)).trans G1.out⟩ (fun hHeld => ?_)
 clear hK K
 refine nm ?_
 refine zu 21 (some 48) (bb 29 33554431) HT_ ?_
 refine zu 25 (some 52) (bb 29 67108863) HT_ ?_
 refine zu 26 (some 53) (bb 29 134217727) HT_ ?_
 refine zu 27 (some 54) (bb 29 268435455) HT_ ?_
 refine zu 28 (some 55) (bb 29 536870911) HT_ ?_
 refine done_ (done_of HT_.out (by kernel_rfl)) ?_
 have HBE := am (below_step HB3.out HB.out)
 have HKE := am (blk_below HKB3.out HB.out)
 obtain ⟨m, hm⟩ : ∃ m, m = n.toNat := ⟨_, rfl⟩
 have hmm : (m : Int) = n := by have := H10.out.1; omega
 have HMM := am (And.intro hm hmm)
 have HCE := HCB
 obtain ⟨WW, hWW⟩ : ∃ W, W = decW a0_1 s := ⟨_, rfl⟩
 have HWW := am hWW
 have HLEN : Aside0 (b2.length = m * WW) := ⟨by rw [hm, hWW]; exact H14.out⟩
 clear HB hHeld HT_ HW_ G0 G1 HB3 HKB3 hsh hw1 hw2 hw3 hw4 hne hwu hm hmm c16 c16' c300 c300' d1 d2 d3 hWW HCB HCA
 generalize wd2 = wE at *
 go_wp2
 go_loopg [1, 4, 5, 57] (m + 1) (fun kq v1 v4 v5 v57 w' => ∃ (j : Nat) (A : Option Addr) (c : Nat), v4 = .int .i64 s ∧ v1 = .slice A (b2.drop (j * WW)).length c ∧ v57 = .int .i64 (j : Int) ∧ Aside0 (j + kq = m + 1 ∧ j ≤ m) ∧ Aside0 ((b2.drop (j * WW)).length ≤ c ∧ Kd.C (Kd.int .u8) w A (b2.drop (j * WW)).length (b2.drop (j * WW))) ∧ Aside0 (Below wE.heap.size wE w') ∧ Aside0 (Kd.S k30 30 w' wE.heap.size (fun _ => True) v5 (decCells l0_0 a0_1 s b2 j)))
 case atStart => exact ⟨0, A3, c3, rfl, by simp, rfl, ⟨by omega, by omega⟩, ⟨by simpa using HCE.out⟩, ⟨Below.refl _ _⟩, ⟨Kd.S_nil _ _ _ _ _⟩⟩
 case round =>
 obtain ⟨j, A, c, rfl, rfl, rfl, HJ, HC, HS, HN⟩ := hrel
 obtain ⟨Ac, cc, ec⟩ := Kd.S_slice HN.out
 subst ec
 cases gk with
 | zero => exact absurd HJ.out (by omega)
 | succ k1 =>
 have hmm := HMM.out.2
 obtain ⟨lj, hlj⟩ : ∃ l, l = b2.drop (j * WW) := ⟨_, rfl⟩
 rw [← hlj] at HC ⊢
 have HCL := am (decCells_length l0_0 a0_1 s b2 j)
 by_cases hj : j < m
 ·have hd1 : decide ((j : Int) < n) = true := decide_eq_true (by omega)
  have hwj : wrap64 ((j : Int) + 1) = ((j + 1 : Nat) : Int) := by have := H10.out.2; unfold wrap64; omega
  have hll : WW ≤ lj.length := by
   rw [hlj, List.length_drop, HLEN.out]
   have : (j + 1) * WW ≤ m * WW := Nat.mul_le_mul_right _ (by omega)
   rw [Nat.succ_mul] at this
   omega
  have hrow := H15.out j (by rw [← HMM.out.1]; exact hj)
  have hles := H16.out j (by rw [← HMM.out.1]; exact hj)
  have hcs := decCells_succ l0_0 a0_1 s b2 j
  have hleft : (oneR l0_0 a0_1 s lj).2.2 = true → (oneR l0_0 a0_1 s lj).2.1 = b2.drop ((j + 1) * WW) := fun h => by
   rw [oneR_left h, hlj, List.drop_drop, ← HWW.out, Nat.succ_mul]
  have hro : decRow l0_0 a0_1 s b2 j = oneR l0_0 a0_1 s lj := by unfold decRow; rw [← HWW.out, ← hlj]
  rw [hro] at hrow hles hcs
  have hl2 : (dimsM s).length + 2 + 24 * a0_1.toNat ≤ lj.length := by have h1 := HWW.out; unfold decW at h1; omega
  have hl3 : lj.length ≤ 4611686018427387904 := by
   have h1 : b2.length ≤ lA.length := by rw [HB2.out, List.length_drop]; omega
   have := HAL.out.2
   rw [hlj, List.length_drop]; omega
  have hone := fun (W : World) (hb : Below wr.heap.size wr W) => cell_one.calls A0_0 c0_0 l0_0 a0_1 s A c lj w W (below_step HBE.out (below_step HS.out hb)) (Kd.C_below HR0.out.1 (below_step HBE.out (below_step HS.out hb))) HR0.out.2 HC.out.2 HC.out.1 H4.out.1 H4.out.2.1 (fun x => H13.out x (mem_dimsM s x)) hl2 hl3
  obtain ⟨⟨⟨x0, x1, x2, x3, x4⟩, lf, is⟩, hr⟩ : ∃ r, r = oneR l0_0 a0_1 s lj := ⟨_, rfl⟩
  rw [← hr] at hrow hles hcs hleft hone
  dsimp only at hrow hles hcs hleft hone
  subst hrow
  have hlast : 0 < j → (rd_T30 (decCells l0_0 a0_1 s b2 j) ((j - 1 : Nat) : Int)).f0 = (decRow l0_0 a0_1 s b2 (j - 1)).1.1 := fun h0 => by
   unfold rd_T30 decCells
   rw [Int.toNat_natCast, List.getD_eq_getElem?_getD, List.getElem?_map, List.getElem?_range (by omega)]
   rfl
  have HLAST := am hlast
  clear hlast
  have HLF := am (hleft rfl)
  have HLES := am hles
  obtain ⟨cnx, hcnx⟩ : ∃ c, c = decCells l0_0 a0_1 s b2 (j + 1) := ⟨_, rfl⟩
  rw [← hcnx] at hcs
  have HCSS' : Aside0 (cnx = decCells l0_0 a0_1 s b2 j ++ [(⟨x0, x1, x2, x3, x4⟩ : S30)]) := ⟨hcs⟩
  have HCNX := am hcnx
  clear hcnx
  have HONE := am hone
  have HHJ := am hj
  clear hj hll hleft hles hcs hone hl2 hl3 hr hro hmm hlj
  generalize decCells l0_0 a0_1 s b2 j = cells at *
  generalize wr = wo at *
  have g20 := bc ⟨blk_below HKE.out HS.out⟩ 0
  have g21 := bc ⟨blk_below HKE.out HS.out⟩ 1
  go_wp2_with (first | ((with_reducible refine gate_dst (N := 8) rfl ?_); (try (refine gate_guard (by rfl) ?_; dsimp only)); refine zX #[.slice none 0 0, .int .i64 0, .slice none 0 0, .slice none 0 0, .slice none 0 0] 30 ?_; intro g8 hg wF hbox hbw; have HBF := am hbw; have HKF := am hbox; have HG8 := am hg; have f20 := (Below.cell hbw (World.block_lt_of_cell? wo _ g20)).trans g20; have f21 := (Below.cell hbw (World.block_lt_of_cell? wo _ g21)).trans g21; clear g20 g21; clear hg hbox hbw))
  refine (HONE.out wF HBF.out).mono ?_
  rintro e wG ⟨v0, v2, v3, v4, A', c', rfl, p0, p2, p3, p4, hle, hC, hb⟩
  obtain ⟨B0, b0, rfl⟩ := Kd.R_slice p0
  obtain ⟨B2, b22, rfl⟩ := Kd.R_slice p2
  obtain ⟨B3, b3, rfl⟩ := Kd.R_slice p3
  obtain ⟨B4, b4, rfl⟩ := Kd.R_slice p4
  have n8 := blk_below HKF.out hb
  have z80 : wG.cell? ⟨g8, 0, none⟩ = some (.slice none 0 0) := (blk_cell n8 0).trans rfl
  have z81 : wG.cell? ⟨g8, 1, none⟩ = some (.int .i64 0) := (blk_cell n8 1).trans rfl
  have z82 : wG.cell? ⟨g8, 2, none⟩ = some (.slice none 0 0) := (blk_cell n8 2).trans rfl
  have z83 : wG.cell? ⟨g8, 3, none⟩ = some (.slice none 0 0) := (blk_cell n8 3).trans rfl
  have z84 : wG.cell? ⟨g8, 4, none⟩ = some (.slice none 0 0) := (blk_cell n8 4).trans rfl
  have y80 := blk_frozen n8 0
  have y81 := blk_frozen n8 1
  have y82 := blk_frozen n8 2
  have y83 := blk_frozen n8 3
  have y84 := blk_frozen n8 4
  have HP0 := am p0
  have HP2 := am p2
  have HP3 := am p3
  have HP4 := am p4
  have N8 := am n8
  have HCC := am (And.intro hle hC)
  have HBG := am hb
  clear p0 p2 p3 p4 hle hC hb n8
  dsimp only
  go_wp2
  generalize hwh : (((((wG.setCell ⟨g8, 0, none⟩ (.slice B0 x0.length b0)).setCell ⟨g8, 1, none⟩ (.int .i64 x1)).setCell ⟨g8, 2, none⟩ (.slice B2 x2.length b22)).setCell ⟨g8, 3, none⟩ (.slice B3 x3.length b3)).setCell ⟨g8, 4, none⟩ (.slice B4 x4.length b4)) = wH
  have hfh : ∀ k, k ≠ g8 → wH.heap[k]? = wG.heap[k]? := fun k e => by rw [← hwh, Below.heap_setCell _ _ _ _ e, Below.heap_setCell _ _ _ _ e, Below.heap_setCell _ _ _ _ e, Below.heap_setCell _ _ _ _ e, Below.heap_setCell _ _ _ _ e]
  have hsh : wH.heap.size = wG.heap.size := by rw [← hwh]; simp [World.setCell]
  have Q80 : ((wG.setCell ⟨g8, 0, none⟩ (.slice B0 x0.length b0))).heap[g8]? = some (.cells #[.slice B0 x0.length b0, .int .i64 0, .slice none 0 0, .slice none 0 0, .slice none 0 0] 30 (0, 0)) := blk_put N8.out 0 _ rfl
  have Q81 : (((wG.setCell ⟨g8, 0, none⟩ (.slice B0 x0.length b0)).setCell ⟨g8, 1, none⟩ (.int .i64 x1))).heap[g8]? = some (.cells #[.slice B0 x0.length b0, .int .i64 x1, .slice none 0 0, .slice none 0 0, .slice none 0 0] 30 (0, 0)) := blk_put Q80 1 _ rfl
  have Q82 : ((((wG.setCell ⟨g8, 0, none⟩ (.slice B0 x0.length b0)).setCell ⟨g8, 1, none⟩ (.int .i64 x1)).setCell ⟨g8, 2, none⟩ (.slice B2 x2.length b22))).heap[g8]? = some (.cells #[.slice B0 x0.length b0, .int .i64 x1, .slice B2 x2.length b22, .slice none 0 0, .slice none 0 0] 30 (0, 0)) := blk_put Q81 2 _ rfl
  have Q83 : (((((wG.setCell ⟨g8, 0, none⟩ (.slice B0 x0.length b0)).setCell ⟨g8, 1, none⟩ (.int .i64 x1)).setCell ⟨g8, 2, none⟩ (.slice B2 x2.length b22)).setCell ⟨g8, 3, none⟩ (.slice B3 x3.length b3))).heap[g8]? = some (.cells #[.slice B0 x0.length b0, .int .i64 x1, .slice B2 x2.length b22, .slice B3 x3.length b3, .slice none 0 0] 30 (0, 0)) := blk_put Q82 3 _ rfl
  have Q84 : wH.heap[g8]? = some (.cells #[.slice B0 x0.length b0, .int .i64 x1, .slice B2 x2.length b22, .slice B3 x3.length b3, .slice B4 x4.length b4] 30 (0, 0)) := by rw [← hwh]; exact blk_put Q83 4 _ rfl
  have hg8 : wo.heap.size ≤ g8 := Nat.le_of_eq HG8.out.symm
  have HQ8 := am Q84
  have hbh : Below wo.heap.size wo wH := by rw [← hwh]; exact below_set (below_set (below_set (below_set (below_set (below_step HBF.out HBG.out) hg8) hg8) hg8) hg8) hg8
  have HBH := am hbh
  have hF8 : g8 < wF.heap.size := blk_lt HKF.out
  have hmv : ∀ {ok : Nat → Prop} {v : Value} {xs : List Int}, Kd.R (Kd.int .i64) 3 wG wF.heap.size ok v xs → Kd.R (Kd.int .i64) 3 wH wE.heap.size (fun k => wo.heap.size ≤ k) v xs := fun h => Kd.R_mono (Kd.R_lower (Kd.R_step (Kd.R_bound h) (fun k hk _ => hfh k (by have := hk.2.1; omega))) (Nat.le_trans HS.out.size HBF.out.size)) (fun k hk => Nat.le_trans HBF.out.size hk.2.1)
  have R0 := am (hmv HP0.out)
  have R2 := am (hmv HP2.out)
  have R3 := am (hmv HP3.out)
  have R4 := am (hmv HP4.out)
  have HCH := HCC
  have HSH := am (below_step HS.out hbh)
  have HNS : Aside0 (Kd.S k30 30 wH wE.heap.size (fun k => True ∧ ¬ wo.heap.size ≤ k) (.slice Ac cells.length cc) cells) := ⟨Kd.S_below (Kd.S_mono (Kd.S_bound HN.out) (fun k hk => ⟨trivial, by have := hk.2.2.1; omega⟩)) hbh⟩
  have HOLT : Aside0 (∀ k, (Value.slice Ac cells.length cc).ownBlock = some k → k < wo.heap.size) := ⟨fun k hk => by obtain ⟨f, hf⟩ := Kd.S_bound HN.out; exact (hf.1 k hk).2.2.1⟩
  clear hwh hfh hsh Q80 Q81 Q82 Q83 Q84 hbh hmv HP0 HP2 HP3 HP4 N8 HCC
  have hcl := HCL.out
  by_cases hj0 : 0 < j
  ·have hcr0 : lexC (decRow l0_0 a0_1 s b2 (j - 1)).1.1 x0 < 0 := of_decide_eq_true (HLES.out hj0)
   obtain ⟨KL, hKL⟩ := cell_less_ev (decRow l0_0 a0_1 s b2 (j - 1)).1.1 x0 (Nat.le_trans (oneR_key _ _ _ _) (by decide))
   have hcr := hKL KL (Nat.le_refl _)
   rw [← HLAST.out hj0] at hcr hcr0
   generalize hcre : lexC (rd_T30 cells ((j - 1 : Nat) : Int)).f0 x0 = cr at *
   clear hcre hKL
   obtain ⟨ad, A0', c0', A2', c2', A3', c3', A4', c4', rfl, x0', x1', x2', x3', x4', ld0, gg0, _⟩ := at_T30 (Kd.C_below (Kd.S_reads' HN.out).2.2 HBH.out) ((j - 1 : Nat) : Int) (by omega) (by omega)
   rw [Int.toNat_natCast] at x0'
   generalize (rd_T30 cells ((j - 1 : Nat) : Int)).f0 = ky at *
   have HCR := am hcr
   have HCR0 := am hcr0
   have e1 : decide ((cells.length : Int) > 0) = true := decide_eq_true (by omega)
   have e2 : decide (0 < (cells.length : Int)) = true := decide_eq_true (by omega)
   have e3 : decide (0 < cells.length) = true := decide_eq_true (by omega)
   have e4 : wrap64 ((cells.length : Int) - 1) = ((j - 1 : Nat) : Int) := by have := HJ.out.2; have := HMM.out.2; have := H10.out.2; unfold wrap64; omega
   have e5 := eq_true (show (0 : Int) ≤ ((j - 1 : Nat) : Int) by omega)
   have e6 := eq_true (show ((j - 1 : Nat) : Int) < (cells.length : Int) by omega)
   have e7 : decide (cr ≥ 0) = false := decide_eq_false (by omega)
   have e8 : decide (0 ≤ cr) = false := decide_eq_false (by omega)
   have hnil := eq_false (show ¬ cells = [] by intro h; rw [h] at hcl; simp at hcl; omega)
   have X0 := am x0'
   have HKY := am (And.intro ld0 gg0)
   have Y0 := am (bc HQ8 0)
   have e9 := eq_true (show j - 1 < cells.length by omega)
   clear x0' x1' x2' x3' x4' ld0 gg0 hcr hcr0 hcl hj0
   go_wp2
   refine start_ (n := 20) (S := fun w' => w'.cell? (ad.add ((j - 1) * 5)) = some (.slice A0' ky.length c0') ∧ w'.cell? ⟨g8, 0, none⟩ = some (.slice B0 x0.length b0)) (ds := []) (bb 20 0) (by kernel_rfl) rfl rfl ⟨X0.out, Y0.out⟩ (fun hHeld => ?_)
   refine with_tabW cell_Decode.tab11 cell_Decode.bits11 (fun HT_ HW_ => ?_)
   have HB := am (below_drew (Below.refl wH.heap.size wH))
   generalize wH.drew = wd at HB hHeld ⊢
   refine zu 0 (some 67) (bb 20 1) HT_ ?_
   refine zu 1 (some 68) (bb 20 3) HT_ ?_
   refine zu 2 (some 69) (bb 20 7) HT_ ?_
   refine zu 3 (some 70) (bb 20 15) HT_ ?_
   refine zu 4 (some 71) (bb 20 31) HT_ ?_
   refine zu 5 (some 72) (bb 20 63) HT_ ?_
   refine zu 6 (some 73) (bb 20 127) HT_ ?_
   refine zu 7 (some 74) (bb 20 255) HT_ ?_
   refine zu 8 (some 75) (bb 20 511) HT_ ?_
   refine zu 9 (some 76) (bb 20 1023) HT_ ?_
   refine zu 10 (some 77) (bb 20 2047) HT_ ?_
   refine zu 11 (some 78) (bb 20 4095) HT_ ?_
   refine zu 12 (some 79) (bb 20 8191) HT_ ?_
   refine zu 14 (some 81) (bb 20 24575) HT_ ?_
   refine zk 13 (some 80) (bb 20 32767) HT_ HW_ hHeld ?_
   refine zk 15 (some 82) (bb 20 65535) HT_ HW_ hHeld ?_
   refine zo 16 (some 83) (bb 20 131071) HT_ (fun K hK => ?_)
   refine goes_ Try.func17 (by kernel_rfl) rfl #[.slice A0' ky.length c0', .slice B0 x0.length b0] (by rfl) rfl rfl (by (try simp only [List.map_toArray, List.map_cons, List.map_nil]); first | done | rfl) ?_
   with_reducible refine (cell_Less.calls KL A0' c0' ky B0 b0 x0 cr _ (Kd.C_below HKY.out.2 HB.out) HKY.out.1 (Kd.C_below (Kd.R_reads' R0.out).2.2 HB.out) (Kd.R_reads' R0.out).2.1 HCR.out).mono ?_

   rintro e wd3 ⟨rfl, hd⟩
   replace HB := am (below_step HB.out hd.below)
   clear hd
   refine ⟨_, rfl, ?_⟩
   refine hK.out _ _ ⟨(HB.out.cell (World.block_lt_of_cell? wH _ X0.out)).trans X0.out, (HB.out.cell (World.block_lt_of_cell? wH _ Y0.out)).trans Y0.out⟩ (fun hHeld => ?_)
   clear hK K
   refine nm ?_
   refine zu 17 (some 84) (bb 20 262143) HT_ ?_
   refine zu 18 (some 85) (bb 20 524287) HT_ ?_
   refine zu 19 (some 86) (bb 20 1048575) HT_ ?_
   refine done_ (done_of HT_.out (by kernel_rfl)) ?_
   generalize wd3 = wI at *
   clear hHeld HT_ HW_
   have hqi := blk_below HQ8.out HB.out
   have z0 : wI.cell? ⟨g8, 0, none⟩ = some (.slice B0 x0.length b0) := (blk_cell hqi 0).trans rfl
   have z1 : wI.cell? ⟨g8, 1, none⟩ = some (.int .i64 x1) := (blk_cell hqi 1).trans rfl
   have z2 : wI.cell? ⟨g8, 2, none⟩ = some (.slice B2 x2.length b22) := (blk_cell hqi 2).trans rfl
   have z3 : wI.cell? ⟨g8, 3, none⟩ = some (.slice B3 x3.length b3) := (blk_cell hqi 3).trans rfl
   have z4 : wI.cell? ⟨g8, 4, none⟩ = some (.slice B4 x4.length b4) := (blk_cell hqi 4).trans rfl
   have HBI := am (below_step HSH.out HB.out)
   have HNI := am (Kd.S_below HNS.out HB.out)
   have HMI := am (k30_mkM wI wE.heap.size (fun k => wo.heap.size ≤ k) (⟨x0, x1, x2, x3, x4⟩ : S30) (Kd.R_below R0.out HB.out) (Kd.R_below R2.out HB.out) (Kd.R_below R3.out HB.out) (Kd.R_below R4.out HB.out))
   clear hqi HB
   go_wp2_with (first
   | ((with_reducible refine gate_dst (N := 90) rfl ?_); refine Kd.S_append k30 (w0 := wE) wE.heap.size rfl (.tmp 87) (.tmp 89) 28 30 (.agg #[.slice none 0 0, .int .i64 0, .slice none 0 0, .slice none 0 0, .slice none 0 0]) 104 rfl Try.underlying28 info30 rfl (by decide) (by omega) (.slice (some ad) cells.length cc) cells (⟨x0, x1, x2, x3, x4⟩ : S30) [.slice B0 x0.length b0, .int .i64 x1, .slice B2 x2.length b22, .slice B3 x3.length b3, .slice B4 x4.length b4] (fun _ => True) (fun k => wo.heap.size ≤ k) rfl rfl HMI.out (fun k hk => ⟨trivial, fun e => by have := HOLT.out k e.symm; omega⟩) (fun _ _ => trivial) HNI.out HBI.out HBI.out.size ?aL ?_; (case aL => have := HCL.out; have := HJ.out.2; have := HMM.out.2; have := H10.out.2; omega); intro v1 w1 ho hb hg hat; rw [← HCSS'.out] at ho; obtain ⟨An, cn, rfl⟩ := Kd.S_slice ho; have HNN' := am ho; have HBN := am hb; clear ho hb hg hat))
   go_roundg k1
   case measure => have := HJ.out; have := HHJ.out; omega
   case rel => exact ⟨j + 1, A', c', by first | rfl | trivial, by rw [HLF.out], by first | rfl | simp [hwj], ⟨by have := HJ.out; have := HHJ.out; omega, by have := HHJ.out; omega⟩, ⟨by rw [← HLF.out]; exact HCH.out⟩, HBN, ⟨by rw [← HCNX.out]; exact HNN'.out⟩⟩
  ·have e1 : decide ((cells.length : Int) > 0) = false := decide_eq_false (by omega)
   have e2 : decide (0 < (cells.length : Int)) = false := decide_eq_false (by omega)
   have e3 : decide (0 < cells.length) = false := decide_eq_false (by omega)
   have hnil := eq_true (show cells = [] from List.eq_nil_of_length_eq_zero (by omega))
   clear hcl hj0
   go_wp2
   refine start_ (n := 20) (S := fun w' => True) (ds := []) (bb 20 0) (by kernel_rfl) rfl rfl trivial (fun hHeld => ?_)
   refine with_tabW cell_Decode.tab11 cell_Decode.bits11 (fun HT_ HW_ => ?_)
   have HB := am (below_drew (Below.refl wH.heap.size wH))
   generalize wH.drew = wI at HB hHeld ⊢
   refine zu 0 (some 67) (bb 20 1) HT_ ?_
   refine zu 1 (some 68) (bb 20 3) HT_ ?_
   refine zu 2 (some 69) (bb 20 7) HT_ ?_
   refine zu 3 (some 70) (bb 20 15) HT_ ?_
   refine zu 4 (some 71) (bb 20 31) HT_ ?_
   refine zu 5 (some 72) (bb 20 63) HT_ ?_
   refine zu 6 (some 73) (bb 20 127) HT_ ?_
   refine zn 7 (some 74) (bb 20 255) HT_ ?_
   refine zn 8 (some 75) (bb 20 511) HT_ ?_
   refine zn 9 (some 76) (bb 20 1023) HT_ ?_
   refine zn 10 (some 77) (bb 20 2047) HT_ ?_
   refine zn 11 (some 78) (bb 20 4095) HT_ ?_
   refine zn 12 (some 79) (bb 20 8191) HT_ ?_
   refine zn 13 (some 80) (bb 20 16383) HT_ ?_
   refine zn 14 (some 81) (bb 20 32767) HT_ ?_
   refine zn 15 (some 82) (bb 20 65535) HT_ ?_
   refine zn 16 (some 83) (bb 20 131071) HT_ ?_
   refine zn 17 (some 84) (bb 20 262143) HT_ ?_
   refine zu 18 (some 85) (bb 20 524287) HT_ ?_
   refine zu 19 (some 86) (bb 20 1048575) HT_ ?_
   refine done_ (done_of HT_.out (by kernel_rfl)) ?_
   clear hHeld HT_ HW_
   have hqi := blk_below HQ8.out HB.out
   have z0 : wI.cell? ⟨g8, 0, none⟩ = some (.slice B0 x0.length b0) := (blk_cell hqi 0).trans rfl
   have z1 : wI.cell? ⟨g8, 1, none⟩ = some (.int .i64 x1) := (blk_cell hqi 1).trans rfl
   have z2 : wI.cell? ⟨g8, 2, none⟩ = some (.slice B2 x2.length b22) := (blk_cell hqi 2).trans rfl
   have z3 : wI.cell? ⟨g8, 3, none⟩ = some (.slice B3 x3.length b3) := (blk_cell hqi 3).trans rfl
   have z4 : wI.cell? ⟨g8, 4, none⟩ = some (.slice B4 x4.length b4) := (blk_cell hqi 4).trans rfl
   have HBI := am (below_step HSH.out HB.out)
   have HNI := am (Kd.S_below HNS.out HB.out)
   have HMI := am (k30_mkM wI wE.heap.size (fun k => wo.heap.size ≤ k) (⟨x0, x1, x2, x3, x4⟩ : S30) (Kd.R_below R0.out HB.out) (Kd.R_below R2.out HB.out) (Kd.R_below R3.out HB.out) (Kd.R_below R4.out HB.out))
   clear hqi HB
   go_wp2_with (first
   | ((with_reducible refine gate_dst (N := 90) rfl ?_); refine Kd.S_append k30 (w0 := wE) wE.heap.size rfl (.tmp 87) (.tmp 89) 28 30 (.agg #[.slice none 0 0, .int .i64 0, .slice none 0 0, .slice none 0 0, .slice none 0 0]) 104 rfl Try.underlying28 info30 rfl (by decide) (by omega) (.slice Ac cells.length cc) cells (⟨x0, x1, x2, x3, x4⟩ : S30) [.slice B0 x0.length b0, .int .i64 x1, .slice B2 x2.length b22, .slice B3 x3.length b3, .slice B4 x4.length b4] (fun _ => True) (fun k => wo.heap.size ≤ k) rfl rfl HMI.out (fun k hk => ⟨trivial, fun e => by have := HOLT.out k e.symm; omega⟩) (fun _ _ => trivial) HNI.out HBI.out HBI.out.size ?aL ?_; (case aL => have := HCL.out; have := HJ.out.2; have := HMM.out.2; have := H10.out.2; omega); intro v1 w1 ho hb hg hat; rw [← HCSS'.out] at ho; obtain ⟨An, cn, rfl⟩ := Kd.S_slice ho; have HNN' := am ho; have HBN := am hb; clear ho hb hg hat))
   go_roundg k1
   case measure => have := HJ.out; have := HHJ.out; omega
   case rel => exact ⟨j + 1, A', c', by first | rfl | trivial, by rw [HLF.out], by first | rfl | simp [hwj], ⟨by have := HJ.out; have := HHJ.out; omega, by have := HHJ.out; omega⟩, ⟨by rw [← HLF.out]; exact HCH.out⟩, HBN, ⟨by rw [← HCNX.out]; exact HNN'.out⟩⟩
 ·have hd1 : decide ((j : Int) < n) = false := decide_eq_false (by omega)
  have hjm : j = m := by have := HJ.out.2; omega
  subst hjm
  clear hj hmm hlj
  go_wp2_with (fail)
  obtain ⟨f, hf⟩ := HN.out
  refine (CloneCells_calls (Kd.tag f k30) rfl (.slice Ac (decCells l0_0 a0_1 s b2 j).length cc) (decCells l0_0 a0_1 s b2 j).zipIdx wE.heap.size (fun _ => True) wE wr HS.out HS.out.size hf (fun _ _ => trivial) (by rw [List.length_zipIdx, HCL.out]; have := HMM.out.2; have := H10.out.2; omega)).mono ?_
  rintro e w7 ⟨v1, rfl, hR, hB, _⟩
  have HR7 := am (Kd.S_lower (⟨f, hR⟩ : Kd.S k30 30 w7 wE.heap.size (fun _ => True) v1 (decCells l0_0 a0_1 s b2 j)) HBE.out.size)
  have HB7 := am (below_step HBE.out hB)
  clear hf hR hB
  go_wp2
  first
  | go_ret2
  | refine bodyPost_ret (v := .tuple #[.int .i64 s, v1, .bool true]) (by simp [results, Try.results36, go_sem]) rfl ?_
  exact ⟨v1, by first | rfl | (simp; done), by rw [← HMM.out.1]; exact HR7.out, HB7.out⟩
end Go.Proofs.Ytmkjkkmilopcpaa.Q
namespace Go.Proofs.Ytmkjkkmilopcpaa.Q
open Go.RowKit Go.Proofs.YtmkjkkmilopcpaaW.PrintWords Go.Proofs.YtmkjkkmilopcpaaW.PrintLast Go.Proofs.YtmkjkkmilopcpaaW.PrintMore
set_option linter.unusedVariables false
set_option linter.unusedSimpArgs false
def hypercubelaw2_CellBack.T8 : Bool × List (List Nat × List Nat) := (true, [([], []), ([0], [0]), ([], []), ([], []), ([2, 3], [2, 3]), ([4], [4]), ([1, 5], [1, 5]), ([6, 4], [6]), ([7], [7]), ([7, 8], [7, 8]), ([9, 7], [9]), ([10], [10]), ([10], [10]), ([11, 12, 10], [10, 11, 12]), ([10, 13], [10, 13]), ([14, 10], [14]), ([15], [15]), ([15], [15]), ([16, 17, 15, 15], [15, 16, 17]), ([15, 18], [15, 18]), ([19, 18, 0, 1, 2, 3, 4, 5, 6, 7, 8, 9, 10, 11, 12, 13, 14, 15, 16, 17, 18, 19], [19])])
def hypercubelaw2_CellBack.B8 : List Nat := [0, 1, 0, 0, 12, 28, 63, 127, 255, 511, 1023, 2047, 2047, 8191, 16383, 32767, 65535, 65535, 262143, 524287, 1048575]
theorem hypercubelaw2_CellBack.tab8 : rtab .any (opsOf Try.f15 8) = hypercubelaw2_CellBack.T8 := by kernel_rfl
theorem hypercubelaw2_CellBack.bits8 : waitsOk hypercubelaw2_CellBack.T8.2 hypercubelaw2_CellBack.B8 = true := by kernel_rfl
def hypercubelaw2_CellBack.Pure : Prop := ∀ (a0 : Int) (l1 : List Int) (a2 : Int) (l3 : List Int) (a4 : Int), (Lit.int .i64 a0).wf = true → l1.length ≤ maxLen → l1.length * 8 ≤ 140737488351232 → (∀ x ∈ l1, (Lit.int .i64 x).wf = true) → (Lit.int .i64 a2).wf = true → l3.length ≤ maxLen → l3.length * 8 ≤ 140737488351232 → (∀ x ∈ l3, (Lit.int .i64 x).wf = true) → (Lit.int .i64 a4).wf = true →
 ∃ (k : Nat) (cards : (List Int)) (meas : Int) (rows : (List S45)) (s : Int) (cells : (List S30)) (b : (List Int)), (hypercubelaw1_Facts.f k a0 l1 a2 l3 = some (cards, meas, rows)) ∧ (hypercubelaw2_Set.f cards meas a4 = some s) ∧ (hypercuberef2_Facts.f k rows s = some cells) ∧ (cell_Encode.f k s cells = some b) ∧ (cell_Decode.f cards meas b = some (s, cells, true)) ∧ (hypercuberef2_Encode.f k s cells = some b) ∧ (hypercuberef2_Same.f k cells cells = some true)
set_option maxHeartbeats 8000000 in
set_option maxRecDepth 100000 in
theorem hypercubelaw2_CellBack.calls (k : Nat) (a0 : Int) (A1 : Option Addr) (c1 : Nat) (l1 : List Int) (a2 : Int) (A3 : Option Addr) (c3 : Nat) (l3 : List Int) (a4 : Int) (w : World) (hr1 : Kd.C (Kd.int .i64) w A1 l1.length l1) (hc1 : l1.length ≤ c1) (hr3 : Kd.C (Kd.int .i64) w A3 l3.length l3) (hc3 : l3.length ≤ c3)
  {cards : (List Int)} {meas : Int} {rows : (List S45)} {s : Int} {cells : (List S30)} {b : (List Int)} (h1 : hypercubelaw1_Facts.f k a0 l1 a2 l3 = some (cards, meas, rows)) (h2 : hypercubelaw2_Set.f cards meas a4 = some s) (h3 : hypercuberef2_Facts.f k rows s = some cells) (h4 : cell_Encode.f k s cells = some b) (h5 : cell_Decode.f cards meas b = some (s, cells, true)) (h6 : hypercuberef2_Encode.f k s cells = some b) (h7 : hypercuberef2_Same.f k cells cells = some true) :
  Calls Try.prog 15 #[.int .i64 a0, .slice A1 l1.length c1, .int .i64 a2, .slice A3 l3.length c3, .int .i64 a4] w fun e w' => e = .returned (.bool true) ∧ Below w.heap.size w w' := by
 have hu25 := Try.underlying35
 have H1 := am h1
 have H2 := am h2
 have H3 := am h3
 have H4 := am h4
 have H5 := am h5
 have H6 := am h6
 have H7 := am h7
 have HR1 := am hr1
 have HC1 := am hc1
 have HR3 := am hr3
 have HC3 := am hc3
 clear h1 h2 h3 h4 h5 h6 h7 hr1 hc1 hr3 hc3
 go_enter Try.func15, Try.ntmps15
 go_wp2_with (fail)
 refine (hypercubelaw2_known.calls true w rfl).mono ?_
 rintro e w1 ⟨rfl, hb1⟩
 have HB1 := am hb1
 clear hb1
 go_wp2_with (fail)
 refine (hypercubelaw1_Facts.calls k a0 A1 c1 l1 a2 A3 c3 l3 cards meas rows w1 (Kd.C_below HR1.out HB1.out) HC1.out (Kd.C_below HR3.out HB1.out) HC3.out H1.out).mono ?_
 rintro e w2 ⟨v1, v2, rfl, ho0, ho1, hb2⟩
 obtain ⟨A14, c14, rfl⟩ := Kd.R_slice ho0
 obtain ⟨A15, c15, rfl⟩ := Kd.S_slice ho1
 have HX := am (Kd.R_reads' ho0).2
 have HY := am (Kd.S_reads' ho1).2
 have HB2 := am (below_step HB1.out hb2)
 clear ho0 ho1 hb2
 go_wp2_with (first | ((with_reducible refine gate_dst (N := 11) rfl ?_); (try (refine gate_guard (by rfl) ?_; dsimp only)); refine zX #[.slice none 0 0, .int .i64 0] 35 ?_; intro gb hg w3 hbox hb; have hcz0 : w3.cell? ⟨gb, 0, none⟩ = some (.slice none 0 0) := (blk_cell hbox 0).trans rfl; have hcz1 : w3.cell? ⟨gb, 1, none⟩ = some (.int .i64 0) := (blk_cell hbox 1).trans rfl; have hfz0 := blk_frozen hbox 0; have hfz1 := blk_frozen hbox 1; have HBX := am hbox; have HG := am hg; have HB3 := am hb; clear hbox hg hb))
 refine name_calls ?_
 intro w4 hw4
 have hgg := Nat.le_of_eq HG.out.symm
 have hb4 : Below w2.heap.size w2 w4 := by rw [hw4]; exact below_set (below_set HB3.out hgg) hgg
 have HK4 := am (show w4.heap[gb]? = some (.cells #[.slice A14 cards.length c14, .int .i64 meas] 35 (0, 0)) by rw [hw4]; exact blk_put (blk_put HBX.out 0 _ rfl) 1 _ rfl)
 have HB4 := am (below_step HB2.out hb4)
 have HX4 := am (Kd.C_below HX.out.2 hb4)
 have HY4 := am (Kd.C_below HY.out.2 hb4)
 clear hw4 hb4 hcz0 hcz1 hfz0 hfz1 hgg
 refine (hypercubelaw2_Set.calls A14 c14 cards meas a4 s w4 HX4.out HX.out.1 H2.out).mono ?_
 rintro e w5 ⟨rfl, hb5⟩
 have HY5 := am (Kd.C_below HY4.out hb5)
 have HX5 := am (Kd.C_below HX4.out hb5)
 have HK5 := am (blk_below HK4.out hb5)
 have HB5 := am (below_step HB4.out hb5)
 clear hb5 HX4 HB4 HB3 HBX HG HY4 HK4 HB2
 go_wp2_with (fail)
 refine (hypercuberef2_Facts.calls k A15 c15 rows s cells w5 HY5.out HY.out.1 H3.out).mono ?_
 rintro e w6 ⟨v6, rfl, ho, hb6⟩
 obtain ⟨Ag, cg, rfl⟩ := Kd.N_slice ho
 have HGC := am (Kd.N_reads' ho).2
 have HX6 := am (Kd.C_below HX5.out hb6)
 have HK6 := am (blk_below HK5.out hb6)
 have HB6 := am (below_step HB5.out hb6)
 clear ho hb6 HY5 HX5 HK5 HB5
 go_wp2_with (fail)
 refine (cell_Encode.calls k s Ag cg cells b w6 HGC.out.2 HGC.out.1 H4.out).mono ?_
 rintro e w7 ⟨v7, rfl, ho, hb7⟩
 obtain ⟨Ab, cb, rfl⟩ := Kd.R_slice ho
 have HBC := am (Kd.R_reads' ho).2
 have HG7 := am (Kd.C_below HGC.out.2 hb7)
 have HX7 := am (Kd.C_below HX6.out hb7)
 have HK7 := am (blk_below HK6.out hb7)
 have HB7 := am (below_step HB6.out hb7)
 clear ho hb7 HX6 HK6 HB6
 have q0 := bc HK7 0
 have q1 := bc HK7 1
 go_wp2_with (fail)
 refine (cell_Decode.calls A14 c14 cards meas Ab cb b s cells true w7 HX7.out HX.out.1 HBC.out.2 HBC.out.1 H5.out).mono ?_
 rintro e w8 ⟨v8, rfl, ho, hb8⟩
 obtain ⟨Ah, ch, rfl⟩ := Kd.S_slice ho
 have HHC := am (Kd.S_reads' ho).2
 have HG8 := am (Kd.C_below HG7.out hb8)
 have HBC8 := am (Kd.C_below HBC.out.2 hb8)
 have HB8 := am (below_step HB7.out hb8)
 clear ho hb8 HG7 HX7 HK7 HB7 q0 q1
 have HCV : Aside0 (∀ W : World, Below w8.heap.size w8 W → (convert 51 9 (.slice Ab b.length cb)).run Try.prog W = .ok (.string (strOfNums b)) W) := ⟨fun W hB => Kd.C_string Try.underlying51 Try.underlying5 Try.underlying9 (Kd.C_below HBC8.out hB)⟩
 go_wp2
 refine start_ (n := 21) (S := fun w' => (convert 51 9 (.slice Ab b.length cb)).run Try.prog w' = .ok (.string (strOfNums b)) w' ∧ True) (ds := []) (bb 21 0) (by kernel_rfl) rfl rfl ⟨HCV.out _ (below_drew (Below.refl _ _)), trivial⟩ (fun hHeld => ?_)
 refine with_tabW hypercubelaw2_CellBack.tab8 hypercubelaw2_CellBack.bits8 (fun HT_ HW_ => ?_)
 have HB := am (below_drew (Below.refl w8.heap.size w8))
 generalize w8.drew = wd at HB hHeld ⊢
 refine zu 0 (some 45) (bb 21 1) HT_ ?_
 refine zu 2 (some 47) (bb 21 5) HT_ ?_
 refine zu 3 (some 48) (bb 21 13) HT_ ?_
 refine zk 1 (some 46) (bb 21 15) HT_ HW_ hHeld ?_
 refine zo 4 (some 49) (bb 21 31) HT_ (fun K hK => ?_)
 refine goes_ Try.func35 (by kernel_rfl) rfl #[.int .i64 s, .slice Ag cells.length cg] (by rfl) rfl rfl (by (try simp only [List.map_toArray, List.map_cons, List.map_nil]); first | done | rfl) ?_
 with_reducible refine (hypercuberef2_Encode.calls k s Ag cg cells b _ (Kd.C_below HG8.out HB.out) HGC.out.1 H6.out).mono ?_

 rintro e wd2 ⟨ve, rfl, ho0, hb⟩
 obtain ⟨Ae, ce, rfl⟩ := Kd.R_slice ho0
 have HE := am (Kd.R_reads' ho0).2.2
 replace HB := am (below_step HB.out hb)
 clear hb ho0
 refine ⟨_, rfl, ?_⟩
 refine hK.out _ _ ⟨HCV.out _ HB.out, trivial⟩ (fun hHeld => ?_)
 clear hK K
 refine nm ?_
 refine zo 5 (some 50) (bb 21 63) HT_ (fun K hK => ?_)
 have hcv : (convert 51 9 (.slice Ae b.length ce)).run Try.prog wd2 = .ok (.string (strOfNums b)) wd2 := Kd.C_string Try.underlying51 Try.underlying5 Try.underlying9 HE.out
 refine value_ (v := .string (strOfNums b)) (w1 := wd2) rfl rfl (by go_simp; first | done | rfl) ?_
 clear hcv
 refine hK.out _ _ ⟨HCV.out _ HB.out, trivial⟩ (fun hHeld => ?_)
 clear hK K
 refine nm ?_
 refine zu 6 (some 51) (bb 21 127) HT_ ?_
 refine zu 7 (some 52) (bb 21 255) HT_ ?_
 refine zu 8 (some 53) (bb 21 511) HT_ ?_
 refine zu 9 (some 54) (bb 21 1023) HT_ ?_
 refine zu 10 (some 55) (bb 21 2047) HT_ ?_
 refine zu 11 (some 56) (bb 21 4095) HT_ ?_
 refine zu 12 (some 57) (bb 21 8191) HT_ ?_
 refine zu 13 (some 58) (bb 21 16383) HT_ ?_
 refine zu 14 (some 59) (bb 21 32767) HT_ ?_
 refine zu 15 (some 60) (bb 21 65535) HT_ ?_
 refine zu 16 (some 61) (bb 21 131071) HT_ ?_
 refine zu 17 (some 62) (bb 21 262143) HT_ ?_
 refine zo 18 (some 63) (bb 21 524287) HT_ (fun K hK => ?_)
 refine goes_ Try.func27 (by kernel_rfl) rfl #[.slice Ah cells.length ch, .slice Ag cells.length cg] (by rfl) rfl rfl (by (try simp only [List.map_toArray, List.map_cons, List.map_nil]); first | done | rfl) ?_
 with_reducible refine (hypercuberef2_Same.calls k Ah ch cells Ag cg cells true _ (Kd.C_below HHC.out.2 HB.out) HHC.out.1 (Kd.C_below HG8.out HB.out) HGC.out.1 H7.out).mono ?_

 rintro e wd3 ⟨rfl, hb⟩
 replace HB := am (below_step HB.out hb)
 clear hb
 refine ⟨_, rfl, ?_⟩
 refine hK.out _ _ ⟨HCV.out _ HB.out, trivial⟩ (fun hHeld => ?_)
 clear hK K
 refine nm ?_
 refine zu 19 (some 64) (bb 21 1048575) HT_ ?_
 refine zu 20 (some 10) (bb 21 2097151) HT_ ?_
 refine done_ (done_of HT_.out (by kernel_rfl)) ?_
 go_wp2
 go_ret
 exact ⟨by first | rfl | (simp; done), below_step HB8.out HB.out⟩
theorem hypercubelaw2_CellBack.walk (P : hypercubelaw2_CellBack.Pure) (a0 : Int) (a1 : Option Addr) (len1 cap1 : Nat) (z1 : List Int) (a2 : Int) (a3 : Option Addr) (len3 cap3 : Nat) (z3 : List Int) (a4 : Int) (w : World) (w0 : (Lit.int .i64 a0).wf = true) (w1 : (a1 = none ∧ len1 = 0 ∧ cap1 = 0 ∧ z1 = []) ∨ ∃ x, a1 = some x ∧ len1 ≤ cap1 ∧ cap1 ≤ maxLen ∧ z1.length = cap1 ∧ (∀ i, i < z1.length → w.cell? (x.add i) = some (.int .i64 (z1.getD i 0))) ∧ ∀ n ∈ z1, (Lit.int .i64 n).wf = true) (y1 : len1 * 8 ≤ 140737488351232) (w2 : (Lit.int .i64 a2).wf = true) (w3 : (a3 = none ∧ len3 = 0 ∧ cap3 = 0 ∧ z3 = []) ∨ ∃ x, a3 = some x ∧ len3 ≤ cap3 ∧ cap3 ≤ maxLen ∧ z3.length = cap3 ∧ (∀ i, i < z3.length → w.cell? (x.add i) = some (.int .i64 (z3.getD i 0))) ∧ ∀ n ∈ z3, (Lit.int .i64 n).wf = true) (y3 : len3 * 8 ≤ 140737488351232) (w4 : (Lit.int .i64 a4).wf = true) :
  Calls Try.prog 15 #[.int .i64 a0, .slice a1 len1 cap1, .int .i64 a2, .slice a3 len3 cap3, .int .i64 a4] w fun e w' => e = .returned (.bool true) ∧ Below w.heap.size w w' := by
 obtain ⟨l1, rfl, hr1, hm1, hw1, hc1⟩ := ReadsInt.ofRowC w1
 obtain ⟨l3, rfl, hr3, hm3, hw3, hc3⟩ := ReadsInt.ofRowC w3
 obtain ⟨k, cards, meas, rows, s, cells, b, h1, h2, h3, h4, h5, h6, h7⟩ := P a0 l1 a2 l3 a4 w0 hm1 y1 hw1 w2 hm3 y3 hw3 w4
 exact hypercubelaw2_CellBack.calls k a0 _ _ l1 a2 _ _ l3 a4 w (Kd.C_of_reads (d := (0 : Int)) (h1 := fun _ => rfl) hr1) hc1 (Kd.C_of_reads (d := (0 : Int)) (h1 := fun _ => rfl) hr3) hc3 h1 h2 h3 h4 h5 h6 h7
theorem or_byte (q c : Int) (h0 : 0 ≤ c) (h1 : c < 256) (h2 : -9223372036854775808 ≤ q * 256) (h3 : q * 256 ≤ 9223372036854775552) : Go.bits .or .i64 (q * 256) c = q * 256 + c := by
 unfold Go.bits
 simp only []
 have hb : IntKind.i64.bits = 64 := rfl
 have key : ((BitVec.ofInt 64 (q * 256)) ||| (BitVec.ofInt 64 c)).toNat = ((q * 256) % 18446744073709551616 + c).toNat := by
  rw [BitVec.toNat_or, BitVec.toNat_ofInt, BitVec.toNat_ofInt]
  have e1 : (c % ((2 ^ 64 : Nat) : Int)).toNat = c.toNat := by
   have : c % ((2 ^ 64 : Nat) : Int) = c := Int.emod_eq_of_lt h0 (by have : ((2 ^ 64 : Nat) : Int) = 18446744073709551616 := rfl; omega)
   rw [this]
  have e2 : ((q * 256) % ((2 ^ 64 : Nat) : Int)).toNat = 2 ^ 8 * (((q * 256) % 18446744073709551616) / 256).toNat := by
   have : ((2 ^ 64 : Nat) : Int) = 18446744073709551616 := rfl
   rw [this]; omega
  rw [e1, e2, ← Nat.two_pow_add_eq_or_of_lt (by omega : c.toNat < 2 ^ 8)]
  omega
 show IntKind.i64.wrap ((((BitVec.ofInt 64 (q * 256)) ||| (BitVec.ofInt 64 c)).toNat : Int)) = _
 rw [key]
 have hw : ∀ n : Int, IntKind.i64.wrap n = wrap64 n := fun n => by
  unfold IntKind.wrap wrap64
  have hs : IntKind.i64.signed = true := rfl
  simp only [hb, hs, Bool.true_and]
  split
  ·rename_i h; have := of_decide_eq_true h; omega
  ·rename_i h; have := of_decide_eq_false (Bool.eq_false_iff.2 h); omega
 rw [hw]
 unfold wrap64
 omega
theorem gv_step (y c : Int) (h0 : 0 ≤ c) (h1 : c < 256) : Go.bits .or .i64 (wrap64 (y * 256)) (wrap64 c) = wrap64 (y * 256 + c) := by
 have e : wrap64 (y * 256) = ((y + 36028797018963968) % 72057594037927936 - 36028797018963968) * 256 := by unfold wrap64; omega
 rw [e, w64 (x := c) (by omega) (by omega), or_byte _ _ h0 h1 (by omega) (by omega)]
 unfold wrap64
 omega
theorem gv_eight (x : Int) (h0 : -9223372036854775808 ≤ x) (h1 : x ≤ 9223372036854775807) : gv (eight x) 0 = x := by
 have hb : ∀ y : Int, 0 ≤ y % 256 ∧ y % 256 < 256 := fun y => ⟨by omega, by omega⟩
 simp only [gv, eight]
 rw [gv_step _ _ (hb _).1 (hb _).2, gv_step _ _ (hb _).1 (hb _).2, gv_step _ _ (hb _).1 (hb _).2, gv_step _ _ (hb _).1 (hb _).2, gv_step _ _ (hb _).1 (hb _).2, gv_step _ _ (hb _).1 (hb _).2, gv_step _ _ (hb _).1 (hb _).2, gv_step _ _ (hb _).1 (hb _).2]
 unfold wrap64
 omega
theorem gv_two (x : Int) (h0 : 0 ≤ x) (h1 : x < 65536) : gv (twoB x) 0 = x := by
 have hb : ∀ y : Int, 0 ≤ y % 256 ∧ y % 256 < 256 := fun y => ⟨by omega, by omega⟩
 simp only [gv, twoB]
 rw [gv_step _ _ (hb _).1 (hb _).2, gv_step _ _ (hb _).1 (hb _).2]
 unfold wrap64
 omega
theorem gv_one (x : Int) (h0 : 0 ≤ x) (h1 : x < 256) : gv [x % 256] 0 = x := by
 simp only [gv]
 rw [gv_step _ _ (by omega) (by omega)]
 unfold wrap64
 omega
theorem byN_at (a x t : List Int) (p w : Nat) (hp : a.length = p) (hw : x.length = w) : byN (a ++ (x ++ t)) p w = gv x 0 := by
 unfold byN
 rw [List.drop_left' hp, List.take_left' hw]
structure CellOk (cards : List Int) (meas s : Int) (c : S30) : Prop where
 key : c.f0.length = (dimsM s).length
 keys : ∀ (j : Nat) (h : j < (dimsM s).length), 0 ≤ rd c.f0 (j : Int) ∧ rd c.f0 (j : Int) < 256 ∧ rd c.f0 (j : Int) < rd cards (((dimsM s)[j]).1 : Int)
 cnt : 1 ≤ c.f1 ∧ c.f1 ≤ 300
 l2 : c.f2.length = meas.toNat
 l3 : c.f3.length = meas.toNat
 l4 : c.f4.length = meas.toNat
 wf : ∀ j : Nat, j < meas.toNat → ∀ v ∈ [rd c.f2 (j : Int), rd c.f3 (j : Int), rd c.f4 (j : Int)], -9223372036854775808 ≤ v ∧ v ≤ 9223372036854775807
 mm : ∀ j : Nat, j < meas.toNat → rd c.f3 (j : Int) ≤ rd c.f4 (j : Int)
theorem encMs_split (c : S30) : ∀ i d j, encMs c (i + d) j = encMs c i j ++ encMs c d (j + i)
 | 0, d, j => by simp [encMs]
 | i + 1, d, j => by
  rw [show i + 1 + d = (i + d) + 1 by omega]
  simp only [encMs]
  rw [encMs_split c i d (j + 1), List.append_assoc, show j + 1 + i = j + (i + 1) by omega]
theorem ext_rd {a b : List Int} (hl : a.length = b.length) (h : ∀ j : Nat, j < a.length → rd a (j : Int) = rd b (j : Int)) : a = b := by
 refine List.ext_getElem hl (fun i h1 h2 => ?_)
 have := h i h1
 rwa [rd_get h1, rd_get h2] at this
theorem rd_map (f : Nat → Int) (n j : Nat) (h : j < n) : rd ((List.range n).map f) (j : Int) = f j := by
 rw [rd_get (by simpa using h)]; simp
theorem oneR_enc {cards : List Int} {meas s : Int} {c : S30} (h : CellOk cards meas s c) (t : List Int) : oneR cards meas s (encC c ++ t) = ((c.f0, c.f1, c.f2, c.f3, c.f4), t, true) := by
 obtain ⟨N, hN⟩ : ∃ N, N = (dimsM s).length := ⟨_, rfl⟩
 obtain ⟨m, hm⟩ : ∃ m, m = meas.toNat := ⟨_, rfl⟩
 have hk := h.key
 have e0 : encC c ++ t = c.f0.map (· % 256) ++ (twoB c.f1 ++ (encMs c m 0 ++ t)) := by unfold encC; rw [h.l2, ← hm]; simp
 have hkey : ∀ j, j < N → byN (encC c ++ t) j 1 = rd c.f0 (j : Int) := by
  intro j hj
  have hjl : j < c.f0.length := by omega
  have hb := h.keys j (by omega)
  rw [rd_get hjl] at hb ⊢
  rw [e0, ← List.take_append_drop j (c.f0.map (· % 256)), List.append_assoc, List.drop_eq_getElem_cons (by simpa using hjl), List.cons_append, ← List.singleton_append]
  rw [byN_at _ _ _ j 1 (by simp; omega) rfl, List.getElem_map, gv_one _ hb.1 hb.2.1]
 have hcnt : byN (encC c ++ t) N 2 = c.f1 := by
  rw [e0, byN_at _ _ _ N 2 (by simp; omega) rfl, gv_two _ (by have := h.cnt; omega) (by have := h.cnt; omega)]
 have hms : ∀ i, i < m → encC c ++ t = (c.f0.map (· % 256) ++ (twoB c.f1 ++ encMs c i 0)) ++ (eight (rd c.f2 (i : Int)) ++ (eight (rd c.f3 (i : Int)) ++ (eight (rd c.f4 (i : Int)) ++ (encMs c (m - i - 1) (i + 1) ++ t)))) := by
  intro i hi
  rw [e0]
  have : encMs c m 0 = encMs c i 0 ++ (enc3 c i ++ encMs c (m - i - 1) (i + 1)) := by
   have := encMs_split c i (m - i - 1 + 1) 0
   rw [show i + (m - i - 1 + 1) = m by omega] at this
   rw [this]
   simp only [encMs, Nat.zero_add]
  rw [this]
  simp [enc3]
 have hl0 : ∀ i, (c.f0.map (· % 256) ++ (twoB c.f1 ++ encMs c i 0)).length = N + 2 + 24 * i := by
  intro i
  rw [List.length_append, List.length_append, List.length_map, encMs_length, show (twoB c.f1).length = 2 from rfl]; omega
 have hs : ∀ i, i < m → byN (encC c ++ t) (N + 2 + 24 * i) 8 = rd c.f2 (i : Int) := by
  intro i hi
  have hw := h.wf i (by omega) _ (List.mem_cons_self ..)
  rw [hms i hi, byN_at _ _ _ _ 8 (hl0 i) rfl, gv_eight _ hw.1 hw.2]
 have hmn : ∀ i, i < m → byN (encC c ++ t) (N + 2 + 8 + 24 * i) 8 = rd c.f3 (i : Int) := by
  intro i hi
  have hw := h.wf i (by omega) (rd c.f3 (i : Int)) (by simp)
  rw [hms i hi, ← List.append_assoc, byN_at _ _ _ _ 8 (by rw [List.length_append, hl0 i, eight_length]; omega) rfl, gv_eight _ hw.1 hw.2]
 have hmx : ∀ i, i < m → byN (encC c ++ t) (N + 2 + 16 + 24 * i) 8 = rd c.f4 (i : Int) := by
  intro i hi
  have hw := h.wf i (by omega) (rd c.f4 (i : Int)) (by simp)
  rw [hms i hi, ← List.append_assoc, ← List.append_assoc, byN_at _ _ _ _ 8 (by rw [List.length_append, List.length_append, hl0 i, eight_length, eight_length]; omega) rfl, gv_eight _ hw.1 hw.2]
 have hleft : (encC c ++ t).drop (N + 2 + 24 * m) = t := List.drop_left' (by rw [encC_length, h.l2]; omega)
 unfold oneR
 rw [← hN, ← hm, if_pos]
 ·have k1 : keysOf (encC c ++ t) N = c.f0 := by
   refine ext_rd (by rw [keysOf_length]; omega) (fun j hj => ?_)
   rw [keysOf_length] at hj
   unfold keysOf
   rw [rd_map _ _ _ hj, hkey j hj]
  have k2 : eightsOf (encC c ++ t) (N + 2) m = c.f2 := by
   refine ext_rd (by rw [eightsOf_length, h.l2, hm]) (fun j hj => ?_)
   rw [eightsOf_length] at hj
   unfold eightsOf
   rw [rd_map _ _ _ hj, hs j hj]
  have k3 : eightsOf (encC c ++ t) (N + 2 + 8) m = c.f3 := by
   refine ext_rd (by rw [eightsOf_length, h.l3, hm]) (fun j hj => ?_)
   rw [eightsOf_length] at hj
   unfold eightsOf
   rw [rd_map _ _ _ hj, hmn j hj]
  have k4 : eightsOf (encC c ++ t) (N + 2 + 16) m = c.f4 := by
   refine ext_rd (by rw [eightsOf_length, h.l4, hm]) (fun j hj => ?_)
   rw [eightsOf_length] at hj
   unfold eightsOf
   rw [rd_map _ _ _ hj, hmx j hj]
  rw [k1, k2, k3, k4, hcnt, hleft]
  have := h.cnt
  rw [show (decide (c.f1 ≥ 1) && decide (c.f1 ≤ 300)) = true by rw [decide_eq_true this.1, decide_eq_true this.2]; rfl]
 ·constructor
  ·intro j hj
   rw [hkey j (by omega)]
   exact (h.keys j hj).2.2
  ·intro i hi
   rw [show N + 2 + 24 * i + 8 = N + 2 + 8 + 24 * i by omega, show N + 2 + 24 * i + 16 = N + 2 + 16 + 24 * i by omega, hmn i hi, hmx i hi]
   exact h.mm i (by omega)
theorem flat_drop (l : List S30) (W : Nat) (h : ∀ c ∈ l, (encC c).length = W) : ∀ i, i ≤ l.length → (l.flatMap encC).drop (i * W) = (l.drop i).flatMap encC := by
 induction l with
 | nil => intro i hi; simp
 | cons c t ih =>
  intro i hi
  cases i with
  | zero => simp
  | succ i =>
   rw [List.flatMap_cons, Nat.succ_mul, Nat.add_comm, ← List.drop_drop, List.drop_left' (h c (List.mem_cons_self ..)), List.drop_succ_cons]
   exact ih (fun x hx => h x (List.mem_cons_of_mem _ hx)) i (by simpa using hi)
theorem flat_len (l : List S30) (W : Nat) (h : ∀ c ∈ l, (encC c).length = W) : (l.flatMap encC).length = l.length * W := by
 induction l with
 | nil => simp
 | cons c t ih => rw [List.flatMap_cons, List.length_append, h c (List.mem_cons_self ..), ih (fun x hx => h x (List.mem_cons_of_mem _ hx)), List.length_cons, Nat.succ_mul]; omega
theorem decode_enc {cards : List Int} {meas s : Int} {cells : List S30} (hc : rec_Check.f cards meas = some true) (hm : 0 ≤ meas ∧ meas ≤ 1000 ∧ cards.length ≤ 100) (hs : 0 ≤ s ∧ s < 16 ∧ s / 2 ^ min cards.length 64 = 0) (hoc : bits_OnesCount.f s = some ((dimsM s).length : Int))
  (hd : ∀ x ∈ dimsM s, x.1 < cards.length) (hn : cells.length ≤ 300) (hok : ∀ c ∈ cells, CellOk cards meas s c) (hso : SortedC cells) : cell_Decode.f cards meas (encP s cells) = some (s, cells, true) := by
 have hw : ∀ c ∈ cells, (encC c).length = decW meas s := fun c hx => by
  have h := hok c hx
  rw [encC_length, h.key, h.l2]; rfl
 have eS : decS (encP s cells) = s := by
  show gv [s % 256] 0 = s
  exact gv_one s hs.1 (by omega)
 have eN : decN (encP s cells) = (cells.length : Int) := by
  show gv (twoB (cells.length : Int)) 0 = _
  exact gv_two _ (by omega) (by omega)
 have eB : decB (encP s cells) = cells.flatMap encC := rfl
 have hrow : ∀ (i : Nat) (h : i < cells.length), decRow cards meas s (cells.flatMap encC) i = ((cells[i].f0, cells[i].f1, cells[i].f2, cells[i].f3, cells[i].f4), (cells.drop (i + 1)).flatMap encC, true) := by
  intro i h
  unfold decRow
  rw [flat_drop cells _ hw i (by omega), drop_cons h, List.flatMap_cons]
  exact oneR_enc (hok _ (List.getElem_mem h)) _
 have hle4 := dimsM_len s
 have hlen : (encP s cells).length = 3 + cells.length * decW meas s := by
  unfold encP
  rw [List.length_append, List.length_append, flat_len cells _ hw, show (twoB (cells.length : Int)).length = 2 from rfl]
  show 1 + (2 + _) = _
  omega
 have hW : decW meas s ≤ 24006 := by unfold decW; omega
 have hbig : cells.length * decW meas s ≤ 300 * 24006 := Nat.mul_le_mul hn hW
 have hcs : decCells cards meas s (cells.flatMap encC) cells.length = cells := by
  unfold decCells
  refine List.ext_getElem (by simp) (fun i h1 h2 => ?_)
  rw [List.getElem_map, List.getElem_range, hrow i h2]
  rfl
 unfold cell_Decode.f
 rw [eS, eN, eB, if_pos, Int.toNat_natCast, hcs]
 refine ⟨⟨by omega, by omega⟩, hc, hm, hs, ⟨by omega, by omega⟩, hoc, hd, by rw [flat_len cells _ hw, Int.toNat_natCast], fun i hi => ?_, fun i hi h0 => ?_⟩
 ·rw [Int.toNat_natCast] at hi
  rw [hrow i hi]
 ·rw [Int.toNat_natCast] at hi
  rw [hrow i hi, hrow (i - 1) (by omega)]
  exact decide_eq_true (List.pairwise_iff_getElem.1 hso (i - 1) i (by omega) hi (by omega))
theorem set_lt {cards : List Int} {meas a s : Int} (hc : checkP cards meas = true) (h : hypercubelaw2_Set.f cards meas a = some s) : 0 ≤ s ∧ s < 2 ^ cards.length := by
 obtain ⟨h1, h2, _⟩ := check_open hc
 have go : ∀ n : Int, 0 < n → n ≤ 16 → ((hypercubelaw2_within.f a n).bind fun t => some t) = some s → 0 ≤ s ∧ s < n := fun n h0 h16 h => by
  rw [within2_eq a n h0 (by omega)] at h
  have := Int.emod_nonneg a (show n ≠ 0 by omega)
  have := Int.emod_lt_of_pos a h0
  have e : a % n = s := Option.some.inj h
  omega
 unfold hypercubelaw2_Set.f at h
 have hl : cards.length = 1 ∨ cards.length = 2 ∨ cards.length = 3 ∨ cards.length = 4 := by omega
 rcases hl with e | e | e | e
 ·rw [e, if_pos (by decide), show shl .i64 1 (IntKind.u64.wrap ((1 : Nat) : Int)) = 2 by decide] at h; rw [e]; exact go 2 (by omega) (by omega) h
 ·rw [e, if_pos (by decide), show shl .i64 1 (IntKind.u64.wrap ((2 : Nat) : Int)) = 4 by decide] at h; rw [e]; exact go 4 (by omega) (by omega) h
 ·rw [e, if_pos (by decide), show shl .i64 1 (IntKind.u64.wrap ((3 : Nat) : Int)) = 8 by decide] at h; rw [e]; exact go 8 (by omega) (by omega) h
 ·rw [e, if_pos (by decide), show shl .i64 1 (IntKind.u64.wrap ((4 : Nat) : Int)) = 16 by decide] at h; rw [e]; exact go 16 (by omega) (by omega) h
theorem keysR_eq (s : Int) : ∀ (l : List Int) (i : Nat), keysR s i l = ((List.range l.length).filter fun j => bitR s (i + j)).map fun (j : Nat) => rd l (j : Int)
 | [], _ => rfl
 | x :: xs, i => by
  have ih := keysR_eq s xs (i + 1)
  have e : ((List.range xs.length).map Nat.succ).filter (fun j => bitR s (i + j)) = ((List.range xs.length).filter fun j => bitR s (i + 1 + j)).map Nat.succ := by
   rw [List.filter_map]
   congr 1
   refine List.filter_congr (fun j _ => ?_)
   simp only [Function.comp]
   rw [show i + j.succ = i + 1 + j by omega]
  have em : ∀ L : List Nat, (L.map Nat.succ).map (fun (j : Nat) => rd (x :: xs) (j : Int)) = L.map fun (j : Nat) => rd xs (j : Int) := by
   intro L
   rw [List.map_map]
   refine List.map_congr_left (fun j _ => ?_)
   simp only [Function.comp, rd]
   rw [Int.toNat_natCast, Int.toNat_natCast, List.getD_cons_succ]
  rw [List.length_cons, List.range_succ_eq_map, List.filter_cons]
  unfold keysR
  by_cases hb : bitR s i = true
  ·rw [if_pos hb, if_pos (by rw [Nat.add_zero]; exact hb), List.map_cons, e, em, ih]
   rfl
  ·rw [if_neg hb, if_neg (by rw [Nat.add_zero]; exact hb), e, em, ih]
theorem bits_same : ∀ k, k < 16 → ∀ j, j < 4 → bitR (k : Nat) j = bitOn (k : Nat) j := by decide
theorem dims_same : ∀ k, k < 16 → ∀ n, n < 5 → k < 2 ^ n → dimsTo (k : Nat) 4 = dimsTo (k : Nat) n := by decide
theorem ones_same : ∀ k, k < 16 → bits_OnesCount.f ((k : Nat) : Int) = some (((dimsM (k : Nat)).length : Nat) : Int) := by decide +kernel
theorem shift_same : ∀ k, k < 16 → ∀ n, n < 5 → k < 2 ^ n → ((k : Nat) : Int) / 2 ^ min n 64 = 0 := by decide
theorem keysR_dims {s : Int} {l : List Int} (h0 : 0 ≤ s) (h1 : s < 2 ^ l.length) (hl : l.length ≤ 4) : keysR s 0 l = (dimsM s).map fun x => rd l (x.1 : Int) := by
 obtain ⟨k, rfl⟩ : ∃ k : Nat, s = (k : Int) := ⟨s.toNat, by omega⟩
 have hk : k < 2 ^ l.length := by exact_mod_cast h1
 have hk16 : k < 16 := Nat.lt_of_lt_of_le hk (Nat.pow_le_pow_right (by decide) hl)
 rw [keysR_eq]
 have e1 : ((List.range l.length).filter fun j => bitR (k : Int) (0 + j)) = dimsTo (k : Int) l.length := by
  unfold dimsTo
  refine List.filter_congr (fun j hj => ?_)
  rw [Nat.zero_add, bits_same k hk16 j (by have := List.mem_range.1 hj; omega)]
 rw [e1, ← dims_same k hk16 l.length (by omega) hk, ← dimsMTo_val (k : Int) 4 (Nat.le_refl _), List.map_map]
 rfl
theorem dims_lt {s : Int} {n : Nat} (h0 : 0 ≤ s) (h1 : s < 2 ^ n) (hl : n ≤ 4) : ∀ x ∈ dimsM s, x.1 < n := by
 obtain ⟨k, rfl⟩ : ∃ k : Nat, s = (k : Int) := ⟨s.toNat, by omega⟩
 have hk : k < 2 ^ n := by exact_mod_cast h1
 have hk16 : k < 16 := Nat.lt_of_lt_of_le hk (Nat.pow_le_pow_right (by decide) hl)
 intro x hx
 have h2 : x.1 ∈ dimsTo (k : Int) 4 := by rw [← dimsMTo_val (k : Int) 4 (Nat.le_refl _)]; exact List.mem_map_of_mem hx
 rw [dims_same k hk16 n (by omega) hk] at h2
 unfold dimsTo at h2
 exact List.mem_range.1 (List.mem_filter.1 h2).1
theorem rd_zip (f : Int → Int → Int) {a b : List Int} {j : Nat} (ha : j < a.length) (hb : j < b.length) : rd (List.zipWith f a b) (j : Int) = f (rd a (j : Int)) (rd b (j : Int)) := by
 rw [rd_get (by rw [List.length_zipWith]; omega), rd_get ha, rd_get hb, List.getElem_zipWith]
structure PN (m n : Nat) (c : S30) : Prop where
 cnt : 1 ≤ c.f1 ∧ c.f1 ≤ (n : Int)
 l2 : c.f2.length = m
 l3 : c.f3.length = m
 l4 : c.f4.length = m
 sum : ∀ j : Nat, j < m → -100 * (n : Int) ≤ rd c.f2 (j : Int) ∧ rd c.f2 (j : Int) ≤ 100 * (n : Int)
 mm : ∀ j : Nat, j < m → -100 ≤ rd c.f3 (j : Int) ∧ rd c.f3 (j : Int) ≤ rd c.f4 (j : Int) ∧ rd c.f4 (j : Int) ≤ 100
theorem PN.more {m n : Nat} {c : S30} (h : PN m n c) {k : Nat} (hk : n ≤ k) : PN m k c :=
 ⟨⟨h.cnt.1, by have := h.cnt.2; omega⟩, h.l2, h.l3, h.l4, fun j hj => by have := h.sum j hj; omega, h.mm⟩
theorem PN.join {m n : Nat} {a b : S30} (ha : PN m n a) (hb : PN m 1 b) (hn : n ≤ 1000) : PN m (n + 1) (joinC a b) := by
 refine ⟨?_, ?_, ?_, ?_, fun j hj => ?_, fun j hj => ?_⟩
 ·show 1 ≤ wrap64 (a.f1 + b.f1) ∧ wrap64 (a.f1 + b.f1) ≤ _
  have h1 := ha.cnt; have h2 := hb.cnt
  rw [w64 (by omega) (by omega)]; omega
 ·show (List.zipWith _ a.f2 b.f2).length = m
  rw [List.length_zipWith, ha.l2, hb.l2]; omega
 ·show (List.zipWith _ a.f3 b.f3).length = m
  rw [List.length_zipWith, ha.l3, hb.l3]; omega
 ·show (List.zipWith _ a.f4 b.f4).length = m
  rw [List.length_zipWith, ha.l4, hb.l4]; omega
 ·show _ ≤ rd (List.zipWith _ a.f2 b.f2) (j : Int) ∧ rd (List.zipWith _ a.f2 b.f2) (j : Int) ≤ _
  have h1 := ha.sum j hj; have h2 := hb.sum j hj
  rw [rd_zip _ (by rw [ha.l2]; exact hj) (by rw [hb.l2]; exact hj), w64 (by omega) (by omega)]
  omega
 ·show _ ≤ rd (List.zipWith mn a.f3 b.f3) (j : Int) ∧ rd (List.zipWith mn a.f3 b.f3) (j : Int) ≤ rd (List.zipWith mx a.f4 b.f4) (j : Int) ∧ rd (List.zipWith mx a.f4 b.f4) (j : Int) ≤ _
  have h1 := ha.mm j hj; have h2 := hb.mm j hj
  rw [rd_zip _ (by rw [ha.l3]; exact hj) (by rw [hb.l3]; exact hj), rd_zip _ (by rw [ha.l4]; exact hj) (by rw [hb.l4]; exact hj)]
  unfold mn mx
  split <;> split <;> omega
theorem PN.put {m n : Nat} {x : S30} (hx : PN m 1 x) (hn : n ≤ 1000) : ∀ l : List S30, (∀ y ∈ l, PN m n y) → ∀ y ∈ putL x l, PN m (n + 1) y
 | [], _ => fun y hy => by
  rw [List.mem_singleton.1 hy]; exact hx.more (by omega)
 | z :: zs, h => fun y hy => by
  simp only [putL] at hy
  split at hy
  ·rcases List.mem_cons.1 hy with hy | hy
   ·rw [hy]; exact (h z (List.mem_cons_self ..)).more (by omega)
   ·exact PN.put hx hn zs (fun y hy => h y (List.mem_cons_of_mem _ hy)) y hy
  ·split at hy
   ·rcases List.mem_cons.1 hy with hy | hy
    ·rw [hy]; exact (h z (List.mem_cons_self ..)).join hx hn
    ·exact (h y (List.mem_cons_of_mem _ hy)).more (by omega)
   ·rcases List.mem_cons.1 hy with hy | hy
    ·rw [hy]; exact hx.more (by omega)
    ·exact (h y hy).more (by omega)
theorem PN.all {m : Nat} : ∀ (l acc : List S30) (n : Nat), (∀ x ∈ l, PN m 1 x) → (∀ y ∈ acc, PN m n y) → n + l.length ≤ 1000 → ∀ y ∈ putAll acc l, PN m (n + l.length) y
 | [], acc, n, _, h, _ => fun y hy => h y hy
 | x :: l, acc, n, hl, h, hn => fun y hy => by
  rw [putAll_cons] at hy
  rw [List.length_cons] at hn ⊢
  have := PN.all l (putL x acc) (n + 1) (fun y hy => hl y (List.mem_cons_of_mem _ hy)) (PN.put (hl x (List.mem_cons_self ..)) (by omega) acc h) (by omega) y hy
  rwa [show n + 1 + l.length = n + (l.length + 1) by omega] at this
theorem keys_all {P : List Int → Prop} : ∀ (l acc : List S30), (∀ x ∈ l, P x.f0) → (∀ y ∈ acc, P y.f0) → ∀ y ∈ putAll acc l, P y.f0
 | [], acc, _, h => fun y hy => h y hy
 | x :: l, acc, hl, h => fun y hy => by
  rw [putAll_cons] at hy
  refine keys_all l (putL x acc) (fun y hy => hl y (List.mem_cons_of_mem _ hy)) (fun z hz => ?_) y hy
  rcases putL_keys x acc z hz with e | ⟨w, hw, e⟩
  ·rw [e]; exact hl x (List.mem_cons_self ..)
  ·rw [e]; exact h w hw
theorem cells_ok {cards : List Int} {meas s : Int} {rows : List S45} (hc : checkP cards meas = true) (h0 : 0 ≤ s) (h1 : s < 2 ^ cards.length) (hl : rows.length ≤ 40) (hr : ∀ r ∈ rows, RowOk cards meas r) : ∀ c ∈ groupL (makeL s rows), CellOk cards meas s c := by
 obtain ⟨c1, c2, c3, c4, c5⟩ := check_open hc
 have hpn : ∀ x ∈ makeL s rows, PN meas.toNat 1 x := fun x hx => by
  obtain ⟨r, hr', rfl⟩ := List.mem_map.1 hx
  obtain ⟨r1, r2, r3⟩ := right_open (hr r hr').1
  have hb := (hr r hr').2
  have hlen : r.f1.length = meas.toNat := by omega
  have hv : ∀ j : Nat, j < meas.toNat → -100 ≤ rd r.f1 (j : Int) ∧ rd r.f1 (j : Int) ≤ 100 := fun j hj => by
   rw [rd_get (by omega)]
   exact hb _ (List.getElem_mem _)
  exact ⟨⟨Int.le_refl _, Int.le_refl _⟩, hlen, hlen, hlen, fun j hj => by have := hv j hj; exact ⟨by show -100 * 1 ≤ rd r.f1 (j : Int); omega, by show rd r.f1 (j : Int) ≤ 100 * 1; omega⟩, fun j hj => ⟨(hv j hj).1, Int.le_refl _, (hv j hj).2⟩⟩
 have hkey : ∀ x ∈ makeL s rows, x.f0.length = (dimsM s).length ∧ ∀ (j : Nat) (h : j < (dimsM s).length), 0 ≤ rd x.f0 (j : Int) ∧ rd x.f0 (j : Int) < 256 ∧ rd x.f0 (j : Int) < rd cards (((dimsM s)[j]).1 : Int) := fun x hx => by
  obtain ⟨r, hr', rfl⟩ := List.mem_map.1 hx
  obtain ⟨r1, r2, r3⟩ := right_open (hr r hr').1
  have hk : (ofR s r).f0 = (dimsM s).map fun x => rd r.f0 (x.1 : Int) := keysR_dims h0 (by rw [r1]; exact h1) (by omega)
  rw [hk]
  refine ⟨by rw [List.length_map], fun j h => ?_⟩
  have hlt := dims_lt h0 h1 c2 _ (List.getElem_mem h)
  rw [rd_get (by rw [List.length_map]; exact h), List.getElem_map]
  have h2 := r3 ((dimsM s)[j]).1 (by omega)
  have h3 : rd cards (((dimsM s)[j]).1 : Int) ≤ 16 := by rw [rd_get hlt]; exact (c3 _ (List.getElem_mem hlt)).2
  exact ⟨h2.1, by omega, h2.2⟩
 intro c hcm
 have hlm := makeL_length s rows
 have p := PN.all (makeL s rows) [] 0 hpn (fun y hy => by cases hy) (by omega) c hcm
 have k := keys_all (P := fun f => f.length = (dimsM s).length ∧ ∀ (j : Nat) (h : j < (dimsM s).length), 0 ≤ rd f (j : Int) ∧ rd f (j : Int) < 256 ∧ rd f (j : Int) < rd cards (((dimsM s)[j]).1 : Int)) (makeL s rows) [] hkey (fun y hy => by cases hy) c hcm
 rw [Nat.zero_add, hlm] at p
 refine ⟨k.1, k.2, ⟨p.cnt.1, by have := p.cnt.2; omega⟩, p.l2, p.l3, p.l4, fun j hj v hv => ?_, fun j hj => (p.mm j hj).2.1⟩
 have h1 := p.sum j hj
 have h2 := p.mm j hj
 simp only [List.mem_cons, List.not_mem_nil, or_false] at hv
 rcases hv with rfl | rfl | rfl <;> omega
end Go.Proofs.Ytmkjkkmilopcpaa.Q
