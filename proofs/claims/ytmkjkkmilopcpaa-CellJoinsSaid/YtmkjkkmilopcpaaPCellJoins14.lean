-- packed by wip/tools/pack.py (a program of this session) out of its own texts
import Derived.Test.YtmkjkkmilopcpaaPCellJoins0
import Derived.ArgAppend
import Derived.Below
import Derived.BigQuiet
import Derived.Deep.AppendLies
import Derived.Deep.CutBlock
import Derived.Deep.DeepCutAuto
import Derived.Deep.Draws
import Derived.Deep.LoopGhost
import Derived.Deep.OwnRows
import Derived.Deep.QuietTactic
import Derived.Deep.RegionHeld3
import Derived.KernelRfl
import Derived.Laws.BitsLemmas
import Derived.Laws.BytesArg
import Derived.Laws.EntriesVeiled
import Derived.Laws.Externs
import Derived.Laws.IdiomCopy
import Derived.Laws.MakeOwn
import Derived.Laws.OwnMore
import Derived.Laws.Rows
import Derived.Laws.Slices
import Derived.Lib.AppendStr
import Derived.Lib.AppendZeros
import Derived.Lib.AppendZerosOnto
import Derived.Lib.ConvBytes
import Derived.Lib.JoinLaws
import Derived.Lib.Overlaps
import Derived.Lib.SliceRun
import Derived.Lib.Walk
import Derived.LoopIn
import Derived.LoopNIn
import Derived.Maps.AppendAt
import Derived.OrdersHeld
import Derived.OrdersIn
import Derived.OwnWalk
import Derived.OwnWalkIn
import Derived.RangeFuncBound
import Derived.RangeFuncBox
import Derived.RangeFuncCalls
import Derived.RangeFuncLeaves
import Derived.RangeFuncNested
import Derived.RangeFuncOwn
import Derived.RowKit
import Derived.RowKit3
import Derived.Shelf.Abstract
import Derived.Shelf.RegionOpen
import Derived.Shelf.RegionOpenPlain
import Derived.Tactics
import Derived.TacticsInMore
import Derived.Test.YtmkjkkmilopcpaaProg
import Derived.WalkKit
import Derived.WalkSpells
import Derived.WideLaws
import Derived.Test.YtmkjkkmilopcpaaPCellJoins1
import Derived.Test.YtmkjkkmilopcpaaPCellJoins3
import Derived.Test.YtmkjkkmilopcpaaPCellJoins4
import Derived.Test.YtmkjkkmilopcpaaPCellJoins5
import Derived.Test.YtmkjkkmilopcpaaPCellJoins6
import Derived.Test.YtmkjkkmilopcpaaPCellJoins7
import Derived.Test.YtmkjkkmilopcpaaPCellJoins8
import Derived.Test.YtmkjkkmilopcpaaPCellJoins9
import Derived.Test.YtmkjkkmilopcpaaPCellJoins10
import Derived.Test.YtmkjkkmilopcpaaPCellJoins11
import Derived.Test.YtmkjkkmilopcpaaPCellJoins12
import Derived.Test.YtmkjkkmilopcpaaPCellJoins13
namespace Go.Proofs.Ytmkjkkmilopcpaa.Q
open Go.RowKit Go.Proofs.YtmkjkkmilopcpaaW.PrintWords Go.Proofs.YtmkjkkmilopcpaaW.PrintLast Go.Proofs.YtmkjkkmilopcpaaW.PrintMore
set_option linter.unusedVariables false
set_option linter.unusedSimpArgs false
instance : Inhabited CV := ⟨⟨none, 0, none, 0, none, 0, none, 0⟩⟩
def jV (ms : List Int) (i j : Nat) : Int := if 3 * i + j < ms.length then rd ms (3 * (i : Int) + (j : Int)) else (i : Int) - (j : Int)
def jL (ms : List Int) (i : Nat) : Nat → List Int
 | 0 => []
 | j + 1 => jL ms i j ++ [jV ms i j]
theorem jL_length (ms : List Int) (i : Nat) : ∀ j, (jL ms i j).length = j
 | 0 => rfl
 | j + 1 => by simp [jL, jL_length ms i j]
def jC (ms : List Int) (kk i : Nat) : S30 := ⟨[4], 1 + (i : Int), jL ms i kk, jL ms i kk, jL ms i kk⟩
def jA (ms : List Int) (kk : Nat) : Nat → List S30
 | 0 => []
 | i + 1 => jA ms kk i ++ [jC ms kk i]
theorem jA_length (ms : List Int) (kk : Nat) : ∀ i, (jA ms kk i).length = i
 | 0 => rfl
 | i + 1 => by simp [jA, jA_length ms kk i]
def hypercubelaw2_CellJoins.T15 : Bool × List (List Nat × List Nat) := (true, [([], []), ([0], [0]), ([], []), ([2], [2]), ([1, 3], [1, 3]), ([], []), ([5], [5]), ([], []), ([7], [7]), ([6, 8, 4], [6, 8]), ([], []), ([10], [10]), ([], []), ([12], [12]), ([11, 13, 9], [11, 13]), ([0, 1, 2, 3, 4, 5, 6, 10, 11], []), ([15, 4, 14, 0, 1, 2, 3, 4, 5, 6, 10, 11], [4, 15]), ([0, 1, 2, 3, 4, 5, 6, 7, 8, 9, 10, 11, 15, 16], []), ([17, 9, 16, 0, 1, 2, 3, 4, 5, 6, 7, 8, 9, 10, 11, 15, 16], [9, 17]), ([0, 1, 2, 3, 4, 5, 6, 7, 8, 9, 10, 11, 12, 13, 14, 15, 16, 17, 18], []), ([19, 14, 18, 0, 1, 2, 3, 4, 5, 6, 7, 8, 9, 10, 11, 12, 13, 14, 15, 16, 17, 18], [14, 19])])
def hypercubelaw2_CellJoins.B15 : List Nat := [0, 1, 0, 4, 15, 0, 32, 0, 128, 511, 0, 1024, 0, 4096, 16383, 3199, 65535, 131071, 262143, 524287, 1048575]
theorem hypercubelaw2_CellJoins.tab15 : rtab .any (opsOf Try.f4 15) = hypercubelaw2_CellJoins.T15 := by kernel_rfl
theorem hypercubelaw2_CellJoins.bits15 : waitsOk hypercubelaw2_CellJoins.T15.2 hypercubelaw2_CellJoins.B15 = true := by kernel_rfl
def hypercubelaw2_CellJoins.T17 : Bool × List (List Nat × List Nat) := (true, [([], []), ([0], [0]), ([1], [1]), ([], []), ([3], [3]), ([4], [4]), ([2, 5], [2, 5]), ([], []), ([7], [7]), ([8], [8]), ([], []), ([10], [10]), ([11], [11]), ([9, 12, 6], [9, 12]), ([], []), ([], []), ([14, 6, 13, 0, 1, 2, 3, 4, 5, 6, 14, 15], [6, 14]), ([15, 13, 16, 0, 1, 2, 3, 4, 5, 6, 7, 8, 9, 10, 11, 12, 13, 14, 15, 16], [13, 15])])
def hypercubelaw2_CellJoins.B17 : List Nat := [0, 1, 3, 0, 8, 24, 63, 0, 128, 384, 0, 1024, 3072, 8191, 0, 0, 65535, 131071]
theorem hypercubelaw2_CellJoins.tab17 : rtab .any (opsOf Try.f4 17) = hypercubelaw2_CellJoins.T17 := by kernel_rfl
theorem hypercubelaw2_CellJoins.bits17 : waitsOk hypercubelaw2_CellJoins.T17.2 hypercubelaw2_CellJoins.B17 = true := by kernel_rfl
def hypercubelaw2_CellJoins.T18 : Bool × List (List Nat × List Nat) := (true, [([], []), ([], []), ([1], [1]), ([2], [2]), ([], []), ([4], [4]), ([5], [5]), ([3, 6], [3, 6]), ([0, 7, 7], [0, 7]), ([8, 8], [8]), ([9], [9]), ([9], [9]), ([11, 9], [9, 11]), ([12, 9], [9, 12]), ([10, 13, 9, 9], [9, 10, 13]), ([9], [9]), ([15, 9], [9, 15]), ([16, 9], [9, 16]), ([9], [9]), ([17, 18, 14, 9], [9, 17, 18]), ([14, 19, 19, 9], [9, 14, 19]), ([9, 20], [9, 20]), ([21, 20], [21]), ([22], [22]), ([23, 22], [22, 23]), ([24, 22], [22, 24]), ([22, 25], [22, 25]), ([26, 22, 0, 1, 2, 3, 4, 5, 6, 7, 8, 9, 10, 11, 12, 13, 14, 15, 16, 17, 18, 19, 20, 21, 22, 23, 24, 25, 26], [26])])
def hypercubelaw2_CellJoins.B18 : List Nat := [0, 0, 2, 6, 0, 16, 48, 126, 255, 511, 1023, 1023, 3071, 7167, 16383, 1023, 33791, 99327, 1023, 524287, 1048575, 2097151, 4194303, 8388607, 16777215, 33554431, 67108863, 134217727]
theorem hypercubelaw2_CellJoins.tab18 : rtab .any (opsOf Try.f4 18) = hypercubelaw2_CellJoins.T18 := by kernel_rfl
theorem hypercubelaw2_CellJoins.bits18 : waitsOk hypercubelaw2_CellJoins.T18.2 hypercubelaw2_CellJoins.B18 = true := by kernel_rfl
def hypercubelaw2_CellJoins.Pure : Prop := ∀ (l0 : List Int) (a1 : Int), l0.length ≤ maxLen → l0.length * 8 ≤ 140737488351232 → (∀ x ∈ l0, (Lit.int .i64 x).wf = true) → (Lit.int .i64 a1).wf = true →
 ∃ (k : Nat) (kk : Nat) (ab bc ba r1 r2 : S30), (hypercubelaw2_within.f a1 3 = some (kk : Int) ∧ kk < 3) ∧ (cell_Join.f k (jC l0 kk 0).f0 (jC l0 kk 0).f1 (jC l0 kk 0).f2 (jC l0 kk 0).f3 (jC l0 kk 0).f4 (jC l0 kk 1).f0 (jC l0 kk 1).f1 (jC l0 kk 1).f2 (jC l0 kk 1).f3 (jC l0 kk 1).f4 = some (ab.f0, ab.f1, ab.f2, ab.f3, ab.f4)) ∧ (cell_Join.f k (jC l0 kk 1).f0 (jC l0 kk 1).f1 (jC l0 kk 1).f2 (jC l0 kk 1).f3 (jC l0 kk 1).f4 (jC l0 kk 2).f0 (jC l0 kk 2).f1 (jC l0 kk 2).f2 (jC l0 kk 2).f3 (jC l0 kk 2).f4 = some (bc.f0, bc.f1, bc.f2, bc.f3, bc.f4)) ∧ (cell_Join.f k (jC l0 kk 1).f0 (jC l0 kk 1).f1 (jC l0 kk 1).f2 (jC l0 kk 1).f3 (jC l0 kk 1).f4 (jC l0 kk 0).f0 (jC l0 kk 0).f1 (jC l0 kk 0).f2 (jC l0 kk 0).f3 (jC l0 kk 0).f4 = some (ba.f0, ba.f1, ba.f2, ba.f3, ba.f4)) ∧ (hypercuberef2_Equal.f k ab.f0 ab.f1 ab.f2 ab.f3 ab.f4 ba.f0 ba.f1 ba.f2 ba.f3 ba.f4 = some true) ∧ (cell_Join.f k ab.f0 ab.f1 ab.f2 ab.f3 ab.f4 (jC l0 kk 2).f0 (jC l0 kk 2).f1 (jC l0 kk 2).f2 (jC l0 kk 2).f3 (jC l0 kk 2).f4 = some (r1.f0, r1.f1, r1.f2, r1.f3, r1.f4)) ∧ (cell_Join.f k (jC l0 kk 0).f0 (jC l0 kk 0).f1 (jC l0 kk 0).f2 (jC l0 kk 0).f3 (jC l0 kk 0).f4 bc.f0 bc.f1 bc.f2 bc.f3 bc.f4 = some (r2.f0, r2.f1, r2.f2, r2.f3, r2.f4)) ∧ (hypercuberef2_Equal.f k r1.f0 r1.f1 r1.f2 r1.f3 r1.f4 r2.f0 r2.f1 r2.f2 r2.f3 r2.f4 = some true) ∧ (ab.f1 = 3)
set_option maxHeartbeats 8000000 in
set_option maxRecDepth 100000 in
theorem hypercubelaw2_CellJoins.calls (k : Nat) (A0 : Option Addr) (c0 : Nat) (l0 : List Int) (a1 : Int) (w : World) (hr0 : Kd.C (Kd.int .i64) w A0 l0.length l0) (hc0 : l0.length ≤ c0)
  {kk : Nat} {ab bc ba r1 r2 : S30} (h1 : hypercubelaw2_within.f a1 3 = some (kk : Int) ∧ kk < 3) (h2 : cell_Join.f k (jC l0 kk 0).f0 (jC l0 kk 0).f1 (jC l0 kk 0).f2 (jC l0 kk 0).f3 (jC l0 kk 0).f4 (jC l0 kk 1).f0 (jC l0 kk 1).f1 (jC l0 kk 1).f2 (jC l0 kk 1).f3 (jC l0 kk 1).f4 = some (ab.f0, ab.f1, ab.f2, ab.f3, ab.f4)) (h3 : cell_Join.f k (jC l0 kk 1).f0 (jC l0 kk 1).f1 (jC l0 kk 1).f2 (jC l0 kk 1).f3 (jC l0 kk 1).f4 (jC l0 kk 2).f0 (jC l0 kk 2).f1 (jC l0 kk 2).f2 (jC l0 kk 2).f3 (jC l0 kk 2).f4 = some (bc.f0, bc.f1, bc.f2, bc.f3, bc.f4)) (h4 : cell_Join.f k (jC l0 kk 1).f0 (jC l0 kk 1).f1 (jC l0 kk 1).f2 (jC l0 kk 1).f3 (jC l0 kk 1).f4 (jC l0 kk 0).f0 (jC l0 kk 0).f1 (jC l0 kk 0).f2 (jC l0 kk 0).f3 (jC l0 kk 0).f4 = some (ba.f0, ba.f1, ba.f2, ba.f3, ba.f4)) (h5 : hypercuberef2_Equal.f k ab.f0 ab.f1 ab.f2 ab.f3 ab.f4 ba.f0 ba.f1 ba.f2 ba.f3 ba.f4 = some true) (h6 : cell_Join.f k ab.f0 ab.f1 ab.f2 ab.f3 ab.f4 (jC l0 kk 2).f0 (jC l0 kk 2).f1 (jC l0 kk 2).f2 (jC l0 kk 2).f3 (jC l0 kk 2).f4 = some (r1.f0, r1.f1, r1.f2, r1.f3, r1.f4)) (h7 : cell_Join.f k (jC l0 kk 0).f0 (jC l0 kk 0).f1 (jC l0 kk 0).f2 (jC l0 kk 0).f3 (jC l0 kk 0).f4 bc.f0 bc.f1 bc.f2 bc.f3 bc.f4 = some (r2.f0, r2.f1, r2.f2, r2.f3, r2.f4)) (h8 : hypercuberef2_Equal.f k r1.f0 r1.f1 r1.f2 r1.f3 r1.f4 r2.f0 r2.f1 r2.f2 r2.f3 r2.f4 = some true) (h9 : ab.f1 = 3) :
  Calls Try.prog 4 #[.slice A0 l0.length c0, .int .i64 a1] w fun e w' => e = .returned (.bool true) ∧ Below w.heap.size w w' := by
 have hu30 := Try.underlying30
 have H1 := am h1
 have H2 := am h2
 have H3 := am h3
 have H4 := am h4
 have H5 := am h5
 have H6 := am h6
 have H7 := am h7
 have H8 := am h8
 have H9 := am h9
 have HR0 := am hr0
 have HC0 := am hc0
 clear h1 h2 h3 h4 h5 h6 h7 h8 h9 hr0 hc0
 go_enter Try.func4, Try.ntmps4
 go_wp2_with (fail)
 refine (hypercubelaw2_known.calls true w rfl).mono ?_
 rintro e w1 ⟨rfl, hb1⟩
 have HB1 := am hb1
 clear hb1
 go_wp2_with (fail)
 refine (hypercubelaw2_within.calls a1 3 (kk : Int) w1 H1.out.1).mono ?_
 rintro e w2 ⟨rfl, hd⟩
 have HB2 := am (below_step HB1.out hd.below)
 have HM := am (Kd.C_below HR0.out HB2.out)
 have hk3 := H1.out.2
 have HK3 := am hk3
 clear hd HB1 hk3
 go_wp2_with (fail)
 go_loopg [6, 7, 8, 9, 10] 4 (fun kq v6 v7 v8 v9 v10 w' => ∃ i : Nat, v7 = .int .i64 (i : Int) ∧ Aside0 (i + kq = 4 ∧ i ≤ 3) ∧ Aside0 (Below w2.heap.size w2 w') ∧ Aside0 (Kd.N k30 30 w' w2.heap.size (fun _ => True) v6 (jA l0 kk i)))
 case atStart => exact ⟨0, rfl, ⟨by omega, by omega⟩, ⟨Below.refl _ _⟩, ⟨Kd.N_nil _ _ _ _ _⟩⟩
 case round =>
 obtain ⟨i, rfl, HI, HS, HN⟩ := hrel
 obtain ⟨Al, cl, el⟩ := Kd.N_slice HN.out
 subst el
 cases gk with
 | zero => exact absurd HI.out (by omega)
 | succ k1 =>
 have hil := HI.out.2
 by_cases hi : i < 3
 ·have hc1 : decide ((i : Int) < 3) = true := decide_eq_true (by omega)
  have hw1 : wrap64 (1 + (i : Int)) = 1 + (i : Int) := by unfold wrap64; omega
  have hwi : wrap64 ((i : Int) + 1) = ((i + 1 : Nat) : Int) := by unfold wrap64; omega
  have hw3 : wrap64 (3 * (i : Int)) = 3 * (i : Int) := by unfold wrap64; omega
  have hAl := jA_length l0 kk i
  have hA1 : jA l0 kk (i + 1) = jA l0 kk i ++ [jC l0 kk i] := rfl
  have HHI := am hi
  have HAL := am hAl
  have HA1 := am hA1
  clear hi hil hAl hA1
  generalize wr = wo at *
  go_wp2_with (first
  | ((with_reducible refine gate_dst (N := 21) rfl ?_); refine Kd.R_lit (Kd.int .i64) _ 3 ?hg (N := 21) ?hd (xs := ([4] : List Int)) (inner := [.int .i64 4]) (ok := fun _ => True) (okp := fun _ => True) ?hr ?hp (fun _ hk => hk) trivial (Below.refl _ _) (Nat.le_refl _) (by simp) ?_; (case hd => rfl); (case hg => rfl); (case hr => first | (go_simp; done) | (go_simp; rfl)); (case hp => exact (Reps.one (show Kd.M (Kd.int .i64) _ _ _ 4 [.int .i64 4] from rfl) (Reps.none _ _))); intro v21 w3 ho hb hg_ hnew_; have HKV := am ho; have HB3 := am hb; clear ho hb hg_ hnew_; obtain ⟨Ak, ck, rfl⟩ := Kd.R_slice HKV.out)
  | ((with_reducible refine gate_dst (N := 8) rfl ?_); (try (refine gate_guard (by rfl) ?_; dsimp only)); refine box_event ?hg (N := 8) ?hd (cs := #[.slice none 0 0, .int .i64 0, .slice none 0 0, .slice none 0 0, .slice none 0 0]) (t := 30) ?hr ?_; (case hd => rfl); (case hg => rfl); (case hr => first | (go_simp; done) | (go_simp; rfl)); intro gb hg w4 hbox hb; have hcz0 : w4.cell? ⟨gb, 0, none⟩ = some (.slice none 0 0) := (blk_cell hbox 0).trans rfl; have hfz0 := blk_frozen hbox 0; have hcz1 : w4.cell? ⟨gb, 1, none⟩ = some (.int .i64 0) := (blk_cell hbox 1).trans rfl; have hfz1 := blk_frozen hbox 1; have hcz2 : w4.cell? ⟨gb, 2, none⟩ = some (.slice none 0 0) := (blk_cell hbox 2).trans rfl; have hfz2 := blk_frozen hbox 2; have hcz3 : w4.cell? ⟨gb, 3, none⟩ = some (.slice none 0 0) := (blk_cell hbox 3).trans rfl; have hfz3 := blk_frozen hbox 3; have hcz4 : w4.cell? ⟨gb, 4, none⟩ = some (.slice none 0 0) := (blk_cell hbox 4).trans rfl; have hfz4 := blk_frozen hbox 4; have HBX := am hbox; have HG := am hg; have HB4 := am hb; clear hbox hg hb))
  go_loopg [9, 10] (kk + 1) (fun kq v9 v10 w' => ∃ (j : Nat) (f : Nat → Nat) (v2 v3 v4 : Value), v9 = .int .i64 (j : Int) ∧ Aside0 (j + kq = kk + 1 ∧ j ≤ kk) ∧ Aside0 (Inn wo f gb (1 + (i : Int)) (.slice Ak 1 ck) v2 v3 v4 [4] (jL l0 i j) w'))
  case atStart => exact ⟨0, _, _, _, _, rfl, ⟨by omega, by omega⟩, ⟨Inn.start (kv := .slice Ak 1 ck) HKV.out HB3.out HB4.out HG.out HBX.out⟩⟩
  case round =>
  obtain ⟨j, f, v2, v3, v4, rfl, HJ, HT⟩ := hrel
  cases gk with
  | zero => exact absurd HJ.out (by omega)
  | succ k2 =>
  have hjl := HJ.out.2
  have hk3 := HK3.out
  have hi := HHI.out
  by_cases hj : j < kk
  ·have hc1 : decide ((j : Int) < (kk : Int)) = true := decide_eq_true (by omega)
   have hc2 : decide (j < kk) = true := decide_eq_true hj
   have hw4 : wrap64 (3 * (i : Int) + (j : Int)) = 3 * (i : Int) + (j : Int) := by unfold wrap64; omega
   have hw5 : wrap64 ((i : Int) - (j : Int)) = (i : Int) - (j : Int) := by unfold wrap64; omega
   have hwj : wrap64 ((j : Int) + 1) = ((j + 1 : Nat) : Int) := by unfold wrap64; omega
   have HLJ := am (jL_length l0 i j)
   have HLS := am (show jL l0 i (j + 1) = jL l0 i j ++ [jV l0 i j] from rfl)
   have hv : ∃ v, v = jV l0 i j := ⟨_, rfl⟩
   obtain ⟨v, hv⟩ := hv
   have HHJ := am hj
   have HLN := am (show j ≤ 3 by omega)
   clear hj hjl hk3 hi
   generalize jL l0 i j = xs at *
   by_cases hm : 3 * i + j < l0.length
   ·have hc3 : decide (3 * (i : Int) + (j : Int) < (l0.length : Int)) = true := decide_eq_true (by omega)
    have p3 := eq_true (show (0 : Int) ≤ 3 * (i : Int) + (j : Int) by omega)
    have q3 := eq_true (show 3 * (i : Int) + (j : Int) < (l0.length : Int) by omega)
    obtain ⟨ad5, e5, x5⟩ := Kd.at_int (Kd.C_below HM.out (below_step HS.out HT.out.bel)) (3 * (i : Int) + (j : Int)) (by omega) (by omega)
    cases e5
    have hv2 : rd l0 (3 * (i : Int) + (j : Int)) = v := by rw [hv, jV, if_pos hm]
    rw [hv2] at x5
    have x6 := x5
    rw [show (3 * (i : Int) + (j : Int)).toNat = 3 * i + j by omega] at x6
    have HV := am hv
    clear hm hv hv2
    go_wp2
    have hgbb := HT.out.gbb
    have XB := HT.out.box.1
    have X2 := am ((blk_cell XB 2).trans rfl : wr.cell? ⟨gb, 2, none⟩ = some v2)
    have X3 := am ((blk_cell XB 3).trans rfl : wr.cell? ⟨gb, 3, none⟩ = some v3)
    have X4 := am ((blk_cell XB 4).trans rfl : wr.cell? ⟨gb, 4, none⟩ = some v4)
    clear XB
    refine start_ (n := 21) (S := fun w' => w'.cell? ⟨gb, 2, none⟩ = some v2 ∧ w'.cell? ⟨gb, 3, none⟩ = some v3 ∧ w'.cell? ⟨gb, 4, none⟩ = some v4) (ds := [16, 18, 20]) (bb 21 0) (by kernel_rfl) rfl rfl ⟨X2.out, X3.out, X4.out⟩ (fun hHeld => ?_)
    refine with_tabW hypercubelaw2_CellJoins.tab15 hypercubelaw2_CellJoins.bits15 (fun HT_ HW_ => ?_)
    refine pu (i := 0) (N := some 47) (bb 21 1) HT_ ?_
    refine tk (i := 1) (N := some 48) (bb 21 3) HT_ HW_ hHeld ?_
    refine pu (i := 2) (N := some 49) (bb 21 7) HT_ ?_
    refine pu (i := 5) (N := some 52) (bb 21 39) HT_ ?_
    refine tk (i := 6) (N := some 53) (bb 21 103) HT_ HW_ hHeld ?_
    refine pu (i := 7) (N := some 54) (bb 21 231) HT_ ?_
    refine pu (i := 10) (N := some 57) (bb 21 1255) HT_ ?_
    refine tk (i := 11) (N := some 58) (bb 21 3303) HT_ HW_ hHeld ?_
    refine pu (i := 12) (N := some 59) (bb 21 7399) HT_ ?_
    refine join_ (σ := (Nat → Nat) × Value × Value × Value × Value × Value × Value) 5 (bb 21 65535) (fun s_ => [(50, s_.2.1), (55, s_.2.2.1), (60, s_.2.2.2.1), (51, s_.2.2.2.2.1), (56, s_.2.2.2.2.2.1), (61, s_.2.2.2.2.2.2), (62, .pointer (some ⟨gb, 2, none⟩))]) (fun s_ w' => Below wo.heap.size wo w' ∧ (w'.heap[gb]? = some (.cells #[.slice Ak 1 ck, .int .i64 (1 + (i : Int)), v2, v3, v4] 30 (0, 0)) ∧ s_.1 gb = 9) ∧ Kd.R (Kd.int .i64) 3 w' wo.heap.size (fun k_ => s_.1 k_ = 0) (.slice Ak 1 ck) [4] ∧ Kd.R (Kd.int .i64) 3 w' wo.heap.size (fun k_ => s_.1 k_ = 2) s_.2.2.2.2.1 (xs ++ [v]) ∧ Kd.R (Kd.int .i64) 3 w' wo.heap.size (fun k_ => s_.1 k_ = 3) s_.2.2.2.2.2.1 (xs ++ [v]) ∧ Kd.R (Kd.int .i64) 3 w' wo.heap.size (fun k_ => s_.1 k_ = 4) s_.2.2.2.2.2.2 (xs ++ [v])) ?_ ?_
    rotate_left
    ·intro ST3111
     refine join_ (σ := (Nat → Nat) × Value × Value × Value × Value × Value × Value) 6 (bb 21 49151) (fun s_ => [(50, s_.2.1), (55, s_.2.2.1), (60, s_.2.2.2.1), (51, s_.2.2.2.2.1), (56, s_.2.2.2.2.2.1), (62, .pointer (some ⟨gb, 2, none⟩))]) (fun s_ w' => Below wo.heap.size wo w' ∧ (w'.heap[gb]? = some (.cells #[.slice Ak 1 ck, .int .i64 (1 + (i : Int)), v2, v3, v4] 30 (0, 0)) ∧ s_.1 gb = 9) ∧ Kd.R (Kd.int .i64) 3 w' wo.heap.size (fun k_ => s_.1 k_ = 0) (.slice Ak 1 ck) [4] ∧ Kd.R (Kd.int .i64) 3 w' wo.heap.size (fun k_ => s_.1 k_ = 2) s_.2.2.2.2.1 (xs ++ [v]) ∧ Kd.R (Kd.int .i64) 3 w' wo.heap.size (fun k_ => s_.1 k_ = 3) s_.2.2.2.2.2.1 (xs ++ [v]) ∧ Kd.R (Kd.int .i64) 3 w' wo.heap.size (fun k_ => s_.1 k_ = 4) v4 xs ∧ Kd.R (Kd.int .i64) 3 w' wo.heap.size (fun k_ => s_.1 k_ = 13) s_.2.2.2.1 [v]) ?_ ?_
     ·rintro ⟨f, s1, s2, s3, u2, u3, u4⟩ W ⟨HB, HX, HKY, HR2, HR3, HR4, HS3⟩
      dsimp only at *
      refine norm_ (a' := ?_) ?_ ?_
      rotate_left
      ·show putAll _ _ = _
       (first | (simp only [putAll, Act.put, List.setIfInBounds_toArray, List.set_cons_zero, List.set_cons_succ, i64_w, i32_w]; done) | (simp only [putAll, Act.put, List.setIfInBounds_toArray, List.set_cons_zero, List.set_cons_succ, i64_w, i32_w]; rfl))
      refine one_ (i := 14) (N := some 61) (bb 21 65535) rfl rfl (one_of HT_.out (by kernel_rfl)) (by decide) (fun K hK => ?_)
      ·obtain ⟨As, cs, rfl⟩ := Kd.R_slice HS3
       refine Kd.R_append_rows_step (Kd.int .i64) (w0 := wo) wo.heap.size (by rfl) (.tmp 58) (.tmp 60) 22 3 (.int .i64 0) 8 rfl Try.underlying22 info3 rfl (by decide) (by omega) v4 xs [v] _ _ _ (fun k_ => ow f W.heap.size 4 k_ = 4) (fun _ => False) rfl rfl (r_same HR4 4) (Kd.R_reads' HS3).2.2 (fun _ _ h => h) (fun _ h => h.elim) (fun k_ hk => ow_new hk) HB HB.size ?aL ?_
       (case aL => have := HLJ.out; have := HLN.out; simp only [List.length_cons, List.length_nil]; omega)
       intro u W1 ho hb hg_ hat
       have HX1 := b_app HX HR4 (by decide) hg_ 4
       have HB1 := hb
       refine hK.out _ _ ⟨(blk_cell HX1.1 2).trans rfl, (blk_cell HX1.1 3).trans rfl, (blk_cell HX1.1 4).trans rfl⟩ (fun hHeld => ?_)
       clear hK K
       have hN := ST3111 ((ow f W.heap.size 4), s1, s2, (.slice As [v].length cs), u2, u3, u) W1 ⟨HB1, HX1, (r_app HKY HR4 (by decide) hg_ 4), (r_app HR2 HR4 (by decide) hg_ 4), (r_app HR3 HR4 (by decide) hg_ 4), ho⟩
       refine norm_ ?_ hN
       show _ = putAll _ _
       (first | (simp only [putAll, Act.put, List.setIfInBounds_toArray, List.set_cons_zero, List.set_cons_succ, i64_w, i32_w]; done) | (simp only [putAll, Act.put, List.setIfInBounds_toArray, List.set_cons_zero, List.set_cons_succ, i64_w, i32_w]; rfl))
     intro ST2111
     refine join_ (σ := (Nat → Nat) × Value × Value × Value × Value × Value × Value) 7 (bb 21 48639) (fun s_ => [(50, s_.2.1), (55, s_.2.2.1), (60, s_.2.2.2.1), (51, s_.2.2.2.2.1), (62, .pointer (some ⟨gb, 2, none⟩))]) (fun s_ w' => Below wo.heap.size wo w' ∧ (w'.heap[gb]? = some (.cells #[.slice Ak 1 ck, .int .i64 (1 + (i : Int)), v2, v3, v4] 30 (0, 0)) ∧ s_.1 gb = 9) ∧ Kd.R (Kd.int .i64) 3 w' wo.heap.size (fun k_ => s_.1 k_ = 0) (.slice Ak 1 ck) [4] ∧ Kd.R (Kd.int .i64) 3 w' wo.heap.size (fun k_ => s_.1 k_ = 2) s_.2.2.2.2.1 (xs ++ [v]) ∧ Kd.R (Kd.int .i64) 3 w' wo.heap.size (fun k_ => s_.1 k_ = 3) v3 xs ∧ Kd.R (Kd.int .i64) 3 w' wo.heap.size (fun k_ => s_.1 k_ = 4) v4 xs ∧ Kd.R (Kd.int .i64) 3 w' wo.heap.size (fun k_ => s_.1 k_ = 12) s_.2.2.1 [v] ∧ Kd.R (Kd.int .i64) 3 w' wo.heap.size (fun k_ => s_.1 k_ = 13) s_.2.2.2.1 [v]) ?_ ?_
     ·rintro ⟨f, s1, s2, s3, u2, u3, u4⟩ W ⟨HB, HX, HKY, HR2, HR3, HR4, HS2, HS3⟩
      dsimp only at *
      refine norm_ (a' := ?_) ?_ ?_
      rotate_left
      ·show putAll _ _ = _
       (first | (simp only [putAll, Act.put, List.setIfInBounds_toArray, List.set_cons_zero, List.set_cons_succ, i64_w, i32_w]; done) | (simp only [putAll, Act.put, List.setIfInBounds_toArray, List.set_cons_zero, List.set_cons_succ, i64_w, i32_w]; rfl))
      refine one_ (i := 9) (N := some 56) (bb 21 49151) rfl rfl (one_of HT_.out (by kernel_rfl)) (by decide) (fun K hK => ?_)
      ·obtain ⟨As, cs, rfl⟩ := Kd.R_slice HS2
       refine Kd.R_append_rows_step (Kd.int .i64) (w0 := wo) wo.heap.size (by rfl) (.tmp 53) (.tmp 55) 22 3 (.int .i64 0) 8 rfl Try.underlying22 info3 rfl (by decide) (by omega) v3 xs [v] _ _ _ (fun k_ => ow f W.heap.size 3 k_ = 3) (fun _ => False) rfl rfl (r_same HR3 3) (Kd.R_reads' HS2).2.2 (fun _ _ h => h) (fun _ h => h.elim) (fun k_ hk => ow_new hk) HB HB.size ?aL ?_
       (case aL => have := HLJ.out; have := HLN.out; simp only [List.length_cons, List.length_nil]; omega)
       intro u W1 ho hb hg_ hat
       have HX1 := b_app HX HR3 (by decide) hg_ 3
       have HB1 := hb
       refine hK.out _ _ ⟨(blk_cell HX1.1 2).trans rfl, (blk_cell HX1.1 3).trans rfl, (blk_cell HX1.1 4).trans rfl⟩ (fun hHeld => ?_)
       clear hK K
       have hN := ST2111 ((ow f W.heap.size 3), s1, (.slice As [v].length cs), s3, u2, u, default) W1 ⟨HB1, HX1, (r_app HKY HR3 (by decide) hg_ 3), (r_app HR2 HR3 (by decide) hg_ 3), ho, (r_app HR4 HR3 (by decide) hg_ 3), (r_app HS3 HR3 (by decide) hg_ 3)⟩
       refine norm_ ?_ hN
       show _ = putAll _ _
       (first | (simp only [putAll, Act.put, List.setIfInBounds_toArray, List.set_cons_zero, List.set_cons_succ, i64_w, i32_w]; done) | (simp only [putAll, Act.put, List.setIfInBounds_toArray, List.set_cons_zero, List.set_cons_succ, i64_w, i32_w]; rfl))
     intro ST1111
     refine join_ (σ := (Nat → Nat) × Value × Value × Value × Value × Value × Value) 7 (bb 21 40959) (fun s_ => [(50, s_.2.1), (55, s_.2.2.1), (51, s_.2.2.2.2.1), (56, s_.2.2.2.2.2.1), (62, .pointer (some ⟨gb, 2, none⟩))]) (fun s_ w' => Below wo.heap.size wo w' ∧ (w'.heap[gb]? = some (.cells #[.slice Ak 1 ck, .int .i64 (1 + (i : Int)), v2, v3, v4] 30 (0, 0)) ∧ s_.1 gb = 9) ∧ Kd.R (Kd.int .i64) 3 w' wo.heap.size (fun k_ => s_.1 k_ = 0) (.slice Ak 1 ck) [4] ∧ Kd.R (Kd.int .i64) 3 w' wo.heap.size (fun k_ => s_.1 k_ = 2) s_.2.2.2.2.1 (xs ++ [v]) ∧ Kd.R (Kd.int .i64) 3 w' wo.heap.size (fun k_ => s_.1 k_ = 3) s_.2.2.2.2.2.1 (xs ++ [v]) ∧ Kd.R (Kd.int .i64) 3 w' wo.heap.size (fun k_ => s_.1 k_ = 4) v4 xs) ?_ ?_
     ·rintro ⟨f, s1, s2, s3, u2, u3, u4⟩ W ⟨HB, HX, HKY, HR2, HR3, HR4⟩
      dsimp only at *
      refine norm_ (a' := ?_) ?_ ?_
      rotate_left
      ·show putAll _ _ = _
       (first | (simp only [putAll, Act.put, List.setIfInBounds_toArray, List.set_cons_zero, List.set_cons_succ, i64_w, i32_w]; done) | (simp only [putAll, Act.put, List.setIfInBounds_toArray, List.set_cons_zero, List.set_cons_succ, i64_w, i32_w]; rfl))
      refine one_ (i := 13) (N := some 60) (bb 21 49151) rfl rfl (one_of HT_.out (by kernel_rfl)) (by decide) (fun K hK => ?_)
      ·refine Kd.R_lit_step (Kd.int .i64) _ 3 ?hg (N := 60) ?hd (xs := ([v] : List Int)) (inner := [.int .i64 v]) (ok := fun _ => True) (okp := fun _ => True) ?hr ?hp (fun _ hk => hk) trivial (Below.refl _ _) (Nat.le_refl _) (by simp) ?_; (case hd => rfl); (case hg => rfl); (case hr => first | (go_simp; done) | (go_simp; rfl)); (case hp => exact (Reps.one (show Kd.M (Kd.int .i64) _ _ _ v [.int .i64 v] from rfl) (Reps.none _ _)))
       intro s W1 ho hb hg_ hnew_
       clear hg_ hnew_
       have HX1 := b_fresh HX hb 13
       have HB1 := below_step HB hb
       refine hK.out _ _ ⟨(blk_cell HX1.1 2).trans rfl, (blk_cell HX1.1 3).trans rfl, (blk_cell HX1.1 4).trans rfl⟩ (fun hHeld => ?_)
       clear hK K
       have hN := ST2111 ((ow f W.heap.size 13), s1, s2, s, u2, u3, default) W1 ⟨HB1, HX1, (r_fresh HKY hb 13), (r_fresh HR2 hb 13), (r_fresh HR3 hb 13), (r_fresh HR4 hb 13), (r_lit f ho HB.size 13)⟩
       refine norm_ ?_ hN
       show _ = putAll _ _
       (first | (simp only [putAll, Act.put, List.setIfInBounds_toArray, List.set_cons_zero, List.set_cons_succ, i64_w, i32_w]; done) | (simp only [putAll, Act.put, List.setIfInBounds_toArray, List.set_cons_zero, List.set_cons_succ, i64_w, i32_w]; rfl))
     intro ST2110
     refine join_ (σ := (Nat → Nat) × Value × Value × Value × Value × Value × Value) 9 (bb 21 15855) (fun s_ => [(50, s_.2.1), (55, s_.2.2.1), (60, s_.2.2.2.1)]) (fun s_ w' => Below wo.heap.size wo w' ∧ (w'.heap[gb]? = some (.cells #[.slice Ak 1 ck, .int .i64 (1 + (i : Int)), v2, v3, v4] 30 (0, 0)) ∧ s_.1 gb = 9) ∧ Kd.R (Kd.int .i64) 3 w' wo.heap.size (fun k_ => s_.1 k_ = 0) (.slice Ak 1 ck) [4] ∧ Kd.R (Kd.int .i64) 3 w' wo.heap.size (fun k_ => s_.1 k_ = 2) v2 xs ∧ Kd.R (Kd.int .i64) 3 w' wo.heap.size (fun k_ => s_.1 k_ = 3) v3 xs ∧ Kd.R (Kd.int .i64) 3 w' wo.heap.size (fun k_ => s_.1 k_ = 4) v4 xs ∧ Kd.R (Kd.int .i64) 3 w' wo.heap.size (fun k_ => s_.1 k_ = 11) s_.2.1 [v] ∧ Kd.R (Kd.int .i64) 3 w' wo.heap.size (fun k_ => s_.1 k_ = 12) s_.2.2.1 [v] ∧ Kd.R (Kd.int .i64) 3 w' wo.heap.size (fun k_ => s_.1 k_ = 13) s_.2.2.2.1 [v]) ?_ ?_
     ·rintro ⟨f, s1, s2, s3, u2, u3, u4⟩ W ⟨HB, HX, HKY, HR2, HR3, HR4, HS1, HS2, HS3⟩
      dsimp only at *
      refine norm_ (a' := ?_) ?_ ?_
      rotate_left
      ·show putAll _ _ = _
       (first | (simp only [putAll, Act.put, List.setIfInBounds_toArray, List.set_cons_zero, List.set_cons_succ, i64_w, i32_w]; done) | (simp only [putAll, Act.put, List.setIfInBounds_toArray, List.set_cons_zero, List.set_cons_succ, i64_w, i32_w]; rfl))
      refine one_ (i := 4) (N := some 51) (bb 21 15871) rfl rfl (one_of HT_.out (by kernel_rfl)) (by decide) (fun K hK => ?_)
      ·obtain ⟨As, cs, rfl⟩ := Kd.R_slice HS1
       refine Kd.R_append_rows_step (Kd.int .i64) (w0 := wo) wo.heap.size (by rfl) (.tmp 48) (.tmp 50) 22 3 (.int .i64 0) 8 rfl Try.underlying22 info3 rfl (by decide) (by omega) v2 xs [v] _ _ _ (fun k_ => ow f W.heap.size 2 k_ = 2) (fun _ => False) rfl rfl (r_same HR2 2) (Kd.R_reads' HS1).2.2 (fun _ _ h => h) (fun _ h => h.elim) (fun k_ hk => ow_new hk) HB HB.size ?aL ?_
       (case aL => have := HLJ.out; have := HLN.out; simp only [List.length_cons, List.length_nil]; omega)
       intro u W1 ho hb hg_ hat
       have HX1 := b_app HX HR2 (by decide) hg_ 2
       have HB1 := hb
       refine hK.out _ _ ⟨(blk_cell HX1.1 2).trans rfl, (blk_cell HX1.1 3).trans rfl, (blk_cell HX1.1 4).trans rfl⟩ (fun hHeld => ?_)
       clear hK K
       refine nm ?_
       refine pu (i := 15) (N := some 62) (bb 21 48639) HT_ ?_
       have hN := ST1111 ((ow f W.heap.size 2), (.slice As [v].length cs), s2, s3, u, default, default) W1 ⟨HB1, HX1, (r_app HKY HR2 (by decide) hg_ 2), ho, (r_app HR3 HR2 (by decide) hg_ 2), (r_app HR4 HR2 (by decide) hg_ 2), (r_app HS2 HR2 (by decide) hg_ 2), (r_app HS3 HR2 (by decide) hg_ 2)⟩
       refine norm_ ?_ hN
       show _ = putAll _ _
       (first | (simp only [putAll, Act.put, List.setIfInBounds_toArray, List.set_cons_zero, List.set_cons_succ, i64_w, i32_w]; done) | (simp only [putAll, Act.put, List.setIfInBounds_toArray, List.set_cons_zero, List.set_cons_succ, i64_w, i32_w]; rfl))
     intro ST0111
     refine join_ (σ := (Nat → Nat) × Value × Value × Value × Value × Value × Value) 8 (bb 21 48383) (fun s_ => [(50, s_.2.1), (60, s_.2.2.2.1), (51, s_.2.2.2.2.1), (62, .pointer (some ⟨gb, 2, none⟩))]) (fun s_ w' => Below wo.heap.size wo w' ∧ (w'.heap[gb]? = some (.cells #[.slice Ak 1 ck, .int .i64 (1 + (i : Int)), v2, v3, v4] 30 (0, 0)) ∧ s_.1 gb = 9) ∧ Kd.R (Kd.int .i64) 3 w' wo.heap.size (fun k_ => s_.1 k_ = 0) (.slice Ak 1 ck) [4] ∧ Kd.R (Kd.int .i64) 3 w' wo.heap.size (fun k_ => s_.1 k_ = 2) s_.2.2.2.2.1 (xs ++ [v]) ∧ Kd.R (Kd.int .i64) 3 w' wo.heap.size (fun k_ => s_.1 k_ = 3) v3 xs ∧ Kd.R (Kd.int .i64) 3 w' wo.heap.size (fun k_ => s_.1 k_ = 4) v4 xs ∧ Kd.R (Kd.int .i64) 3 w' wo.heap.size (fun k_ => s_.1 k_ = 13) s_.2.2.2.1 [v]) ?_ ?_
     ·rintro ⟨f, s1, s2, s3, u2, u3, u4⟩ W ⟨HB, HX, HKY, HR2, HR3, HR4, HS3⟩
      dsimp only at *
      refine norm_ (a' := ?_) ?_ ?_
      rotate_left
      ·show putAll _ _ = _
       (first | (simp only [putAll, Act.put, List.setIfInBounds_toArray, List.set_cons_zero, List.set_cons_succ, i64_w, i32_w]; done) | (simp only [putAll, Act.put, List.setIfInBounds_toArray, List.set_cons_zero, List.set_cons_succ, i64_w, i32_w]; rfl))
      refine one_ (i := 8) (N := some 55) (bb 21 48639) rfl rfl (one_of HT_.out (by kernel_rfl)) (by decide) (fun K hK => ?_)
      ·refine Kd.R_lit_step (Kd.int .i64) _ 3 ?hg (N := 55) ?hd (xs := ([v] : List Int)) (inner := [.int .i64 v]) (ok := fun _ => True) (okp := fun _ => True) ?hr ?hp (fun _ hk => hk) trivial (Below.refl _ _) (Nat.le_refl _) (by simp) ?_; (case hd => rfl); (case hg => rfl); (case hr => first | (go_simp; done) | (go_simp; rfl)); (case hp => exact (Reps.one (show Kd.M (Kd.int .i64) _ _ _ v [.int .i64 v] from rfl) (Reps.none _ _)))
       intro s W1 ho hb hg_ hnew_
       clear hg_ hnew_
       have HX1 := b_fresh HX hb 12
       have HB1 := below_step HB hb
       refine hK.out _ _ ⟨(blk_cell HX1.1 2).trans rfl, (blk_cell HX1.1 3).trans rfl, (blk_cell HX1.1 4).trans rfl⟩ (fun hHeld => ?_)
       clear hK K
       have hN := ST1111 ((ow f W.heap.size 12), s1, s, s3, u2, default, default) W1 ⟨HB1, HX1, (r_fresh HKY hb 12), (r_fresh HR2 hb 12), (r_fresh HR3 hb 12), (r_fresh HR4 hb 12), (r_lit f ho HB.size 12), (r_fresh HS3 hb 12)⟩
       refine norm_ ?_ hN
       show _ = putAll _ _
       (first | (simp only [putAll, Act.put, List.setIfInBounds_toArray, List.set_cons_zero, List.set_cons_succ, i64_w, i32_w]; done) | (simp only [putAll, Act.put, List.setIfInBounds_toArray, List.set_cons_zero, List.set_cons_succ, i64_w, i32_w]; rfl))
     intro ST1101
     refine join_ (σ := (Nat → Nat) × Value × Value × Value × Value × Value × Value) 8 (bb 21 40447) (fun s_ => [(50, s_.2.1), (55, s_.2.2.1), (51, s_.2.2.2.2.1), (62, .pointer (some ⟨gb, 2, none⟩))]) (fun s_ w' => Below wo.heap.size wo w' ∧ (w'.heap[gb]? = some (.cells #[.slice Ak 1 ck, .int .i64 (1 + (i : Int)), v2, v3, v4] 30 (0, 0)) ∧ s_.1 gb = 9) ∧ Kd.R (Kd.int .i64) 3 w' wo.heap.size (fun k_ => s_.1 k_ = 0) (.slice Ak 1 ck) [4] ∧ Kd.R (Kd.int .i64) 3 w' wo.heap.size (fun k_ => s_.1 k_ = 2) s_.2.2.2.2.1 (xs ++ [v]) ∧ Kd.R (Kd.int .i64) 3 w' wo.heap.size (fun k_ => s_.1 k_ = 3) v3 xs ∧ Kd.R (Kd.int .i64) 3 w' wo.heap.size (fun k_ => s_.1 k_ = 4) v4 xs ∧ Kd.R (Kd.int .i64) 3 w' wo.heap.size (fun k_ => s_.1 k_ = 12) s_.2.2.1 [v]) ?_ ?_
     ·rintro ⟨f, s1, s2, s3, u2, u3, u4⟩ W ⟨HB, HX, HKY, HR2, HR3, HR4, HS2⟩
      dsimp only at *
      refine norm_ (a' := ?_) ?_ ?_
      rotate_left
      ·show putAll _ _ = _
       (first | (simp only [putAll, Act.put, List.setIfInBounds_toArray, List.set_cons_zero, List.set_cons_succ, i64_w, i32_w]; done) | (simp only [putAll, Act.put, List.setIfInBounds_toArray, List.set_cons_zero, List.set_cons_succ, i64_w, i32_w]; rfl))
      refine two_ (i := 9) (j := 13) (Ni := some 56) (Nj := some 60) (bb 21 40959) (bb 21 48639) rfl rfl rfl rfl (two_of HT_.out (by kernel_rfl)) (by decide) (by decide) (fun K hK => ?_) (fun K hK => ?_)
      ·obtain ⟨As, cs, rfl⟩ := Kd.R_slice HS2
       refine Kd.R_append_rows_step (Kd.int .i64) (w0 := wo) wo.heap.size (by rfl) (.tmp 53) (.tmp 55) 22 3 (.int .i64 0) 8 rfl Try.underlying22 info3 rfl (by decide) (by omega) v3 xs [v] _ _ _ (fun k_ => ow f W.heap.size 3 k_ = 3) (fun _ => False) rfl rfl (r_same HR3 3) (Kd.R_reads' HS2).2.2 (fun _ _ h => h) (fun _ h => h.elim) (fun k_ hk => ow_new hk) HB HB.size ?aL ?_
       (case aL => have := HLJ.out; have := HLN.out; simp only [List.length_cons, List.length_nil]; omega)
       intro u W1 ho hb hg_ hat
       have HX1 := b_app HX HR3 (by decide) hg_ 3
       have HB1 := hb
       refine hK.out _ _ ⟨(blk_cell HX1.1 2).trans rfl, (blk_cell HX1.1 3).trans rfl, (blk_cell HX1.1 4).trans rfl⟩ (fun hHeld => ?_)
       clear hK K
       have hN := ST2110 ((ow f W.heap.size 3), s1, (.slice As [v].length cs), default, u2, u, default) W1 ⟨HB1, HX1, (r_app HKY HR3 (by decide) hg_ 3), (r_app HR2 HR3 (by decide) hg_ 3), ho, (r_app HR4 HR3 (by decide) hg_ 3)⟩
       refine norm_ ?_ hN
       show _ = putAll _ _
       (first | (simp only [putAll, Act.put, List.setIfInBounds_toArray, List.set_cons_zero, List.set_cons_succ, i64_w, i32_w]; done) | (simp only [putAll, Act.put, List.setIfInBounds_toArray, List.set_cons_zero, List.set_cons_succ, i64_w, i32_w]; rfl))
      ·refine Kd.R_lit_step (Kd.int .i64) _ 3 ?hg (N := 60) ?hd (xs := ([v] : List Int)) (inner := [.int .i64 v]) (ok := fun _ => True) (okp := fun _ => True) ?hr ?hp (fun _ hk => hk) trivial (Below.refl _ _) (Nat.le_refl _) (by simp) ?_; (case hd => rfl); (case hg => rfl); (case hr => first | (go_simp; done) | (go_simp; rfl)); (case hp => exact (Reps.one (show Kd.M (Kd.int .i64) _ _ _ v [.int .i64 v] from rfl) (Reps.none _ _)))
       intro s W1 ho hb hg_ hnew_
       clear hg_ hnew_
       have HX1 := b_fresh HX hb 13
       have HB1 := below_step HB hb
       refine hK.out _ _ ⟨(blk_cell HX1.1 2).trans rfl, (blk_cell HX1.1 3).trans rfl, (blk_cell HX1.1 4).trans rfl⟩ (fun hHeld => ?_)
       clear hK K
       have hN := ST1111 ((ow f W.heap.size 13), s1, s2, s, u2, default, default) W1 ⟨HB1, HX1, (r_fresh HKY hb 13), (r_fresh HR2 hb 13), (r_fresh HR3 hb 13), (r_fresh HR4 hb 13), (r_fresh HS2 hb 13), (r_lit f ho HB.size 13)⟩
       refine norm_ ?_ hN
       show _ = putAll _ _
       (first | (simp only [putAll, Act.put, List.setIfInBounds_toArray, List.set_cons_zero, List.set_cons_succ, i64_w, i32_w]; done) | (simp only [putAll, Act.put, List.setIfInBounds_toArray, List.set_cons_zero, List.set_cons_succ, i64_w, i32_w]; rfl))
     intro ST1110
     refine join_ (σ := (Nat → Nat) × Value × Value × Value × Value × Value × Value) 10 (bb 21 15847) (fun s_ => [(55, s_.2.2.1), (60, s_.2.2.2.1)]) (fun s_ w' => Below wo.heap.size wo w' ∧ (w'.heap[gb]? = some (.cells #[.slice Ak 1 ck, .int .i64 (1 + (i : Int)), v2, v3, v4] 30 (0, 0)) ∧ s_.1 gb = 9) ∧ Kd.R (Kd.int .i64) 3 w' wo.heap.size (fun k_ => s_.1 k_ = 0) (.slice Ak 1 ck) [4] ∧ Kd.R (Kd.int .i64) 3 w' wo.heap.size (fun k_ => s_.1 k_ = 2) v2 xs ∧ Kd.R (Kd.int .i64) 3 w' wo.heap.size (fun k_ => s_.1 k_ = 3) v3 xs ∧ Kd.R (Kd.int .i64) 3 w' wo.heap.size (fun k_ => s_.1 k_ = 4) v4 xs ∧ Kd.R (Kd.int .i64) 3 w' wo.heap.size (fun k_ => s_.1 k_ = 12) s_.2.2.1 [v] ∧ Kd.R (Kd.int .i64) 3 w' wo.heap.size (fun k_ => s_.1 k_ = 13) s_.2.2.2.1 [v]) ?_ ?_
     ·rintro ⟨f, s1, s2, s3, u2, u3, u4⟩ W ⟨HB, HX, HKY, HR2, HR3, HR4, HS2, HS3⟩
      dsimp only at *
      refine norm_ (a' := ?_) ?_ ?_
      rotate_left
      ·show putAll _ _ = _
       (first | (simp only [putAll, Act.put, List.setIfInBounds_toArray, List.set_cons_zero, List.set_cons_succ, i64_w, i32_w]; done) | (simp only [putAll, Act.put, List.setIfInBounds_toArray, List.set_cons_zero, List.set_cons_succ, i64_w, i32_w]; rfl))
      refine one_ (i := 3) (N := some 50) (bb 21 15855) rfl rfl (one_of HT_.out (by kernel_rfl)) (by decide) (fun K hK => ?_)
      ·refine Kd.R_lit_step (Kd.int .i64) _ 3 ?hg (N := 50) ?hd (xs := ([v] : List Int)) (inner := [.int .i64 v]) (ok := fun _ => True) (okp := fun _ => True) ?hr ?hp (fun _ hk => hk) trivial (Below.refl _ _) (Nat.le_refl _) (by simp) ?_; (case hd => rfl); (case hg => rfl); (case hr => first | (go_simp; done) | (go_simp; rfl)); (case hp => exact (Reps.one (show Kd.M (Kd.int .i64) _ _ _ v [.int .i64 v] from rfl) (Reps.none _ _)))
       intro s W1 ho hb hg_ hnew_
       clear hg_ hnew_
       have HX1 := b_fresh HX hb 11
       have HB1 := below_step HB hb
       refine hK.out _ _ ⟨(blk_cell HX1.1 2).trans rfl, (blk_cell HX1.1 3).trans rfl, (blk_cell HX1.1 4).trans rfl⟩ (fun hHeld => ?_)
       clear hK K
       have hN := ST0111 ((ow f W.heap.size 11), s, s2, s3, default, default, default) W1 ⟨HB1, HX1, (r_fresh HKY hb 11), (r_fresh HR2 hb 11), (r_fresh HR3 hb 11), (r_fresh HR4 hb 11), (r_lit f ho HB.size 11), (r_fresh HS2 hb 11), (r_fresh HS3 hb 11)⟩
       refine norm_ ?_ hN
       show _ = putAll _ _
       (first | (simp only [putAll, Act.put, List.setIfInBounds_toArray, List.set_cons_zero, List.set_cons_succ, i64_w, i32_w]; done) | (simp only [putAll, Act.put, List.setIfInBounds_toArray, List.set_cons_zero, List.set_cons_succ, i64_w, i32_w]; rfl))
     intro ST0011
     refine join_ (σ := (Nat → Nat) × Value × Value × Value × Value × Value × Value) 10 (bb 21 15599) (fun s_ => [(50, s_.2.1), (60, s_.2.2.2.1)]) (fun s_ w' => Below wo.heap.size wo w' ∧ (w'.heap[gb]? = some (.cells #[.slice Ak 1 ck, .int .i64 (1 + (i : Int)), v2, v3, v4] 30 (0, 0)) ∧ s_.1 gb = 9) ∧ Kd.R (Kd.int .i64) 3 w' wo.heap.size (fun k_ => s_.1 k_ = 0) (.slice Ak 1 ck) [4] ∧ Kd.R (Kd.int .i64) 3 w' wo.heap.size (fun k_ => s_.1 k_ = 2) v2 xs ∧ Kd.R (Kd.int .i64) 3 w' wo.heap.size (fun k_ => s_.1 k_ = 3) v3 xs ∧ Kd.R (Kd.int .i64) 3 w' wo.heap.size (fun k_ => s_.1 k_ = 4) v4 xs ∧ Kd.R (Kd.int .i64) 3 w' wo.heap.size (fun k_ => s_.1 k_ = 11) s_.2.1 [v] ∧ Kd.R (Kd.int .i64) 3 w' wo.heap.size (fun k_ => s_.1 k_ = 13) s_.2.2.2.1 [v]) ?_ ?_
     ·rintro ⟨f, s1, s2, s3, u2, u3, u4⟩ W ⟨HB, HX, HKY, HR2, HR3, HR4, HS1, HS3⟩
      dsimp only at *
      refine norm_ (a' := ?_) ?_ ?_
      rotate_left
      ·show putAll _ _ = _
       (first | (simp only [putAll, Act.put, List.setIfInBounds_toArray, List.set_cons_zero, List.set_cons_succ, i64_w, i32_w]; done) | (simp only [putAll, Act.put, List.setIfInBounds_toArray, List.set_cons_zero, List.set_cons_succ, i64_w, i32_w]; rfl))
      refine two_ (i := 4) (j := 8) (Ni := some 51) (Nj := some 55) (bb 21 15615) (bb 21 15855) rfl rfl rfl rfl (two_of HT_.out (by kernel_rfl)) (by decide) (by decide) (fun K hK => ?_) (fun K hK => ?_)
      ·obtain ⟨As, cs, rfl⟩ := Kd.R_slice HS1
       refine Kd.R_append_rows_step (Kd.int .i64) (w0 := wo) wo.heap.size (by rfl) (.tmp 48) (.tmp 50) 22 3 (.int .i64 0) 8 rfl Try.underlying22 info3 rfl (by decide) (by omega) v2 xs [v] _ _ _ (fun k_ => ow f W.heap.size 2 k_ = 2) (fun _ => False) rfl rfl (r_same HR2 2) (Kd.R_reads' HS1).2.2 (fun _ _ h => h) (fun _ h => h.elim) (fun k_ hk => ow_new hk) HB HB.size ?aL ?_
       (case aL => have := HLJ.out; have := HLN.out; simp only [List.length_cons, List.length_nil]; omega)
       intro u W1 ho hb hg_ hat
       have HX1 := b_app HX HR2 (by decide) hg_ 2
       have HB1 := hb
       refine hK.out _ _ ⟨(blk_cell HX1.1 2).trans rfl, (blk_cell HX1.1 3).trans rfl, (blk_cell HX1.1 4).trans rfl⟩ (fun hHeld => ?_)
       clear hK K
       refine nm ?_
       refine pu (i := 15) (N := some 62) (bb 21 48383) HT_ ?_
       have hN := ST1101 ((ow f W.heap.size 2), (.slice As [v].length cs), default, s3, u, default, default) W1 ⟨HB1, HX1, (r_app HKY HR2 (by decide) hg_ 2), ho, (r_app HR3 HR2 (by decide) hg_ 2), (r_app HR4 HR2 (by decide) hg_ 2), (r_app HS3 HR2 (by decide) hg_ 2)⟩
       refine norm_ ?_ hN
       show _ = putAll _ _
       (first | (simp only [putAll, Act.put, List.setIfInBounds_toArray, List.set_cons_zero, List.set_cons_succ, i64_w, i32_w]; done) | (simp only [putAll, Act.put, List.setIfInBounds_toArray, List.set_cons_zero, List.set_cons_succ, i64_w, i32_w]; rfl))
      ·refine Kd.R_lit_step (Kd.int .i64) _ 3 ?hg (N := 55) ?hd (xs := ([v] : List Int)) (inner := [.int .i64 v]) (ok := fun _ => True) (okp := fun _ => True) ?hr ?hp (fun _ hk => hk) trivial (Below.refl _ _) (Nat.le_refl _) (by simp) ?_; (case hd => rfl); (case hg => rfl); (case hr => first | (go_simp; done) | (go_simp; rfl)); (case hp => exact (Reps.one (show Kd.M (Kd.int .i64) _ _ _ v [.int .i64 v] from rfl) (Reps.none _ _)))
       intro s W1 ho hb hg_ hnew_
       clear hg_ hnew_
       have HX1 := b_fresh HX hb 12
       have HB1 := below_step HB hb
       refine hK.out _ _ ⟨(blk_cell HX1.1 2).trans rfl, (blk_cell HX1.1 3).trans rfl, (blk_cell HX1.1 4).trans rfl⟩ (fun hHeld => ?_)
       clear hK K
       have hN := ST0111 ((ow f W.heap.size 12), s1, s, s3, default, default, default) W1 ⟨HB1, HX1, (r_fresh HKY hb 12), (r_fresh HR2 hb 12), (r_fresh HR3 hb 12), (r_fresh HR4 hb 12), (r_fresh HS1 hb 12), (r_lit f ho HB.size 12), (r_fresh HS3 hb 12)⟩
       refine norm_ ?_ hN
       show _ = putAll _ _
       (first | (simp only [putAll, Act.put, List.setIfInBounds_toArray, List.set_cons_zero, List.set_cons_succ, i64_w, i32_w]; done) | (simp only [putAll, Act.put, List.setIfInBounds_toArray, List.set_cons_zero, List.set_cons_succ, i64_w, i32_w]; rfl))
     intro ST0101
     refine join_ (σ := (Nat → Nat) × Value × Value × Value × Value × Value × Value) 10 (bb 21 7663) (fun s_ => [(50, s_.2.1), (55, s_.2.2.1)]) (fun s_ w' => Below wo.heap.size wo w' ∧ (w'.heap[gb]? = some (.cells #[.slice Ak 1 ck, .int .i64 (1 + (i : Int)), v2, v3, v4] 30 (0, 0)) ∧ s_.1 gb = 9) ∧ Kd.R (Kd.int .i64) 3 w' wo.heap.size (fun k_ => s_.1 k_ = 0) (.slice Ak 1 ck) [4] ∧ Kd.R (Kd.int .i64) 3 w' wo.heap.size (fun k_ => s_.1 k_ = 2) v2 xs ∧ Kd.R (Kd.int .i64) 3 w' wo.heap.size (fun k_ => s_.1 k_ = 3) v3 xs ∧ Kd.R (Kd.int .i64) 3 w' wo.heap.size (fun k_ => s_.1 k_ = 4) v4 xs ∧ Kd.R (Kd.int .i64) 3 w' wo.heap.size (fun k_ => s_.1 k_ = 11) s_.2.1 [v] ∧ Kd.R (Kd.int .i64) 3 w' wo.heap.size (fun k_ => s_.1 k_ = 12) s_.2.2.1 [v]) ?_ ?_
     ·rintro ⟨f, s1, s2, s3, u2, u3, u4⟩ W ⟨HB, HX, HKY, HR2, HR3, HR4, HS1, HS2⟩
      dsimp only at *
      refine norm_ (a' := ?_) ?_ ?_
      rotate_left
      ·show putAll _ _ = _
       (first | (simp only [putAll, Act.put, List.setIfInBounds_toArray, List.set_cons_zero, List.set_cons_succ, i64_w, i32_w]; done) | (simp only [putAll, Act.put, List.setIfInBounds_toArray, List.set_cons_zero, List.set_cons_succ, i64_w, i32_w]; rfl))
      refine two_ (i := 4) (j := 13) (Ni := some 51) (Nj := some 60) (bb 21 7679) (bb 21 15855) rfl rfl rfl rfl (two_of HT_.out (by kernel_rfl)) (by decide) (by decide) (fun K hK => ?_) (fun K hK => ?_)
      ·obtain ⟨As, cs, rfl⟩ := Kd.R_slice HS1
       refine Kd.R_append_rows_step (Kd.int .i64) (w0 := wo) wo.heap.size (by rfl) (.tmp 48) (.tmp 50) 22 3 (.int .i64 0) 8 rfl Try.underlying22 info3 rfl (by decide) (by omega) v2 xs [v] _ _ _ (fun k_ => ow f W.heap.size 2 k_ = 2) (fun _ => False) rfl rfl (r_same HR2 2) (Kd.R_reads' HS1).2.2 (fun _ _ h => h) (fun _ h => h.elim) (fun k_ hk => ow_new hk) HB HB.size ?aL ?_
       (case aL => have := HLJ.out; have := HLN.out; simp only [List.length_cons, List.length_nil]; omega)
       intro u W1 ho hb hg_ hat
       have HX1 := b_app HX HR2 (by decide) hg_ 2
       have HB1 := hb
       refine hK.out _ _ ⟨(blk_cell HX1.1 2).trans rfl, (blk_cell HX1.1 3).trans rfl, (blk_cell HX1.1 4).trans rfl⟩ (fun hHeld => ?_)
       clear hK K
       refine nm ?_
       refine pu (i := 15) (N := some 62) (bb 21 40447) HT_ ?_
       have hN := ST1110 ((ow f W.heap.size 2), (.slice As [v].length cs), s2, default, u, default, default) W1 ⟨HB1, HX1, (r_app HKY HR2 (by decide) hg_ 2), ho, (r_app HR3 HR2 (by decide) hg_ 2), (r_app HR4 HR2 (by decide) hg_ 2), (r_app HS2 HR2 (by decide) hg_ 2)⟩
       refine norm_ ?_ hN
       show _ = putAll _ _
       (first | (simp only [putAll, Act.put, List.setIfInBounds_toArray, List.set_cons_zero, List.set_cons_succ, i64_w, i32_w]; done) | (simp only [putAll, Act.put, List.setIfInBounds_toArray, List.set_cons_zero, List.set_cons_succ, i64_w, i32_w]; rfl))
      ·refine Kd.R_lit_step (Kd.int .i64) _ 3 ?hg (N := 60) ?hd (xs := ([v] : List Int)) (inner := [.int .i64 v]) (ok := fun _ => True) (okp := fun _ => True) ?hr ?hp (fun _ hk => hk) trivial (Below.refl _ _) (Nat.le_refl _) (by simp) ?_; (case hd => rfl); (case hg => rfl); (case hr => first | (go_simp; done) | (go_simp; rfl)); (case hp => exact (Reps.one (show Kd.M (Kd.int .i64) _ _ _ v [.int .i64 v] from rfl) (Reps.none _ _)))
       intro s W1 ho hb hg_ hnew_
       clear hg_ hnew_
       have HX1 := b_fresh HX hb 13
       have HB1 := below_step HB hb
       refine hK.out _ _ ⟨(blk_cell HX1.1 2).trans rfl, (blk_cell HX1.1 3).trans rfl, (blk_cell HX1.1 4).trans rfl⟩ (fun hHeld => ?_)
       clear hK K
       have hN := ST0111 ((ow f W.heap.size 13), s1, s2, s, default, default, default) W1 ⟨HB1, HX1, (r_fresh HKY hb 13), (r_fresh HR2 hb 13), (r_fresh HR3 hb 13), (r_fresh HR4 hb 13), (r_fresh HS1 hb 13), (r_fresh HS2 hb 13), (r_lit f ho HB.size 13)⟩
       refine norm_ ?_ hN
       show _ = putAll _ _
       (first | (simp only [putAll, Act.put, List.setIfInBounds_toArray, List.set_cons_zero, List.set_cons_succ, i64_w, i32_w]; done) | (simp only [putAll, Act.put, List.setIfInBounds_toArray, List.set_cons_zero, List.set_cons_succ, i64_w, i32_w]; rfl))
     intro ST0110
     refine join_ (σ := (Nat → Nat) × Value × Value × Value × Value × Value × Value) 9 (bb 21 40191) (fun s_ => [(50, s_.2.1), (51, s_.2.2.2.2.1), (62, .pointer (some ⟨gb, 2, none⟩))]) (fun s_ w' => Below wo.heap.size wo w' ∧ (w'.heap[gb]? = some (.cells #[.slice Ak 1 ck, .int .i64 (1 + (i : Int)), v2, v3, v4] 30 (0, 0)) ∧ s_.1 gb = 9) ∧ Kd.R (Kd.int .i64) 3 w' wo.heap.size (fun k_ => s_.1 k_ = 0) (.slice Ak 1 ck) [4] ∧ Kd.R (Kd.int .i64) 3 w' wo.heap.size (fun k_ => s_.1 k_ = 2) s_.2.2.2.2.1 (xs ++ [v]) ∧ Kd.R (Kd.int .i64) 3 w' wo.heap.size (fun k_ => s_.1 k_ = 3) v3 xs ∧ Kd.R (Kd.int .i64) 3 w' wo.heap.size (fun k_ => s_.1 k_ = 4) v4 xs) ?_ ?_
     ·rintro ⟨f, s1, s2, s3, u2, u3, u4⟩ W ⟨HB, HX, HKY, HR2, HR3, HR4⟩
      dsimp only at *
      refine norm_ (a' := ?_) ?_ ?_
      rotate_left
      ·show putAll _ _ = _
       (first | (simp only [putAll, Act.put, List.setIfInBounds_toArray, List.set_cons_zero, List.set_cons_succ, i64_w, i32_w]; done) | (simp only [putAll, Act.put, List.setIfInBounds_toArray, List.set_cons_zero, List.set_cons_succ, i64_w, i32_w]; rfl))
      refine two_ (i := 8) (j := 13) (Ni := some 55) (Nj := some 60) (bb 21 40447) (bb 21 48383) rfl rfl rfl rfl (two_of HT_.out (by kernel_rfl)) (by decide) (by decide) (fun K hK => ?_) (fun K hK => ?_)
      ·refine Kd.R_lit_step (Kd.int .i64) _ 3 ?hg (N := 55) ?hd (xs := ([v] : List Int)) (inner := [.int .i64 v]) (ok := fun _ => True) (okp := fun _ => True) ?hr ?hp (fun _ hk => hk) trivial (Below.refl _ _) (Nat.le_refl _) (by simp) ?_; (case hd => rfl); (case hg => rfl); (case hr => first | (go_simp; done) | (go_simp; rfl)); (case hp => exact (Reps.one (show Kd.M (Kd.int .i64) _ _ _ v [.int .i64 v] from rfl) (Reps.none _ _)))
       intro s W1 ho hb hg_ hnew_
       clear hg_ hnew_
       have HX1 := b_fresh HX hb 12
       have HB1 := below_step HB hb
       refine hK.out _ _ ⟨(blk_cell HX1.1 2).trans rfl, (blk_cell HX1.1 3).trans rfl, (blk_cell HX1.1 4).trans rfl⟩ (fun hHeld => ?_)
       clear hK K
       have hN := ST1110 ((ow f W.heap.size 12), s1, s, default, u2, default, default) W1 ⟨HB1, HX1, (r_fresh HKY hb 12), (r_fresh HR2 hb 12), (r_fresh HR3 hb 12), (r_fresh HR4 hb 12), (r_lit f ho HB.size 12)⟩
       refine norm_ ?_ hN
       show _ = putAll _ _
       (first | (simp only [putAll, Act.put, List.setIfInBounds_toArray, List.set_cons_zero, List.set_cons_succ, i64_w, i32_w]; done) | (simp only [putAll, Act.put, List.setIfInBounds_toArray, List.set_cons_zero, List.set_cons_succ, i64_w, i32_w]; rfl))
      ·refine Kd.R_lit_step (Kd.int .i64) _ 3 ?hg (N := 60) ?hd (xs := ([v] : List Int)) (inner := [.int .i64 v]) (ok := fun _ => True) (okp := fun _ => True) ?hr ?hp (fun _ hk => hk) trivial (Below.refl _ _) (Nat.le_refl _) (by simp) ?_; (case hd => rfl); (case hg => rfl); (case hr => first | (go_simp; done) | (go_simp; rfl)); (case hp => exact (Reps.one (show Kd.M (Kd.int .i64) _ _ _ v [.int .i64 v] from rfl) (Reps.none _ _)))
       intro s W1 ho hb hg_ hnew_
       clear hg_ hnew_
       have HX1 := b_fresh HX hb 13
       have HB1 := below_step HB hb
       refine hK.out _ _ ⟨(blk_cell HX1.1 2).trans rfl, (blk_cell HX1.1 3).trans rfl, (blk_cell HX1.1 4).trans rfl⟩ (fun hHeld => ?_)
       clear hK K
       have hN := ST1101 ((ow f W.heap.size 13), s1, default, s, u2, default, default) W1 ⟨HB1, HX1, (r_fresh HKY hb 13), (r_fresh HR2 hb 13), (r_fresh HR3 hb 13), (r_fresh HR4 hb 13), (r_lit f ho HB.size 13)⟩
       refine norm_ ?_ hN
       show _ = putAll _ _
       (first | (simp only [putAll, Act.put, List.setIfInBounds_toArray, List.set_cons_zero, List.set_cons_succ, i64_w, i32_w]; done) | (simp only [putAll, Act.put, List.setIfInBounds_toArray, List.set_cons_zero, List.set_cons_succ, i64_w, i32_w]; rfl))
     intro ST1100
     refine join_ (σ := (Nat → Nat) × Value × Value × Value × Value × Value × Value) 11 (bb 21 15591) (fun s_ => [(60, s_.2.2.2.1)]) (fun s_ w' => Below wo.heap.size wo w' ∧ (w'.heap[gb]? = some (.cells #[.slice Ak 1 ck, .int .i64 (1 + (i : Int)), v2, v3, v4] 30 (0, 0)) ∧ s_.1 gb = 9) ∧ Kd.R (Kd.int .i64) 3 w' wo.heap.size (fun k_ => s_.1 k_ = 0) (.slice Ak 1 ck) [4] ∧ Kd.R (Kd.int .i64) 3 w' wo.heap.size (fun k_ => s_.1 k_ = 2) v2 xs ∧ Kd.R (Kd.int .i64) 3 w' wo.heap.size (fun k_ => s_.1 k_ = 3) v3 xs ∧ Kd.R (Kd.int .i64) 3 w' wo.heap.size (fun k_ => s_.1 k_ = 4) v4 xs ∧ Kd.R (Kd.int .i64) 3 w' wo.heap.size (fun k_ => s_.1 k_ = 13) s_.2.2.2.1 [v]) ?_ ?_
     ·rintro ⟨f, s1, s2, s3, u2, u3, u4⟩ W ⟨HB, HX, HKY, HR2, HR3, HR4, HS3⟩
      dsimp only at *
      refine norm_ (a' := ?_) ?_ ?_
      rotate_left
      ·show putAll _ _ = _
       (first | (simp only [putAll, Act.put, List.setIfInBounds_toArray, List.set_cons_zero, List.set_cons_succ, i64_w, i32_w]; done) | (simp only [putAll, Act.put, List.setIfInBounds_toArray, List.set_cons_zero, List.set_cons_succ, i64_w, i32_w]; rfl))
      refine two_ (i := 3) (j := 8) (Ni := some 50) (Nj := some 55) (bb 21 15599) (bb 21 15847) rfl rfl rfl rfl (two_of HT_.out (by kernel_rfl)) (by decide) (by decide) (fun K hK => ?_) (fun K hK => ?_)
      ·refine Kd.R_lit_step (Kd.int .i64) _ 3 ?hg (N := 50) ?hd (xs := ([v] : List Int)) (inner := [.int .i64 v]) (ok := fun _ => True) (okp := fun _ => True) ?hr ?hp (fun _ hk => hk) trivial (Below.refl _ _) (Nat.le_refl _) (by simp) ?_; (case hd => rfl); (case hg => rfl); (case hr => first | (go_simp; done) | (go_simp; rfl)); (case hp => exact (Reps.one (show Kd.M (Kd.int .i64) _ _ _ v [.int .i64 v] from rfl) (Reps.none _ _)))
       intro s W1 ho hb hg_ hnew_
       clear hg_ hnew_
       have HX1 := b_fresh HX hb 11
       have HB1 := below_step HB hb
       refine hK.out _ _ ⟨(blk_cell HX1.1 2).trans rfl, (blk_cell HX1.1 3).trans rfl, (blk_cell HX1.1 4).trans rfl⟩ (fun hHeld => ?_)
       clear hK K
       have hN := ST0101 ((ow f W.heap.size 11), s, default, s3, default, default, default) W1 ⟨HB1, HX1, (r_fresh HKY hb 11), (r_fresh HR2 hb 11), (r_fresh HR3 hb 11), (r_fresh HR4 hb 11), (r_lit f ho HB.size 11), (r_fresh HS3 hb 11)⟩
       refine norm_ ?_ hN
       show _ = putAll _ _
       (first | (simp only [putAll, Act.put, List.setIfInBounds_toArray, List.set_cons_zero, List.set_cons_succ, i64_w, i32_w]; done) | (simp only [putAll, Act.put, List.setIfInBounds_toArray, List.set_cons_zero, List.set_cons_succ, i64_w, i32_w]; rfl))
      ·refine Kd.R_lit_step (Kd.int .i64) _ 3 ?hg (N := 55) ?hd (xs := ([v] : List Int)) (inner := [.int .i64 v]) (ok := fun _ => True) (okp := fun _ => True) ?hr ?hp (fun _ hk => hk) trivial (Below.refl _ _) (Nat.le_refl _) (by simp) ?_; (case hd => rfl); (case hg => rfl); (case hr => first | (go_simp; done) | (go_simp; rfl)); (case hp => exact (Reps.one (show Kd.M (Kd.int .i64) _ _ _ v [.int .i64 v] from rfl) (Reps.none _ _)))
       intro s W1 ho hb hg_ hnew_
       clear hg_ hnew_
       have HX1 := b_fresh HX hb 12
       have HB1 := below_step HB hb
       refine hK.out _ _ ⟨(blk_cell HX1.1 2).trans rfl, (blk_cell HX1.1 3).trans rfl, (blk_cell HX1.1 4).trans rfl⟩ (fun hHeld => ?_)
       clear hK K
       have hN := ST0011 ((ow f W.heap.size 12), default, s, s3, default, default, default) W1 ⟨HB1, HX1, (r_fresh HKY hb 12), (r_fresh HR2 hb 12), (r_fresh HR3 hb 12), (r_fresh HR4 hb 12), (r_lit f ho HB.size 12), (r_fresh HS3 hb 12)⟩
       refine norm_ ?_ hN
       show _ = putAll _ _
       (first | (simp only [putAll, Act.put, List.setIfInBounds_toArray, List.set_cons_zero, List.set_cons_succ, i64_w, i32_w]; done) | (simp only [putAll, Act.put, List.setIfInBounds_toArray, List.set_cons_zero, List.set_cons_succ, i64_w, i32_w]; rfl))
     intro ST0001
     refine join_ (σ := (Nat → Nat) × Value × Value × Value × Value × Value × Value) 11 (bb 21 7655) (fun s_ => [(55, s_.2.2.1)]) (fun s_ w' => Below wo.heap.size wo w' ∧ (w'.heap[gb]? = some (.cells #[.slice Ak 1 ck, .int .i64 (1 + (i : Int)), v2, v3, v4] 30 (0, 0)) ∧ s_.1 gb = 9) ∧ Kd.R (Kd.int .i64) 3 w' wo.heap.size (fun k_ => s_.1 k_ = 0) (.slice Ak 1 ck) [4] ∧ Kd.R (Kd.int .i64) 3 w' wo.heap.size (fun k_ => s_.1 k_ = 2) v2 xs ∧ Kd.R (Kd.int .i64) 3 w' wo.heap.size (fun k_ => s_.1 k_ = 3) v3 xs ∧ Kd.R (Kd.int .i64) 3 w' wo.heap.size (fun k_ => s_.1 k_ = 4) v4 xs ∧ Kd.R (Kd.int .i64) 3 w' wo.heap.size (fun k_ => s_.1 k_ = 12) s_.2.2.1 [v]) ?_ ?_
     ·rintro ⟨f, s1, s2, s3, u2, u3, u4⟩ W ⟨HB, HX, HKY, HR2, HR3, HR4, HS2⟩
      dsimp only at *
      refine norm_ (a' := ?_) ?_ ?_
      rotate_left
      ·show putAll _ _ = _
       (first | (simp only [putAll, Act.put, List.setIfInBounds_toArray, List.set_cons_zero, List.set_cons_succ, i64_w, i32_w]; done) | (simp only [putAll, Act.put, List.setIfInBounds_toArray, List.set_cons_zero, List.set_cons_succ, i64_w, i32_w]; rfl))
      refine two_ (i := 3) (j := 13) (Ni := some 50) (Nj := some 60) (bb 21 7663) (bb 21 15847) rfl rfl rfl rfl (two_of HT_.out (by kernel_rfl)) (by decide) (by decide) (fun K hK => ?_) (fun K hK => ?_)
      ·refine Kd.R_lit_step (Kd.int .i64) _ 3 ?hg (N := 50) ?hd (xs := ([v] : List Int)) (inner := [.int .i64 v]) (ok := fun _ => True) (okp := fun _ => True) ?hr ?hp (fun _ hk => hk) trivial (Below.refl _ _) (Nat.le_refl _) (by simp) ?_; (case hd => rfl); (case hg => rfl); (case hr => first | (go_simp; done) | (go_simp; rfl)); (case hp => exact (Reps.one (show Kd.M (Kd.int .i64) _ _ _ v [.int .i64 v] from rfl) (Reps.none _ _)))
       intro s W1 ho hb hg_ hnew_
       clear hg_ hnew_
       have HX1 := b_fresh HX hb 11
       have HB1 := below_step HB hb
       refine hK.out _ _ ⟨(blk_cell HX1.1 2).trans rfl, (blk_cell HX1.1 3).trans rfl, (blk_cell HX1.1 4).trans rfl⟩ (fun hHeld => ?_)
       clear hK K
       have hN := ST0110 ((ow f W.heap.size 11), s, s2, default, default, default, default) W1 ⟨HB1, HX1, (r_fresh HKY hb 11), (r_fresh HR2 hb 11), (r_fresh HR3 hb 11), (r_fresh HR4 hb 11), (r_lit f ho HB.size 11), (r_fresh HS2 hb 11)⟩
       refine norm_ ?_ hN
       show _ = putAll _ _
       (first | (simp only [putAll, Act.put, List.setIfInBounds_toArray, List.set_cons_zero, List.set_cons_succ, i64_w, i32_w]; done) | (simp only [putAll, Act.put, List.setIfInBounds_toArray, List.set_cons_zero, List.set_cons_succ, i64_w, i32_w]; rfl))
      ·refine Kd.R_lit_step (Kd.int .i64) _ 3 ?hg (N := 60) ?hd (xs := ([v] : List Int)) (inner := [.int .i64 v]) (ok := fun _ => True) (okp := fun _ => True) ?hr ?hp (fun _ hk => hk) trivial (Below.refl _ _) (Nat.le_refl _) (by simp) ?_; (case hd => rfl); (case hg => rfl); (case hr => first | (go_simp; done) | (go_simp; rfl)); (case hp => exact (Reps.one (show Kd.M (Kd.int .i64) _ _ _ v [.int .i64 v] from rfl) (Reps.none _ _)))
       intro s W1 ho hb hg_ hnew_
       clear hg_ hnew_
       have HX1 := b_fresh HX hb 13
       have HB1 := below_step HB hb
       refine hK.out _ _ ⟨(blk_cell HX1.1 2).trans rfl, (blk_cell HX1.1 3).trans rfl, (blk_cell HX1.1 4).trans rfl⟩ (fun hHeld => ?_)
       clear hK K
       have hN := ST0011 ((ow f W.heap.size 13), default, s2, s, default, default, default) W1 ⟨HB1, HX1, (r_fresh HKY hb 13), (r_fresh HR2 hb 13), (r_fresh HR3 hb 13), (r_fresh HR4 hb 13), (r_fresh HS2 hb 13), (r_lit f ho HB.size 13)⟩
       refine norm_ ?_ hN
       show _ = putAll _ _
       (first | (simp only [putAll, Act.put, List.setIfInBounds_toArray, List.set_cons_zero, List.set_cons_succ, i64_w, i32_w]; done) | (simp only [putAll, Act.put, List.setIfInBounds_toArray, List.set_cons_zero, List.set_cons_succ, i64_w, i32_w]; rfl))
     intro ST0010
     refine join_ (σ := (Nat → Nat) × Value × Value × Value × Value × Value × Value) 11 (bb 21 7407) (fun s_ => [(50, s_.2.1)]) (fun s_ w' => Below wo.heap.size wo w' ∧ (w'.heap[gb]? = some (.cells #[.slice Ak 1 ck, .int .i64 (1 + (i : Int)), v2, v3, v4] 30 (0, 0)) ∧ s_.1 gb = 9) ∧ Kd.R (Kd.int .i64) 3 w' wo.heap.size (fun k_ => s_.1 k_ = 0) (.slice Ak 1 ck) [4] ∧ Kd.R (Kd.int .i64) 3 w' wo.heap.size (fun k_ => s_.1 k_ = 2) v2 xs ∧ Kd.R (Kd.int .i64) 3 w' wo.heap.size (fun k_ => s_.1 k_ = 3) v3 xs ∧ Kd.R (Kd.int .i64) 3 w' wo.heap.size (fun k_ => s_.1 k_ = 4) v4 xs ∧ Kd.R (Kd.int .i64) 3 w' wo.heap.size (fun k_ => s_.1 k_ = 11) s_.2.1 [v]) ?_ ?_
     ·rintro ⟨f, s1, s2, s3, u2, u3, u4⟩ W ⟨HB, HX, HKY, HR2, HR3, HR4, HS1⟩
      dsimp only at *
      refine norm_ (a' := ?_) ?_ ?_
      rotate_left
      ·show putAll _ _ = _
       (first | (simp only [putAll, Act.put, List.setIfInBounds_toArray, List.set_cons_zero, List.set_cons_succ, i64_w, i32_w]; done) | (simp only [putAll, Act.put, List.setIfInBounds_toArray, List.set_cons_zero, List.set_cons_succ, i64_w, i32_w]; rfl))
      refine three_ (i := 4) (j := 8) (k := 13) (Ni := some 51) (Nj := some 55) (Nk := some 60) (bb 21 7423) (bb 21 7663) (bb 21 15599) rfl rfl rfl rfl rfl rfl (three_of HT_.out (by kernel_rfl)) (by decide) (by decide) (by decide) (fun K hK => ?_) (fun K hK => ?_) (fun K hK => ?_)
      ·obtain ⟨As, cs, rfl⟩ := Kd.R_slice HS1
       refine Kd.R_append_rows_step (Kd.int .i64) (w0 := wo) wo.heap.size (by rfl) (.tmp 48) (.tmp 50) 22 3 (.int .i64 0) 8 rfl Try.underlying22 info3 rfl (by decide) (by omega) v2 xs [v] _ _ _ (fun k_ => ow f W.heap.size 2 k_ = 2) (fun _ => False) rfl rfl (r_same HR2 2) (Kd.R_reads' HS1).2.2 (fun _ _ h => h) (fun _ h => h.elim) (fun k_ hk => ow_new hk) HB HB.size ?aL ?_
       (case aL => have := HLJ.out; have := HLN.out; simp only [List.length_cons, List.length_nil]; omega)
       intro u W1 ho hb hg_ hat
       have HX1 := b_app HX HR2 (by decide) hg_ 2
       have HB1 := hb
       refine hK.out _ _ ⟨(blk_cell HX1.1 2).trans rfl, (blk_cell HX1.1 3).trans rfl, (blk_cell HX1.1 4).trans rfl⟩ (fun hHeld => ?_)
       clear hK K
       refine nm ?_
       refine pu (i := 15) (N := some 62) (bb 21 40191) HT_ ?_
       have hN := ST1100 ((ow f W.heap.size 2), (.slice As [v].length cs), default, default, u, default, default) W1 ⟨HB1, HX1, (r_app HKY HR2 (by decide) hg_ 2), ho, (r_app HR3 HR2 (by decide) hg_ 2), (r_app HR4 HR2 (by decide) hg_ 2)⟩
       refine norm_ ?_ hN
       show _ = putAll _ _
       (first | (simp only [putAll, Act.put, List.setIfInBounds_toArray, List.set_cons_zero, List.set_cons_succ, i64_w, i32_w]; done) | (simp only [putAll, Act.put, List.setIfInBounds_toArray, List.set_cons_zero, List.set_cons_succ, i64_w, i32_w]; rfl))
      ·refine Kd.R_lit_step (Kd.int .i64) _ 3 ?hg (N := 55) ?hd (xs := ([v] : List Int)) (inner := [.int .i64 v]) (ok := fun _ => True) (okp := fun _ => True) ?hr ?hp (fun _ hk => hk) trivial (Below.refl _ _) (Nat.le_refl _) (by simp) ?_; (case hd => rfl); (case hg => rfl); (case hr => first | (go_simp; done) | (go_simp; rfl)); (case hp => exact (Reps.one (show Kd.M (Kd.int .i64) _ _ _ v [.int .i64 v] from rfl) (Reps.none _ _)))
       intro s W1 ho hb hg_ hnew_
       clear hg_ hnew_
       have HX1 := b_fresh HX hb 12
       have HB1 := below_step HB hb
       refine hK.out _ _ ⟨(blk_cell HX1.1 2).trans rfl, (blk_cell HX1.1 3).trans rfl, (blk_cell HX1.1 4).trans rfl⟩ (fun hHeld => ?_)
       clear hK K
       have hN := ST0110 ((ow f W.heap.size 12), s1, s, default, default, default, default) W1 ⟨HB1, HX1, (r_fresh HKY hb 12), (r_fresh HR2 hb 12), (r_fresh HR3 hb 12), (r_fresh HR4 hb 12), (r_fresh HS1 hb 12), (r_lit f ho HB.size 12)⟩
       refine norm_ ?_ hN
       show _ = putAll _ _
       (first | (simp only [putAll, Act.put, List.setIfInBounds_toArray, List.set_cons_zero, List.set_cons_succ, i64_w, i32_w]; done) | (simp only [putAll, Act.put, List.setIfInBounds_toArray, List.set_cons_zero, List.set_cons_succ, i64_w, i32_w]; rfl))
      ·refine Kd.R_lit_step (Kd.int .i64) _ 3 ?hg (N := 60) ?hd (xs := ([v] : List Int)) (inner := [.int .i64 v]) (ok := fun _ => True) (okp := fun _ => True) ?hr ?hp (fun _ hk => hk) trivial (Below.refl _ _) (Nat.le_refl _) (by simp) ?_; (case hd => rfl); (case hg => rfl); (case hr => first | (go_simp; done) | (go_simp; rfl)); (case hp => exact (Reps.one (show Kd.M (Kd.int .i64) _ _ _ v [.int .i64 v] from rfl) (Reps.none _ _)))
       intro s W1 ho hb hg_ hnew_
       clear hg_ hnew_
       have HX1 := b_fresh HX hb 13
       have HB1 := below_step HB hb
       refine hK.out _ _ ⟨(blk_cell HX1.1 2).trans rfl, (blk_cell HX1.1 3).trans rfl, (blk_cell HX1.1 4).trans rfl⟩ (fun hHeld => ?_)
       clear hK K
       have hN := ST0101 ((ow f W.heap.size 13), s1, default, s, default, default, default) W1 ⟨HB1, HX1, (r_fresh HKY hb 13), (r_fresh HR2 hb 13), (r_fresh HR3 hb 13), (r_fresh HR4 hb 13), (r_fresh HS1 hb 13), (r_lit f ho HB.size 13)⟩
       refine norm_ ?_ hN
       show _ = putAll _ _
       (first | (simp only [putAll, Act.put, List.setIfInBounds_toArray, List.set_cons_zero, List.set_cons_succ, i64_w, i32_w]; done) | (simp only [putAll, Act.put, List.setIfInBounds_toArray, List.set_cons_zero, List.set_cons_succ, i64_w, i32_w]; rfl))
     intro ST0100
     obtain ⟨HB, HX, _, HKY, HR2, HR3, HR4⟩ := HT.out.drew
     generalize HWD : wr.drew = W at *
     refine three_ (i := 3) (j := 8) (k := 13) (Ni := some 50) (Nj := some 55) (Nk := some 60) (bb 21 7407) (bb 21 7655) (bb 21 15591) rfl rfl rfl rfl rfl rfl (three_of HT_.out (by kernel_rfl)) (by decide) (by decide) (by decide) (fun K hK => ?_) (fun K hK => ?_) (fun K hK => ?_)
     ·refine Kd.R_lit_step (Kd.int .i64) _ 3 ?hg (N := 50) ?hd (xs := ([v] : List Int)) (inner := [.int .i64 v]) (ok := fun _ => True) (okp := fun _ => True) ?hr ?hp (fun _ hk => hk) trivial (Below.refl _ _) (Nat.le_refl _) (by simp) ?_; (case hd => rfl); (case hg => rfl); (case hr => first | (go_simp; done) | (go_simp; rfl)); (case hp => exact (Reps.one (show Kd.M (Kd.int .i64) _ _ _ v [.int .i64 v] from rfl) (Reps.none _ _)))
      intro s W1 ho hb hg_ hnew_
      clear hg_ hnew_
      have HX1 := b_fresh HX hb 11
      have HB1 := below_step HB hb
      refine hK.out _ _ ⟨(blk_cell HX1.1 2).trans rfl, (blk_cell HX1.1 3).trans rfl, (blk_cell HX1.1 4).trans rfl⟩ (fun hHeld => ?_)
      clear hK K
      have hN := ST0100 ((ow f W.heap.size 11), s, default, default, default, default, default) W1 ⟨HB1, HX1, (r_fresh HKY hb 11), (r_fresh HR2 hb 11), (r_fresh HR3 hb 11), (r_fresh HR4 hb 11), (r_lit f ho HB.size 11)⟩
      refine norm_ ?_ hN
      show _ = putAll _ _
      (first | (simp only [putAll, Act.put, List.setIfInBounds_toArray, List.set_cons_zero, List.set_cons_succ, i64_w, i32_w]; done) | (simp only [putAll, Act.put, List.setIfInBounds_toArray, List.set_cons_zero, List.set_cons_succ, i64_w, i32_w]; rfl))
     ·refine Kd.R_lit_step (Kd.int .i64) _ 3 ?hg (N := 55) ?hd (xs := ([v] : List Int)) (inner := [.int .i64 v]) (ok := fun _ => True) (okp := fun _ => True) ?hr ?hp (fun _ hk => hk) trivial (Below.refl _ _) (Nat.le_refl _) (by simp) ?_; (case hd => rfl); (case hg => rfl); (case hr => first | (go_simp; done) | (go_simp; rfl)); (case hp => exact (Reps.one (show Kd.M (Kd.int .i64) _ _ _ v [.int .i64 v] from rfl) (Reps.none _ _)))
      intro s W1 ho hb hg_ hnew_
      clear hg_ hnew_
      have HX1 := b_fresh HX hb 12
      have HB1 := below_step HB hb
      refine hK.out _ _ ⟨(blk_cell HX1.1 2).trans rfl, (blk_cell HX1.1 3).trans rfl, (blk_cell HX1.1 4).trans rfl⟩ (fun hHeld => ?_)
      clear hK K
      have hN := ST0010 ((ow f W.heap.size 12), default, s, default, default, default, default) W1 ⟨HB1, HX1, (r_fresh HKY hb 12), (r_fresh HR2 hb 12), (r_fresh HR3 hb 12), (r_fresh HR4 hb 12), (r_lit f ho HB.size 12)⟩
      refine norm_ ?_ hN
      show _ = putAll _ _
      (first | (simp only [putAll, Act.put, List.setIfInBounds_toArray, List.set_cons_zero, List.set_cons_succ, i64_w, i32_w]; done) | (simp only [putAll, Act.put, List.setIfInBounds_toArray, List.set_cons_zero, List.set_cons_succ, i64_w, i32_w]; rfl))
     ·refine Kd.R_lit_step (Kd.int .i64) _ 3 ?hg (N := 60) ?hd (xs := ([v] : List Int)) (inner := [.int .i64 v]) (ok := fun _ => True) (okp := fun _ => True) ?hr ?hp (fun _ hk => hk) trivial (Below.refl _ _) (Nat.le_refl _) (by simp) ?_; (case hd => rfl); (case hg => rfl); (case hr => first | (go_simp; done) | (go_simp; rfl)); (case hp => exact (Reps.one (show Kd.M (Kd.int .i64) _ _ _ v [.int .i64 v] from rfl) (Reps.none _ _)))
      intro s W1 ho hb hg_ hnew_
      clear hg_ hnew_
      have HX1 := b_fresh HX hb 13
      have HB1 := below_step HB hb
      refine hK.out _ _ ⟨(blk_cell HX1.1 2).trans rfl, (blk_cell HX1.1 3).trans rfl, (blk_cell HX1.1 4).trans rfl⟩ (fun hHeld => ?_)
      clear hK K
      have hN := ST0001 ((ow f W.heap.size 13), default, default, s, default, default, default) W1 ⟨HB1, HX1, (r_fresh HKY hb 13), (r_fresh HR2 hb 13), (r_fresh HR3 hb 13), (r_fresh HR4 hb 13), (r_lit f ho HB.size 13)⟩
      refine norm_ ?_ hN
      show _ = putAll _ _
      (first | (simp only [putAll, Act.put, List.setIfInBounds_toArray, List.set_cons_zero, List.set_cons_succ, i64_w, i32_w]; done) | (simp only [putAll, Act.put, List.setIfInBounds_toArray, List.set_cons_zero, List.set_cons_succ, i64_w, i32_w]; rfl))
    rintro ⟨f, s1, s2, s3, u2, u3, u4⟩ W ⟨HB, HX, HKY, HR2, HR3, HR4⟩
    dsimp only at *
    refine norm_ (a' := ?_) ?_ ?_
    rotate_left
    ·show putAll _ _ = _
     (first | (simp only [putAll, Act.put, List.setIfInBounds_toArray, List.set_cons_zero, List.set_cons_succ, i64_w, i32_w]; done) | (simp only [putAll, Act.put, List.setIfInBounds_toArray, List.set_cons_zero, List.set_cons_succ, i64_w, i32_w]; rfl))
    obtain ⟨B2, d2, rfl⟩ := Kd.R_slice HR2
    obtain ⟨B3, d3, rfl⟩ := Kd.R_slice HR3
    obtain ⟨B4, d4, rfl⟩ := Kd.R_slice HR4
    refine last_ (i := 16) (N := none) (bb 21 131071) rfl rfl (one_of HT_.out (by kernel_rfl)) (by decide) (fun K hK => ?_)
    have K2 : ((W.setCells gb 2 [.slice B2 (xs ++ [v]).length d2])).heap[gb]? = some (.cells #[.slice Ak 1 ck, .int .i64 (1 + (i : Int)), .slice B2 (xs ++ [v]).length d2, v3, v4] 30 (0, 0)) := blk_put HX.1 2 _ rfl
    have K3 : (((W.setCells gb 2 [.slice B2 (xs ++ [v]).length d2]).setCells gb 3 [.slice B3 (xs ++ [v]).length d3])).heap[gb]? = some (.cells #[.slice Ak 1 ck, .int .i64 (1 + (i : Int)), .slice B2 (xs ++ [v]).length d2, .slice B3 (xs ++ [v]).length d3, v4] 30 (0, 0)) := blk_put K2 3 _ rfl
    have K4 : ((((W.setCells gb 2 [.slice B2 (xs ++ [v]).length d2]).setCells gb 3 [.slice B3 (xs ++ [v]).length d3]).setCells gb 4 [.slice B4 (xs ++ [v]).length d4])).heap[gb]? = some (.cells #[.slice Ak 1 ck, .int .i64 (1 + (i : Int)), .slice B2 (xs ++ [v]).length d2, .slice B3 (xs ++ [v]).length d3, .slice B4 (xs ++ [v]).length d4] 30 (0, 0)) := blk_put K3 4 _ rfl
    refine skip_ (w1 := (W.setCells gb 2 [.slice B2 (xs ++ [v]).length d2])) rfl rfl (box_runO (t := 22) (p := .tmp 62) (x := .tmp 51) rfl 2 HX.1 (by simp) rfl rfl rfl (by rfl) (by intro q_ hq_; rcases List.mem_singleton.1 hq_ with rfl; rfl)) ?_
    refine hK.out _ _ ?_
    clear hK K
    refine pu (i := 17) (N := some 63) (bb 21 262143) HT_ ?_
    refine last_ (i := 18) (N := none) (bb 21 524287) rfl rfl (one_of HT_.out (by kernel_rfl)) (by decide) (fun K hK => ?_)
    refine skip_ (w1 := ((W.setCells gb 2 [.slice B2 (xs ++ [v]).length d2]).setCells gb 3 [.slice B3 (xs ++ [v]).length d3])) rfl rfl (box_runO (t := 22) (p := .tmp 63) (x := .tmp 56) rfl 3 K2 (by simp) rfl rfl rfl (by rfl) (by intro q_ hq_; rcases List.mem_singleton.1 hq_ with rfl; rfl)) ?_
    refine hK.out _ _ ?_
    clear hK K
    refine pu (i := 19) (N := some 64) (bb 21 1048575) HT_ ?_
    refine last_ (i := 20) (N := none) (bb 21 2097151) rfl rfl (one_of HT_.out (by kernel_rfl)) (by decide) (fun K hK => ?_)
    refine skip_ (w1 := (((W.setCells gb 2 [.slice B2 (xs ++ [v]).length d2]).setCells gb 3 [.slice B3 (xs ++ [v]).length d3]).setCells gb 4 [.slice B4 (xs ++ [v]).length d4])) rfl rfl (box_runO (t := 22) (p := .tmp 64) (x := .tmp 61) rfl 4 K3 (by simp) rfl rfl rfl (by rfl) (by intro q_ hq_; rcases List.mem_singleton.1 hq_ with rfl; rfl)) ?_
    refine hK.out _ _ ?_
    clear hK K
    refine done_ (done_of HT_.out (by kernel_rfl)) ?_
    have HTN : Inn wo f gb (1 + (i : Int)) (.slice Ak 1 ck) (.slice B2 (xs ++ [v]).length d2) (.slice B3 (xs ++ [v]).length d3) (.slice B4 (xs ++ [v]).length d4) [4] (xs ++ [v]) (((W.setCells gb 2 [.slice B2 (xs ++ [v]).length d2]).setCells gb 3 [.slice B3 (xs ++ [v]).length d3]).setCells gb 4 [.slice B4 (xs ++ [v]).length d4]) := ⟨box_farO _ _ hgbb (box_farO _ _ hgbb (box_farO _ _ hgbb HB)), ⟨K4, HX.2⟩, hgbb, r_box (r_box (r_box HKY HX.2 (by decide) _ _) HX.2 (by decide) _ _) HX.2 (by decide) _ _, r_box (r_box (r_box HR2 HX.2 (by decide) _ _) HX.2 (by decide) _ _) HX.2 (by decide) _ _, r_box (r_box (r_box HR3 HX.2 (by decide) _ _) HX.2 (by decide) _ _) HX.2 (by decide) _ _, r_box (r_box (r_box HR4 HX.2 (by decide) _ _) HX.2 (by decide) _ _) HX.2 (by decide) _ _⟩
    generalize (((W.setCells gb 2 [.slice B2 (xs ++ [v]).length d2]).setCells gb 3 [.slice B3 (xs ++ [v]).length d3]).setCells gb 4 [.slice B4 (xs ++ [v]).length d4]) = wz at *
    have HT2 := am HTN
    clear HTN K2 K3 K4 HX HB HKY HR2 HR3 HR4
    go_wp2
    go_roundg k2
    case measure => omega
    case rel => exact ⟨j + 1, _, _, _, _, by first | rfl | simp [hwj], ⟨by have := HJ.out; have := HHJ.out; omega, by have := HHJ.out; omega⟩, ⟨by rw [HLS.out, ← HV.out]; exact HT2.out⟩⟩
   ·have hc3 : decide (3 * (i : Int) + (j : Int) < (l0.length : Int)) = false := decide_eq_false (by omega)
    have hv2 : (i : Int) - (j : Int) = v := by rw [hv, jV, if_neg hm]
    have HV := am hv
    have hw6 := hw5.trans hv2
    clear hm hv hv2
    go_wp2
    rw [hw6]
    have hgbb := HT.out.gbb
    have XB := HT.out.box.1
    have X2 := am ((blk_cell XB 2).trans rfl : wr.cell? ⟨gb, 2, none⟩ = some v2)
    have X3 := am ((blk_cell XB 3).trans rfl : wr.cell? ⟨gb, 3, none⟩ = some v3)
    have X4 := am ((blk_cell XB 4).trans rfl : wr.cell? ⟨gb, 4, none⟩ = some v4)
    clear XB
    refine start_ (n := 21) (S := fun w' => w'.cell? ⟨gb, 2, none⟩ = some v2 ∧ w'.cell? ⟨gb, 3, none⟩ = some v3 ∧ w'.cell? ⟨gb, 4, none⟩ = some v4) (ds := [16, 18, 20]) (bb 21 0) (by kernel_rfl) rfl rfl ⟨X2.out, X3.out, X4.out⟩ (fun hHeld => ?_)
    refine with_tabW hypercubelaw2_CellJoins.tab15 hypercubelaw2_CellJoins.bits15 (fun HT_ HW_ => ?_)
    refine pu (i := 0) (N := some 47) (bb 21 1) HT_ ?_
    refine tk (i := 1) (N := some 48) (bb 21 3) HT_ HW_ hHeld ?_
    refine pu (i := 2) (N := some 49) (bb 21 7) HT_ ?_
    refine pu (i := 5) (N := some 52) (bb 21 39) HT_ ?_
    refine tk (i := 6) (N := some 53) (bb 21 103) HT_ HW_ hHeld ?_
    refine pu (i := 7) (N := some 54) (bb 21 231) HT_ ?_
    refine pu (i := 10) (N := some 57) (bb 21 1255) HT_ ?_
    refine tk (i := 11) (N := some 58) (bb 21 3303) HT_ HW_ hHeld ?_
    refine pu (i := 12) (N := some 59) (bb 21 7399) HT_ ?_
    refine join_ (σ := (Nat → Nat) × Value × Value × Value × Value × Value × Value) 5 (bb 21 65535) (fun s_ => [(50, s_.2.1), (55, s_.2.2.1), (60, s_.2.2.2.1), (51, s_.2.2.2.2.1), (56, s_.2.2.2.2.2.1), (61, s_.2.2.2.2.2.2), (62, .pointer (some ⟨gb, 2, none⟩))]) (fun s_ w' => Below wo.heap.size wo w' ∧ (w'.heap[gb]? = some (.cells #[.slice Ak 1 ck, .int .i64 (1 + (i : Int)), v2, v3, v4] 30 (0, 0)) ∧ s_.1 gb = 9) ∧ Kd.R (Kd.int .i64) 3 w' wo.heap.size (fun k_ => s_.1 k_ = 0) (.slice Ak 1 ck) [4] ∧ Kd.R (Kd.int .i64) 3 w' wo.heap.size (fun k_ => s_.1 k_ = 2) s_.2.2.2.2.1 (xs ++ [v]) ∧ Kd.R (Kd.int .i64) 3 w' wo.heap.size (fun k_ => s_.1 k_ = 3) s_.2.2.2.2.2.1 (xs ++ [v]) ∧ Kd.R (Kd.int .i64) 3 w' wo.heap.size (fun k_ => s_.1 k_ = 4) s_.2.2.2.2.2.2 (xs ++ [v])) ?_ ?_
    rotate_left
    ·intro ST3111
     refine join_ (σ := (Nat → Nat) × Value × Value × Value × Value × Value × Value) 6 (bb 21 49151) (fun s_ => [(50, s_.2.1), (55, s_.2.2.1), (60, s_.2.2.2.1), (51, s_.2.2.2.2.1), (56, s_.2.2.2.2.2.1), (62, .pointer (some ⟨gb, 2, none⟩))]) (fun s_ w' => Below wo.heap.size wo w' ∧ (w'.heap[gb]? = some (.cells #[.slice Ak 1 ck, .int .i64 (1 + (i : Int)), v2, v3, v4] 30 (0, 0)) ∧ s_.1 gb = 9) ∧ Kd.R (Kd.int .i64) 3 w' wo.heap.size (fun k_ => s_.1 k_ = 0) (.slice Ak 1 ck) [4] ∧ Kd.R (Kd.int .i64) 3 w' wo.heap.size (fun k_ => s_.1 k_ = 2) s_.2.2.2.2.1 (xs ++ [v]) ∧ Kd.R (Kd.int .i64) 3 w' wo.heap.size (fun k_ => s_.1 k_ = 3) s_.2.2.2.2.2.1 (xs ++ [v]) ∧ Kd.R (Kd.int .i64) 3 w' wo.heap.size (fun k_ => s_.1 k_ = 4) v4 xs ∧ Kd.R (Kd.int .i64) 3 w' wo.heap.size (fun k_ => s_.1 k_ = 13) s_.2.2.2.1 [v]) ?_ ?_
     ·rintro ⟨f, s1, s2, s3, u2, u3, u4⟩ W ⟨HB, HX, HKY, HR2, HR3, HR4, HS3⟩
      dsimp only at *
      refine norm_ (a' := ?_) ?_ ?_
      rotate_left
      ·show putAll _ _ = _
       (first | (simp only [putAll, Act.put, List.setIfInBounds_toArray, List.set_cons_zero, List.set_cons_succ, i64_w, i32_w]; done) | (simp only [putAll, Act.put, List.setIfInBounds_toArray, List.set_cons_zero, List.set_cons_succ, i64_w, i32_w]; rfl))
      refine one_ (i := 14) (N := some 61) (bb 21 65535) rfl rfl (one_of HT_.out (by kernel_rfl)) (by decide) (fun K hK => ?_)
      ·obtain ⟨As, cs, rfl⟩ := Kd.R_slice HS3
       refine Kd.R_append_rows_step (Kd.int .i64) (w0 := wo) wo.heap.size (by rfl) (.tmp 58) (.tmp 60) 22 3 (.int .i64 0) 8 rfl Try.underlying22 info3 rfl (by decide) (by omega) v4 xs [v] _ _ _ (fun k_ => ow f W.heap.size 4 k_ = 4) (fun _ => False) rfl rfl (r_same HR4 4) (Kd.R_reads' HS3).2.2 (fun _ _ h => h) (fun _ h => h.elim) (fun k_ hk => ow_new hk) HB HB.size ?aL ?_
       (case aL => have := HLJ.out; have := HLN.out; simp only [List.length_cons, List.length_nil]; omega)
       intro u W1 ho hb hg_ hat
       have HX1 := b_app HX HR4 (by decide) hg_ 4
       have HB1 := hb
       refine hK.out _ _ ⟨(blk_cell HX1.1 2).trans rfl, (blk_cell HX1.1 3).trans rfl, (blk_cell HX1.1 4).trans rfl⟩ (fun hHeld => ?_)
       clear hK K
       have hN := ST3111 ((ow f W.heap.size 4), s1, s2, (.slice As [v].length cs), u2, u3, u) W1 ⟨HB1, HX1, (r_app HKY HR4 (by decide) hg_ 4), (r_app HR2 HR4 (by decide) hg_ 4), (r_app HR3 HR4 (by decide) hg_ 4), ho⟩
       refine norm_ ?_ hN
       show _ = putAll _ _
       (first | (simp only [putAll, Act.put, List.setIfInBounds_toArray, List.set_cons_zero, List.set_cons_succ, i64_w, i32_w]; done) | (simp only [putAll, Act.put, List.setIfInBounds_toArray, List.set_cons_zero, List.set_cons_succ, i64_w, i32_w]; rfl))
     intro ST2111
     refine join_ (σ := (Nat → Nat) × Value × Value × Value × Value × Value × Value) 7 (bb 21 48639) (fun s_ => [(50, s_.2.1), (55, s_.2.2.1), (60, s_.2.2.2.1), (51, s_.2.2.2.2.1), (62, .pointer (some ⟨gb, 2, none⟩))]) (fun s_ w' => Below wo.heap.size wo w' ∧ (w'.heap[gb]? = some (.cells #[.slice Ak 1 ck, .int .i64 (1 + (i : Int)), v2, v3, v4] 30 (0, 0)) ∧ s_.1 gb = 9) ∧ Kd.R (Kd.int .i64) 3 w' wo.heap.size (fun k_ => s_.1 k_ = 0) (.slice Ak 1 ck) [4] ∧ Kd.R (Kd.int .i64) 3 w' wo.heap.size (fun k_ => s_.1 k_ = 2) s_.2.2.2.2.1 (xs ++ [v]) ∧ Kd.R (Kd.int .i64) 3 w' wo.heap.size (fun k_ => s_.1 k_ = 3) v3 xs ∧ Kd.R (Kd.int .i64) 3 w' wo.heap.size (fun k_ => s_.1 k_ = 4) v4 xs ∧ Kd.R (Kd.int .i64) 3 w' wo.heap.size (fun k_ => s_.1 k_ = 12) s_.2.2.1 [v] ∧ Kd.R (Kd.int .i64) 3 w' wo.heap.size (fun k_ => s_.1 k_ = 13) s_.2.2.2.1 [v]) ?_ ?_
     ·rintro ⟨f, s1, s2, s3, u2, u3, u4⟩ W ⟨HB, HX, HKY, HR2, HR3, HR4, HS2, HS3⟩
      dsimp only at *
      refine norm_ (a' := ?_) ?_ ?_
      rotate_left
      ·show putAll _ _ = _
       (first | (simp only [putAll, Act.put, List.setIfInBounds_toArray, List.set_cons_zero, List.set_cons_succ, i64_w, i32_w]; done) | (simp only [putAll, Act.put, List.setIfInBounds_toArray, List.set_cons_zero, List.set_cons_succ, i64_w, i32_w]; rfl))
      refine one_ (i := 9) (N := some 56) (bb 21 49151) rfl rfl (one_of HT_.out (by kernel_rfl)) (by decide) (fun K hK => ?_)
      ·obtain ⟨As, cs, rfl⟩ := Kd.R_slice HS2
       refine Kd.R_append_rows_step (Kd.int .i64) (w0 := wo) wo.heap.size (by rfl) (.tmp 53) (.tmp 55) 22 3 (.int .i64 0) 8 rfl Try.underlying22 info3 rfl (by decide) (by omega) v3 xs [v] _ _ _ (fun k_ => ow f W.heap.size 3 k_ = 3) (fun _ => False) rfl rfl (r_same HR3 3) (Kd.R_reads' HS2).2.2 (fun _ _ h => h) (fun _ h => h.elim) (fun k_ hk => ow_new hk) HB HB.size ?aL ?_
       (case aL => have := HLJ.out; have := HLN.out; simp only [List.length_cons, List.length_nil]; omega)
       intro u W1 ho hb hg_ hat
       have HX1 := b_app HX HR3 (by decide) hg_ 3
       have HB1 := hb
       refine hK.out _ _ ⟨(blk_cell HX1.1 2).trans rfl, (blk_cell HX1.1 3).trans rfl, (blk_cell HX1.1 4).trans rfl⟩ (fun hHeld => ?_)
       clear hK K
       have hN := ST2111 ((ow f W.heap.size 3), s1, (.slice As [v].length cs), s3, u2, u, default) W1 ⟨HB1, HX1, (r_app HKY HR3 (by decide) hg_ 3), (r_app HR2 HR3 (by decide) hg_ 3), ho, (r_app HR4 HR3 (by decide) hg_ 3), (r_app HS3 HR3 (by decide) hg_ 3)⟩
       refine norm_ ?_ hN
       show _ = putAll _ _
       (first | (simp only [putAll, Act.put, List.setIfInBounds_toArray, List.set_cons_zero, List.set_cons_succ, i64_w, i32_w]; done) | (simp only [putAll, Act.put, List.setIfInBounds_toArray, List.set_cons_zero, List.set_cons_succ, i64_w, i32_w]; rfl))
     intro ST1111
     refine join_ (σ := (Nat → Nat) × Value × Value × Value × Value × Value × Value) 7 (bb 21 40959) (fun s_ => [(50, s_.2.1), (55, s_.2.2.1), (51, s_.2.2.2.2.1), (56, s_.2.2.2.2.2.1), (62, .pointer (some ⟨gb, 2, none⟩))]) (fun s_ w' => Below wo.heap.size wo w' ∧ (w'.heap[gb]? = some (.cells #[.slice Ak 1 ck, .int .i64 (1 + (i : Int)), v2, v3, v4] 30 (0, 0)) ∧ s_.1 gb = 9) ∧ Kd.R (Kd.int .i64) 3 w' wo.heap.size (fun k_ => s_.1 k_ = 0) (.slice Ak 1 ck) [4] ∧ Kd.R (Kd.int .i64) 3 w' wo.heap.size (fun k_ => s_.1 k_ = 2) s_.2.2.2.2.1 (xs ++ [v]) ∧ Kd.R (Kd.int .i64) 3 w' wo.heap.size (fun k_ => s_.1 k_ = 3) s_.2.2.2.2.2.1 (xs ++ [v]) ∧ Kd.R (Kd.int .i64) 3 w' wo.heap.size (fun k_ => s_.1 k_ = 4) v4 xs) ?_ ?_
     ·rintro ⟨f, s1, s2, s3, u2, u3, u4⟩ W ⟨HB, HX, HKY, HR2, HR3, HR4⟩
      dsimp only at *
      refine norm_ (a' := ?_) ?_ ?_
      rotate_left
      ·show putAll _ _ = _
       (first | (simp only [putAll, Act.put, List.setIfInBounds_toArray, List.set_cons_zero, List.set_cons_succ, i64_w, i32_w]; done) | (simp only [putAll, Act.put, List.setIfInBounds_toArray, List.set_cons_zero, List.set_cons_succ, i64_w, i32_w]; rfl))
      refine one_ (i := 13) (N := some 60) (bb 21 49151) rfl rfl (one_of HT_.out (by kernel_rfl)) (by decide) (fun K hK => ?_)
      ·refine Kd.R_lit_step (Kd.int .i64) _ 3 ?hg (N := 60) ?hd (xs := ([v] : List Int)) (inner := [.int .i64 v]) (ok := fun _ => True) (okp := fun _ => True) ?hr ?hp (fun _ hk => hk) trivial (Below.refl _ _) (Nat.le_refl _) (by simp) ?_; (case hd => rfl); (case hg => rfl); (case hr => first | (go_simp; done) | (go_simp; rfl)); (case hp => exact (Reps.one (show Kd.M (Kd.int .i64) _ _ _ v [.int .i64 v] from rfl) (Reps.none _ _)))
       intro s W1 ho hb hg_ hnew_
       clear hg_ hnew_
       have HX1 := b_fresh HX hb 13
       have HB1 := below_step HB hb
       refine hK.out _ _ ⟨(blk_cell HX1.1 2).trans rfl, (blk_cell HX1.1 3).trans rfl, (blk_cell HX1.1 4).trans rfl⟩ (fun hHeld => ?_)
       clear hK K
       have hN := ST2111 ((ow f W.heap.size 13), s1, s2, s, u2, u3, default) W1 ⟨HB1, HX1, (r_fresh HKY hb 13), (r_fresh HR2 hb 13), (r_fresh HR3 hb 13), (r_fresh HR4 hb 13), (r_lit f ho HB.size 13)⟩
       refine norm_ ?_ hN
       show _ = putAll _ _
       (first | (simp only [putAll, Act.put, List.setIfInBounds_toArray, List.set_cons_zero, List.set_cons_succ, i64_w, i32_w]; done) | (simp only [putAll, Act.put, List.setIfInBounds_toArray, List.set_cons_zero, List.set_cons_succ, i64_w, i32_w]; rfl))
     intro ST2110
     refine join_ (σ := (Nat → Nat) × Value × Value × Value × Value × Value × Value) 9 (bb 21 15855) (fun s_ => [(50, s_.2.1), (55, s_.2.2.1), (60, s_.2.2.2.1)]) (fun s_ w' => Below wo.heap.size wo w' ∧ (w'.heap[gb]? = some (.cells #[.slice Ak 1 ck, .int .i64 (1 + (i : Int)), v2, v3, v4] 30 (0, 0)) ∧ s_.1 gb = 9) ∧ Kd.R (Kd.int .i64) 3 w' wo.heap.size (fun k_ => s_.1 k_ = 0) (.slice Ak 1 ck) [4] ∧ Kd.R (Kd.int .i64) 3 w' wo.heap.size (fun k_ => s_.1 k_ = 2) v2 xs ∧ Kd.R (Kd.int .i64) 3 w' wo.heap.size (fun k_ => s_.1 k_ = 3) v3 xs ∧ Kd.R (Kd.int .i64) 3 w' wo.heap.size (fun k_ => s_.1 k_ = 4) v4 xs ∧ Kd.R (Kd.int .i64) 3 w' wo.heap.size (fun k_ => s_.1 k_ = 11) s_.2.1 [v] ∧ Kd.R (Kd.int .i64) 3 w' wo.heap.size (fun k_ => s_.1 k_ = 12) s_.2.2.1 [v] ∧ Kd.R (Kd.int .i64) 3 w' wo.heap.size (fun k_ => s_.1 k_ = 13) s_.2.2.2.1 [v]) ?_ ?_
     ·rintro ⟨f, s1, s2, s3, u2, u3, u4⟩ W ⟨HB, HX, HKY, HR2, HR3, HR4, HS1, HS2, HS3⟩
      dsimp only at *
      refine norm_ (a' := ?_) ?_ ?_
      rotate_left
      ·show putAll _ _ = _
       (first | (simp only [putAll, Act.put, List.setIfInBounds_toArray, List.set_cons_zero, List.set_cons_succ, i64_w, i32_w]; done) | (simp only [putAll, Act.put, List.setIfInBounds_toArray, List.set_cons_zero, List.set_cons_succ, i64_w, i32_w]; rfl))
      refine one_ (i := 4) (N := some 51) (bb 21 15871) rfl rfl (one_of HT_.out (by kernel_rfl)) (by decide) (fun K hK => ?_)
      ·obtain ⟨As, cs, rfl⟩ := Kd.R_slice HS1
       refine Kd.R_append_rows_step (Kd.int .i64) (w0 := wo) wo.heap.size (by rfl) (.tmp 48) (.tmp 50) 22 3 (.int .i64 0) 8 rfl Try.underlying22 info3 rfl (by decide) (by omega) v2 xs [v] _ _ _ (fun k_ => ow f W.heap.size 2 k_ = 2) (fun _ => False) rfl rfl (r_same HR2 2) (Kd.R_reads' HS1).2.2 (fun _ _ h => h) (fun _ h => h.elim) (fun k_ hk => ow_new hk) HB HB.size ?aL ?_
       (case aL => have := HLJ.out; have := HLN.out; simp only [List.length_cons, List.length_nil]; omega)
       intro u W1 ho hb hg_ hat
       have HX1 := b_app HX HR2 (by decide) hg_ 2
       have HB1 := hb
       refine hK.out _ _ ⟨(blk_cell HX1.1 2).trans rfl, (blk_cell HX1.1 3).trans rfl, (blk_cell HX1.1 4).trans rfl⟩ (fun hHeld => ?_)
       clear hK K
       refine nm ?_
       refine pu (i := 15) (N := some 62) (bb 21 48639) HT_ ?_
       have hN := ST1111 ((ow f W.heap.size 2), (.slice As [v].length cs), s2, s3, u, default, default) W1 ⟨HB1, HX1, (r_app HKY HR2 (by decide) hg_ 2), ho, (r_app HR3 HR2 (by decide) hg_ 2), (r_app HR4 HR2 (by decide) hg_ 2), (r_app HS2 HR2 (by decide) hg_ 2), (r_app HS3 HR2 (by decide) hg_ 2)⟩
       refine norm_ ?_ hN
       show _ = putAll _ _
       (first | (simp only [putAll, Act.put, List.setIfInBounds_toArray, List.set_cons_zero, List.set_cons_succ, i64_w, i32_w]; done) | (simp only [putAll, Act.put, List.setIfInBounds_toArray, List.set_cons_zero, List.set_cons_succ, i64_w, i32_w]; rfl))
     intro ST0111
     refine join_ (σ := (Nat → Nat) × Value × Value × Value × Value × Value × Value) 8 (bb 21 48383) (fun s_ => [(50, s_.2.1), (60, s_.2.2.2.1), (51, s_.2.2.2.2.1), (62, .pointer (some ⟨gb, 2, none⟩))]) (fun s_ w' => Below wo.heap.size wo w' ∧ (w'.heap[gb]? = some (.cells #[.slice Ak 1 ck, .int .i64 (1 + (i : Int)), v2, v3, v4] 30 (0, 0)) ∧ s_.1 gb = 9) ∧ Kd.R (Kd.int .i64) 3 w' wo.heap.size (fun k_ => s_.1 k_ = 0) (.slice Ak 1 ck) [4] ∧ Kd.R (Kd.int .i64) 3 w' wo.heap.size (fun k_ => s_.1 k_ = 2) s_.2.2.2.2.1 (xs ++ [v]) ∧ Kd.R (Kd.int .i64) 3 w' wo.heap.size (fun k_ => s_.1 k_ = 3) v3 xs ∧ Kd.R (Kd.int .i64) 3 w' wo.heap.size (fun k_ => s_.1 k_ = 4) v4 xs ∧ Kd.R (Kd.int .i64) 3 w' wo.heap.size (fun k_ => s_.1 k_ = 13) s_.2.2.2.1 [v]) ?_ ?_
     ·rintro ⟨f, s1, s2, s3, u2, u3, u4⟩ W ⟨HB, HX, HKY, HR2, HR3, HR4, HS3⟩
      dsimp only at *
      refine norm_ (a' := ?_) ?_ ?_
      rotate_left
      ·show putAll _ _ = _
       (first | (simp only [putAll, Act.put, List.setIfInBounds_toArray, List.set_cons_zero, List.set_cons_succ, i64_w, i32_w]; done) | (simp only [putAll, Act.put, List.setIfInBounds_toArray, List.set_cons_zero, List.set_cons_succ, i64_w, i32_w]; rfl))
      refine one_ (i := 8) (N := some 55) (bb 21 48639) rfl rfl (one_of HT_.out (by kernel_rfl)) (by decide) (fun K hK => ?_)
      ·refine Kd.R_lit_step (Kd.int .i64) _ 3 ?hg (N := 55) ?hd (xs := ([v] : List Int)) (inner := [.int .i64 v]) (ok := fun _ => True) (okp := fun _ => True) ?hr ?hp (fun _ hk => hk) trivial (Below.refl _ _) (Nat.le_refl _) (by simp) ?_; (case hd => rfl); (case hg => rfl); (case hr => first | (go_simp; done) | (go_simp; rfl)); (case hp => exact (Reps.one (show Kd.M (Kd.int .i64) _ _ _ v [.int .i64 v] from rfl) (Reps.none _ _)))
       intro s W1 ho hb hg_ hnew_
       clear hg_ hnew_
       have HX1 := b_fresh HX hb 12
       have HB1 := below_step HB hb
       refine hK.out _ _ ⟨(blk_cell HX1.1 2).trans rfl, (blk_cell HX1.1 3).trans rfl, (blk_cell HX1.1 4).trans rfl⟩ (fun hHeld => ?_)
       clear hK K
       have hN := ST1111 ((ow f W.heap.size 12), s1, s, s3, u2, default, default) W1 ⟨HB1, HX1, (r_fresh HKY hb 12), (r_fresh HR2 hb 12), (r_fresh HR3 hb 12), (r_fresh HR4 hb 12), (r_lit f ho HB.size 12), (r_fresh HS3 hb 12)⟩
       refine norm_ ?_ hN
       show _ = putAll _ _
       (first | (simp only [putAll, Act.put, List.setIfInBounds_toArray, List.set_cons_zero, List.set_cons_succ, i64_w, i32_w]; done) | (simp only [putAll, Act.put, List.setIfInBounds_toArray, List.set_cons_zero, List.set_cons_succ, i64_w, i32_w]; rfl))
     intro ST1101
     refine join_ (σ := (Nat → Nat) × Value × Value × Value × Value × Value × Value) 8 (bb 21 40447) (fun s_ => [(50, s_.2.1), (55, s_.2.2.1), (51, s_.2.2.2.2.1), (62, .pointer (some ⟨gb, 2, none⟩))]) (fun s_ w' => Below wo.heap.size wo w' ∧ (w'.heap[gb]? = some (.cells #[.slice Ak 1 ck, .int .i64 (1 + (i : Int)), v2, v3, v4] 30 (0, 0)) ∧ s_.1 gb = 9) ∧ Kd.R (Kd.int .i64) 3 w' wo.heap.size (fun k_ => s_.1 k_ = 0) (.slice Ak 1 ck) [4] ∧ Kd.R (Kd.int .i64) 3 w' wo.heap.size (fun k_ => s_.1 k_ = 2) s_.2.2.2.2.1 (xs ++ [v]) ∧ Kd.R (Kd.int .i64) 3 w' wo.heap.size (fun k_ => s_.1 k_ = 3) v3 xs ∧ Kd.R (Kd.int .i64) 3 w' wo.heap.size (fun k_ => s_.1 k_ = 4) v4 xs ∧ Kd.R (Kd.int .i64) 3 w' wo.heap.size (fun k_ => s_.1 k_ = 12) s_.2.2.1 [v]) ?_ ?_
     ·rintro ⟨f, s1, s2, s3, u2, u3, u4⟩ W ⟨HB, HX, HKY, HR2, HR3, HR4, HS2⟩
      dsimp only at *
      refine norm_ (a' := ?_) ?_ ?_
      rotate_left
      ·show putAll _ _ = _
       (first | (simp only [putAll, Act.put, List.setIfInBounds_toArray, List.set_cons_zero, List.set_cons_succ, i64_w, i32_w]; done) | (simp only [putAll, Act.put, List.setIfInBounds_toArray, List.set_cons_zero, List.set_cons_succ, i64_w, i32_w]; rfl))
      refine two_ (i := 9) (j := 13) (Ni := some 56) (Nj := some 60) (bb 21 40959) (bb 21 48639) rfl rfl rfl rfl (two_of HT_.out (by kernel_rfl)) (by decide) (by decide) (fun K hK => ?_) (fun K hK => ?_)
      ·obtain ⟨As, cs, rfl⟩ := Kd.R_slice HS2
       refine Kd.R_append_rows_step (Kd.int .i64) (w0 := wo) wo.heap.size (by rfl) (.tmp 53) (.tmp 55) 22 3 (.int .i64 0) 8 rfl Try.underlying22 info3 rfl (by decide) (by omega) v3 xs [v] _ _ _ (fun k_ => ow f W.heap.size 3 k_ = 3) (fun _ => False) rfl rfl (r_same HR3 3) (Kd.R_reads' HS2).2.2 (fun _ _ h => h) (fun _ h => h.elim) (fun k_ hk => ow_new hk) HB HB.size ?aL ?_
       (case aL => have := HLJ.out; have := HLN.out; simp only [List.length_cons, List.length_nil]; omega)
       intro u W1 ho hb hg_ hat
       have HX1 := b_app HX HR3 (by decide) hg_ 3
       have HB1 := hb
       refine hK.out _ _ ⟨(blk_cell HX1.1 2).trans rfl, (blk_cell HX1.1 3).trans rfl, (blk_cell HX1.1 4).trans rfl⟩ (fun hHeld => ?_)
       clear hK K
       have hN := ST2110 ((ow f W.heap.size 3), s1, (.slice As [v].length cs), default, u2, u, default) W1 ⟨HB1, HX1, (r_app HKY HR3 (by decide) hg_ 3), (r_app HR2 HR3 (by decide) hg_ 3), ho, (r_app HR4 HR3 (by decide) hg_ 3)⟩
       refine norm_ ?_ hN
       show _ = putAll _ _
       (first | (simp only [putAll, Act.put, List.setIfInBounds_toArray, List.set_cons_zero, List.set_cons_succ, i64_w, i32_w]; done) | (simp only [putAll, Act.put, List.setIfInBounds_toArray, List.set_cons_zero, List.set_cons_succ, i64_w, i32_w]; rfl))
      ·refine Kd.R_lit_step (Kd.int .i64) _ 3 ?hg (N := 60) ?hd (xs := ([v] : List Int)) (inner := [.int .i64 v]) (ok := fun _ => True) (okp := fun _ => True) ?hr ?hp (fun _ hk => hk) trivial (Below.refl _ _) (Nat.le_refl _) (by simp) ?_; (case hd => rfl); (case hg => rfl); (case hr => first | (go_simp; done) | (go_simp; rfl)); (case hp => exact (Reps.one (show Kd.M (Kd.int .i64) _ _ _ v [.int .i64 v] from rfl) (Reps.none _ _)))
       intro s W1 ho hb hg_ hnew_
       clear hg_ hnew_
       have HX1 := b_fresh HX hb 13
       have HB1 := below_step HB hb
       refine hK.out _ _ ⟨(blk_cell HX1.1 2).trans rfl, (blk_cell HX1.1 3).trans rfl, (blk_cell HX1.1 4).trans rfl⟩ (fun hHeld => ?_)
       clear hK K
       have hN := ST1111 ((ow f W.heap.size 13), s1, s2, s, u2, default, default) W1 ⟨HB1, HX1, (r_fresh HKY hb 13), (r_fresh HR2 hb 13), (r_fresh HR3 hb 13), (r_fresh HR4 hb 13), (r_fresh HS2 hb 13), (r_lit f ho HB.size 13)⟩
       refine norm_ ?_ hN
       show _ = putAll _ _
       (first | (simp only [putAll, Act.put, List.setIfInBounds_toArray, List.set_cons_zero, List.set_cons_succ, i64_w, i32_w]; done) | (simp only [putAll, Act.put, List.setIfInBounds_toArray, List.set_cons_zero, List.set_cons_succ, i64_w, i32_w]; rfl))
     intro ST1110
     refine join_ (σ := (Nat → Nat) × Value × Value × Value × Value × Value × Value) 10 (bb 21 15847) (fun s_ => [(55, s_.2.2.1), (60, s_.2.2.2.1)]) (fun s_ w' => Below wo.heap.size wo w' ∧ (w'.heap[gb]? = some (.cells #[.slice Ak 1 ck, .int .i64 (1 + (i : Int)), v2, v3, v4] 30 (0, 0)) ∧ s_.1 gb = 9) ∧ Kd.R (Kd.int .i64) 3 w' wo.heap.size (fun k_ => s_.1 k_ = 0) (.slice Ak 1 ck) [4] ∧ Kd.R (Kd.int .i64) 3 w' wo.heap.size (fun k_ => s_.1 k_ = 2) v2 xs ∧ Kd.R (Kd.int .i64) 3 w' wo.heap.size (fun k_ => s_.1 k_ = 3) v3 xs ∧ Kd.R (Kd.int .i64) 3 w' wo.heap.size (fun k_ => s_.1 k_ = 4) v4 xs ∧ Kd.R (Kd.int .i64) 3 w' wo.heap.size (fun k_ => s_.1 k_ = 12) s_.2.2.1 [v] ∧ Kd.R (Kd.int .i64) 3 w' wo.heap.size (fun k_ => s_.1 k_ = 13) s_.2.2.2.1 [v]) ?_ ?_
     ·rintro ⟨f, s1, s2, s3, u2, u3, u4⟩ W ⟨HB, HX, HKY, HR2, HR3, HR4, HS2, HS3⟩
      dsimp only at *
      refine norm_ (a' := ?_) ?_ ?_
      rotate_left
      ·show putAll _ _ = _
       (first | (simp only [putAll, Act.put, List.setIfInBounds_toArray, List.set_cons_zero, List.set_cons_succ, i64_w, i32_w]; done) | (simp only [putAll, Act.put, List.setIfInBounds_toArray, List.set_cons_zero, List.set_cons_succ, i64_w, i32_w]; rfl))
      refine one_ (i := 3) (N := some 50) (bb 21 15855) rfl rfl (one_of HT_.out (by kernel_rfl)) (by decide) (fun K hK => ?_)
      ·refine Kd.R_lit_step (Kd.int .i64) _ 3 ?hg (N := 50) ?hd (xs := ([v] : List Int)) (inner := [.int .i64 v]) (ok := fun _ => True) (okp := fun _ => True) ?hr ?hp (fun _ hk => hk) trivial (Below.refl _ _) (Nat.le_refl _) (by simp) ?_; (case hd => rfl); (case hg => rfl); (case hr => first | (go_simp; done) | (go_simp; rfl)); (case hp => exact (Reps.one (show Kd.M (Kd.int .i64) _ _ _ v [.int .i64 v] from rfl) (Reps.none _ _)))
       intro s W1 ho hb hg_ hnew_
       clear hg_ hnew_
       have HX1 := b_fresh HX hb 11
       have HB1 := below_step HB hb
       refine hK.out _ _ ⟨(blk_cell HX1.1 2).trans rfl, (blk_cell HX1.1 3).trans rfl, (blk_cell HX1.1 4).trans rfl⟩ (fun hHeld => ?_)
       clear hK K
       have hN := ST0111 ((ow f W.heap.size 11), s, s2, s3, default, default, default) W1 ⟨HB1, HX1, (r_fresh HKY hb 11), (r_fresh HR2 hb 11), (r_fresh HR3 hb 11), (r_fresh HR4 hb 11), (r_lit f ho HB.size 11), (r_fresh HS2 hb 11), (r_fresh HS3 hb 11)⟩
       refine norm_ ?_ hN
       show _ = putAll _ _
       (first | (simp only [putAll, Act.put, List.setIfInBounds_toArray, List.set_cons_zero, List.set_cons_succ, i64_w, i32_w]; done) | (simp only [putAll, Act.put, List.setIfInBounds_toArray, List.set_cons_zero, List.set_cons_succ, i64_w, i32_w]; rfl))
     intro ST0011
     refine join_ (σ := (Nat → Nat) × Value × Value × Value × Value × Value × Value) 10 (bb 21 15599) (fun s_ => [(50, s_.2.1), (60, s_.2.2.2.1)]) (fun s_ w' => Below wo.heap.size wo w' ∧ (w'.heap[gb]? = some (.cells #[.slice Ak 1 ck, .int .i64 (1 + (i : Int)), v2, v3, v4] 30 (0, 0)) ∧ s_.1 gb = 9) ∧ Kd.R (Kd.int .i64) 3 w' wo.heap.size (fun k_ => s_.1 k_ = 0) (.slice Ak 1 ck) [4] ∧ Kd.R (Kd.int .i64) 3 w' wo.heap.size (fun k_ => s_.1 k_ = 2) v2 xs ∧ Kd.R (Kd.int .i64) 3 w' wo.heap.size (fun k_ => s_.1 k_ = 3) v3 xs ∧ Kd.R (Kd.int .i64) 3 w' wo.heap.size (fun k_ => s_.1 k_ = 4) v4 xs ∧ Kd.R (Kd.int .i64) 3 w' wo.heap.size (fun k_ => s_.1 k_ = 11) s_.2.1 [v] ∧ Kd.R (Kd.int .i64) 3 w' wo.heap.size (fun k_ => s_.1 k_ = 13) s_.2.2.2.1 [v]) ?_ ?_
     ·rintro ⟨f, s1, s2, s3, u2, u3, u4⟩ W ⟨HB, HX, HKY, HR2, HR3, HR4, HS1, HS3⟩
      dsimp only at *
      refine norm_ (a' := ?_) ?_ ?_
      rotate_left
      ·show putAll _ _ = _
       (first | (simp only [putAll, Act.put, List.setIfInBounds_toArray, List.set_cons_zero, List.set_cons_succ, i64_w, i32_w]; done) | (simp only [putAll, Act.put, List.setIfInBounds_toArray, List.set_cons_zero, List.set_cons_succ, i64_w, i32_w]; rfl))
      refine two_ (i := 4) (j := 8) (Ni := some 51) (Nj := some 55) (bb 21 15615) (bb 21 15855) rfl rfl rfl rfl (two_of HT_.out (by kernel_rfl)) (by decide) (by decide) (fun K hK => ?_) (fun K hK => ?_)
      ·obtain ⟨As, cs, rfl⟩ := Kd.R_slice HS1
       refine Kd.R_append_rows_step (Kd.int .i64) (w0 := wo) wo.heap.size (by rfl) (.tmp 48) (.tmp 50) 22 3 (.int .i64 0) 8 rfl Try.underlying22 info3 rfl (by decide) (by omega) v2 xs [v] _ _ _ (fun k_ => ow f W.heap.size 2 k_ = 2) (fun _ => False) rfl rfl (r_same HR2 2) (Kd.R_reads' HS1).2.2 (fun _ _ h => h) (fun _ h => h.elim) (fun k_ hk => ow_new hk) HB HB.size ?aL ?_
       (case aL => have := HLJ.out; have := HLN.out; simp only [List.length_cons, List.length_nil]; omega)
       intro u W1 ho hb hg_ hat
       have HX1 := b_app HX HR2 (by decide) hg_ 2
       have HB1 := hb
       refine hK.out _ _ ⟨(blk_cell HX1.1 2).trans rfl, (blk_cell HX1.1 3).trans rfl, (blk_cell HX1.1 4).trans rfl⟩ (fun hHeld => ?_)
       clear hK K
       refine nm ?_
       refine pu (i := 15) (N := some 62) (bb 21 48383) HT_ ?_
       have hN := ST1101 ((ow f W.heap.size 2), (.slice As [v].length cs), default, s3, u, default, default) W1 ⟨HB1, HX1, (r_app HKY HR2 (by decide) hg_ 2), ho, (r_app HR3 HR2 (by decide) hg_ 2), (r_app HR4 HR2 (by decide) hg_ 2), (r_app HS3 HR2 (by decide) hg_ 2)⟩
       refine norm_ ?_ hN
       show _ = putAll _ _
       (first | (simp only [putAll, Act.put, List.setIfInBounds_toArray, List.set_cons_zero, List.set_cons_succ, i64_w, i32_w]; done) | (simp only [putAll, Act.put, List.setIfInBounds_toArray, List.set_cons_zero, List.set_cons_succ, i64_w, i32_w]; rfl))
      ·refine Kd.R_lit_step (Kd.int .i64) _ 3 ?hg (N := 55) ?hd (xs := ([v] : List Int)) (inner := [.int .i64 v]) (ok := fun _ => True) (okp := fun _ => True) ?hr ?hp (fun _ hk => hk) trivial (Below.refl _ _) (Nat.le_refl _) (by simp) ?_; (case hd => rfl); (case hg => rfl); (case hr => first | (go_simp; done) | (go_simp; rfl)); (case hp => exact (Reps.one (show Kd.M (Kd.int .i64) _ _ _ v [.int .i64 v] from rfl) (Reps.none _ _)))
       intro s W1 ho hb hg_ hnew_
       clear hg_ hnew_
       have HX1 := b_fresh HX hb 12
       have HB1 := below_step HB hb
       refine hK.out _ _ ⟨(blk_cell HX1.1 2).trans rfl, (blk_cell HX1.1 3).trans rfl, (blk_cell HX1.1 4).trans rfl⟩ (fun hHeld => ?_)
       clear hK K
       have hN := ST0111 ((ow f W.heap.size 12), s1, s, s3, default, default, default) W1 ⟨HB1, HX1, (r_fresh HKY hb 12), (r_fresh HR2 hb 12), (r_fresh HR3 hb 12), (r_fresh HR4 hb 12), (r_fresh HS1 hb 12), (r_lit f ho HB.size 12), (r_fresh HS3 hb 12)⟩
       refine norm_ ?_ hN
       show _ = putAll _ _
       (first | (simp only [putAll, Act.put, List.setIfInBounds_toArray, List.set_cons_zero, List.set_cons_succ, i64_w, i32_w]; done) | (simp only [putAll, Act.put, List.setIfInBounds_toArray, List.set_cons_zero, List.set_cons_succ, i64_w, i32_w]; rfl))
     intro ST0101
     refine join_ (σ := (Nat → Nat) × Value × Value × Value × Value × Value × Value) 10 (bb 21 7663) (fun s_ => [(50, s_.2.1), (55, s_.2.2.1)]) (fun s_ w' => Below wo.heap.size wo w' ∧ (w'.heap[gb]? = some (.cells #[.slice Ak 1 ck, .int .i64 (1 + (i : Int)), v2, v3, v4] 30 (0, 0)) ∧ s_.1 gb = 9) ∧ Kd.R (Kd.int .i64) 3 w' wo.heap.size (fun k_ => s_.1 k_ = 0) (.slice Ak 1 ck) [4] ∧ Kd.R (Kd.int .i64) 3 w' wo.heap.size (fun k_ => s_.1 k_ = 2) v2 xs ∧ Kd.R (Kd.int .i64) 3 w' wo.heap.size (fun k_ => s_.1 k_ = 3) v3 xs ∧ Kd.R (Kd.int .i64) 3 w' wo.heap.size (fun k_ => s_.1 k_ = 4) v4 xs ∧ Kd.R (Kd.int .i64) 3 w' wo.heap.size (fun k_ => s_.1 k_ = 11) s_.2.1 [v] ∧ Kd.R (Kd.int .i64) 3 w' wo.heap.size (fun k_ => s_.1 k_ = 12) s_.2.2.1 [v]) ?_ ?_
     ·rintro ⟨f, s1, s2, s3, u2, u3, u4⟩ W ⟨HB, HX, HKY, HR2, HR3, HR4, HS1, HS2⟩
      dsimp only at *
      refine norm_ (a' := ?_) ?_ ?_
      rotate_left
      ·show putAll _ _ = _
       (first | (simp only [putAll, Act.put, List.setIfInBounds_toArray, List.set_cons_zero, List.set_cons_succ, i64_w, i32_w]; done) | (simp only [putAll, Act.put, List.setIfInBounds_toArray, List.set_cons_zero, List.set_cons_succ, i64_w, i32_w]; rfl))
      refine two_ (i := 4) (j := 13) (Ni := some 51) (Nj := some 60) (bb 21 7679) (bb 21 15855) rfl rfl rfl rfl (two_of HT_.out (by kernel_rfl)) (by decide) (by decide) (fun K hK => ?_) (fun K hK => ?_)
      ·obtain ⟨As, cs, rfl⟩ := Kd.R_slice HS1
       refine Kd.R_append_rows_step (Kd.int .i64) (w0 := wo) wo.heap.size (by rfl) (.tmp 48) (.tmp 50) 22 3 (.int .i64 0) 8 rfl Try.underlying22 info3 rfl (by decide) (by omega) v2 xs [v] _ _ _ (fun k_ => ow f W.heap.size 2 k_ = 2) (fun _ => False) rfl rfl (r_same HR2 2) (Kd.R_reads' HS1).2.2 (fun _ _ h => h) (fun _ h => h.elim) (fun k_ hk => ow_new hk) HB HB.size ?aL ?_
       (case aL => have := HLJ.out; have := HLN.out; simp only [List.length_cons, List.length_nil]; omega)
       intro u W1 ho hb hg_ hat
       have HX1 := b_app HX HR2 (by decide) hg_ 2
       have HB1 := hb
       refine hK.out _ _ ⟨(blk_cell HX1.1 2).trans rfl, (blk_cell HX1.1 3).trans rfl, (blk_cell HX1.1 4).trans rfl⟩ (fun hHeld => ?_)
       clear hK K
       refine nm ?_
       refine pu (i := 15) (N := some 62) (bb 21 40447) HT_ ?_
       have hN := ST1110 ((ow f W.heap.size 2), (.slice As [v].length cs), s2, default, u, default, default) W1 ⟨HB1, HX1, (r_app HKY HR2 (by decide) hg_ 2), ho, (r_app HR3 HR2 (by decide) hg_ 2), (r_app HR4 HR2 (by decide) hg_ 2), (r_app HS2 HR2 (by decide) hg_ 2)⟩
       refine norm_ ?_ hN
       show _ = putAll _ _
       (first | (simp only [putAll, Act.put, List.setIfInBounds_toArray, List.set_cons_zero, List.set_cons_succ, i64_w, i32_w]; done) | (simp only [putAll, Act.put, List.setIfInBounds_toArray, List.set_cons_zero, List.set_cons_succ, i64_w, i32_w]; rfl))
      ·refine Kd.R_lit_step (Kd.int .i64) _ 3 ?hg (N := 60) ?hd (xs := ([v] : List Int)) (inner := [.int .i64 v]) (ok := fun _ => True) (okp := fun _ => True) ?hr ?hp (fun _ hk => hk) trivial (Below.refl _ _) (Nat.le_refl _) (by simp) ?_; (case hd => rfl); (case hg => rfl); (case hr => first | (go_simp; done) | (go_simp; rfl)); (case hp => exact (Reps.one (show Kd.M (Kd.int .i64) _ _ _ v [.int .i64 v] from rfl) (Reps.none _ _)))
       intro s W1 ho hb hg_ hnew_
       clear hg_ hnew_
       have HX1 := b_fresh HX hb 13
       have HB1 := below_step HB hb
       refine hK.out _ _ ⟨(blk_cell HX1.1 2).trans rfl, (blk_cell HX1.1 3).trans rfl, (blk_cell HX1.1 4).trans rfl⟩ (fun hHeld => ?_)
       clear hK K
       have hN := ST0111 ((ow f W.heap.size 13), s1, s2, s, default, default, default) W1 ⟨HB1, HX1, (r_fresh HKY hb 13), (r_fresh HR2 hb 13), (r_fresh HR3 hb 13), (r_fresh HR4 hb 13), (r_fresh HS1 hb 13), (r_fresh HS2 hb 13), (r_lit f ho HB.size 13)⟩
       refine norm_ ?_ hN
       show _ = putAll _ _
       (first | (simp only [putAll, Act.put, List.setIfInBounds_toArray, List.set_cons_zero, List.set_cons_succ, i64_w, i32_w]; done) | (simp only [putAll, Act.put, List.setIfInBounds_toArray, List.set_cons_zero, List.set_cons_succ, i64_w, i32_w]; rfl))
     intro ST0110
     refine join_ (σ := (Nat → Nat) × Value × Value × Value × Value × Value × Value) 9 (bb 21 40191) (fun s_ => [(50, s_.2.1), (51, s_.2.2.2.2.1), (62, .pointer (some ⟨gb, 2, none⟩))]) (fun s_ w' => Below wo.heap.size wo w' ∧ (w'.heap[gb]? = some (.cells #[.slice Ak 1 ck, .int .i64 (1 + (i : Int)), v2, v3, v4] 30 (0, 0)) ∧ s_.1 gb = 9) ∧ Kd.R (Kd.int .i64) 3 w' wo.heap.size (fun k_ => s_.1 k_ = 0) (.slice Ak 1 ck) [4] ∧ Kd.R (Kd.int .i64) 3 w' wo.heap.size (fun k_ => s_.1 k_ = 2) s_.2.2.2.2.1 (xs ++ [v]) ∧ Kd.R (Kd.int .i64) 3 w' wo.heap.size (fun k_ => s_.1 k_ = 3) v3 xs ∧ Kd.R (Kd.int .i64) 3 w' wo.heap.size (fun k_ => s_.1 k_ = 4) v4 xs) ?_ ?_
     ·rintro ⟨f, s1, s2, s3, u2, u3, u4⟩ W ⟨HB, HX, HKY, HR2, HR3, HR4⟩
      dsimp only at *
      refine norm_ (a' := ?_) ?_ ?_
      rotate_left
      ·show putAll _ _ = _
       (first | (simp only [putAll, Act.put, List.setIfInBounds_toArray, List.set_cons_zero, List.set_cons_succ, i64_w, i32_w]; done) | (simp only [putAll, Act.put, List.setIfInBounds_toArray, List.set_cons_zero, List.set_cons_succ, i64_w, i32_w]; rfl))
      refine two_ (i := 8) (j := 13) (Ni := some 55) (Nj := some 60) (bb 21 40447) (bb 21 48383) rfl rfl rfl rfl (two_of HT_.out (by kernel_rfl)) (by decide) (by decide) (fun K hK => ?_) (fun K hK => ?_)
      ·refine Kd.R_lit_step (Kd.int .i64) _ 3 ?hg (N := 55) ?hd (xs := ([v] : List Int)) (inner := [.int .i64 v]) (ok := fun _ => True) (okp := fun _ => True) ?hr ?hp (fun _ hk => hk) trivial (Below.refl _ _) (Nat.le_refl _) (by simp) ?_; (case hd => rfl); (case hg => rfl); (case hr => first | (go_simp; done) | (go_simp; rfl)); (case hp => exact (Reps.one (show Kd.M (Kd.int .i64) _ _ _ v [.int .i64 v] from rfl) (Reps.none _ _)))
       intro s W1 ho hb hg_ hnew_
       clear hg_ hnew_
       have HX1 := b_fresh HX hb 12
       have HB1 := below_step HB hb
       refine hK.out _ _ ⟨(blk_cell HX1.1 2).trans rfl, (blk_cell HX1.1 3).trans rfl, (blk_cell HX1.1 4).trans rfl⟩ (fun hHeld => ?_)
       clear hK K
       have hN := ST1110 ((ow f W.heap.size 12), s1, s, default, u2, default, default) W1 ⟨HB1, HX1, (r_fresh HKY hb 12), (r_fresh HR2 hb 12), (r_fresh HR3 hb 12), (r_fresh HR4 hb 12), (r_lit f ho HB.size 12)⟩
       refine norm_ ?_ hN
       show _ = putAll _ _
       (first | (simp only [putAll, Act.put, List.setIfInBounds_toArray, List.set_cons_zero, List.set_cons_succ, i64_w, i32_w]; done) | (simp only [putAll, Act.put, List.setIfInBounds_toArray, List.set_cons_zero, List.set_cons_succ, i64_w, i32_w]; rfl))
      ·refine Kd.R_lit_step (Kd.int .i64) _ 3 ?hg (N := 60) ?hd (xs := ([v] : List Int)) (inner := [.int .i64 v]) (ok := fun _ => True) (okp := fun _ => True) ?hr ?hp (fun _ hk => hk) trivial (Below.refl _ _) (Nat.le_refl _) (by simp) ?_; (case hd => rfl); (case hg => rfl); (case hr => first | (go_simp; done) | (go_simp; rfl)); (case hp => exact (Reps.one (show Kd.M (Kd.int .i64) _ _ _ v [.int .i64 v] from rfl) (Reps.none _ _)))
       intro s W1 ho hb hg_ hnew_
       clear hg_ hnew_
       have HX1 := b_fresh HX hb 13
       have HB1 := below_step HB hb
       refine hK.out _ _ ⟨(blk_cell HX1.1 2).trans rfl, (blk_cell HX1.1 3).trans rfl, (blk_cell HX1.1 4).trans rfl⟩ (fun hHeld => ?_)
       clear hK K
       have hN := ST1101 ((ow f W.heap.size 13), s1, default, s, u2, default, default) W1 ⟨HB1, HX1, (r_fresh HKY hb 13), (r_fresh HR2 hb 13), (r_fresh HR3 hb 13), (r_fresh HR4 hb 13), (r_lit f ho HB.size 13)⟩
       refine norm_ ?_ hN
       show _ = putAll _ _
       (first | (simp only [putAll, Act.put, List.setIfInBounds_toArray, List.set_cons_zero, List.set_cons_succ, i64_w, i32_w]; done) | (simp only [putAll, Act.put, List.setIfInBounds_toArray, List.set_cons_zero, List.set_cons_succ, i64_w, i32_w]; rfl))
     intro ST1100
     refine join_ (σ := (Nat → Nat) × Value × Value × Value × Value × Value × Value) 11 (bb 21 15591) (fun s_ => [(60, s_.2.2.2.1)]) (fun s_ w' => Below wo.heap.size wo w' ∧ (w'.heap[gb]? = some (.cells #[.slice Ak 1 ck, .int .i64 (1 + (i : Int)), v2, v3, v4] 30 (0, 0)) ∧ s_.1 gb = 9) ∧ Kd.R (Kd.int .i64) 3 w' wo.heap.size (fun k_ => s_.1 k_ = 0) (.slice Ak 1 ck) [4] ∧ Kd.R (Kd.int .i64) 3 w' wo.heap.size (fun k_ => s_.1 k_ = 2) v2 xs ∧ Kd.R (Kd.int .i64) 3 w' wo.heap.size (fun k_ => s_.1 k_ = 3) v3 xs ∧ Kd.R (Kd.int .i64) 3 w' wo.heap.size (fun k_ => s_.1 k_ = 4) v4 xs ∧ Kd.R (Kd.int .i64) 3 w' wo.heap.size (fun k_ => s_.1 k_ = 13) s_.2.2.2.1 [v]) ?_ ?_
     ·rintro ⟨f, s1, s2, s3, u2, u3, u4⟩ W ⟨HB, HX, HKY, HR2, HR3, HR4, HS3⟩
      dsimp only at *
      refine norm_ (a' := ?_) ?_ ?_
      rotate_left
      ·show putAll _ _ = _
       (first | (simp only [putAll, Act.put, List.setIfInBounds_toArray, List.set_cons_zero, List.set_cons_succ, i64_w, i32_w]; done) | (simp only [putAll, Act.put, List.setIfInBounds_toArray, List.set_cons_zero, List.set_cons_succ, i64_w, i32_w]; rfl))
      refine two_ (i := 3) (j := 8) (Ni := some 50) (Nj := some 55) (bb 21 15599) (bb 21 15847) rfl rfl rfl rfl (two_of HT_.out (by kernel_rfl)) (by decide) (by decide) (fun K hK => ?_) (fun K hK => ?_)
      ·refine Kd.R_lit_step (Kd.int .i64) _ 3 ?hg (N := 50) ?hd (xs := ([v] : List Int)) (inner := [.int .i64 v]) (ok := fun _ => True) (okp := fun _ => True) ?hr ?hp (fun _ hk => hk) trivial (Below.refl _ _) (Nat.le_refl _) (by simp) ?_; (case hd => rfl); (case hg => rfl); (case hr => first | (go_simp; done) | (go_simp; rfl)); (case hp => exact (Reps.one (show Kd.M (Kd.int .i64) _ _ _ v [.int .i64 v] from rfl) (Reps.none _ _)))
       intro s W1 ho hb hg_ hnew_
       clear hg_ hnew_
       have HX1 := b_fresh HX hb 11
       have HB1 := below_step HB hb
       refine hK.out _ _ ⟨(blk_cell HX1.1 2).trans rfl, (blk_cell HX1.1 3).trans rfl, (blk_cell HX1.1 4).trans rfl⟩ (fun hHeld => ?_)
       clear hK K
       have hN := ST0101 ((ow f W.heap.size 11), s, default, s3, default, default, default) W1 ⟨HB1, HX1, (r_fresh HKY hb 11), (r_fresh HR2 hb 11), (r_fresh HR3 hb 11), (r_fresh HR4 hb 11), (r_lit f ho HB.size 11), (r_fresh HS3 hb 11)⟩
       refine norm_ ?_ hN
       show _ = putAll _ _
       (first | (simp only [putAll, Act.put, List.setIfInBounds_toArray, List.set_cons_zero, List.set_cons_succ, i64_w, i32_w]; done) | (simp only [putAll, Act.put, List.setIfInBounds_toArray, List.set_cons_zero, List.set_cons_succ, i64_w, i32_w]; rfl))
      ·refine Kd.R_lit_step (Kd.int .i64) _ 3 ?hg (N := 55) ?hd (xs := ([v] : List Int)) (inner := [.int .i64 v]) (ok := fun _ => True) (okp := fun _ => True) ?hr ?hp (fun _ hk => hk) trivial (Below.refl _ _) (Nat.le_refl _) (by simp) ?_; (case hd => rfl); (case hg => rfl); (case hr => first | (go_simp; done) | (go_simp; rfl)); (case hp => exact (Reps.one (show Kd.M (Kd.int .i64) _ _ _ v [.int .i64 v] from rfl) (Reps.none _ _)))
       intro s W1 ho hb hg_ hnew_
       clear hg_ hnew_
       have HX1 := b_fresh HX hb 12
       have HB1 := below_step HB hb
       refine hK.out _ _ ⟨(blk_cell HX1.1 2).trans rfl, (blk_cell HX1.1 3).trans rfl, (blk_cell HX1.1 4).trans rfl⟩ (fun hHeld => ?_)
       clear hK K
       have hN := ST0011 ((ow f W.heap.size 12), default, s, s3, default, default, default) W1 ⟨HB1, HX1, (r_fresh HKY hb 12), (r_fresh HR2 hb 12), (r_fresh HR3 hb 12), (r_fresh HR4 hb 12), (r_lit f ho HB.size 12), (r_fresh HS3 hb 12)⟩
       refine norm_ ?_ hN
       show _ = putAll _ _
       (first | (simp only [putAll, Act.put, List.setIfInBounds_toArray, List.set_cons_zero, List.set_cons_succ, i64_w, i32_w]; done) | (simp only [putAll, Act.put, List.setIfInBounds_toArray, List.set_cons_zero, List.set_cons_succ, i64_w, i32_w]; rfl))
     intro ST0001
     refine join_ (σ := (Nat → Nat) × Value × Value × Value × Value × Value × Value) 11 (bb 21 7655) (fun s_ => [(55, s_.2.2.1)]) (fun s_ w' => Below wo.heap.size wo w' ∧ (w'.heap[gb]? = some (.cells #[.slice Ak 1 ck, .int .i64 (1 + (i : Int)), v2, v3, v4] 30 (0, 0)) ∧ s_.1 gb = 9) ∧ Kd.R (Kd.int .i64) 3 w' wo.heap.size (fun k_ => s_.1 k_ = 0) (.slice Ak 1 ck) [4] ∧ Kd.R (Kd.int .i64) 3 w' wo.heap.size (fun k_ => s_.1 k_ = 2) v2 xs ∧ Kd.R (Kd.int .i64) 3 w' wo.heap.size (fun k_ => s_.1 k_ = 3) v3 xs ∧ Kd.R (Kd.int .i64) 3 w' wo.heap.size (fun k_ => s_.1 k_ = 4) v4 xs ∧ Kd.R (Kd.int .i64) 3 w' wo.heap.size (fun k_ => s_.1 k_ = 12) s_.2.2.1 [v]) ?_ ?_
     ·rintro ⟨f, s1, s2, s3, u2, u3, u4⟩ W ⟨HB, HX, HKY, HR2, HR3, HR4, HS2⟩
      dsimp only at *
      refine norm_ (a' := ?_) ?_ ?_
      rotate_left
      ·show putAll _ _ = _
       (first | (simp only [putAll, Act.put, List.setIfInBounds_toArray, List.set_cons_zero, List.set_cons_succ, i64_w, i32_w]; done) | (simp only [putAll, Act.put, List.setIfInBounds_toArray, List.set_cons_zero, List.set_cons_succ, i64_w, i32_w]; rfl))
      refine two_ (i := 3) (j := 13) (Ni := some 50) (Nj := some 60) (bb 21 7663) (bb 21 15847) rfl rfl rfl rfl (two_of HT_.out (by kernel_rfl)) (by decide) (by decide) (fun K hK => ?_) (fun K hK => ?_)
      ·refine Kd.R_lit_step (Kd.int .i64) _ 3 ?hg (N := 50) ?hd (xs := ([v] : List Int)) (inner := [.int .i64 v]) (ok := fun _ => True) (okp := fun _ => True) ?hr ?hp (fun _ hk => hk) trivial (Below.refl _ _) (Nat.le_refl _) (by simp) ?_; (case hd => rfl); (case hg => rfl); (case hr => first | (go_simp; done) | (go_simp; rfl)); (case hp => exact (Reps.one (show Kd.M (Kd.int .i64) _ _ _ v [.int .i64 v] from rfl) (Reps.none _ _)))
       intro s W1 ho hb hg_ hnew_
       clear hg_ hnew_
       have HX1 := b_fresh HX hb 11
       have HB1 := below_step HB hb
       refine hK.out _ _ ⟨(blk_cell HX1.1 2).trans rfl, (blk_cell HX1.1 3).trans rfl, (blk_cell HX1.1 4).trans rfl⟩ (fun hHeld => ?_)
       clear hK K
       have hN := ST0110 ((ow f W.heap.size 11), s, s2, default, default, default, default) W1 ⟨HB1, HX1, (r_fresh HKY hb 11), (r_fresh HR2 hb 11), (r_fresh HR3 hb 11), (r_fresh HR4 hb 11), (r_lit f ho HB.size 11), (r_fresh HS2 hb 11)⟩
       refine norm_ ?_ hN
       show _ = putAll _ _
       (first | (simp only [putAll, Act.put, List.setIfInBounds_toArray, List.set_cons_zero, List.set_cons_succ, i64_w, i32_w]; done) | (simp only [putAll, Act.put, List.setIfInBounds_toArray, List.set_cons_zero, List.set_cons_succ, i64_w, i32_w]; rfl))
      ·refine Kd.R_lit_step (Kd.int .i64) _ 3 ?hg (N := 60) ?hd (xs := ([v] : List Int)) (inner := [.int .i64 v]) (ok := fun _ => True) (okp := fun _ => True) ?hr ?hp (fun _ hk => hk) trivial (Below.refl _ _) (Nat.le_refl _) (by simp) ?_; (case hd => rfl); (case hg => rfl); (case hr => first | (go_simp; done) | (go_simp; rfl)); (case hp => exact (Reps.one (show Kd.M (Kd.int .i64) _ _ _ v [.int .i64 v] from rfl) (Reps.none _ _)))
       intro s W1 ho hb hg_ hnew_
       clear hg_ hnew_
       have HX1 := b_fresh HX hb 13
       have HB1 := below_step HB hb
       refine hK.out _ _ ⟨(blk_cell HX1.1 2).trans rfl, (blk_cell HX1.1 3).trans rfl, (blk_cell HX1.1 4).trans rfl⟩ (fun hHeld => ?_)
       clear hK K
       have hN := ST0011 ((ow f W.heap.size 13), default, s2, s, default, default, default) W1 ⟨HB1, HX1, (r_fresh HKY hb 13), (r_fresh HR2 hb 13), (r_fresh HR3 hb 13), (r_fresh HR4 hb 13), (r_fresh HS2 hb 13), (r_lit f ho HB.size 13)⟩
       refine norm_ ?_ hN
       show _ = putAll _ _
       (first | (simp only [putAll, Act.put, List.setIfInBounds_toArray, List.set_cons_zero, List.set_cons_succ, i64_w, i32_w]; done) | (simp only [putAll, Act.put, List.setIfInBounds_toArray, List.set_cons_zero, List.set_cons_succ, i64_w, i32_w]; rfl))
     intro ST0010
     refine join_ (σ := (Nat → Nat) × Value × Value × Value × Value × Value × Value) 11 (bb 21 7407) (fun s_ => [(50, s_.2.1)]) (fun s_ w' => Below wo.heap.size wo w' ∧ (w'.heap[gb]? = some (.cells #[.slice Ak 1 ck, .int .i64 (1 + (i : Int)), v2, v3, v4] 30 (0, 0)) ∧ s_.1 gb = 9) ∧ Kd.R (Kd.int .i64) 3 w' wo.heap.size (fun k_ => s_.1 k_ = 0) (.slice Ak 1 ck) [4] ∧ Kd.R (Kd.int .i64) 3 w' wo.heap.size (fun k_ => s_.1 k_ = 2) v2 xs ∧ Kd.R (Kd.int .i64) 3 w' wo.heap.size (fun k_ => s_.1 k_ = 3) v3 xs ∧ Kd.R (Kd.int .i64) 3 w' wo.heap.size (fun k_ => s_.1 k_ = 4) v4 xs ∧ Kd.R (Kd.int .i64) 3 w' wo.heap.size (fun k_ => s_.1 k_ = 11) s_.2.1 [v]) ?_ ?_
     ·rintro ⟨f, s1, s2, s3, u2, u3, u4⟩ W ⟨HB, HX, HKY, HR2, HR3, HR4, HS1⟩
      dsimp only at *
      refine norm_ (a' := ?_) ?_ ?_
      rotate_left
      ·show putAll _ _ = _
       (first | (simp only [putAll, Act.put, List.setIfInBounds_toArray, List.set_cons_zero, List.set_cons_succ, i64_w, i32_w]; done) | (simp only [putAll, Act.put, List.setIfInBounds_toArray, List.set_cons_zero, List.set_cons_succ, i64_w, i32_w]; rfl))
      refine three_ (i := 4) (j := 8) (k := 13) (Ni := some 51) (Nj := some 55) (Nk := some 60) (bb 21 7423) (bb 21 7663) (bb 21 15599) rfl rfl rfl rfl rfl rfl (three_of HT_.out (by kernel_rfl)) (by decide) (by decide) (by decide) (fun K hK => ?_) (fun K hK => ?_) (fun K hK => ?_)
      ·obtain ⟨As, cs, rfl⟩ := Kd.R_slice HS1
       refine Kd.R_append_rows_step (Kd.int .i64) (w0 := wo) wo.heap.size (by rfl) (.tmp 48) (.tmp 50) 22 3 (.int .i64 0) 8 rfl Try.underlying22 info3 rfl (by decide) (by omega) v2 xs [v] _ _ _ (fun k_ => ow f W.heap.size 2 k_ = 2) (fun _ => False) rfl rfl (r_same HR2 2) (Kd.R_reads' HS1).2.2 (fun _ _ h => h) (fun _ h => h.elim) (fun k_ hk => ow_new hk) HB HB.size ?aL ?_
       (case aL => have := HLJ.out; have := HLN.out; simp only [List.length_cons, List.length_nil]; omega)
       intro u W1 ho hb hg_ hat
       have HX1 := b_app HX HR2 (by decide) hg_ 2
       have HB1 := hb
       refine hK.out _ _ ⟨(blk_cell HX1.1 2).trans rfl, (blk_cell HX1.1 3).trans rfl, (blk_cell HX1.1 4).trans rfl⟩ (fun hHeld => ?_)
       clear hK K
       refine nm ?_
       refine pu (i := 15) (N := some 62) (bb 21 40191) HT_ ?_
       have hN := ST1100 ((ow f W.heap.size 2), (.slice As [v].length cs), default, default, u, default, default) W1 ⟨HB1, HX1, (r_app HKY HR2 (by decide) hg_ 2), ho, (r_app HR3 HR2 (by decide) hg_ 2), (r_app HR4 HR2 (by decide) hg_ 2)⟩
       refine norm_ ?_ hN
       show _ = putAll _ _
       (first | (simp only [putAll, Act.put, List.setIfInBounds_toArray, List.set_cons_zero, List.set_cons_succ, i64_w, i32_w]; done) | (simp only [putAll, Act.put, List.setIfInBounds_toArray, List.set_cons_zero, List.set_cons_succ, i64_w, i32_w]; rfl))
      ·refine Kd.R_lit_step (Kd.int .i64) _ 3 ?hg (N := 55) ?hd (xs := ([v] : List Int)) (inner := [.int .i64 v]) (ok := fun _ => True) (okp := fun _ => True) ?hr ?hp (fun _ hk => hk) trivial (Below.refl _ _) (Nat.le_refl _) (by simp) ?_; (case hd => rfl); (case hg => rfl); (case hr => first | (go_simp; done) | (go_simp; rfl)); (case hp => exact (Reps.one (show Kd.M (Kd.int .i64) _ _ _ v [.int .i64 v] from rfl) (Reps.none _ _)))
       intro s W1 ho hb hg_ hnew_
       clear hg_ hnew_
       have HX1 := b_fresh HX hb 12
       have HB1 := below_step HB hb
       refine hK.out _ _ ⟨(blk_cell HX1.1 2).trans rfl, (blk_cell HX1.1 3).trans rfl, (blk_cell HX1.1 4).trans rfl⟩ (fun hHeld => ?_)
       clear hK K
       have hN := ST0110 ((ow f W.heap.size 12), s1, s, default, default, default, default) W1 ⟨HB1, HX1, (r_fresh HKY hb 12), (r_fresh HR2 hb 12), (r_fresh HR3 hb 12), (r_fresh HR4 hb 12), (r_fresh HS1 hb 12), (r_lit f ho HB.size 12)⟩
       refine norm_ ?_ hN
       show _ = putAll _ _
       (first | (simp only [putAll, Act.put, List.setIfInBounds_toArray, List.set_cons_zero, List.set_cons_succ, i64_w, i32_w]; done) | (simp only [putAll, Act.put, List.setIfInBounds_toArray, List.set_cons_zero, List.set_cons_succ, i64_w, i32_w]; rfl))
      ·refine Kd.R_lit_step (Kd.int .i64) _ 3 ?hg (N := 60) ?hd (xs := ([v] : List Int)) (inner := [.int .i64 v]) (ok := fun _ => True) (okp := fun _ => True) ?hr ?hp (fun _ hk => hk) trivial (Below.refl _ _) (Nat.le_refl _) (by simp) ?_; (case hd => rfl); (case hg => rfl); (case hr => first | (go_simp; done) | (go_simp; rfl)); (case hp => exact (Reps.one (show Kd.M (Kd.int .i64) _ _ _ v [.int .i64 v] from rfl) (Reps.none _ _)))
       intro s W1 ho hb hg_ hnew_
       clear hg_ hnew_
       have HX1 := b_fresh HX hb 13
       have HB1 := below_step HB hb
       refine hK.out _ _ ⟨(blk_cell HX1.1 2).trans rfl, (blk_cell HX1.1 3).trans rfl, (blk_cell HX1.1 4).trans rfl⟩ (fun hHeld => ?_)
       clear hK K
       have hN := ST0101 ((ow f W.heap.size 13), s1, default, s, default, default, default) W1 ⟨HB1, HX1, (r_fresh HKY hb 13), (r_fresh HR2 hb 13), (r_fresh HR3 hb 13), (r_fresh HR4 hb 13), (r_fresh HS1 hb 13), (r_lit f ho HB.size 13)⟩
       refine norm_ ?_ hN
       show _ = putAll _ _
       (first | (simp only [putAll, Act.put, List.setIfInBounds_toArray, List.set_cons_zero, List.set_cons_succ, i64_w, i32_w]; done) | (simp only [putAll, Act.put, List.setIfInBounds_toArray, List.set_cons_zero, List.set_cons_succ, i64_w, i32_w]; rfl))
     intro ST0100
     obtain ⟨HB, HX, _, HKY, HR2, HR3, HR4⟩ := HT.out.drew
     generalize HWD : wr.drew = W at *
     refine three_ (i := 3) (j := 8) (k := 13) (Ni := some 50) (Nj := some 55) (Nk := some 60) (bb 21 7407) (bb 21 7655) (bb 21 15591) rfl rfl rfl rfl rfl rfl (three_of HT_.out (by kernel_rfl)) (by decide) (by decide) (by decide) (fun K hK => ?_) (fun K hK => ?_) (fun K hK => ?_)
     ·refine Kd.R_lit_step (Kd.int .i64) _ 3 ?hg (N := 50) ?hd (xs := ([v] : List Int)) (inner := [.int .i64 v]) (ok := fun _ => True) (okp := fun _ => True) ?hr ?hp (fun _ hk => hk) trivial (Below.refl _ _) (Nat.le_refl _) (by simp) ?_; (case hd => rfl); (case hg => rfl); (case hr => first | (go_simp; done) | (go_simp; rfl)); (case hp => exact (Reps.one (show Kd.M (Kd.int .i64) _ _ _ v [.int .i64 v] from rfl) (Reps.none _ _)))
      intro s W1 ho hb hg_ hnew_
      clear hg_ hnew_
      have HX1 := b_fresh HX hb 11
      have HB1 := below_step HB hb
      refine hK.out _ _ ⟨(blk_cell HX1.1 2).trans rfl, (blk_cell HX1.1 3).trans rfl, (blk_cell HX1.1 4).trans rfl⟩ (fun hHeld => ?_)
      clear hK K
      have hN := ST0100 ((ow f W.heap.size 11), s, default, default, default, default, default) W1 ⟨HB1, HX1, (r_fresh HKY hb 11), (r_fresh HR2 hb 11), (r_fresh HR3 hb 11), (r_fresh HR4 hb 11), (r_lit f ho HB.size 11)⟩
      refine norm_ ?_ hN
      show _ = putAll _ _
      (first | (simp only [putAll, Act.put, List.setIfInBounds_toArray, List.set_cons_zero, List.set_cons_succ, i64_w, i32_w]; done) | (simp only [putAll, Act.put, List.setIfInBounds_toArray, List.set_cons_zero, List.set_cons_succ, i64_w, i32_w]; rfl))
     ·refine Kd.R_lit_step (Kd.int .i64) _ 3 ?hg (N := 55) ?hd (xs := ([v] : List Int)) (inner := [.int .i64 v]) (ok := fun _ => True) (okp := fun _ => True) ?hr ?hp (fun _ hk => hk) trivial (Below.refl _ _) (Nat.le_refl _) (by simp) ?_; (case hd => rfl); (case hg => rfl); (case hr => first | (go_simp; done) | (go_simp; rfl)); (case hp => exact (Reps.one (show Kd.M (Kd.int .i64) _ _ _ v [.int .i64 v] from rfl) (Reps.none _ _)))
      intro s W1 ho hb hg_ hnew_
      clear hg_ hnew_
      have HX1 := b_fresh HX hb 12
      have HB1 := below_step HB hb
      refine hK.out _ _ ⟨(blk_cell HX1.1 2).trans rfl, (blk_cell HX1.1 3).trans rfl, (blk_cell HX1.1 4).trans rfl⟩ (fun hHeld => ?_)
      clear hK K
      have hN := ST0010 ((ow f W.heap.size 12), default, s, default, default, default, default) W1 ⟨HB1, HX1, (r_fresh HKY hb 12), (r_fresh HR2 hb 12), (r_fresh HR3 hb 12), (r_fresh HR4 hb 12), (r_lit f ho HB.size 12)⟩
      refine norm_ ?_ hN
      show _ = putAll _ _
      (first | (simp only [putAll, Act.put, List.setIfInBounds_toArray, List.set_cons_zero, List.set_cons_succ, i64_w, i32_w]; done) | (simp only [putAll, Act.put, List.setIfInBounds_toArray, List.set_cons_zero, List.set_cons_succ, i64_w, i32_w]; rfl))
     ·refine Kd.R_lit_step (Kd.int .i64) _ 3 ?hg (N := 60) ?hd (xs := ([v] : List Int)) (inner := [.int .i64 v]) (ok := fun _ => True) (okp := fun _ => True) ?hr ?hp (fun _ hk => hk) trivial (Below.refl _ _) (Nat.le_refl _) (by simp) ?_; (case hd => rfl); (case hg => rfl); (case hr => first | (go_simp; done) | (go_simp; rfl)); (case hp => exact (Reps.one (show Kd.M (Kd.int .i64) _ _ _ v [.int .i64 v] from rfl) (Reps.none _ _)))
      intro s W1 ho hb hg_ hnew_
      clear hg_ hnew_
      have HX1 := b_fresh HX hb 13
      have HB1 := below_step HB hb
      refine hK.out _ _ ⟨(blk_cell HX1.1 2).trans rfl, (blk_cell HX1.1 3).trans rfl, (blk_cell HX1.1 4).trans rfl⟩ (fun hHeld => ?_)
      clear hK K
      have hN := ST0001 ((ow f W.heap.size 13), default, default, s, default, default, default) W1 ⟨HB1, HX1, (r_fresh HKY hb 13), (r_fresh HR2 hb 13), (r_fresh HR3 hb 13), (r_fresh HR4 hb 13), (r_lit f ho HB.size 13)⟩
      refine norm_ ?_ hN
      show _ = putAll _ _
      (first | (simp only [putAll, Act.put, List.setIfInBounds_toArray, List.set_cons_zero, List.set_cons_succ, i64_w, i32_w]; done) | (simp only [putAll, Act.put, List.setIfInBounds_toArray, List.set_cons_zero, List.set_cons_succ, i64_w, i32_w]; rfl))
    rintro ⟨f, s1, s2, s3, u2, u3, u4⟩ W ⟨HB, HX, HKY, HR2, HR3, HR4⟩
    dsimp only at *
    refine norm_ (a' := ?_) ?_ ?_
    rotate_left
    ·show putAll _ _ = _
     (first | (simp only [putAll, Act.put, List.setIfInBounds_toArray, List.set_cons_zero, List.set_cons_succ, i64_w, i32_w]; done) | (simp only [putAll, Act.put, List.setIfInBounds_toArray, List.set_cons_zero, List.set_cons_succ, i64_w, i32_w]; rfl))
    obtain ⟨B2, d2, rfl⟩ := Kd.R_slice HR2
    obtain ⟨B3, d3, rfl⟩ := Kd.R_slice HR3
    obtain ⟨B4, d4, rfl⟩ := Kd.R_slice HR4
    refine last_ (i := 16) (N := none) (bb 21 131071) rfl rfl (one_of HT_.out (by kernel_rfl)) (by decide) (fun K hK => ?_)
    have K2 : ((W.setCells gb 2 [.slice B2 (xs ++ [v]).length d2])).heap[gb]? = some (.cells #[.slice Ak 1 ck, .int .i64 (1 + (i : Int)), .slice B2 (xs ++ [v]).length d2, v3, v4] 30 (0, 0)) := blk_put HX.1 2 _ rfl
    have K3 : (((W.setCells gb 2 [.slice B2 (xs ++ [v]).length d2]).setCells gb 3 [.slice B3 (xs ++ [v]).length d3])).heap[gb]? = some (.cells #[.slice Ak 1 ck, .int .i64 (1 + (i : Int)), .slice B2 (xs ++ [v]).length d2, .slice B3 (xs ++ [v]).length d3, v4] 30 (0, 0)) := blk_put K2 3 _ rfl
    have K4 : ((((W.setCells gb 2 [.slice B2 (xs ++ [v]).length d2]).setCells gb 3 [.slice B3 (xs ++ [v]).length d3]).setCells gb 4 [.slice B4 (xs ++ [v]).length d4])).heap[gb]? = some (.cells #[.slice Ak 1 ck, .int .i64 (1 + (i : Int)), .slice B2 (xs ++ [v]).length d2, .slice B3 (xs ++ [v]).length d3, .slice B4 (xs ++ [v]).length d4] 30 (0, 0)) := blk_put K3 4 _ rfl
    refine skip_ (w1 := (W.setCells gb 2 [.slice B2 (xs ++ [v]).length d2])) rfl rfl (box_runO (t := 22) (p := .tmp 62) (x := .tmp 51) rfl 2 HX.1 (by simp) rfl rfl rfl (by rfl) (by intro q_ hq_; rcases List.mem_singleton.1 hq_ with rfl; rfl)) ?_
    refine hK.out _ _ ?_
    clear hK K
    refine pu (i := 17) (N := some 63) (bb 21 262143) HT_ ?_
    refine last_ (i := 18) (N := none) (bb 21 524287) rfl rfl (one_of HT_.out (by kernel_rfl)) (by decide) (fun K hK => ?_)
    refine skip_ (w1 := ((W.setCells gb 2 [.slice B2 (xs ++ [v]).length d2]).setCells gb 3 [.slice B3 (xs ++ [v]).length d3])) rfl rfl (box_runO (t := 22) (p := .tmp 63) (x := .tmp 56) rfl 3 K2 (by simp) rfl rfl rfl (by rfl) (by intro q_ hq_; rcases List.mem_singleton.1 hq_ with rfl; rfl)) ?_
    refine hK.out _ _ ?_
    clear hK K
    refine pu (i := 19) (N := some 64) (bb 21 1048575) HT_ ?_
    refine last_ (i := 20) (N := none) (bb 21 2097151) rfl rfl (one_of HT_.out (by kernel_rfl)) (by decide) (fun K hK => ?_)
    refine skip_ (w1 := (((W.setCells gb 2 [.slice B2 (xs ++ [v]).length d2]).setCells gb 3 [.slice B3 (xs ++ [v]).length d3]).setCells gb 4 [.slice B4 (xs ++ [v]).length d4])) rfl rfl (box_runO (t := 22) (p := .tmp 64) (x := .tmp 61) rfl 4 K3 (by simp) rfl rfl rfl (by rfl) (by intro q_ hq_; rcases List.mem_singleton.1 hq_ with rfl; rfl)) ?_
    refine hK.out _ _ ?_
    clear hK K
    refine done_ (done_of HT_.out (by kernel_rfl)) ?_
    have HTN : Inn wo f gb (1 + (i : Int)) (.slice Ak 1 ck) (.slice B2 (xs ++ [v]).length d2) (.slice B3 (xs ++ [v]).length d3) (.slice B4 (xs ++ [v]).length d4) [4] (xs ++ [v]) (((W.setCells gb 2 [.slice B2 (xs ++ [v]).length d2]).setCells gb 3 [.slice B3 (xs ++ [v]).length d3]).setCells gb 4 [.slice B4 (xs ++ [v]).length d4]) := ⟨box_farO _ _ hgbb (box_farO _ _ hgbb (box_farO _ _ hgbb HB)), ⟨K4, HX.2⟩, hgbb, r_box (r_box (r_box HKY HX.2 (by decide) _ _) HX.2 (by decide) _ _) HX.2 (by decide) _ _, r_box (r_box (r_box HR2 HX.2 (by decide) _ _) HX.2 (by decide) _ _) HX.2 (by decide) _ _, r_box (r_box (r_box HR3 HX.2 (by decide) _ _) HX.2 (by decide) _ _) HX.2 (by decide) _ _, r_box (r_box (r_box HR4 HX.2 (by decide) _ _) HX.2 (by decide) _ _) HX.2 (by decide) _ _⟩
    generalize (((W.setCells gb 2 [.slice B2 (xs ++ [v]).length d2]).setCells gb 3 [.slice B3 (xs ++ [v]).length d3]).setCells gb 4 [.slice B4 (xs ++ [v]).length d4]) = wz at *
    have HT2 := am HTN
    clear HTN K2 K3 K4 HX HB HKY HR2 HR3 HR4
    go_wp2
    go_roundg k2
    case measure => omega
    case rel => exact ⟨j + 1, _, _, _, _, by first | rfl | simp [hwj], ⟨by have := HJ.out; have := HHJ.out; omega, by have := HHJ.out; omega⟩, ⟨by rw [HLS.out, ← HV.out]; exact HT2.out⟩⟩
  ·have hjk : j = kk := by omega
   have hc1 : decide ((j : Int) < (kk : Int)) = false := decide_eq_false (by omega)
   have hc2 : decide (j < kk) = false := decide_eq_false hj
   have HT' := HT.out
   rw [hjk] at HT'
   obtain ⟨B2, d2, rfl⟩ := Kd.R_slice HT'.r2
   obtain ⟨B3, d3, rfl⟩ := Kd.R_slice HT'.r3
   obtain ⟨B4, d4, rfl⟩ := Kd.R_slice HT'.r4
   have XB := HT'.box.1
   have q0 := (blk_cell XB 0).trans rfl
   have q1 : wr.cell? ⟨gb, 1, none⟩ = some (.int .i64 (1 + (i : Int))) := (blk_cell XB 1).trans rfl
   have q2 : wr.cell? ⟨gb, 2, none⟩ = some (.slice B2 (jL l0 i kk).length d2) := (blk_cell XB 2).trans rfl
   have q3 : wr.cell? ⟨gb, 3, none⟩ = some (.slice B3 (jL l0 i kk).length d3) := (blk_cell XB 3).trans rfl
   have q4 : wr.cell? ⟨gb, 4, none⟩ = some (.slice B4 (jL l0 i kk).length d4) := (blk_cell XB 4).trans rfl
   have HF : Aside0 (Kd.FK k30 wr (fun k_ => wo.heap.size ≤ k_) (jC l0 kk i) _) := ⟨HT'.okv.FK⟩
   have HSW := am (below_step HS.out HT'.bel)
   have HN0 := am (Kd.N_lt HN.out)
   have HNW := am (Kd.N_below HN.out HT'.bel)
   clear hj hjl hk3 hi hjk HT' XB HT
   go_wp2_with (first
   | ((with_reducible refine gate_builtin (b := .append) (xs := #[.tmp 65, .tmp 67]) rfl ?_); (try (refine gate_guard (by rfl) ?_; dsimp only)); at_builtin; refine Kd.N_append k30 (w0 := w2) w2.heap.size rfl (.tmp 65) (.tmp 67) 28 30 (.agg #[(.slice none 0 0), (.int .i64 0), (.slice none 0 0), (.slice none 0 0), (.slice none 0 0)]) 104 rfl Try.underlying28 info30 rfl (by decide) (by omega) (.slice Al (jA l0 kk i).length cl) (jA l0 kk i) (jC l0 kk i) [.slice Ak 1 ck, .int .i64 (1 + (i : Int)), .slice B2 (jL l0 i kk).length d2, .slice B3 (jL l0 i kk).length d3, .slice B4 (jL l0 i kk).length d4] (fun _ => True) (fun k_ => wo.heap.size ≤ k_) rfl rfl HF.out ?aK (fun _ _ => trivial) HNW.out HSW.out HSW.out.size ?aL ?_; (case aK => exact fun k_ hk => ⟨trivial, fun e_ => by have e2_ := HN0.out k_ e_.symm; omega⟩); (case aL => have := HAL.out; have := HHI.out; omega); intro vv wz ho hb hg hat; have HNz := am ho; have HSz := am hb; clear ho hb hg hat))
   go_roundg k1
   case measure => omega
   case rel => exact ⟨i + 1, by first | rfl | simp [hwi], ⟨by have := HI.out; have := HHI.out; omega, by have := HHI.out; omega⟩, HSz, ⟨by rw [HA1.out]; exact HNz.out⟩⟩
 ·obtain rfl : i = 3 := by omega
  have hc1 : decide (((3 : Nat) : Int) < 3) = false := by decide
  have hc2 : decide ((3 : Int) < 3) = false := by decide
  have hml := jA_length l0 kk 3
  have hn := HN.out
  rw [hml] at hn ⊢
  have HMC := am (Kd.N_reads' hn).2.2
  have e0 : rd_T30 (jA l0 kk 3) 0 = jC l0 kk 0 := rfl
  have e1 : rd_T30 (jA l0 kk 3) 1 = jC l0 kk 1 := rfl
  have e2 : rd_T30 (jA l0 kk 3) 2 = jC l0 kk 2 := rfl
  generalize jA l0 kk 3 = m at *
  obtain ⟨ad, v0, ea, x00, x01, x02, x03, x04, V0⟩ := at_CV HMC.out 0 (by decide) (by rw [hml]; decide)
  obtain ⟨ad', v1, ea', x10, x11, x12, x13, x14, V1⟩ := at_CV HMC.out 1 (by decide) (by rw [hml]; decide)
  obtain ⟨ad'', v2, ea'', x20, x21, x22, x23, x24, V2⟩ := at_CV HMC.out 2 (by decide) (by rw [hml]; decide)
  cases ea
  cases ea'
  cases ea''
  rw [e0] at x00 x01 x02 x03 x04 V0
  rw [e1] at x10 x11 x12 x13 x14 V1
  rw [e2] at x20 x21 x22 x23 x24 V2
  generalize jC l0 kk 0 = c_0 at *
  generalize jC l0 kk 1 = c_1 at *
  generalize jC l0 kk 2 = c_2 at *
  have X000 : Aside0 (wr.cell? ad = some (.slice v0.A0 c_0.f0.length v0.c0)) := ⟨by have h_ := x00; simpa [Addr.add] using h_⟩
  have X010 : Aside0 (wr.cell? ⟨ad.block, ad.off + 1, none⟩ = some (.int .i64 c_0.f1)) := ⟨by have h_ := x01; simpa [Addr.add] using h_⟩
  have X020 : Aside0 (wr.cell? ⟨ad.block, ad.off + 2, none⟩ = some (.slice v0.A2 c_0.f2.length v0.c2)) := ⟨by have h_ := x02; simpa [Addr.add] using h_⟩
  have X030 : Aside0 (wr.cell? ⟨ad.block, ad.off + 3, none⟩ = some (.slice v0.A3 c_0.f3.length v0.c3)) := ⟨by have h_ := x03; simpa [Addr.add] using h_⟩
  have X040 : Aside0 (wr.cell? ⟨ad.block, ad.off + 4, none⟩ = some (.slice v0.A4 c_0.f4.length v0.c4)) := ⟨by have h_ := x04; simpa [Addr.add] using h_⟩
  have X100 : Aside0 (wr.cell? ⟨ad.block, ad.off + 5, none⟩ = some (.slice v1.A0 c_1.f0.length v1.c0)) := ⟨by have h_ := x10; simpa [Addr.add] using h_⟩
  have X110 : Aside0 (wr.cell? ⟨ad.block, ad.off + 6, none⟩ = some (.int .i64 c_1.f1)) := ⟨by have h_ := x11; simpa [Addr.add] using h_⟩
  have X111 : Aside0 (wr.cell? ⟨ad.block, ad.off + 5 + 1, none⟩ = some (.int .i64 c_1.f1)) := ⟨by have h_ := x11; simpa [Addr.add] using h_⟩
  have X120 : Aside0 (wr.cell? ⟨ad.block, ad.off + 7, none⟩ = some (.slice v1.A2 c_1.f2.length v1.c2)) := ⟨by have h_ := x12; simpa [Addr.add] using h_⟩
  have X121 : Aside0 (wr.cell? ⟨ad.block, ad.off + 5 + 2, none⟩ = some (.slice v1.A2 c_1.f2.length v1.c2)) := ⟨by have h_ := x12; simpa [Addr.add] using h_⟩
  have X130 : Aside0 (wr.cell? ⟨ad.block, ad.off + 8, none⟩ = some (.slice v1.A3 c_1.f3.length v1.c3)) := ⟨by have h_ := x13; simpa [Addr.add] using h_⟩
  have X131 : Aside0 (wr.cell? ⟨ad.block, ad.off + 5 + 3, none⟩ = some (.slice v1.A3 c_1.f3.length v1.c3)) := ⟨by have h_ := x13; simpa [Addr.add] using h_⟩
  have X140 : Aside0 (wr.cell? ⟨ad.block, ad.off + 9, none⟩ = some (.slice v1.A4 c_1.f4.length v1.c4)) := ⟨by have h_ := x14; simpa [Addr.add] using h_⟩
  have X141 : Aside0 (wr.cell? ⟨ad.block, ad.off + 5 + 4, none⟩ = some (.slice v1.A4 c_1.f4.length v1.c4)) := ⟨by have h_ := x14; simpa [Addr.add] using h_⟩
  have X200 : Aside0 (wr.cell? ⟨ad.block, ad.off + 10, none⟩ = some (.slice v2.A0 c_2.f0.length v2.c0)) := ⟨by have h_ := x20; simpa [Addr.add] using h_⟩
  have X210 : Aside0 (wr.cell? ⟨ad.block, ad.off + 11, none⟩ = some (.int .i64 c_2.f1)) := ⟨by have h_ := x21; simpa [Addr.add] using h_⟩
  have X211 : Aside0 (wr.cell? ⟨ad.block, ad.off + 10 + 1, none⟩ = some (.int .i64 c_2.f1)) := ⟨by have h_ := x21; simpa [Addr.add] using h_⟩
  have X220 : Aside0 (wr.cell? ⟨ad.block, ad.off + 12, none⟩ = some (.slice v2.A2 c_2.f2.length v2.c2)) := ⟨by have h_ := x22; simpa [Addr.add] using h_⟩
  have X221 : Aside0 (wr.cell? ⟨ad.block, ad.off + 10 + 2, none⟩ = some (.slice v2.A2 c_2.f2.length v2.c2)) := ⟨by have h_ := x22; simpa [Addr.add] using h_⟩
  have X230 : Aside0 (wr.cell? ⟨ad.block, ad.off + 13, none⟩ = some (.slice v2.A3 c_2.f3.length v2.c3)) := ⟨by have h_ := x23; simpa [Addr.add] using h_⟩
  have X231 : Aside0 (wr.cell? ⟨ad.block, ad.off + 10 + 3, none⟩ = some (.slice v2.A3 c_2.f3.length v2.c3)) := ⟨by have h_ := x23; simpa [Addr.add] using h_⟩
  have X240 : Aside0 (wr.cell? ⟨ad.block, ad.off + 14, none⟩ = some (.slice v2.A4 c_2.f4.length v2.c4)) := ⟨by have h_ := x24; simpa [Addr.add] using h_⟩
  have X241 : Aside0 (wr.cell? ⟨ad.block, ad.off + 10 + 4, none⟩ = some (.slice v2.A4 c_2.f4.length v2.c4)) := ⟨by have h_ := x24; simpa [Addr.add] using h_⟩
  clear x00 x01 x02 x03 x04 x10 x11 x12 x13 x14 x20 x21 x22 x23 x24
  have VV0 := am V0
  have VV1 := am V1
  have VV2 := am V2
  have HBr := am (below_step HB2.out HS.out)
  clear V0 V1 V2 hi hil hn HN HMC e0 e1 e2
  go_wp2
  refine start_ (n := 18) (S := fun w' => w'.cell? ad = some (.slice v0.A0 c_0.f0.length v0.c0) ∧ w'.cell? ⟨ad.block, ad.off + 1, none⟩ = some (.int .i64 c_0.f1) ∧ w'.cell? ⟨ad.block, ad.off + 2, none⟩ = some (.slice v0.A2 c_0.f2.length v0.c2) ∧ w'.cell? ⟨ad.block, ad.off + 3, none⟩ = some (.slice v0.A3 c_0.f3.length v0.c3) ∧ w'.cell? ⟨ad.block, ad.off + 4, none⟩ = some (.slice v0.A4 c_0.f4.length v0.c4) ∧ w'.cell? ⟨ad.block, ad.off + 5, none⟩ = some (.slice v1.A0 c_1.f0.length v1.c0) ∧ w'.cell? ⟨ad.block, ad.off + 6, none⟩ = some (.int .i64 c_1.f1) ∧ w'.cell? ⟨ad.block, ad.off + 5 + 1, none⟩ = some (.int .i64 c_1.f1) ∧ w'.cell? ⟨ad.block, ad.off + 7, none⟩ = some (.slice v1.A2 c_1.f2.length v1.c2) ∧ w'.cell? ⟨ad.block, ad.off + 5 + 2, none⟩ = some (.slice v1.A2 c_1.f2.length v1.c2) ∧ w'.cell? ⟨ad.block, ad.off + 8, none⟩ = some (.slice v1.A3 c_1.f3.length v1.c3) ∧ w'.cell? ⟨ad.block, ad.off + 5 + 3, none⟩ = some (.slice v1.A3 c_1.f3.length v1.c3) ∧ w'.cell? ⟨ad.block, ad.off + 9, none⟩ = some (.slice v1.A4 c_1.f4.length v1.c4) ∧ w'.cell? ⟨ad.block, ad.off + 5 + 4, none⟩ = some (.slice v1.A4 c_1.f4.length v1.c4) ∧ w'.cell? ⟨ad.block, ad.off + 10, none⟩ = some (.slice v2.A0 c_2.f0.length v2.c0) ∧ w'.cell? ⟨ad.block, ad.off + 11, none⟩ = some (.int .i64 c_2.f1) ∧ w'.cell? ⟨ad.block, ad.off + 10 + 1, none⟩ = some (.int .i64 c_2.f1) ∧ w'.cell? ⟨ad.block, ad.off + 12, none⟩ = some (.slice v2.A2 c_2.f2.length v2.c2) ∧ w'.cell? ⟨ad.block, ad.off + 10 + 2, none⟩ = some (.slice v2.A2 c_2.f2.length v2.c2) ∧ w'.cell? ⟨ad.block, ad.off + 13, none⟩ = some (.slice v2.A3 c_2.f3.length v2.c3) ∧ w'.cell? ⟨ad.block, ad.off + 10 + 3, none⟩ = some (.slice v2.A3 c_2.f3.length v2.c3) ∧ w'.cell? ⟨ad.block, ad.off + 14, none⟩ = some (.slice v2.A4 c_2.f4.length v2.c4) ∧ w'.cell? ⟨ad.block, ad.off + 10 + 4, none⟩ = some (.slice v2.A4 c_2.f4.length v2.c4)) (ds := [16, 17]) (bb 18 0) (by kernel_rfl) rfl rfl ⟨X000.out, X010.out, X020.out, X030.out, X040.out, X100.out, X110.out, X111.out, X120.out, X121.out, X130.out, X131.out, X140.out, X141.out, X200.out, X210.out, X211.out, X220.out, X221.out, X230.out, X231.out, X240.out, X241.out⟩ (fun hHeld => ?_)
  refine with_tabW hypercubelaw2_CellJoins.tab17 hypercubelaw2_CellJoins.bits17 (fun HT_ HW_ => ?_)
  refine pu (i := 0) (N := some 69) (bb 18 1) HT_ ?_
  refine pu (i := 1) (N := some 70) (bb 18 3) HT_ ?_
  refine pu (i := 3) (N := some 72) (bb 18 11) HT_ ?_
  refine pu (i := 4) (N := some 73) (bb 18 27) HT_ ?_
  refine pu (i := 7) (N := some 76) (bb 18 155) HT_ ?_
  refine pu (i := 8) (N := some 77) (bb 18 411) HT_ ?_
  refine pu (i := 10) (N := some 79) (bb 18 1435) HT_ ?_
  refine pu (i := 11) (N := some 80) (bb 18 3483) HT_ ?_
  refine tk (i := 2) (N := some 71) (bb 18 3487) HT_ HW_ hHeld ?_
  refine tk (i := 5) (N := some 74) (bb 18 3519) HT_ HW_ hHeld ?_
  refine tk (i := 9) (N := some 78) (bb 18 4031) HT_ HW_ hHeld ?_
  refine tk (i := 12) (N := some 81) (bb 18 8127) HT_ HW_ hHeld ?_
  refine join_ (σ := CV × CV × Nat × Nat) 2 (bb 18 65535) (fun s_ => [(75, CV.val s_.1 ab), (82, CV.val s_.2.1 bc), (11, .pointer (some ⟨s_.2.2.1, 0, none⟩)), (12, .pointer (some ⟨s_.2.2.2, 0, none⟩))]) (fun s_ w' => Below wr.heap.size wr w' ∧ CV.ok s_.1 ab w' (fun k_ => wr.heap.size ≤ k_ ∧ k_ ≠ s_.2.2.1 ∧ k_ ≠ s_.2.2.2) ∧ CV.ok s_.2.1 bc w' (fun k_ => wr.heap.size ≤ k_ ∧ k_ ≠ s_.2.2.1 ∧ k_ ≠ s_.2.2.2) ∧ (w'.heap[s_.2.2.1]? = some (.cells #[.slice none 0 0, .int .i64 0, .slice none 0 0, .slice none 0 0, .slice none 0 0] 30 (0, 0)) ∧ wr.heap.size ≤ s_.2.2.1) ∧ (w'.heap[s_.2.2.2]? = some (.cells #[.slice none 0 0, .int .i64 0, .slice none 0 0, .slice none 0 0, .slice none 0 0] 30 (0, 0)) ∧ wr.heap.size ≤ s_.2.2.2) ∧ s_.2.2.1 ≠ s_.2.2.2) ?_ ?_
  rotate_left
  ·intro ST211
   refine join_ (σ := CV × CV × Nat × Nat) 3 (bb 18 57343) (fun s_ => [(75, CV.val s_.1 ab), (11, .pointer (some ⟨s_.2.2.1, 0, none⟩)), (12, .pointer (some ⟨s_.2.2.2, 0, none⟩))]) (fun s_ w' => Below wr.heap.size wr w' ∧ CV.ok s_.1 ab w' (fun k_ => wr.heap.size ≤ k_ ∧ k_ ≠ s_.2.2.1 ∧ k_ ≠ s_.2.2.2) ∧ True ∧ (w'.heap[s_.2.2.1]? = some (.cells #[.slice none 0 0, .int .i64 0, .slice none 0 0, .slice none 0 0, .slice none 0 0] 30 (0, 0)) ∧ wr.heap.size ≤ s_.2.2.1) ∧ (w'.heap[s_.2.2.2]? = some (.cells #[.slice none 0 0, .int .i64 0, .slice none 0 0, .slice none 0 0, .slice none 0 0] 30 (0, 0)) ∧ wr.heap.size ≤ s_.2.2.2) ∧ s_.2.2.1 ≠ s_.2.2.2) ?_ ?_
   ·rintro ⟨p, q, g1, g2⟩ W ⟨HB, HP, _, HG1, HG2, HNE⟩
    dsimp only at *
    refine norm_ (a' := ?_) ?_ ?_
    rotate_left
    ·show putAll _ _ = _
     (first | (simp only [putAll, Act.put, List.setIfInBounds_toArray, List.set_cons_zero, List.set_cons_succ, i64_w, i32_w]; done) | (simp only [putAll, Act.put, List.setIfInBounds_toArray, List.set_cons_zero, List.set_cons_succ, i64_w, i32_w]; rfl))
    refine one_ (i := 13) (N := some 82) (bb 18 65535) rfl rfl (one_of HT_.out (by kernel_rfl)) (by decide) (fun K hK => ?_)
    ·refine goes_ Try.func21 (by kernel_rfl) rfl #[CV.val v1 c_1, CV.val v2 c_2] (by rfl) rfl rfl (by (try simp only [List.map_toArray, List.map_cons, List.map_nil]); first | done | rfl) ?_
     with_reducible refine (cell_Join.callsV k _ (VV1.out.below HB) (VV2.out.below HB) H3.out).mono ?_
     rintro e W1 ⟨u, rfl, hu, hb⟩
     refine ⟨_, rfl, ?_⟩
     refine hK.out _ _ ⟨((below_step HB hb).cell (World.block_lt_of_cell? wr _ X000.out)).trans X000.out, ((below_step HB hb).cell (World.block_lt_of_cell? wr _ X010.out)).trans X010.out, ((below_step HB hb).cell (World.block_lt_of_cell? wr _ X020.out)).trans X020.out, ((below_step HB hb).cell (World.block_lt_of_cell? wr _ X030.out)).trans X030.out, ((below_step HB hb).cell (World.block_lt_of_cell? wr _ X040.out)).trans X040.out, ((below_step HB hb).cell (World.block_lt_of_cell? wr _ X100.out)).trans X100.out, ((below_step HB hb).cell (World.block_lt_of_cell? wr _ X110.out)).trans X110.out, ((below_step HB hb).cell (World.block_lt_of_cell? wr _ X111.out)).trans X111.out, ((below_step HB hb).cell (World.block_lt_of_cell? wr _ X120.out)).trans X120.out, ((below_step HB hb).cell (World.block_lt_of_cell? wr _ X121.out)).trans X121.out, ((below_step HB hb).cell (World.block_lt_of_cell? wr _ X130.out)).trans X130.out, ((below_step HB hb).cell (World.block_lt_of_cell? wr _ X131.out)).trans X131.out, ((below_step HB hb).cell (World.block_lt_of_cell? wr _ X140.out)).trans X140.out, ((below_step HB hb).cell (World.block_lt_of_cell? wr _ X141.out)).trans X141.out, ((below_step HB hb).cell (World.block_lt_of_cell? wr _ X200.out)).trans X200.out, ((below_step HB hb).cell (World.block_lt_of_cell? wr _ X210.out)).trans X210.out, ((below_step HB hb).cell (World.block_lt_of_cell? wr _ X211.out)).trans X211.out, ((below_step HB hb).cell (World.block_lt_of_cell? wr _ X220.out)).trans X220.out, ((below_step HB hb).cell (World.block_lt_of_cell? wr _ X221.out)).trans X221.out, ((below_step HB hb).cell (World.block_lt_of_cell? wr _ X230.out)).trans X230.out, ((below_step HB hb).cell (World.block_lt_of_cell? wr _ X231.out)).trans X231.out, ((below_step HB hb).cell (World.block_lt_of_cell? wr _ X240.out)).trans X240.out, ((below_step HB hb).cell (World.block_lt_of_cell? wr _ X241.out)).trans X241.out⟩ (fun hHeld => ?_)
     clear hK K
     have hN := ST211 (p, u, g1, g2) W1 ⟨below_step HB hb, HP.below hb, hu.wide (fun k_ hk => ⟨Nat.le_trans HB.size hk, (by have := blk_lt HG1.1; (try dsimp only); omega), (by have := blk_lt HG2.1; (try dsimp only); omega)⟩), ⟨blk_below HG1.1 hb, HG1.2⟩, ⟨blk_below HG2.1 hb, HG2.2⟩, HNE⟩
     refine norm_ ?_ hN
     show _ = putAll _ _
     (first | (simp only [putAll, Act.put, List.setIfInBounds_toArray, List.set_cons_zero, List.set_cons_succ, i64_w, i32_w]; done) | (simp only [putAll, Act.put, List.setIfInBounds_toArray, List.set_cons_zero, List.set_cons_succ, i64_w, i32_w]; rfl))
   intro ST111
   refine join_ (σ := CV × CV × Nat × Nat) 3 (bb 18 49151) (fun s_ => [(75, CV.val s_.1 ab), (82, CV.val s_.2.1 bc), (12, .pointer (some ⟨s_.2.2.2, 0, none⟩))]) (fun s_ w' => Below wr.heap.size wr w' ∧ CV.ok s_.1 ab w' (fun k_ => wr.heap.size ≤ k_ ∧ True ∧ k_ ≠ s_.2.2.2) ∧ CV.ok s_.2.1 bc w' (fun k_ => wr.heap.size ≤ k_ ∧ True ∧ k_ ≠ s_.2.2.2) ∧ True ∧ (w'.heap[s_.2.2.2]? = some (.cells #[.slice none 0 0, .int .i64 0, .slice none 0 0, .slice none 0 0, .slice none 0 0] 30 (0, 0)) ∧ wr.heap.size ≤ s_.2.2.2) ∧ True) ?_ ?_
   ·rintro ⟨p, q, g1, g2⟩ W ⟨HB, HP, HQ, _, HG2, _⟩
    dsimp only at *
    refine norm_ (a' := ?_) ?_ ?_
    rotate_left
    ·show putAll _ _ = _
     (first | (simp only [putAll, Act.put, List.setIfInBounds_toArray, List.set_cons_zero, List.set_cons_succ, i64_w, i32_w]; done) | (simp only [putAll, Act.put, List.setIfInBounds_toArray, List.set_cons_zero, List.set_cons_succ, i64_w, i32_w]; rfl))
    refine one_ (i := 14) (N := some 11) (bb 18 65535) rfl rfl (one_of HT_.out (by kernel_rfl)) (by decide) (fun K hK => ?_)
    ·refine box_step (by rfl) rfl (cs := #[.slice none 0 0, .int .i64 0, .slice none 0 0, .slice none 0 0, .slice none 0 0]) (t := 30) (by first | (go_simp; done) | (go_simp; rfl)) ?_
     intro g hg W1 hk hb
     refine hK.out _ _ ⟨((below_step HB hb).cell (World.block_lt_of_cell? wr _ X000.out)).trans X000.out, ((below_step HB hb).cell (World.block_lt_of_cell? wr _ X010.out)).trans X010.out, ((below_step HB hb).cell (World.block_lt_of_cell? wr _ X020.out)).trans X020.out, ((below_step HB hb).cell (World.block_lt_of_cell? wr _ X030.out)).trans X030.out, ((below_step HB hb).cell (World.block_lt_of_cell? wr _ X040.out)).trans X040.out, ((below_step HB hb).cell (World.block_lt_of_cell? wr _ X100.out)).trans X100.out, ((below_step HB hb).cell (World.block_lt_of_cell? wr _ X110.out)).trans X110.out, ((below_step HB hb).cell (World.block_lt_of_cell? wr _ X111.out)).trans X111.out, ((below_step HB hb).cell (World.block_lt_of_cell? wr _ X120.out)).trans X120.out, ((below_step HB hb).cell (World.block_lt_of_cell? wr _ X121.out)).trans X121.out, ((below_step HB hb).cell (World.block_lt_of_cell? wr _ X130.out)).trans X130.out, ((below_step HB hb).cell (World.block_lt_of_cell? wr _ X131.out)).trans X131.out, ((below_step HB hb).cell (World.block_lt_of_cell? wr _ X140.out)).trans X140.out, ((below_step HB hb).cell (World.block_lt_of_cell? wr _ X141.out)).trans X141.out, ((below_step HB hb).cell (World.block_lt_of_cell? wr _ X200.out)).trans X200.out, ((below_step HB hb).cell (World.block_lt_of_cell? wr _ X210.out)).trans X210.out, ((below_step HB hb).cell (World.block_lt_of_cell? wr _ X211.out)).trans X211.out, ((below_step HB hb).cell (World.block_lt_of_cell? wr _ X220.out)).trans X220.out, ((below_step HB hb).cell (World.block_lt_of_cell? wr _ X221.out)).trans X221.out, ((below_step HB hb).cell (World.block_lt_of_cell? wr _ X230.out)).trans X230.out, ((below_step HB hb).cell (World.block_lt_of_cell? wr _ X231.out)).trans X231.out, ((below_step HB hb).cell (World.block_lt_of_cell? wr _ X240.out)).trans X240.out, ((below_step HB hb).cell (World.block_lt_of_cell? wr _ X241.out)).trans X241.out⟩ (fun hHeld => ?_)
     clear hK K
     have hN := ST211 (p, q, g, g2) W1 ⟨below_step HB hb, (CV.ok.below (HP.bound.wide (fun k_ hk => ⟨hk.1.1, (by have := hk.2; (try dsimp only); omega), hk.1.2.2⟩)) hb), (CV.ok.below (HQ.bound.wide (fun k_ hk => ⟨hk.1.1, (by have := hk.2; (try dsimp only); omega), hk.1.2.2⟩)) hb), ⟨hk, by rw [hg]; exact HB.size⟩, ⟨blk_below HG2.1 hb, HG2.2⟩, (by have := blk_lt HG2.1; (try dsimp only); omega)⟩
     refine norm_ ?_ hN
     show _ = putAll _ _
     (first | (simp only [putAll, Act.put, List.setIfInBounds_toArray, List.set_cons_zero, List.set_cons_succ, i64_w, i32_w]; done) | (simp only [putAll, Act.put, List.setIfInBounds_toArray, List.set_cons_zero, List.set_cons_succ, i64_w, i32_w]; rfl))
   intro ST201
   refine join_ (σ := CV × CV × Nat × Nat) 3 (bb 18 32767) (fun s_ => [(75, CV.val s_.1 ab), (82, CV.val s_.2.1 bc), (11, .pointer (some ⟨s_.2.2.1, 0, none⟩))]) (fun s_ w' => Below wr.heap.size wr w' ∧ CV.ok s_.1 ab w' (fun k_ => wr.heap.size ≤ k_ ∧ k_ ≠ s_.2.2.1 ∧ True) ∧ CV.ok s_.2.1 bc w' (fun k_ => wr.heap.size ≤ k_ ∧ k_ ≠ s_.2.2.1 ∧ True) ∧ (w'.heap[s_.2.2.1]? = some (.cells #[.slice none 0 0, .int .i64 0, .slice none 0 0, .slice none 0 0, .slice none 0 0] 30 (0, 0)) ∧ wr.heap.size ≤ s_.2.2.1) ∧ True ∧ True) ?_ ?_
   ·rintro ⟨p, q, g1, g2⟩ W ⟨HB, HP, HQ, HG1, _, _⟩
    dsimp only at *
    refine norm_ (a' := ?_) ?_ ?_
    rotate_left
    ·show putAll _ _ = _
     (first | (simp only [putAll, Act.put, List.setIfInBounds_toArray, List.set_cons_zero, List.set_cons_succ, i64_w, i32_w]; done) | (simp only [putAll, Act.put, List.setIfInBounds_toArray, List.set_cons_zero, List.set_cons_succ, i64_w, i32_w]; rfl))
    refine one_ (i := 15) (N := some 12) (bb 18 65535) rfl rfl (one_of HT_.out (by kernel_rfl)) (by decide) (fun K hK => ?_)
    ·refine box_step (by rfl) rfl (cs := #[.slice none 0 0, .int .i64 0, .slice none 0 0, .slice none 0 0, .slice none 0 0]) (t := 30) (by first | (go_simp; done) | (go_simp; rfl)) ?_
     intro g hg W1 hk hb
     refine hK.out _ _ ⟨((below_step HB hb).cell (World.block_lt_of_cell? wr _ X000.out)).trans X000.out, ((below_step HB hb).cell (World.block_lt_of_cell? wr _ X010.out)).trans X010.out, ((below_step HB hb).cell (World.block_lt_of_cell? wr _ X020.out)).trans X020.out, ((below_step HB hb).cell (World.block_lt_of_cell? wr _ X030.out)).trans X030.out, ((below_step HB hb).cell (World.block_lt_of_cell? wr _ X040.out)).trans X040.out, ((below_step HB hb).cell (World.block_lt_of_cell? wr _ X100.out)).trans X100.out, ((below_step HB hb).cell (World.block_lt_of_cell? wr _ X110.out)).trans X110.out, ((below_step HB hb).cell (World.block_lt_of_cell? wr _ X111.out)).trans X111.out, ((below_step HB hb).cell (World.block_lt_of_cell? wr _ X120.out)).trans X120.out, ((below_step HB hb).cell (World.block_lt_of_cell? wr _ X121.out)).trans X121.out, ((below_step HB hb).cell (World.block_lt_of_cell? wr _ X130.out)).trans X130.out, ((below_step HB hb).cell (World.block_lt_of_cell? wr _ X131.out)).trans X131.out, ((below_step HB hb).cell (World.block_lt_of_cell? wr _ X140.out)).trans X140.out, ((below_step HB hb).cell (World.block_lt_of_cell? wr _ X141.out)).trans X141.out, ((below_step HB hb).cell (World.block_lt_of_cell? wr _ X200.out)).trans X200.out, ((below_step HB hb).cell (World.block_lt_of_cell? wr _ X210.out)).trans X210.out, ((below_step HB hb).cell (World.block_lt_of_cell? wr _ X211.out)).trans X211.out, ((below_step HB hb).cell (World.block_lt_of_cell? wr _ X220.out)).trans X220.out, ((below_step HB hb).cell (World.block_lt_of_cell? wr _ X221.out)).trans X221.out, ((below_step HB hb).cell (World.block_lt_of_cell? wr _ X230.out)).trans X230.out, ((below_step HB hb).cell (World.block_lt_of_cell? wr _ X231.out)).trans X231.out, ((below_step HB hb).cell (World.block_lt_of_cell? wr _ X240.out)).trans X240.out, ((below_step HB hb).cell (World.block_lt_of_cell? wr _ X241.out)).trans X241.out⟩ (fun hHeld => ?_)
     clear hK K
     have hN := ST211 (p, q, g1, g) W1 ⟨below_step HB hb, (CV.ok.below (HP.bound.wide (fun k_ hk => ⟨hk.1.1, hk.1.2.1, (by have := hk.2; (try dsimp only); omega)⟩)) hb), (CV.ok.below (HQ.bound.wide (fun k_ hk => ⟨hk.1.1, hk.1.2.1, (by have := hk.2; (try dsimp only); omega)⟩)) hb), ⟨blk_below HG1.1 hb, HG1.2⟩, ⟨hk, by rw [hg]; exact HB.size⟩, (by have := blk_lt HG1.1; (try dsimp only); omega)⟩
     refine norm_ ?_ hN
     show _ = putAll _ _
     (first | (simp only [putAll, Act.put, List.setIfInBounds_toArray, List.set_cons_zero, List.set_cons_succ, i64_w, i32_w]; done) | (simp only [putAll, Act.put, List.setIfInBounds_toArray, List.set_cons_zero, List.set_cons_succ, i64_w, i32_w]; rfl))
   intro ST210
   refine join_ (σ := CV × CV × Nat × Nat) 4 (bb 18 57279) (fun s_ => [(11, .pointer (some ⟨s_.2.2.1, 0, none⟩)), (12, .pointer (some ⟨s_.2.2.2, 0, none⟩))]) (fun s_ w' => Below wr.heap.size wr w' ∧ True ∧ True ∧ (w'.heap[s_.2.2.1]? = some (.cells #[.slice none 0 0, .int .i64 0, .slice none 0 0, .slice none 0 0, .slice none 0 0] 30 (0, 0)) ∧ wr.heap.size ≤ s_.2.2.1) ∧ (w'.heap[s_.2.2.2]? = some (.cells #[.slice none 0 0, .int .i64 0, .slice none 0 0, .slice none 0 0, .slice none 0 0] 30 (0, 0)) ∧ wr.heap.size ≤ s_.2.2.2) ∧ s_.2.2.1 ≠ s_.2.2.2) ?_ ?_
   ·rintro ⟨p, q, g1, g2⟩ W ⟨HB, _, _, HG1, HG2, HNE⟩
    dsimp only at *
    refine norm_ (a' := ?_) ?_ ?_
    rotate_left
    ·show putAll _ _ = _
     (first | (simp only [putAll, Act.put, List.setIfInBounds_toArray, List.set_cons_zero, List.set_cons_succ, i64_w, i32_w]; done) | (simp only [putAll, Act.put, List.setIfInBounds_toArray, List.set_cons_zero, List.set_cons_succ, i64_w, i32_w]; rfl))
    refine one_ (i := 6) (N := some 75) (bb 18 57343) rfl rfl (one_of HT_.out (by kernel_rfl)) (by decide) (fun K hK => ?_)
    ·refine goes_ Try.func21 (by kernel_rfl) rfl #[CV.val v0 c_0, CV.val v1 c_1] (by rfl) rfl rfl (by (try simp only [List.map_toArray, List.map_cons, List.map_nil]); first | done | rfl) ?_
     with_reducible refine (cell_Join.callsV k _ (VV0.out.below HB) (VV1.out.below HB) H2.out).mono ?_
     rintro e W1 ⟨u, rfl, hu, hb⟩
     refine ⟨_, rfl, ?_⟩
     refine hK.out _ _ ⟨((below_step HB hb).cell (World.block_lt_of_cell? wr _ X000.out)).trans X000.out, ((below_step HB hb).cell (World.block_lt_of_cell? wr _ X010.out)).trans X010.out, ((below_step HB hb).cell (World.block_lt_of_cell? wr _ X020.out)).trans X020.out, ((below_step HB hb).cell (World.block_lt_of_cell? wr _ X030.out)).trans X030.out, ((below_step HB hb).cell (World.block_lt_of_cell? wr _ X040.out)).trans X040.out, ((below_step HB hb).cell (World.block_lt_of_cell? wr _ X100.out)).trans X100.out, ((below_step HB hb).cell (World.block_lt_of_cell? wr _ X110.out)).trans X110.out, ((below_step HB hb).cell (World.block_lt_of_cell? wr _ X111.out)).trans X111.out, ((below_step HB hb).cell (World.block_lt_of_cell? wr _ X120.out)).trans X120.out, ((below_step HB hb).cell (World.block_lt_of_cell? wr _ X121.out)).trans X121.out, ((below_step HB hb).cell (World.block_lt_of_cell? wr _ X130.out)).trans X130.out, ((below_step HB hb).cell (World.block_lt_of_cell? wr _ X131.out)).trans X131.out, ((below_step HB hb).cell (World.block_lt_of_cell? wr _ X140.out)).trans X140.out, ((below_step HB hb).cell (World.block_lt_of_cell? wr _ X141.out)).trans X141.out, ((below_step HB hb).cell (World.block_lt_of_cell? wr _ X200.out)).trans X200.out, ((below_step HB hb).cell (World.block_lt_of_cell? wr _ X210.out)).trans X210.out, ((below_step HB hb).cell (World.block_lt_of_cell? wr _ X211.out)).trans X211.out, ((below_step HB hb).cell (World.block_lt_of_cell? wr _ X220.out)).trans X220.out, ((below_step HB hb).cell (World.block_lt_of_cell? wr _ X221.out)).trans X221.out, ((below_step HB hb).cell (World.block_lt_of_cell? wr _ X230.out)).trans X230.out, ((below_step HB hb).cell (World.block_lt_of_cell? wr _ X231.out)).trans X231.out, ((below_step HB hb).cell (World.block_lt_of_cell? wr _ X240.out)).trans X240.out, ((below_step HB hb).cell (World.block_lt_of_cell? wr _ X241.out)).trans X241.out⟩ (fun hHeld => ?_)
     clear hK K
     have hN := ST111 (u, default, g1, g2) W1 ⟨below_step HB hb, hu.wide (fun k_ hk => ⟨Nat.le_trans HB.size hk, (by have := blk_lt HG1.1; (try dsimp only); omega), (by have := blk_lt HG2.1; (try dsimp only); omega)⟩), trivial, ⟨blk_below HG1.1 hb, HG1.2⟩, ⟨blk_below HG2.1 hb, HG2.2⟩, HNE⟩
     refine norm_ ?_ hN
     show _ = putAll _ _
     (first | (simp only [putAll, Act.put, List.setIfInBounds_toArray, List.set_cons_zero, List.set_cons_succ, i64_w, i32_w]; done) | (simp only [putAll, Act.put, List.setIfInBounds_toArray, List.set_cons_zero, List.set_cons_succ, i64_w, i32_w]; rfl))
   intro ST011
   refine join_ (σ := CV × CV × Nat × Nat) 4 (bb 18 40959) (fun s_ => [(75, CV.val s_.1 ab), (12, .pointer (some ⟨s_.2.2.2, 0, none⟩))]) (fun s_ w' => Below wr.heap.size wr w' ∧ CV.ok s_.1 ab w' (fun k_ => wr.heap.size ≤ k_ ∧ True ∧ k_ ≠ s_.2.2.2) ∧ True ∧ True ∧ (w'.heap[s_.2.2.2]? = some (.cells #[.slice none 0 0, .int .i64 0, .slice none 0 0, .slice none 0 0, .slice none 0 0] 30 (0, 0)) ∧ wr.heap.size ≤ s_.2.2.2) ∧ True) ?_ ?_
   ·rintro ⟨p, q, g1, g2⟩ W ⟨HB, HP, _, _, HG2, _⟩
    dsimp only at *
    refine norm_ (a' := ?_) ?_ ?_
    rotate_left
    ·show putAll _ _ = _
     (first | (simp only [putAll, Act.put, List.setIfInBounds_toArray, List.set_cons_zero, List.set_cons_succ, i64_w, i32_w]; done) | (simp only [putAll, Act.put, List.setIfInBounds_toArray, List.set_cons_zero, List.set_cons_succ, i64_w, i32_w]; rfl))
    refine two_ (i := 13) (j := 14) (Ni := some 82) (Nj := some 11) (bb 18 49151) (bb 18 57343) rfl rfl rfl rfl (two_of HT_.out (by kernel_rfl)) (by decide) (by decide) (fun K hK => ?_) (fun K hK => ?_)
    ·refine goes_ Try.func21 (by kernel_rfl) rfl #[CV.val v1 c_1, CV.val v2 c_2] (by rfl) rfl rfl (by (try simp only [List.map_toArray, List.map_cons, List.map_nil]); first | done | rfl) ?_
     with_reducible refine (cell_Join.callsV k _ (VV1.out.below HB) (VV2.out.below HB) H3.out).mono ?_
     rintro e W1 ⟨u, rfl, hu, hb⟩
     refine ⟨_, rfl, ?_⟩
     refine hK.out _ _ ⟨((below_step HB hb).cell (World.block_lt_of_cell? wr _ X000.out)).trans X000.out, ((below_step HB hb).cell (World.block_lt_of_cell? wr _ X010.out)).trans X010.out, ((below_step HB hb).cell (World.block_lt_of_cell? wr _ X020.out)).trans X020.out, ((below_step HB hb).cell (World.block_lt_of_cell? wr _ X030.out)).trans X030.out, ((below_step HB hb).cell (World.block_lt_of_cell? wr _ X040.out)).trans X040.out, ((below_step HB hb).cell (World.block_lt_of_cell? wr _ X100.out)).trans X100.out, ((below_step HB hb).cell (World.block_lt_of_cell? wr _ X110.out)).trans X110.out, ((below_step HB hb).cell (World.block_lt_of_cell? wr _ X111.out)).trans X111.out, ((below_step HB hb).cell (World.block_lt_of_cell? wr _ X120.out)).trans X120.out, ((below_step HB hb).cell (World.block_lt_of_cell? wr _ X121.out)).trans X121.out, ((below_step HB hb).cell (World.block_lt_of_cell? wr _ X130.out)).trans X130.out, ((below_step HB hb).cell (World.block_lt_of_cell? wr _ X131.out)).trans X131.out, ((below_step HB hb).cell (World.block_lt_of_cell? wr _ X140.out)).trans X140.out, ((below_step HB hb).cell (World.block_lt_of_cell? wr _ X141.out)).trans X141.out, ((below_step HB hb).cell (World.block_lt_of_cell? wr _ X200.out)).trans X200.out, ((below_step HB hb).cell (World.block_lt_of_cell? wr _ X210.out)).trans X210.out, ((below_step HB hb).cell (World.block_lt_of_cell? wr _ X211.out)).trans X211.out, ((below_step HB hb).cell (World.block_lt_of_cell? wr _ X220.out)).trans X220.out, ((below_step HB hb).cell (World.block_lt_of_cell? wr _ X221.out)).trans X221.out, ((below_step HB hb).cell (World.block_lt_of_cell? wr _ X230.out)).trans X230.out, ((below_step HB hb).cell (World.block_lt_of_cell? wr _ X231.out)).trans X231.out, ((below_step HB hb).cell (World.block_lt_of_cell? wr _ X240.out)).trans X240.out, ((below_step HB hb).cell (World.block_lt_of_cell? wr _ X241.out)).trans X241.out⟩ (fun hHeld => ?_)
     clear hK K
     have hN := ST201 (p, u, 0, g2) W1 ⟨below_step HB hb, HP.below hb, hu.wide (fun k_ hk => ⟨Nat.le_trans HB.size hk, trivial, (by have := blk_lt HG2.1; (try dsimp only); omega)⟩), trivial, ⟨blk_below HG2.1 hb, HG2.2⟩, trivial⟩
     refine norm_ ?_ hN
     show _ = putAll _ _
     (first | (simp only [putAll, Act.put, List.setIfInBounds_toArray, List.set_cons_zero, List.set_cons_succ, i64_w, i32_w]; done) | (simp only [putAll, Act.put, List.setIfInBounds_toArray, List.set_cons_zero, List.set_cons_succ, i64_w, i32_w]; rfl))
    ·refine box_step (by rfl) rfl (cs := #[.slice none 0 0, .int .i64 0, .slice none 0 0, .slice none 0 0, .slice none 0 0]) (t := 30) (by first | (go_simp; done) | (go_simp; rfl)) ?_
     intro g hg W1 hk hb
     refine hK.out _ _ ⟨((below_step HB hb).cell (World.block_lt_of_cell? wr _ X000.out)).trans X000.out, ((below_step HB hb).cell (World.block_lt_of_cell? wr _ X010.out)).trans X010.out, ((below_step HB hb).cell (World.block_lt_of_cell? wr _ X020.out)).trans X020.out, ((below_step HB hb).cell (World.block_lt_of_cell? wr _ X030.out)).trans X030.out, ((below_step HB hb).cell (World.block_lt_of_cell? wr _ X040.out)).trans X040.out, ((below_step HB hb).cell (World.block_lt_of_cell? wr _ X100.out)).trans X100.out, ((below_step HB hb).cell (World.block_lt_of_cell? wr _ X110.out)).trans X110.out, ((below_step HB hb).cell (World.block_lt_of_cell? wr _ X111.out)).trans X111.out, ((below_step HB hb).cell (World.block_lt_of_cell? wr _ X120.out)).trans X120.out, ((below_step HB hb).cell (World.block_lt_of_cell? wr _ X121.out)).trans X121.out, ((below_step HB hb).cell (World.block_lt_of_cell? wr _ X130.out)).trans X130.out, ((below_step HB hb).cell (World.block_lt_of_cell? wr _ X131.out)).trans X131.out, ((below_step HB hb).cell (World.block_lt_of_cell? wr _ X140.out)).trans X140.out, ((below_step HB hb).cell (World.block_lt_of_cell? wr _ X141.out)).trans X141.out, ((below_step HB hb).cell (World.block_lt_of_cell? wr _ X200.out)).trans X200.out, ((below_step HB hb).cell (World.block_lt_of_cell? wr _ X210.out)).trans X210.out, ((below_step HB hb).cell (World.block_lt_of_cell? wr _ X211.out)).trans X211.out, ((below_step HB hb).cell (World.block_lt_of_cell? wr _ X220.out)).trans X220.out, ((below_step HB hb).cell (World.block_lt_of_cell? wr _ X221.out)).trans X221.out, ((below_step HB hb).cell (World.block_lt_of_cell? wr _ X230.out)).trans X230.out, ((below_step HB hb).cell (World.block_lt_of_cell? wr _ X231.out)).trans X231.out, ((below_step HB hb).cell (World.block_lt_of_cell? wr _ X240.out)).trans X240.out, ((below_step HB hb).cell (World.block_lt_of_cell? wr _ X241.out)).trans X241.out⟩ (fun hHeld => ?_)
     clear hK K
     have hN := ST111 (p, default, g, g2) W1 ⟨below_step HB hb, (CV.ok.below (HP.bound.wide (fun k_ hk => ⟨hk.1.1, (by have := hk.2; (try dsimp only); omega), hk.1.2.2⟩)) hb), trivial, ⟨hk, by rw [hg]; exact HB.size⟩, ⟨blk_below HG2.1 hb, HG2.2⟩, (by have := blk_lt HG2.1; (try dsimp only); omega)⟩
     refine norm_ ?_ hN
     show _ = putAll _ _
     (first | (simp only [putAll, Act.put, List.setIfInBounds_toArray, List.set_cons_zero, List.set_cons_succ, i64_w, i32_w]; done) | (simp only [putAll, Act.put, List.setIfInBounds_toArray, List.set_cons_zero, List.set_cons_succ, i64_w, i32_w]; rfl))
   intro ST101
   refine join_ (σ := CV × CV × Nat × Nat) 4 (bb 18 24575) (fun s_ => [(75, CV.val s_.1 ab), (11, .pointer (some ⟨s_.2.2.1, 0, none⟩))]) (fun s_ w' => Below wr.heap.size wr w' ∧ CV.ok s_.1 ab w' (fun k_ => wr.heap.size ≤ k_ ∧ k_ ≠ s_.2.2.1 ∧ True) ∧ True ∧ (w'.heap[s_.2.2.1]? = some (.cells #[.slice none 0 0, .int .i64 0, .slice none 0 0, .slice none 0 0, .slice none 0 0] 30 (0, 0)) ∧ wr.heap.size ≤ s_.2.2.1) ∧ True ∧ True) ?_ ?_
   ·rintro ⟨p, q, g1, g2⟩ W ⟨HB, HP, _, HG1, _, _⟩
    dsimp only at *
    refine norm_ (a' := ?_) ?_ ?_
    rotate_left
    ·show putAll _ _ = _
     (first | (simp only [putAll, Act.put, List.setIfInBounds_toArray, List.set_cons_zero, List.set_cons_succ, i64_w, i32_w]; done) | (simp only [putAll, Act.put, List.setIfInBounds_toArray, List.set_cons_zero, List.set_cons_succ, i64_w, i32_w]; rfl))
    refine two_ (i := 13) (j := 15) (Ni := some 82) (Nj := some 12) (bb 18 32767) (bb 18 57343) rfl rfl rfl rfl (two_of HT_.out (by kernel_rfl)) (by decide) (by decide) (fun K hK => ?_) (fun K hK => ?_)
    ·refine goes_ Try.func21 (by kernel_rfl) rfl #[CV.val v1 c_1, CV.val v2 c_2] (by rfl) rfl rfl (by (try simp only [List.map_toArray, List.map_cons, List.map_nil]); first | done | rfl) ?_
     with_reducible refine (cell_Join.callsV k _ (VV1.out.below HB) (VV2.out.below HB) H3.out).mono ?_
     rintro e W1 ⟨u, rfl, hu, hb⟩
     refine ⟨_, rfl, ?_⟩
     refine hK.out _ _ ⟨((below_step HB hb).cell (World.block_lt_of_cell? wr _ X000.out)).trans X000.out, ((below_step HB hb).cell (World.block_lt_of_cell? wr _ X010.out)).trans X010.out, ((below_step HB hb).cell (World.block_lt_of_cell? wr _ X020.out)).trans X020.out, ((below_step HB hb).cell (World.block_lt_of_cell? wr _ X030.out)).trans X030.out, ((below_step HB hb).cell (World.block_lt_of_cell? wr _ X040.out)).trans X040.out, ((below_step HB hb).cell (World.block_lt_of_cell? wr _ X100.out)).trans X100.out, ((below_step HB hb).cell (World.block_lt_of_cell? wr _ X110.out)).trans X110.out, ((below_step HB hb).cell (World.block_lt_of_cell? wr _ X111.out)).trans X111.out, ((below_step HB hb).cell (World.block_lt_of_cell? wr _ X120.out)).trans X120.out, ((below_step HB hb).cell (World.block_lt_of_cell? wr _ X121.out)).trans X121.out, ((below_step HB hb).cell (World.block_lt_of_cell? wr _ X130.out)).trans X130.out, ((below_step HB hb).cell (World.block_lt_of_cell? wr _ X131.out)).trans X131.out, ((below_step HB hb).cell (World.block_lt_of_cell? wr _ X140.out)).trans X140.out, ((below_step HB hb).cell (World.block_lt_of_cell? wr _ X141.out)).trans X141.out, ((below_step HB hb).cell (World.block_lt_of_cell? wr _ X200.out)).trans X200.out, ((below_step HB hb).cell (World.block_lt_of_cell? wr _ X210.out)).trans X210.out, ((below_step HB hb).cell (World.block_lt_of_cell? wr _ X211.out)).trans X211.out, ((below_step HB hb).cell (World.block_lt_of_cell? wr _ X220.out)).trans X220.out, ((below_step HB hb).cell (World.block_lt_of_cell? wr _ X221.out)).trans X221.out, ((below_step HB hb).cell (World.block_lt_of_cell? wr _ X230.out)).trans X230.out, ((below_step HB hb).cell (World.block_lt_of_cell? wr _ X231.out)).trans X231.out, ((below_step HB hb).cell (World.block_lt_of_cell? wr _ X240.out)).trans X240.out, ((below_step HB hb).cell (World.block_lt_of_cell? wr _ X241.out)).trans X241.out⟩ (fun hHeld => ?_)
     clear hK K
     have hN := ST210 (p, u, g1, 0) W1 ⟨below_step HB hb, HP.below hb, hu.wide (fun k_ hk => ⟨Nat.le_trans HB.size hk, (by have := blk_lt HG1.1; (try dsimp only); omega), trivial⟩), ⟨blk_below HG1.1 hb, HG1.2⟩, trivial, trivial⟩
     refine norm_ ?_ hN
     show _ = putAll _ _
     (first | (simp only [putAll, Act.put, List.setIfInBounds_toArray, List.set_cons_zero, List.set_cons_succ, i64_w, i32_w]; done) | (simp only [putAll, Act.put, List.setIfInBounds_toArray, List.set_cons_zero, List.set_cons_succ, i64_w, i32_w]; rfl))
    ·refine box_step (by rfl) rfl (cs := #[.slice none 0 0, .int .i64 0, .slice none 0 0, .slice none 0 0, .slice none 0 0]) (t := 30) (by first | (go_simp; done) | (go_simp; rfl)) ?_
     intro g hg W1 hk hb
     refine hK.out _ _ ⟨((below_step HB hb).cell (World.block_lt_of_cell? wr _ X000.out)).trans X000.out, ((below_step HB hb).cell (World.block_lt_of_cell? wr _ X010.out)).trans X010.out, ((below_step HB hb).cell (World.block_lt_of_cell? wr _ X020.out)).trans X020.out, ((below_step HB hb).cell (World.block_lt_of_cell? wr _ X030.out)).trans X030.out, ((below_step HB hb).cell (World.block_lt_of_cell? wr _ X040.out)).trans X040.out, ((below_step HB hb).cell (World.block_lt_of_cell? wr _ X100.out)).trans X100.out, ((below_step HB hb).cell (World.block_lt_of_cell? wr _ X110.out)).trans X110.out, ((below_step HB hb).cell (World.block_lt_of_cell? wr _ X111.out)).trans X111.out, ((below_step HB hb).cell (World.block_lt_of_cell? wr _ X120.out)).trans X120.out, ((below_step HB hb).cell (World.block_lt_of_cell? wr _ X121.out)).trans X121.out, ((below_step HB hb).cell (World.block_lt_of_cell? wr _ X130.out)).trans X130.out, ((below_step HB hb).cell (World.block_lt_of_cell? wr _ X131.out)).trans X131.out, ((below_step HB hb).cell (World.block_lt_of_cell? wr _ X140.out)).trans X140.out, ((below_step HB hb).cell (World.block_lt_of_cell? wr _ X141.out)).trans X141.out, ((below_step HB hb).cell (World.block_lt_of_cell? wr _ X200.out)).trans X200.out, ((below_step HB hb).cell (World.block_lt_of_cell? wr _ X210.out)).trans X210.out, ((below_step HB hb).cell (World.block_lt_of_cell? wr _ X211.out)).trans X211.out, ((below_step HB hb).cell (World.block_lt_of_cell? wr _ X220.out)).trans X220.out, ((below_step HB hb).cell (World.block_lt_of_cell? wr _ X221.out)).trans X221.out, ((below_step HB hb).cell (World.block_lt_of_cell? wr _ X230.out)).trans X230.out, ((below_step HB hb).cell (World.block_lt_of_cell? wr _ X231.out)).trans X231.out, ((below_step HB hb).cell (World.block_lt_of_cell? wr _ X240.out)).trans X240.out, ((below_step HB hb).cell (World.block_lt_of_cell? wr _ X241.out)).trans X241.out⟩ (fun hHeld => ?_)
     clear hK K
     have hN := ST111 (p, default, g1, g) W1 ⟨below_step HB hb, (CV.ok.below (HP.bound.wide (fun k_ hk => ⟨hk.1.1, hk.1.2.1, (by have := hk.2; (try dsimp only); omega)⟩)) hb), trivial, ⟨blk_below HG1.1 hb, HG1.2⟩, ⟨hk, by rw [hg]; exact HB.size⟩, (by have := blk_lt HG1.1; (try dsimp only); omega)⟩
     refine norm_ ?_ hN
     show _ = putAll _ _
     (first | (simp only [putAll, Act.put, List.setIfInBounds_toArray, List.set_cons_zero, List.set_cons_succ, i64_w, i32_w]; done) | (simp only [putAll, Act.put, List.setIfInBounds_toArray, List.set_cons_zero, List.set_cons_succ, i64_w, i32_w]; rfl))
   intro ST110
   refine join_ (σ := CV × CV × Nat × Nat) 4 (bb 18 16383) (fun s_ => [(75, CV.val s_.1 ab), (82, CV.val s_.2.1 bc)]) (fun s_ w' => Below wr.heap.size wr w' ∧ CV.ok s_.1 ab w' (fun k_ => wr.heap.size ≤ k_ ∧ True ∧ True) ∧ CV.ok s_.2.1 bc w' (fun k_ => wr.heap.size ≤ k_ ∧ True ∧ True) ∧ True ∧ True ∧ True) ?_ ?_
   ·rintro ⟨p, q, g1, g2⟩ W ⟨HB, HP, HQ, _, _, _⟩
    dsimp only at *
    refine norm_ (a' := ?_) ?_ ?_
    rotate_left
    ·show putAll _ _ = _
     (first | (simp only [putAll, Act.put, List.setIfInBounds_toArray, List.set_cons_zero, List.set_cons_succ, i64_w, i32_w]; done) | (simp only [putAll, Act.put, List.setIfInBounds_toArray, List.set_cons_zero, List.set_cons_succ, i64_w, i32_w]; rfl))
    refine two_ (i := 14) (j := 15) (Ni := some 11) (Nj := some 12) (bb 18 32767) (bb 18 49151) rfl rfl rfl rfl (two_of HT_.out (by kernel_rfl)) (by decide) (by decide) (fun K hK => ?_) (fun K hK => ?_)
    ·refine box_step (by rfl) rfl (cs := #[.slice none 0 0, .int .i64 0, .slice none 0 0, .slice none 0 0, .slice none 0 0]) (t := 30) (by first | (go_simp; done) | (go_simp; rfl)) ?_
     intro g hg W1 hk hb
     refine hK.out _ _ ⟨((below_step HB hb).cell (World.block_lt_of_cell? wr _ X000.out)).trans X000.out, ((below_step HB hb).cell (World.block_lt_of_cell? wr _ X010.out)).trans X010.out, ((below_step HB hb).cell (World.block_lt_of_cell? wr _ X020.out)).trans X020.out, ((below_step HB hb).cell (World.block_lt_of_cell? wr _ X030.out)).trans X030.out, ((below_step HB hb).cell (World.block_lt_of_cell? wr _ X040.out)).trans X040.out, ((below_step HB hb).cell (World.block_lt_of_cell? wr _ X100.out)).trans X100.out, ((below_step HB hb).cell (World.block_lt_of_cell? wr _ X110.out)).trans X110.out, ((below_step HB hb).cell (World.block_lt_of_cell? wr _ X111.out)).trans X111.out, ((below_step HB hb).cell (World.block_lt_of_cell? wr _ X120.out)).trans X120.out, ((below_step HB hb).cell (World.block_lt_of_cell? wr _ X121.out)).trans X121.out, ((below_step HB hb).cell (World.block_lt_of_cell? wr _ X130.out)).trans X130.out, ((below_step HB hb).cell (World.block_lt_of_cell? wr _ X131.out)).trans X131.out, ((below_step HB hb).cell (World.block_lt_of_cell? wr _ X140.out)).trans X140.out, ((below_step HB hb).cell (World.block_lt_of_cell? wr _ X141.out)).trans X141.out, ((below_step HB hb).cell (World.block_lt_of_cell? wr _ X200.out)).trans X200.out, ((below_step HB hb).cell (World.block_lt_of_cell? wr _ X210.out)).trans X210.out, ((below_step HB hb).cell (World.block_lt_of_cell? wr _ X211.out)).trans X211.out, ((below_step HB hb).cell (World.block_lt_of_cell? wr _ X220.out)).trans X220.out, ((below_step HB hb).cell (World.block_lt_of_cell? wr _ X221.out)).trans X221.out, ((below_step HB hb).cell (World.block_lt_of_cell? wr _ X230.out)).trans X230.out, ((below_step HB hb).cell (World.block_lt_of_cell? wr _ X231.out)).trans X231.out, ((below_step HB hb).cell (World.block_lt_of_cell? wr _ X240.out)).trans X240.out, ((below_step HB hb).cell (World.block_lt_of_cell? wr _ X241.out)).trans X241.out⟩ (fun hHeld => ?_)
     clear hK K
     have hN := ST210 (p, q, g, 0) W1 ⟨below_step HB hb, (CV.ok.below (HP.bound.wide (fun k_ hk => ⟨hk.1.1, (by have := hk.2; (try dsimp only); omega), trivial⟩)) hb), (CV.ok.below (HQ.bound.wide (fun k_ hk => ⟨hk.1.1, (by have := hk.2; (try dsimp only); omega), trivial⟩)) hb), ⟨hk, by rw [hg]; exact HB.size⟩, trivial, trivial⟩
     refine norm_ ?_ hN
     show _ = putAll _ _
     (first | (simp only [putAll, Act.put, List.setIfInBounds_toArray, List.set_cons_zero, List.set_cons_succ, i64_w, i32_w]; done) | (simp only [putAll, Act.put, List.setIfInBounds_toArray, List.set_cons_zero, List.set_cons_succ, i64_w, i32_w]; rfl))
    ·refine box_step (by rfl) rfl (cs := #[.slice none 0 0, .int .i64 0, .slice none 0 0, .slice none 0 0, .slice none 0 0]) (t := 30) (by first | (go_simp; done) | (go_simp; rfl)) ?_
     intro g hg W1 hk hb
     refine hK.out _ _ ⟨((below_step HB hb).cell (World.block_lt_of_cell? wr _ X000.out)).trans X000.out, ((below_step HB hb).cell (World.block_lt_of_cell? wr _ X010.out)).trans X010.out, ((below_step HB hb).cell (World.block_lt_of_cell? wr _ X020.out)).trans X020.out, ((below_step HB hb).cell (World.block_lt_of_cell? wr _ X030.out)).trans X030.out, ((below_step HB hb).cell (World.block_lt_of_cell? wr _ X040.out)).trans X040.out, ((below_step HB hb).cell (World.block_lt_of_cell? wr _ X100.out)).trans X100.out, ((below_step HB hb).cell (World.block_lt_of_cell? wr _ X110.out)).trans X110.out, ((below_step HB hb).cell (World.block_lt_of_cell? wr _ X111.out)).trans X111.out, ((below_step HB hb).cell (World.block_lt_of_cell? wr _ X120.out)).trans X120.out, ((below_step HB hb).cell (World.block_lt_of_cell? wr _ X121.out)).trans X121.out, ((below_step HB hb).cell (World.block_lt_of_cell? wr _ X130.out)).trans X130.out, ((below_step HB hb).cell (World.block_lt_of_cell? wr _ X131.out)).trans X131.out, ((below_step HB hb).cell (World.block_lt_of_cell? wr _ X140.out)).trans X140.out, ((below_step HB hb).cell (World.block_lt_of_cell? wr _ X141.out)).trans X141.out, ((below_step HB hb).cell (World.block_lt_of_cell? wr _ X200.out)).trans X200.out, ((below_step HB hb).cell (World.block_lt_of_cell? wr _ X210.out)).trans X210.out, ((below_step HB hb).cell (World.block_lt_of_cell? wr _ X211.out)).trans X211.out, ((below_step HB hb).cell (World.block_lt_of_cell? wr _ X220.out)).trans X220.out, ((below_step HB hb).cell (World.block_lt_of_cell? wr _ X221.out)).trans X221.out, ((below_step HB hb).cell (World.block_lt_of_cell? wr _ X230.out)).trans X230.out, ((below_step HB hb).cell (World.block_lt_of_cell? wr _ X231.out)).trans X231.out, ((below_step HB hb).cell (World.block_lt_of_cell? wr _ X240.out)).trans X240.out, ((below_step HB hb).cell (World.block_lt_of_cell? wr _ X241.out)).trans X241.out⟩ (fun hHeld => ?_)
     clear hK K
     have hN := ST201 (p, q, 0, g) W1 ⟨below_step HB hb, (CV.ok.below (HP.bound.wide (fun k_ hk => ⟨hk.1.1, trivial, (by have := hk.2; (try dsimp only); omega)⟩)) hb), (CV.ok.below (HQ.bound.wide (fun k_ hk => ⟨hk.1.1, trivial, (by have := hk.2; (try dsimp only); omega)⟩)) hb), trivial, ⟨hk, by rw [hg]; exact HB.size⟩, trivial⟩
     refine norm_ ?_ hN
     show _ = putAll _ _
     (first | (simp only [putAll, Act.put, List.setIfInBounds_toArray, List.set_cons_zero, List.set_cons_succ, i64_w, i32_w]; done) | (simp only [putAll, Act.put, List.setIfInBounds_toArray, List.set_cons_zero, List.set_cons_succ, i64_w, i32_w]; rfl))
   intro ST200
   refine join_ (σ := CV × CV × Nat × Nat) 5 (bb 18 40895) (fun s_ => [(12, .pointer (some ⟨s_.2.2.2, 0, none⟩))]) (fun s_ w' => Below wr.heap.size wr w' ∧ True ∧ True ∧ True ∧ (w'.heap[s_.2.2.2]? = some (.cells #[.slice none 0 0, .int .i64 0, .slice none 0 0, .slice none 0 0, .slice none 0 0] 30 (0, 0)) ∧ wr.heap.size ≤ s_.2.2.2) ∧ True) ?_ ?_
   ·rintro ⟨p, q, g1, g2⟩ W ⟨HB, _, _, _, HG2, _⟩
    dsimp only at *
    refine norm_ (a' := ?_) ?_ ?_
    rotate_left
    ·show putAll _ _ = _
     (first | (simp only [putAll, Act.put, List.setIfInBounds_toArray, List.set_cons_zero, List.set_cons_succ, i64_w, i32_w]; done) | (simp only [putAll, Act.put, List.setIfInBounds_toArray, List.set_cons_zero, List.set_cons_succ, i64_w, i32_w]; rfl))
    refine two_ (i := 6) (j := 14) (Ni := some 75) (Nj := some 11) (bb 18 40959) (bb 18 57279) rfl rfl rfl rfl (two_of HT_.out (by kernel_rfl)) (by decide) (by decide) (fun K hK => ?_) (fun K hK => ?_)
    ·refine goes_ Try.func21 (by kernel_rfl) rfl #[CV.val v0 c_0, CV.val v1 c_1] (by rfl) rfl rfl (by (try simp only [List.map_toArray, List.map_cons, List.map_nil]); first | done | rfl) ?_
     with_reducible refine (cell_Join.callsV k _ (VV0.out.below HB) (VV1.out.below HB) H2.out).mono ?_
     rintro e W1 ⟨u, rfl, hu, hb⟩
     refine ⟨_, rfl, ?_⟩
     refine hK.out _ _ ⟨((below_step HB hb).cell (World.block_lt_of_cell? wr _ X000.out)).trans X000.out, ((below_step HB hb).cell (World.block_lt_of_cell? wr _ X010.out)).trans X010.out, ((below_step HB hb).cell (World.block_lt_of_cell? wr _ X020.out)).trans X020.out, ((below_step HB hb).cell (World.block_lt_of_cell? wr _ X030.out)).trans X030.out, ((below_step HB hb).cell (World.block_lt_of_cell? wr _ X040.out)).trans X040.out, ((below_step HB hb).cell (World.block_lt_of_cell? wr _ X100.out)).trans X100.out, ((below_step HB hb).cell (World.block_lt_of_cell? wr _ X110.out)).trans X110.out, ((below_step HB hb).cell (World.block_lt_of_cell? wr _ X111.out)).trans X111.out, ((below_step HB hb).cell (World.block_lt_of_cell? wr _ X120.out)).trans X120.out, ((below_step HB hb).cell (World.block_lt_of_cell? wr _ X121.out)).trans X121.out, ((below_step HB hb).cell (World.block_lt_of_cell? wr _ X130.out)).trans X130.out, ((below_step HB hb).cell (World.block_lt_of_cell? wr _ X131.out)).trans X131.out, ((below_step HB hb).cell (World.block_lt_of_cell? wr _ X140.out)).trans X140.out, ((below_step HB hb).cell (World.block_lt_of_cell? wr _ X141.out)).trans X141.out, ((below_step HB hb).cell (World.block_lt_of_cell? wr _ X200.out)).trans X200.out, ((below_step HB hb).cell (World.block_lt_of_cell? wr _ X210.out)).trans X210.out, ((below_step HB hb).cell (World.block_lt_of_cell? wr _ X211.out)).trans X211.out, ((below_step HB hb).cell (World.block_lt_of_cell? wr _ X220.out)).trans X220.out, ((below_step HB hb).cell (World.block_lt_of_cell? wr _ X221.out)).trans X221.out, ((below_step HB hb).cell (World.block_lt_of_cell? wr _ X230.out)).trans X230.out, ((below_step HB hb).cell (World.block_lt_of_cell? wr _ X231.out)).trans X231.out, ((below_step HB hb).cell (World.block_lt_of_cell? wr _ X240.out)).trans X240.out, ((below_step HB hb).cell (World.block_lt_of_cell? wr _ X241.out)).trans X241.out⟩ (fun hHeld => ?_)
     clear hK K
     have hN := ST101 (u, default, 0, g2) W1 ⟨below_step HB hb, hu.wide (fun k_ hk => ⟨Nat.le_trans HB.size hk, trivial, (by have := blk_lt HG2.1; (try dsimp only); omega)⟩), trivial, trivial, ⟨blk_below HG2.1 hb, HG2.2⟩, trivial⟩
     refine norm_ ?_ hN
     show _ = putAll _ _
     (first | (simp only [putAll, Act.put, List.setIfInBounds_toArray, List.set_cons_zero, List.set_cons_succ, i64_w, i32_w]; done) | (simp only [putAll, Act.put, List.setIfInBounds_toArray, List.set_cons_zero, List.set_cons_succ, i64_w, i32_w]; rfl))
    ·refine box_step (by rfl) rfl (cs := #[.slice none 0 0, .int .i64 0, .slice none 0 0, .slice none 0 0, .slice none 0 0]) (t := 30) (by first | (go_simp; done) | (go_simp; rfl)) ?_
     intro g hg W1 hk hb
     refine hK.out _ _ ⟨((below_step HB hb).cell (World.block_lt_of_cell? wr _ X000.out)).trans X000.out, ((below_step HB hb).cell (World.block_lt_of_cell? wr _ X010.out)).trans X010.out, ((below_step HB hb).cell (World.block_lt_of_cell? wr _ X020.out)).trans X020.out, ((below_step HB hb).cell (World.block_lt_of_cell? wr _ X030.out)).trans X030.out, ((below_step HB hb).cell (World.block_lt_of_cell? wr _ X040.out)).trans X040.out, ((below_step HB hb).cell (World.block_lt_of_cell? wr _ X100.out)).trans X100.out, ((below_step HB hb).cell (World.block_lt_of_cell? wr _ X110.out)).trans X110.out, ((below_step HB hb).cell (World.block_lt_of_cell? wr _ X111.out)).trans X111.out, ((below_step HB hb).cell (World.block_lt_of_cell? wr _ X120.out)).trans X120.out, ((below_step HB hb).cell (World.block_lt_of_cell? wr _ X121.out)).trans X121.out, ((below_step HB hb).cell (World.block_lt_of_cell? wr _ X130.out)).trans X130.out, ((below_step HB hb).cell (World.block_lt_of_cell? wr _ X131.out)).trans X131.out, ((below_step HB hb).cell (World.block_lt_of_cell? wr _ X140.out)).trans X140.out, ((below_step HB hb).cell (World.block_lt_of_cell? wr _ X141.out)).trans X141.out, ((below_step HB hb).cell (World.block_lt_of_cell? wr _ X200.out)).trans X200.out, ((below_step HB hb).cell (World.block_lt_of_cell? wr _ X210.out)).trans X210.out, ((below_step HB hb).cell (World.block_lt_of_cell? wr _ X211.out)).trans X211.out, ((below_step HB hb).cell (World.block_lt_of_cell? wr _ X220.out)).trans X220.out, ((below_step HB hb).cell (World.block_lt_of_cell? wr _ X221.out)).trans X221.out, ((below_step HB hb).cell (World.block_lt_of_cell? wr _ X230.out)).trans X230.out, ((below_step HB hb).cell (World.block_lt_of_cell? wr _ X231.out)).trans X231.out, ((below_step HB hb).cell (World.block_lt_of_cell? wr _ X240.out)).trans X240.out, ((below_step HB hb).cell (World.block_lt_of_cell? wr _ X241.out)).trans X241.out⟩ (fun hHeld => ?_)
     clear hK K
     have hN := ST011 (default, default, g, g2) W1 ⟨below_step HB hb, trivial, trivial, ⟨hk, by rw [hg]; exact HB.size⟩, ⟨blk_below HG2.1 hb, HG2.2⟩, (by have := blk_lt HG2.1; (try dsimp only); omega)⟩
     refine norm_ ?_ hN
     show _ = putAll _ _
     (first | (simp only [putAll, Act.put, List.setIfInBounds_toArray, List.set_cons_zero, List.set_cons_succ, i64_w, i32_w]; done) | (simp only [putAll, Act.put, List.setIfInBounds_toArray, List.set_cons_zero, List.set_cons_succ, i64_w, i32_w]; rfl))
   intro ST001
   refine join_ (σ := CV × CV × Nat × Nat) 5 (bb 18 24511) (fun s_ => [(11, .pointer (some ⟨s_.2.2.1, 0, none⟩))]) (fun s_ w' => Below wr.heap.size wr w' ∧ True ∧ True ∧ (w'.heap[s_.2.2.1]? = some (.cells #[.slice none 0 0, .int .i64 0, .slice none 0 0, .slice none 0 0, .slice none 0 0] 30 (0, 0)) ∧ wr.heap.size ≤ s_.2.2.1) ∧ True ∧ True) ?_ ?_
   ·rintro ⟨p, q, g1, g2⟩ W ⟨HB, _, _, HG1, _, _⟩
    dsimp only at *
    refine norm_ (a' := ?_) ?_ ?_
    rotate_left
    ·show putAll _ _ = _
     (first | (simp only [putAll, Act.put, List.setIfInBounds_toArray, List.set_cons_zero, List.set_cons_succ, i64_w, i32_w]; done) | (simp only [putAll, Act.put, List.setIfInBounds_toArray, List.set_cons_zero, List.set_cons_succ, i64_w, i32_w]; rfl))
    refine two_ (i := 6) (j := 15) (Ni := some 75) (Nj := some 12) (bb 18 24575) (bb 18 57279) rfl rfl rfl rfl (two_of HT_.out (by kernel_rfl)) (by decide) (by decide) (fun K hK => ?_) (fun K hK => ?_)
    ·refine goes_ Try.func21 (by kernel_rfl) rfl #[CV.val v0 c_0, CV.val v1 c_1] (by rfl) rfl rfl (by (try simp only [List.map_toArray, List.map_cons, List.map_nil]); first | done | rfl) ?_
     with_reducible refine (cell_Join.callsV k _ (VV0.out.below HB) (VV1.out.below HB) H2.out).mono ?_
     rintro e W1 ⟨u, rfl, hu, hb⟩
     refine ⟨_, rfl, ?_⟩
     refine hK.out _ _ ⟨((below_step HB hb).cell (World.block_lt_of_cell? wr _ X000.out)).trans X000.out, ((below_step HB hb).cell (World.block_lt_of_cell? wr _ X010.out)).trans X010.out, ((below_step HB hb).cell (World.block_lt_of_cell? wr _ X020.out)).trans X020.out, ((below_step HB hb).cell (World.block_lt_of_cell? wr _ X030.out)).trans X030.out, ((below_step HB hb).cell (World.block_lt_of_cell? wr _ X040.out)).trans X040.out, ((below_step HB hb).cell (World.block_lt_of_cell? wr _ X100.out)).trans X100.out, ((below_step HB hb).cell (World.block_lt_of_cell? wr _ X110.out)).trans X110.out, ((below_step HB hb).cell (World.block_lt_of_cell? wr _ X111.out)).trans X111.out, ((below_step HB hb).cell (World.block_lt_of_cell? wr _ X120.out)).trans X120.out, ((below_step HB hb).cell (World.block_lt_of_cell? wr _ X121.out)).trans X121.out, ((below_step HB hb).cell (World.block_lt_of_cell? wr _ X130.out)).trans X130.out, ((below_step HB hb).cell (World.block_lt_of_cell? wr _ X131.out)).trans X131.out, ((below_step HB hb).cell (World.block_lt_of_cell? wr _ X140.out)).trans X140.out, ((below_step HB hb).cell (World.block_lt_of_cell? wr _ X141.out)).trans X141.out, ((below_step HB hb).cell (World.block_lt_of_cell? wr _ X200.out)).trans X200.out, ((below_step HB hb).cell (World.block_lt_of_cell? wr _ X210.out)).trans X210.out, ((below_step HB hb).cell (World.block_lt_of_cell? wr _ X211.out)).trans X211.out, ((below_step HB hb).cell (World.block_lt_of_cell? wr _ X220.out)).trans X220.out, ((below_step HB hb).cell (World.block_lt_of_cell? wr _ X221.out)).trans X221.out, ((below_step HB hb).cell (World.block_lt_of_cell? wr _ X230.out)).trans X230.out, ((below_step HB hb).cell (World.block_lt_of_cell? wr _ X231.out)).trans X231.out, ((below_step HB hb).cell (World.block_lt_of_cell? wr _ X240.out)).trans X240.out, ((below_step HB hb).cell (World.block_lt_of_cell? wr _ X241.out)).trans X241.out⟩ (fun hHeld => ?_)
     clear hK K
     have hN := ST110 (u, default, g1, 0) W1 ⟨below_step HB hb, hu.wide (fun k_ hk => ⟨Nat.le_trans HB.size hk, (by have := blk_lt HG1.1; (try dsimp only); omega), trivial⟩), trivial, ⟨blk_below HG1.1 hb, HG1.2⟩, trivial, trivial⟩
     refine norm_ ?_ hN
     show _ = putAll _ _
     (first | (simp only [putAll, Act.put, List.setIfInBounds_toArray, List.set_cons_zero, List.set_cons_succ, i64_w, i32_w]; done) | (simp only [putAll, Act.put, List.setIfInBounds_toArray, List.set_cons_zero, List.set_cons_succ, i64_w, i32_w]; rfl))
    ·refine box_step (by rfl) rfl (cs := #[.slice none 0 0, .int .i64 0, .slice none 0 0, .slice none 0 0, .slice none 0 0]) (t := 30) (by first | (go_simp; done) | (go_simp; rfl)) ?_
     intro g hg W1 hk hb
     refine hK.out _ _ ⟨((below_step HB hb).cell (World.block_lt_of_cell? wr _ X000.out)).trans X000.out, ((below_step HB hb).cell (World.block_lt_of_cell? wr _ X010.out)).trans X010.out, ((below_step HB hb).cell (World.block_lt_of_cell? wr _ X020.out)).trans X020.out, ((below_step HB hb).cell (World.block_lt_of_cell? wr _ X030.out)).trans X030.out, ((below_step HB hb).cell (World.block_lt_of_cell? wr _ X040.out)).trans X040.out, ((below_step HB hb).cell (World.block_lt_of_cell? wr _ X100.out)).trans X100.out, ((below_step HB hb).cell (World.block_lt_of_cell? wr _ X110.out)).trans X110.out, ((below_step HB hb).cell (World.block_lt_of_cell? wr _ X111.out)).trans X111.out, ((below_step HB hb).cell (World.block_lt_of_cell? wr _ X120.out)).trans X120.out, ((below_step HB hb).cell (World.block_lt_of_cell? wr _ X121.out)).trans X121.out, ((below_step HB hb).cell (World.block_lt_of_cell? wr _ X130.out)).trans X130.out, ((below_step HB hb).cell (World.block_lt_of_cell? wr _ X131.out)).trans X131.out, ((below_step HB hb).cell (World.block_lt_of_cell? wr _ X140.out)).trans X140.out, ((below_step HB hb).cell (World.block_lt_of_cell? wr _ X141.out)).trans X141.out, ((below_step HB hb).cell (World.block_lt_of_cell? wr _ X200.out)).trans X200.out, ((below_step HB hb).cell (World.block_lt_of_cell? wr _ X210.out)).trans X210.out, ((below_step HB hb).cell (World.block_lt_of_cell? wr _ X211.out)).trans X211.out, ((below_step HB hb).cell (World.block_lt_of_cell? wr _ X220.out)).trans X220.out, ((below_step HB hb).cell (World.block_lt_of_cell? wr _ X221.out)).trans X221.out, ((below_step HB hb).cell (World.block_lt_of_cell? wr _ X230.out)).trans X230.out, ((below_step HB hb).cell (World.block_lt_of_cell? wr _ X231.out)).trans X231.out, ((below_step HB hb).cell (World.block_lt_of_cell? wr _ X240.out)).trans X240.out, ((below_step HB hb).cell (World.block_lt_of_cell? wr _ X241.out)).trans X241.out⟩ (fun hHeld => ?_)
     clear hK K
     have hN := ST011 (default, default, g1, g) W1 ⟨below_step HB hb, trivial, trivial, ⟨blk_below HG1.1 hb, HG1.2⟩, ⟨hk, by rw [hg]; exact HB.size⟩, (by have := blk_lt HG1.1; (try dsimp only); omega)⟩
     refine norm_ ?_ hN
     show _ = putAll _ _
     (first | (simp only [putAll, Act.put, List.setIfInBounds_toArray, List.set_cons_zero, List.set_cons_succ, i64_w, i32_w]; done) | (simp only [putAll, Act.put, List.setIfInBounds_toArray, List.set_cons_zero, List.set_cons_succ, i64_w, i32_w]; rfl))
   intro ST010
   refine join_ (σ := CV × CV × Nat × Nat) 5 (bb 18 8191) (fun s_ => [(75, CV.val s_.1 ab)]) (fun s_ w' => Below wr.heap.size wr w' ∧ CV.ok s_.1 ab w' (fun k_ => wr.heap.size ≤ k_ ∧ True ∧ True) ∧ True ∧ True ∧ True ∧ True) ?_ ?_
   ·rintro ⟨p, q, g1, g2⟩ W ⟨HB, HP, _, _, _, _⟩
    dsimp only at *
    refine norm_ (a' := ?_) ?_ ?_
    rotate_left
    ·show putAll _ _ = _
     (first | (simp only [putAll, Act.put, List.setIfInBounds_toArray, List.set_cons_zero, List.set_cons_succ, i64_w, i32_w]; done) | (simp only [putAll, Act.put, List.setIfInBounds_toArray, List.set_cons_zero, List.set_cons_succ, i64_w, i32_w]; rfl))
    refine three_ (i := 13) (j := 14) (k := 15) (Ni := some 82) (Nj := some 11) (Nk := some 12) (bb 18 16383) (bb 18 24575) (bb 18 40959) rfl rfl rfl rfl rfl rfl (three_of HT_.out (by kernel_rfl)) (by decide) (by decide) (by decide) (fun K hK => ?_) (fun K hK => ?_) (fun K hK => ?_)
    ·refine goes_ Try.func21 (by kernel_rfl) rfl #[CV.val v1 c_1, CV.val v2 c_2] (by rfl) rfl rfl (by (try simp only [List.map_toArray, List.map_cons, List.map_nil]); first | done | rfl) ?_
     with_reducible refine (cell_Join.callsV k _ (VV1.out.below HB) (VV2.out.below HB) H3.out).mono ?_
     rintro e W1 ⟨u, rfl, hu, hb⟩
     refine ⟨_, rfl, ?_⟩
     refine hK.out _ _ ⟨((below_step HB hb).cell (World.block_lt_of_cell? wr _ X000.out)).trans X000.out, ((below_step HB hb).cell (World.block_lt_of_cell? wr _ X010.out)).trans X010.out, ((below_step HB hb).cell (World.block_lt_of_cell? wr _ X020.out)).trans X020.out, ((below_step HB hb).cell (World.block_lt_of_cell? wr _ X030.out)).trans X030.out, ((below_step HB hb).cell (World.block_lt_of_cell? wr _ X040.out)).trans X040.out, ((below_step HB hb).cell (World.block_lt_of_cell? wr _ X100.out)).trans X100.out, ((below_step HB hb).cell (World.block_lt_of_cell? wr _ X110.out)).trans X110.out, ((below_step HB hb).cell (World.block_lt_of_cell? wr _ X111.out)).trans X111.out, ((below_step HB hb).cell (World.block_lt_of_cell? wr _ X120.out)).trans X120.out, ((below_step HB hb).cell (World.block_lt_of_cell? wr _ X121.out)).trans X121.out, ((below_step HB hb).cell (World.block_lt_of_cell? wr _ X130.out)).trans X130.out, ((below_step HB hb).cell (World.block_lt_of_cell? wr _ X131.out)).trans X131.out, ((below_step HB hb).cell (World.block_lt_of_cell? wr _ X140.out)).trans X140.out, ((below_step HB hb).cell (World.block_lt_of_cell? wr _ X141.out)).trans X141.out, ((below_step HB hb).cell (World.block_lt_of_cell? wr _ X200.out)).trans X200.out, ((below_step HB hb).cell (World.block_lt_of_cell? wr _ X210.out)).trans X210.out, ((below_step HB hb).cell (World.block_lt_of_cell? wr _ X211.out)).trans X211.out, ((below_step HB hb).cell (World.block_lt_of_cell? wr _ X220.out)).trans X220.out, ((below_step HB hb).cell (World.block_lt_of_cell? wr _ X221.out)).trans X221.out, ((below_step HB hb).cell (World.block_lt_of_cell? wr _ X230.out)).trans X230.out, ((below_step HB hb).cell (World.block_lt_of_cell? wr _ X231.out)).trans X231.out, ((below_step HB hb).cell (World.block_lt_of_cell? wr _ X240.out)).trans X240.out, ((below_step HB hb).cell (World.block_lt_of_cell? wr _ X241.out)).trans X241.out⟩ (fun hHeld => ?_)
     clear hK K
     have hN := ST200 (p, u, 0, 0) W1 ⟨below_step HB hb, HP.below hb, hu.wide (fun k_ hk => ⟨Nat.le_trans HB.size hk, trivial, trivial⟩), trivial, trivial, trivial⟩
     refine norm_ ?_ hN
     show _ = putAll _ _
     (first | (simp only [putAll, Act.put, List.setIfInBounds_toArray, List.set_cons_zero, List.set_cons_succ, i64_w, i32_w]; done) | (simp only [putAll, Act.put, List.setIfInBounds_toArray, List.set_cons_zero, List.set_cons_succ, i64_w, i32_w]; rfl))
    ·refine box_step (by rfl) rfl (cs := #[.slice none 0 0, .int .i64 0, .slice none 0 0, .slice none 0 0, .slice none 0 0]) (t := 30) (by first | (go_simp; done) | (go_simp; rfl)) ?_
     intro g hg W1 hk hb
     refine hK.out _ _ ⟨((below_step HB hb).cell (World.block_lt_of_cell? wr _ X000.out)).trans X000.out, ((below_step HB hb).cell (World.block_lt_of_cell? wr _ X010.out)).trans X010.out, ((below_step HB hb).cell (World.block_lt_of_cell? wr _ X020.out)).trans X020.out, ((below_step HB hb).cell (World.block_lt_of_cell? wr _ X030.out)).trans X030.out, ((below_step HB hb).cell (World.block_lt_of_cell? wr _ X040.out)).trans X040.out, ((below_step HB hb).cell (World.block_lt_of_cell? wr _ X100.out)).trans X100.out, ((below_step HB hb).cell (World.block_lt_of_cell? wr _ X110.out)).trans X110.out, ((below_step HB hb).cell (World.block_lt_of_cell? wr _ X111.out)).trans X111.out, ((below_step HB hb).cell (World.block_lt_of_cell? wr _ X120.out)).trans X120.out, ((below_step HB hb).cell (World.block_lt_of_cell? wr _ X121.out)).trans X121.out, ((below_step HB hb).cell (World.block_lt_of_cell? wr _ X130.out)).trans X130.out, ((below_step HB hb).cell (World.block_lt_of_cell? wr _ X131.out)).trans X131.out, ((below_step HB hb).cell (World.block_lt_of_cell? wr _ X140.out)).trans X140.out, ((below_step HB hb).cell (World.block_lt_of_cell? wr _ X141.out)).trans X141.out, ((below_step HB hb).cell (World.block_lt_of_cell? wr _ X200.out)).trans X200.out, ((below_step HB hb).cell (World.block_lt_of_cell? wr _ X210.out)).trans X210.out, ((below_step HB hb).cell (World.block_lt_of_cell? wr _ X211.out)).trans X211.out, ((below_step HB hb).cell (World.block_lt_of_cell? wr _ X220.out)).trans X220.out, ((below_step HB hb).cell (World.block_lt_of_cell? wr _ X221.out)).trans X221.out, ((below_step HB hb).cell (World.block_lt_of_cell? wr _ X230.out)).trans X230.out, ((below_step HB hb).cell (World.block_lt_of_cell? wr _ X231.out)).trans X231.out, ((below_step HB hb).cell (World.block_lt_of_cell? wr _ X240.out)).trans X240.out, ((below_step HB hb).cell (World.block_lt_of_cell? wr _ X241.out)).trans X241.out⟩ (fun hHeld => ?_)
     clear hK K
     have hN := ST110 (p, default, g, 0) W1 ⟨below_step HB hb, (CV.ok.below (HP.bound.wide (fun k_ hk => ⟨hk.1.1, (by have := hk.2; (try dsimp only); omega), trivial⟩)) hb), trivial, ⟨hk, by rw [hg]; exact HB.size⟩, trivial, trivial⟩
     refine norm_ ?_ hN
     show _ = putAll _ _
     (first | (simp only [putAll, Act.put, List.setIfInBounds_toArray, List.set_cons_zero, List.set_cons_succ, i64_w, i32_w]; done) | (simp only [putAll, Act.put, List.setIfInBounds_toArray, List.set_cons_zero, List.set_cons_succ, i64_w, i32_w]; rfl))
    ·refine box_step (by rfl) rfl (cs := #[.slice none 0 0, .int .i64 0, .slice none 0 0, .slice none 0 0, .slice none 0 0]) (t := 30) (by first | (go_simp; done) | (go_simp; rfl)) ?_
     intro g hg W1 hk hb
     refine hK.out _ _ ⟨((below_step HB hb).cell (World.block_lt_of_cell? wr _ X000.out)).trans X000.out, ((below_step HB hb).cell (World.block_lt_of_cell? wr _ X010.out)).trans X010.out, ((below_step HB hb).cell (World.block_lt_of_cell? wr _ X020.out)).trans X020.out, ((below_step HB hb).cell (World.block_lt_of_cell? wr _ X030.out)).trans X030.out, ((below_step HB hb).cell (World.block_lt_of_cell? wr _ X040.out)).trans X040.out, ((below_step HB hb).cell (World.block_lt_of_cell? wr _ X100.out)).trans X100.out, ((below_step HB hb).cell (World.block_lt_of_cell? wr _ X110.out)).trans X110.out, ((below_step HB hb).cell (World.block_lt_of_cell? wr _ X111.out)).trans X111.out, ((below_step HB hb).cell (World.block_lt_of_cell? wr _ X120.out)).trans X120.out, ((below_step HB hb).cell (World.block_lt_of_cell? wr _ X121.out)).trans X121.out, ((below_step HB hb).cell (World.block_lt_of_cell? wr _ X130.out)).trans X130.out, ((below_step HB hb).cell (World.block_lt_of_cell? wr _ X131.out)).trans X131.out, ((below_step HB hb).cell (World.block_lt_of_cell? wr _ X140.out)).trans X140.out, ((below_step HB hb).cell (World.block_lt_of_cell? wr _ X141.out)).trans X141.out, ((below_step HB hb).cell (World.block_lt_of_cell? wr _ X200.out)).trans X200.out, ((below_step HB hb).cell (World.block_lt_of_cell? wr _ X210.out)).trans X210.out, ((below_step HB hb).cell (World.block_lt_of_cell? wr _ X211.out)).trans X211.out, ((below_step HB hb).cell (World.block_lt_of_cell? wr _ X220.out)).trans X220.out, ((below_step HB hb).cell (World.block_lt_of_cell? wr _ X221.out)).trans X221.out, ((below_step HB hb).cell (World.block_lt_of_cell? wr _ X230.out)).trans X230.out, ((below_step HB hb).cell (World.block_lt_of_cell? wr _ X231.out)).trans X231.out, ((below_step HB hb).cell (World.block_lt_of_cell? wr _ X240.out)).trans X240.out, ((below_step HB hb).cell (World.block_lt_of_cell? wr _ X241.out)).trans X241.out⟩ (fun hHeld => ?_)
     clear hK K
     have hN := ST101 (p, default, 0, g) W1 ⟨below_step HB hb, (CV.ok.below (HP.bound.wide (fun k_ hk => ⟨hk.1.1, trivial, (by have := hk.2; (try dsimp only); omega)⟩)) hb), trivial, trivial, ⟨hk, by rw [hg]; exact HB.size⟩, trivial⟩
     refine norm_ ?_ hN
     show _ = putAll _ _
     (first | (simp only [putAll, Act.put, List.setIfInBounds_toArray, List.set_cons_zero, List.set_cons_succ, i64_w, i32_w]; done) | (simp only [putAll, Act.put, List.setIfInBounds_toArray, List.set_cons_zero, List.set_cons_succ, i64_w, i32_w]; rfl))
   intro ST100
   have HB : Below wr.heap.size wr wr.drew := below_drew (Below.refl _ _)
   refine three_ (i := 6) (j := 14) (k := 15) (Ni := some 75) (Nj := some 11) (Nk := some 12) (bb 18 8191) (bb 18 24511) (bb 18 40895) rfl rfl rfl rfl rfl rfl (three_of HT_.out (by kernel_rfl)) (by decide) (by decide) (by decide) (fun K hK => ?_) (fun K hK => ?_) (fun K hK => ?_)
   ·refine goes_ Try.func21 (by kernel_rfl) rfl #[CV.val v0 c_0, CV.val v1 c_1] (by rfl) rfl rfl (by (try simp only [List.map_toArray, List.map_cons, List.map_nil]); first | done | rfl) ?_
    with_reducible refine (cell_Join.callsV k _ (VV0.out.below HB) (VV1.out.below HB) H2.out).mono ?_
    rintro e W1 ⟨u, rfl, hu, hb⟩
    refine ⟨_, rfl, ?_⟩
    refine hK.out _ _ ⟨((below_step HB hb).cell (World.block_lt_of_cell? wr _ X000.out)).trans X000.out, ((below_step HB hb).cell (World.block_lt_of_cell? wr _ X010.out)).trans X010.out, ((below_step HB hb).cell (World.block_lt_of_cell? wr _ X020.out)).trans X020.out, ((below_step HB hb).cell (World.block_lt_of_cell? wr _ X030.out)).trans X030.out, ((below_step HB hb).cell (World.block_lt_of_cell? wr _ X040.out)).trans X040.out, ((below_step HB hb).cell (World.block_lt_of_cell? wr _ X100.out)).trans X100.out, ((below_step HB hb).cell (World.block_lt_of_cell? wr _ X110.out)).trans X110.out, ((below_step HB hb).cell (World.block_lt_of_cell? wr _ X111.out)).trans X111.out, ((below_step HB hb).cell (World.block_lt_of_cell? wr _ X120.out)).trans X120.out, ((below_step HB hb).cell (World.block_lt_of_cell? wr _ X121.out)).trans X121.out, ((below_step HB hb).cell (World.block_lt_of_cell? wr _ X130.out)).trans X130.out, ((below_step HB hb).cell (World.block_lt_of_cell? wr _ X131.out)).trans X131.out, ((below_step HB hb).cell (World.block_lt_of_cell? wr _ X140.out)).trans X140.out, ((below_step HB hb).cell (World.block_lt_of_cell? wr _ X141.out)).trans X141.out, ((below_step HB hb).cell (World.block_lt_of_cell? wr _ X200.out)).trans X200.out, ((below_step HB hb).cell (World.block_lt_of_cell? wr _ X210.out)).trans X210.out, ((below_step HB hb).cell (World.block_lt_of_cell? wr _ X211.out)).trans X211.out, ((below_step HB hb).cell (World.block_lt_of_cell? wr _ X220.out)).trans X220.out, ((below_step HB hb).cell (World.block_lt_of_cell? wr _ X221.out)).trans X221.out, ((below_step HB hb).cell (World.block_lt_of_cell? wr _ X230.out)).trans X230.out, ((below_step HB hb).cell (World.block_lt_of_cell? wr _ X231.out)).trans X231.out, ((below_step HB hb).cell (World.block_lt_of_cell? wr _ X240.out)).trans X240.out, ((below_step HB hb).cell (World.block_lt_of_cell? wr _ X241.out)).trans X241.out⟩ (fun hHeld => ?_)
    clear hK K
    have hN := ST100 (u, default, 0, 0) W1 ⟨below_step HB hb, hu.wide (fun k_ hk => ⟨Nat.le_trans HB.size hk, trivial, trivial⟩), trivial, trivial, trivial, trivial⟩
    refine norm_ ?_ hN
    show _ = putAll _ _
    (first | (simp only [putAll, Act.put, List.setIfInBounds_toArray, List.set_cons_zero, List.set_cons_succ, i64_w, i32_w]; done) | (simp only [putAll, Act.put, List.setIfInBounds_toArray, List.set_cons_zero, List.set_cons_succ, i64_w, i32_w]; rfl))
   ·refine box_step (by rfl) rfl (cs := #[.slice none 0 0, .int .i64 0, .slice none 0 0, .slice none 0 0, .slice none 0 0]) (t := 30) (by first | (go_simp; done) | (go_simp; rfl)) ?_
    intro g hg W1 hk hb
    refine hK.out _ _ ⟨((below_step HB hb).cell (World.block_lt_of_cell? wr _ X000.out)).trans X000.out, ((below_step HB hb).cell (World.block_lt_of_cell? wr _ X010.out)).trans X010.out, ((below_step HB hb).cell (World.block_lt_of_cell? wr _ X020.out)).trans X020.out, ((below_step HB hb).cell (World.block_lt_of_cell? wr _ X030.out)).trans X030.out, ((below_step HB hb).cell (World.block_lt_of_cell? wr _ X040.out)).trans X040.out, ((below_step HB hb).cell (World.block_lt_of_cell? wr _ X100.out)).trans X100.out, ((below_step HB hb).cell (World.block_lt_of_cell? wr _ X110.out)).trans X110.out, ((below_step HB hb).cell (World.block_lt_of_cell? wr _ X111.out)).trans X111.out, ((below_step HB hb).cell (World.block_lt_of_cell? wr _ X120.out)).trans X120.out, ((below_step HB hb).cell (World.block_lt_of_cell? wr _ X121.out)).trans X121.out, ((below_step HB hb).cell (World.block_lt_of_cell? wr _ X130.out)).trans X130.out, ((below_step HB hb).cell (World.block_lt_of_cell? wr _ X131.out)).trans X131.out, ((below_step HB hb).cell (World.block_lt_of_cell? wr _ X140.out)).trans X140.out, ((below_step HB hb).cell (World.block_lt_of_cell? wr _ X141.out)).trans X141.out, ((below_step HB hb).cell (World.block_lt_of_cell? wr _ X200.out)).trans X200.out, ((below_step HB hb).cell (World.block_lt_of_cell? wr _ X210.out)).trans X210.out, ((below_step HB hb).cell (World.block_lt_of_cell? wr _ X211.out)).trans X211.out, ((below_step HB hb).cell (World.block_lt_of_cell? wr _ X220.out)).trans X220.out, ((below_step HB hb).cell (World.block_lt_of_cell? wr _ X221.out)).trans X221.out, ((below_step HB hb).cell (World.block_lt_of_cell? wr _ X230.out)).trans X230.out, ((below_step HB hb).cell (World.block_lt_of_cell? wr _ X231.out)).trans X231.out, ((below_step HB hb).cell (World.block_lt_of_cell? wr _ X240.out)).trans X240.out, ((below_step HB hb).cell (World.block_lt_of_cell? wr _ X241.out)).trans X241.out⟩ (fun hHeld => ?_)
    clear hK K
    have hN := ST010 (default, default, g, 0) W1 ⟨below_step HB hb, trivial, trivial, ⟨hk, by rw [hg]; exact HB.size⟩, trivial, trivial⟩
    refine norm_ ?_ hN
    show _ = putAll _ _
    (first | (simp only [putAll, Act.put, List.setIfInBounds_toArray, List.set_cons_zero, List.set_cons_succ, i64_w, i32_w]; done) | (simp only [putAll, Act.put, List.setIfInBounds_toArray, List.set_cons_zero, List.set_cons_succ, i64_w, i32_w]; rfl))
   ·refine box_step (by rfl) rfl (cs := #[.slice none 0 0, .int .i64 0, .slice none 0 0, .slice none 0 0, .slice none 0 0]) (t := 30) (by first | (go_simp; done) | (go_simp; rfl)) ?_
    intro g hg W1 hk hb
    refine hK.out _ _ ⟨((below_step HB hb).cell (World.block_lt_of_cell? wr _ X000.out)).trans X000.out, ((below_step HB hb).cell (World.block_lt_of_cell? wr _ X010.out)).trans X010.out, ((below_step HB hb).cell (World.block_lt_of_cell? wr _ X020.out)).trans X020.out, ((below_step HB hb).cell (World.block_lt_of_cell? wr _ X030.out)).trans X030.out, ((below_step HB hb).cell (World.block_lt_of_cell? wr _ X040.out)).trans X040.out, ((below_step HB hb).cell (World.block_lt_of_cell? wr _ X100.out)).trans X100.out, ((below_step HB hb).cell (World.block_lt_of_cell? wr _ X110.out)).trans X110.out, ((below_step HB hb).cell (World.block_lt_of_cell? wr _ X111.out)).trans X111.out, ((below_step HB hb).cell (World.block_lt_of_cell? wr _ X120.out)).trans X120.out, ((below_step HB hb).cell (World.block_lt_of_cell? wr _ X121.out)).trans X121.out, ((below_step HB hb).cell (World.block_lt_of_cell? wr _ X130.out)).trans X130.out, ((below_step HB hb).cell (World.block_lt_of_cell? wr _ X131.out)).trans X131.out, ((below_step HB hb).cell (World.block_lt_of_cell? wr _ X140.out)).trans X140.out, ((below_step HB hb).cell (World.block_lt_of_cell? wr _ X141.out)).trans X141.out, ((below_step HB hb).cell (World.block_lt_of_cell? wr _ X200.out)).trans X200.out, ((below_step HB hb).cell (World.block_lt_of_cell? wr _ X210.out)).trans X210.out, ((below_step HB hb).cell (World.block_lt_of_cell? wr _ X211.out)).trans X211.out, ((below_step HB hb).cell (World.block_lt_of_cell? wr _ X220.out)).trans X220.out, ((below_step HB hb).cell (World.block_lt_of_cell? wr _ X221.out)).trans X221.out, ((below_step HB hb).cell (World.block_lt_of_cell? wr _ X230.out)).trans X230.out, ((below_step HB hb).cell (World.block_lt_of_cell? wr _ X231.out)).trans X231.out, ((below_step HB hb).cell (World.block_lt_of_cell? wr _ X240.out)).trans X240.out, ((below_step HB hb).cell (World.block_lt_of_cell? wr _ X241.out)).trans X241.out⟩ (fun hHeld => ?_)
    clear hK K
    have hN := ST001 (default, default, 0, g) W1 ⟨below_step HB hb, trivial, trivial, trivial, ⟨hk, by rw [hg]; exact HB.size⟩, trivial⟩
    refine norm_ ?_ hN
    show _ = putAll _ _
    (first | (simp only [putAll, Act.put, List.setIfInBounds_toArray, List.set_cons_zero, List.set_cons_succ, i64_w, i32_w]; done) | (simp only [putAll, Act.put, List.setIfInBounds_toArray, List.set_cons_zero, List.set_cons_succ, i64_w, i32_w]; rfl))
  rintro ⟨p, q, g1, g2⟩ W ⟨HB, HP, HQ, HG1, HG2, HNE⟩
  dsimp only at *
  refine norm_ (a' := ?_) ?_ ?_
  rotate_left
  ·show putAll _ _ = _
   (first | (simp only [putAll, Act.put, List.setIfInBounds_toArray, List.set_cons_zero, List.set_cons_succ, i64_w, i32_w]; done) | (simp only [putAll, Act.put, List.setIfInBounds_toArray, List.set_cons_zero, List.set_cons_succ, i64_w, i32_w]; rfl))
  refine last_ (i := 16) (N := none) (bb 18 131071) rfl rfl (one_of HT_.out (by kernel_rfl)) (by decide) (fun K hK => ?_)
  refine skip_ (w1 := W.setCells g1 0 (CV.seg p ab)) rfl rfl (box_run (t := 30) (p := .tmp 11) (x := .tmp 75) rfl HG1.1 rfl rfl rfl (by rfl) (by rfl) (CV.one p ab)) ?_
  refine hK.out _ _ ?_
  clear hK K
  refine last_ (i := 17) (N := none) (bb 18 262143) rfl rfl (one_of HT_.out (by kernel_rfl)) (by decide) (fun K hK => ?_)
  refine skip_ (w1 := (W.setCells g1 0 (CV.seg p ab)).setCells g2 0 (CV.seg q bc)) rfl rfl (box_run (t := 30) (p := .tmp 12) (x := .tmp 82) rfl (box_other _ HNE.symm HG2.1) rfl rfl rfl (by rfl) (by rfl) (CV.one q bc)) ?_
  refine hK.out _ _ ?_
  clear hK K
  refine done_ (done_of HT_.out (by kernel_rfl)) ?_
  have K1 := box_other (CV.seg q bc) HNE (box_put (w0 := W) (base := 0) (CV.seg p ab) HG1.1 rfl)
  have K2 := box_put (w0 := W) (base := 0) (CV.seg q bc) (box_other (CV.seg p ab) HNE.symm HG2.1) rfl
  have P1 := (HP.box (g := g1) (seg := CV.seg p ab) (fun k_ hk => hk.2.1)).box (g := g2) (seg := CV.seg q bc) (fun k_ hk => hk.2.2)
  have Q1 := (HQ.box (g := g1) (seg := CV.seg p ab) (fun k_ hk => hk.2.1)).box (g := g2) (seg := CV.seg q bc) (fun k_ hk => hk.2.2)
  have HBy := box_far (g := g2) (CV.seg q bc) HG2.2 (box_far (g := g1) (CV.seg p ab) HG1.2 HB)
  generalize (W.setCells g1 0 (CV.seg p ab)).setCells g2 0 (CV.seg q bc) = wy at *
  have KK1 := am K1
  have KK2 := am K2
  have PP := am P1.rd
  have QQ := am Q1.rd
  have HBB := am HBy
  clear K1 K2 P1 Q1 HBy HP HQ HG1 HG2 HNE HB
  go_wp2
  have Eg10 := am (Go.Proofs.YtmkjkkmilopcpaaW.PrintWords.bc KK1 0)
  have Eg11 := am (Go.Proofs.YtmkjkkmilopcpaaW.PrintWords.bc KK1 1)
  have Eg12 := am (Go.Proofs.YtmkjkkmilopcpaaW.PrintWords.bc KK1 2)
  have Eg13 := am (Go.Proofs.YtmkjkkmilopcpaaW.PrintWords.bc KK1 3)
  have Eg14 := am (Go.Proofs.YtmkjkkmilopcpaaW.PrintWords.bc KK1 4)
  have Eg20 := am (Go.Proofs.YtmkjkkmilopcpaaW.PrintWords.bc KK2 0)
  have Eg21 := am (Go.Proofs.YtmkjkkmilopcpaaW.PrintWords.bc KK2 1)
  have Eg22 := am (Go.Proofs.YtmkjkkmilopcpaaW.PrintWords.bc KK2 2)
  have Eg23 := am (Go.Proofs.YtmkjkkmilopcpaaW.PrintWords.bc KK2 3)
  have Eg24 := am (Go.Proofs.YtmkjkkmilopcpaaW.PrintWords.bc KK2 4)
  have T000 := am ((HBB.out.cell (World.block_lt_of_cell? wr _ X000.out)).trans X000.out)
  have T010 := am ((HBB.out.cell (World.block_lt_of_cell? wr _ X010.out)).trans X010.out)
  have T020 := am ((HBB.out.cell (World.block_lt_of_cell? wr _ X020.out)).trans X020.out)
  have T030 := am ((HBB.out.cell (World.block_lt_of_cell? wr _ X030.out)).trans X030.out)
  have T040 := am ((HBB.out.cell (World.block_lt_of_cell? wr _ X040.out)).trans X040.out)
  have T100 := am ((HBB.out.cell (World.block_lt_of_cell? wr _ X100.out)).trans X100.out)
  have T110 := am ((HBB.out.cell (World.block_lt_of_cell? wr _ X110.out)).trans X110.out)
  have T111 := am ((HBB.out.cell (World.block_lt_of_cell? wr _ X111.out)).trans X111.out)
  have T120 := am ((HBB.out.cell (World.block_lt_of_cell? wr _ X120.out)).trans X120.out)
  have T121 := am ((HBB.out.cell (World.block_lt_of_cell? wr _ X121.out)).trans X121.out)
  have T130 := am ((HBB.out.cell (World.block_lt_of_cell? wr _ X130.out)).trans X130.out)
  have T131 := am ((HBB.out.cell (World.block_lt_of_cell? wr _ X131.out)).trans X131.out)
  have T140 := am ((HBB.out.cell (World.block_lt_of_cell? wr _ X140.out)).trans X140.out)
  have T141 := am ((HBB.out.cell (World.block_lt_of_cell? wr _ X141.out)).trans X141.out)
  have T200 := am ((HBB.out.cell (World.block_lt_of_cell? wr _ X200.out)).trans X200.out)
  have T210 := am ((HBB.out.cell (World.block_lt_of_cell? wr _ X210.out)).trans X210.out)
  have T211 := am ((HBB.out.cell (World.block_lt_of_cell? wr _ X211.out)).trans X211.out)
  have T220 := am ((HBB.out.cell (World.block_lt_of_cell? wr _ X220.out)).trans X220.out)
  have T221 := am ((HBB.out.cell (World.block_lt_of_cell? wr _ X221.out)).trans X221.out)
  have T230 := am ((HBB.out.cell (World.block_lt_of_cell? wr _ X230.out)).trans X230.out)
  have T231 := am ((HBB.out.cell (World.block_lt_of_cell? wr _ X231.out)).trans X231.out)
  have T240 := am ((HBB.out.cell (World.block_lt_of_cell? wr _ X240.out)).trans X240.out)
  have T241 := am ((HBB.out.cell (World.block_lt_of_cell? wr _ X241.out)).trans X241.out)
  refine start_ (n := 28) (S := fun w' => w'.cell? ⟨g1, 0, none⟩ = some (.slice p.A0 ab.f0.length p.c0) ∧ w'.cell? ⟨g1, 1, none⟩ = some (.int .i64 ab.f1) ∧ w'.cell? ⟨g1, 2, none⟩ = some (.slice p.A2 ab.f2.length p.c2) ∧ w'.cell? ⟨g1, 3, none⟩ = some (.slice p.A3 ab.f3.length p.c3) ∧ w'.cell? ⟨g1, 4, none⟩ = some (.slice p.A4 ab.f4.length p.c4) ∧ w'.cell? ⟨g2, 0, none⟩ = some (.slice q.A0 bc.f0.length q.c0) ∧ w'.cell? ⟨g2, 1, none⟩ = some (.int .i64 bc.f1) ∧ w'.cell? ⟨g2, 2, none⟩ = some (.slice q.A2 bc.f2.length q.c2) ∧ w'.cell? ⟨g2, 3, none⟩ = some (.slice q.A3 bc.f3.length q.c3) ∧ w'.cell? ⟨g2, 4, none⟩ = some (.slice q.A4 bc.f4.length q.c4) ∧ w'.cell? ad = some (.slice v0.A0 c_0.f0.length v0.c0) ∧ w'.cell? ⟨ad.block, ad.off + 1, none⟩ = some (.int .i64 c_0.f1) ∧ w'.cell? ⟨ad.block, ad.off + 2, none⟩ = some (.slice v0.A2 c_0.f2.length v0.c2) ∧ w'.cell? ⟨ad.block, ad.off + 3, none⟩ = some (.slice v0.A3 c_0.f3.length v0.c3) ∧ w'.cell? ⟨ad.block, ad.off + 4, none⟩ = some (.slice v0.A4 c_0.f4.length v0.c4) ∧ w'.cell? ⟨ad.block, ad.off + 5, none⟩ = some (.slice v1.A0 c_1.f0.length v1.c0) ∧ w'.cell? ⟨ad.block, ad.off + 6, none⟩ = some (.int .i64 c_1.f1) ∧ w'.cell? ⟨ad.block, ad.off + 5 + 1, none⟩ = some (.int .i64 c_1.f1) ∧ w'.cell? ⟨ad.block, ad.off + 7, none⟩ = some (.slice v1.A2 c_1.f2.length v1.c2) ∧ w'.cell? ⟨ad.block, ad.off + 5 + 2, none⟩ = some (.slice v1.A2 c_1.f2.length v1.c2) ∧ w'.cell? ⟨ad.block, ad.off + 8, none⟩ = some (.slice v1.A3 c_1.f3.length v1.c3) ∧ w'.cell? ⟨ad.block, ad.off + 5 + 3, none⟩ = some (.slice v1.A3 c_1.f3.length v1.c3) ∧ w'.cell? ⟨ad.block, ad.off + 9, none⟩ = some (.slice v1.A4 c_1.f4.length v1.c4) ∧ w'.cell? ⟨ad.block, ad.off + 5 + 4, none⟩ = some (.slice v1.A4 c_1.f4.length v1.c4) ∧ w'.cell? ⟨ad.block, ad.off + 10, none⟩ = some (.slice v2.A0 c_2.f0.length v2.c0) ∧ w'.cell? ⟨ad.block, ad.off + 11, none⟩ = some (.int .i64 c_2.f1) ∧ w'.cell? ⟨ad.block, ad.off + 10 + 1, none⟩ = some (.int .i64 c_2.f1) ∧ w'.cell? ⟨ad.block, ad.off + 12, none⟩ = some (.slice v2.A2 c_2.f2.length v2.c2) ∧ w'.cell? ⟨ad.block, ad.off + 10 + 2, none⟩ = some (.slice v2.A2 c_2.f2.length v2.c2) ∧ w'.cell? ⟨ad.block, ad.off + 13, none⟩ = some (.slice v2.A3 c_2.f3.length v2.c3) ∧ w'.cell? ⟨ad.block, ad.off + 10 + 3, none⟩ = some (.slice v2.A3 c_2.f3.length v2.c3) ∧ w'.cell? ⟨ad.block, ad.off + 14, none⟩ = some (.slice v2.A4 c_2.f4.length v2.c4) ∧ w'.cell? ⟨ad.block, ad.off + 10 + 4, none⟩ = some (.slice v2.A4 c_2.f4.length v2.c4)) (ds := []) (bb 28 0) (by kernel_rfl) rfl rfl ⟨Eg10.out, Eg11.out, Eg12.out, Eg13.out, Eg14.out, Eg20.out, Eg21.out, Eg22.out, Eg23.out, Eg24.out, T000.out, T010.out, T020.out, T030.out, T040.out, T100.out, T110.out, T111.out, T120.out, T121.out, T130.out, T131.out, T140.out, T141.out, T200.out, T210.out, T211.out, T220.out, T221.out, T230.out, T231.out, T240.out, T241.out⟩ (fun hHeld => ?_)
  refine with_tabW hypercubelaw2_CellJoins.tab18 hypercubelaw2_CellJoins.bits18 (fun HT_ HW_ => ?_)
  have HB := am (below_drew (Below.refl wy.heap.size wy))
  generalize wy.drew = wd at HB hHeld ⊢
  refine pu (i := 1) (N := some 84) (bb 28 2) HT_ ?_
  refine pu (i := 2) (N := some 85) (bb 28 6) HT_ ?_
  refine pu (i := 4) (N := some 87) (bb 28 22) HT_ ?_
  refine pu (i := 5) (N := some 88) (bb 28 54) HT_ ?_
  refine tk (i := 0) (N := some 83) (bb 28 55) HT_ HW_ hHeld ?_
  refine tk (i := 3) (N := some 86) (bb 28 63) HT_ HW_ hHeld ?_
  refine tk (i := 6) (N := some 89) (bb 28 127) HT_ HW_ hHeld ?_
  refine one_ (i := 7) (N := some 90) (bb 28 255) rfl rfl (one_of HT_.out (by kernel_rfl)) (by decide) (fun K hK => ?_)
  refine goes_ Try.func21 (by kernel_rfl) rfl #[CV.val v1 c_1, CV.val v0 c_0] (by rfl) rfl rfl (by (try simp only [List.map_toArray, List.map_cons, List.map_nil]); first | done | rfl) ?_
  with_reducible refine (cell_Join.callsV k _ ((VV1.out.below HBB.out).below HB.out) ((VV0.out.below HBB.out).below HB.out) H4.out).mono ?_

  rintro e wd2 ⟨ua, rfl, hu, hb⟩
  replace HB := am (below_step HB.out hb)
  clear hb
  refine ⟨_, rfl, ?_⟩
  have Rua := am hu.rd
  clear hu
  refine hK.out _ _ ⟨(HB.out.cell (World.block_lt_of_cell? wy _ Eg10.out)).trans Eg10.out, (HB.out.cell (World.block_lt_of_cell? wy _ Eg11.out)).trans Eg11.out, (HB.out.cell (World.block_lt_of_cell? wy _ Eg12.out)).trans Eg12.out, (HB.out.cell (World.block_lt_of_cell? wy _ Eg13.out)).trans Eg13.out, (HB.out.cell (World.block_lt_of_cell? wy _ Eg14.out)).trans Eg14.out, (HB.out.cell (World.block_lt_of_cell? wy _ Eg20.out)).trans Eg20.out, (HB.out.cell (World.block_lt_of_cell? wy _ Eg21.out)).trans Eg21.out, (HB.out.cell (World.block_lt_of_cell? wy _ Eg22.out)).trans Eg22.out, (HB.out.cell (World.block_lt_of_cell? wy _ Eg23.out)).trans Eg23.out, (HB.out.cell (World.block_lt_of_cell? wy _ Eg24.out)).trans Eg24.out, (HB.out.cell (World.block_lt_of_cell? wy _ T000.out)).trans T000.out, (HB.out.cell (World.block_lt_of_cell? wy _ T010.out)).trans T010.out, (HB.out.cell (World.block_lt_of_cell? wy _ T020.out)).trans T020.out, (HB.out.cell (World.block_lt_of_cell? wy _ T030.out)).trans T030.out, (HB.out.cell (World.block_lt_of_cell? wy _ T040.out)).trans T040.out, (HB.out.cell (World.block_lt_of_cell? wy _ T100.out)).trans T100.out, (HB.out.cell (World.block_lt_of_cell? wy _ T110.out)).trans T110.out, (HB.out.cell (World.block_lt_of_cell? wy _ T111.out)).trans T111.out, (HB.out.cell (World.block_lt_of_cell? wy _ T120.out)).trans T120.out, (HB.out.cell (World.block_lt_of_cell? wy _ T121.out)).trans T121.out, (HB.out.cell (World.block_lt_of_cell? wy _ T130.out)).trans T130.out, (HB.out.cell (World.block_lt_of_cell? wy _ T131.out)).trans T131.out, (HB.out.cell (World.block_lt_of_cell? wy _ T140.out)).trans T140.out, (HB.out.cell (World.block_lt_of_cell? wy _ T141.out)).trans T141.out, (HB.out.cell (World.block_lt_of_cell? wy _ T200.out)).trans T200.out, (HB.out.cell (World.block_lt_of_cell? wy _ T210.out)).trans T210.out, (HB.out.cell (World.block_lt_of_cell? wy _ T211.out)).trans T211.out, (HB.out.cell (World.block_lt_of_cell? wy _ T220.out)).trans T220.out, (HB.out.cell (World.block_lt_of_cell? wy _ T221.out)).trans T221.out, (HB.out.cell (World.block_lt_of_cell? wy _ T230.out)).trans T230.out, (HB.out.cell (World.block_lt_of_cell? wy _ T231.out)).trans T231.out, (HB.out.cell (World.block_lt_of_cell? wy _ T240.out)).trans T240.out, (HB.out.cell (World.block_lt_of_cell? wy _ T241.out)).trans T241.out⟩ (fun hHeld => ?_)
  clear hK K
  refine nm ?_
  refine one_ (i := 8) (N := some 91) (bb 28 511) rfl rfl (one_of HT_.out (by kernel_rfl)) (by decide) (fun K hK => ?_)
  refine goes_ Try.func22 (by kernel_rfl) rfl #[CV.val p ab, CV.val ua ba] (by rfl) rfl rfl (by (try simp only [List.map_toArray, List.map_cons, List.map_nil]); first | done | rfl) ?_
  with_reducible refine (hypercuberef2_Equal.callsV k _ (PP.out.below HB.out) Rua.out H5.out).mono ?_

  rintro e wd3 ⟨rfl, hb⟩
  replace Rua := am (Rua.out.below hb)
  replace HB := am (below_step HB.out hb)
  clear hb
  refine ⟨_, rfl, ?_⟩
  refine hK.out _ _ ⟨(HB.out.cell (World.block_lt_of_cell? wy _ Eg10.out)).trans Eg10.out, (HB.out.cell (World.block_lt_of_cell? wy _ Eg11.out)).trans Eg11.out, (HB.out.cell (World.block_lt_of_cell? wy _ Eg12.out)).trans Eg12.out, (HB.out.cell (World.block_lt_of_cell? wy _ Eg13.out)).trans Eg13.out, (HB.out.cell (World.block_lt_of_cell? wy _ Eg14.out)).trans Eg14.out, (HB.out.cell (World.block_lt_of_cell? wy _ Eg20.out)).trans Eg20.out, (HB.out.cell (World.block_lt_of_cell? wy _ Eg21.out)).trans Eg21.out, (HB.out.cell (World.block_lt_of_cell? wy _ Eg22.out)).trans Eg22.out, (HB.out.cell (World.block_lt_of_cell? wy _ Eg23.out)).trans Eg23.out, (HB.out.cell (World.block_lt_of_cell? wy _ Eg24.out)).trans Eg24.out, (HB.out.cell (World.block_lt_of_cell? wy _ T000.out)).trans T000.out, (HB.out.cell (World.block_lt_of_cell? wy _ T010.out)).trans T010.out, (HB.out.cell (World.block_lt_of_cell? wy _ T020.out)).trans T020.out, (HB.out.cell (World.block_lt_of_cell? wy _ T030.out)).trans T030.out, (HB.out.cell (World.block_lt_of_cell? wy _ T040.out)).trans T040.out, (HB.out.cell (World.block_lt_of_cell? wy _ T100.out)).trans T100.out, (HB.out.cell (World.block_lt_of_cell? wy _ T110.out)).trans T110.out, (HB.out.cell (World.block_lt_of_cell? wy _ T111.out)).trans T111.out, (HB.out.cell (World.block_lt_of_cell? wy _ T120.out)).trans T120.out, (HB.out.cell (World.block_lt_of_cell? wy _ T121.out)).trans T121.out, (HB.out.cell (World.block_lt_of_cell? wy _ T130.out)).trans T130.out, (HB.out.cell (World.block_lt_of_cell? wy _ T131.out)).trans T131.out, (HB.out.cell (World.block_lt_of_cell? wy _ T140.out)).trans T140.out, (HB.out.cell (World.block_lt_of_cell? wy _ T141.out)).trans T141.out, (HB.out.cell (World.block_lt_of_cell? wy _ T200.out)).trans T200.out, (HB.out.cell (World.block_lt_of_cell? wy _ T210.out)).trans T210.out, (HB.out.cell (World.block_lt_of_cell? wy _ T211.out)).trans T211.out, (HB.out.cell (World.block_lt_of_cell? wy _ T220.out)).trans T220.out, (HB.out.cell (World.block_lt_of_cell? wy _ T221.out)).trans T221.out, (HB.out.cell (World.block_lt_of_cell? wy _ T230.out)).trans T230.out, (HB.out.cell (World.block_lt_of_cell? wy _ T231.out)).trans T231.out, (HB.out.cell (World.block_lt_of_cell? wy _ T240.out)).trans T240.out, (HB.out.cell (World.block_lt_of_cell? wy _ T241.out)).trans T241.out⟩ (fun hHeld => ?_)
  clear hK K
  refine nm ?_
  refine pu (i := 9) (N := some 92) (bb 28 1023) HT_ ?_
  refine pu (i := 11) (N := some 94) (bb 28 3071) HT_ ?_
  refine pu (i := 12) (N := some 95) (bb 28 7167) HT_ ?_
  refine pu (i := 15) (N := some 98) (bb 28 39935) HT_ ?_
  refine pu (i := 16) (N := some 99) (bb 28 105471) HT_ ?_
  refine tk (i := 10) (N := some 93) (bb 28 106495) HT_ HW_ hHeld ?_
  refine tk (i := 13) (N := some 96) (bb 28 114687) HT_ HW_ hHeld ?_
  refine tk (i := 17) (N := some 100) (bb 28 245759) HT_ HW_ hHeld ?_
  refine tk (i := 18) (N := some 101) (bb 28 507903) HT_ HW_ hHeld ?_
  refine one_ (i := 14) (N := some 97) (bb 28 524287) rfl rfl (one_of HT_.out (by kernel_rfl)) (by decide) (fun K hK => ?_)
  refine goes_ Try.func21 (by kernel_rfl) rfl #[CV.val p ab, CV.val v2 c_2] (by rfl) rfl rfl (by (try simp only [List.map_toArray, List.map_cons, List.map_nil]); first | done | rfl) ?_
  with_reducible refine (cell_Join.callsV k _ (PP.out.below HB.out) ((VV2.out.below HBB.out).below HB.out) H6.out).mono ?_

  rintro e wd4 ⟨ub, rfl, hu, hb⟩
  replace Rua := am (Rua.out.below hb)
  replace HB := am (below_step HB.out hb)
  clear hb
  refine ⟨_, rfl, ?_⟩
  have Rub := am hu.rd
  clear hu
  refine hK.out _ _ ⟨(HB.out.cell (World.block_lt_of_cell? wy _ Eg10.out)).trans Eg10.out, (HB.out.cell (World.block_lt_of_cell? wy _ Eg11.out)).trans Eg11.out, (HB.out.cell (World.block_lt_of_cell? wy _ Eg12.out)).trans Eg12.out, (HB.out.cell (World.block_lt_of_cell? wy _ Eg13.out)).trans Eg13.out, (HB.out.cell (World.block_lt_of_cell? wy _ Eg14.out)).trans Eg14.out, (HB.out.cell (World.block_lt_of_cell? wy _ Eg20.out)).trans Eg20.out, (HB.out.cell (World.block_lt_of_cell? wy _ Eg21.out)).trans Eg21.out, (HB.out.cell (World.block_lt_of_cell? wy _ Eg22.out)).trans Eg22.out, (HB.out.cell (World.block_lt_of_cell? wy _ Eg23.out)).trans Eg23.out, (HB.out.cell (World.block_lt_of_cell? wy _ Eg24.out)).trans Eg24.out, (HB.out.cell (World.block_lt_of_cell? wy _ T000.out)).trans T000.out, (HB.out.cell (World.block_lt_of_cell? wy _ T010.out)).trans T010.out, (HB.out.cell (World.block_lt_of_cell? wy _ T020.out)).trans T020.out, (HB.out.cell (World.block_lt_of_cell? wy _ T030.out)).trans T030.out, (HB.out.cell (World.block_lt_of_cell? wy _ T040.out)).trans T040.out, (HB.out.cell (World.block_lt_of_cell? wy _ T100.out)).trans T100.out, (HB.out.cell (World.block_lt_of_cell? wy _ T110.out)).trans T110.out, (HB.out.cell (World.block_lt_of_cell? wy _ T111.out)).trans T111.out, (HB.out.cell (World.block_lt_of_cell? wy _ T120.out)).trans T120.out, (HB.out.cell (World.block_lt_of_cell? wy _ T121.out)).trans T121.out, (HB.out.cell (World.block_lt_of_cell? wy _ T130.out)).trans T130.out, (HB.out.cell (World.block_lt_of_cell? wy _ T131.out)).trans T131.out, (HB.out.cell (World.block_lt_of_cell? wy _ T140.out)).trans T140.out, (HB.out.cell (World.block_lt_of_cell? wy _ T141.out)).trans T141.out, (HB.out.cell (World.block_lt_of_cell? wy _ T200.out)).trans T200.out, (HB.out.cell (World.block_lt_of_cell? wy _ T210.out)).trans T210.out, (HB.out.cell (World.block_lt_of_cell? wy _ T211.out)).trans T211.out, (HB.out.cell (World.block_lt_of_cell? wy _ T220.out)).trans T220.out, (HB.out.cell (World.block_lt_of_cell? wy _ T221.out)).trans T221.out, (HB.out.cell (World.block_lt_of_cell? wy _ T230.out)).trans T230.out, (HB.out.cell (World.block_lt_of_cell? wy _ T231.out)).trans T231.out, (HB.out.cell (World.block_lt_of_cell? wy _ T240.out)).trans T240.out, (HB.out.cell (World.block_lt_of_cell? wy _ T241.out)).trans T241.out⟩ (fun hHeld => ?_)
  clear hK K
  refine nm ?_
  refine one_ (i := 19) (N := some 102) (bb 28 1048575) rfl rfl (one_of HT_.out (by kernel_rfl)) (by decide) (fun K hK => ?_)
  refine goes_ Try.func21 (by kernel_rfl) rfl #[CV.val v0 c_0, CV.val q bc] (by rfl) rfl rfl (by (try simp only [List.map_toArray, List.map_cons, List.map_nil]); first | done | rfl) ?_
  with_reducible refine (cell_Join.callsV k _ ((VV0.out.below HBB.out).below HB.out) (QQ.out.below HB.out) H7.out).mono ?_

  rintro e wd5 ⟨uc, rfl, hu, hb⟩
  replace Rua := am (Rua.out.below hb)
  replace Rub := am (Rub.out.below hb)
  replace HB := am (below_step HB.out hb)
  clear hb
  refine ⟨_, rfl, ?_⟩
  have Ruc := am hu.rd
  clear hu
  refine hK.out _ _ ⟨(HB.out.cell (World.block_lt_of_cell? wy _ Eg10.out)).trans Eg10.out, (HB.out.cell (World.block_lt_of_cell? wy _ Eg11.out)).trans Eg11.out, (HB.out.cell (World.block_lt_of_cell? wy _ Eg12.out)).trans Eg12.out, (HB.out.cell (World.block_lt_of_cell? wy _ Eg13.out)).trans Eg13.out, (HB.out.cell (World.block_lt_of_cell? wy _ Eg14.out)).trans Eg14.out, (HB.out.cell (World.block_lt_of_cell? wy _ Eg20.out)).trans Eg20.out, (HB.out.cell (World.block_lt_of_cell? wy _ Eg21.out)).trans Eg21.out, (HB.out.cell (World.block_lt_of_cell? wy _ Eg22.out)).trans Eg22.out, (HB.out.cell (World.block_lt_of_cell? wy _ Eg23.out)).trans Eg23.out, (HB.out.cell (World.block_lt_of_cell? wy _ Eg24.out)).trans Eg24.out, (HB.out.cell (World.block_lt_of_cell? wy _ T000.out)).trans T000.out, (HB.out.cell (World.block_lt_of_cell? wy _ T010.out)).trans T010.out, (HB.out.cell (World.block_lt_of_cell? wy _ T020.out)).trans T020.out, (HB.out.cell (World.block_lt_of_cell? wy _ T030.out)).trans T030.out, (HB.out.cell (World.block_lt_of_cell? wy _ T040.out)).trans T040.out, (HB.out.cell (World.block_lt_of_cell? wy _ T100.out)).trans T100.out, (HB.out.cell (World.block_lt_of_cell? wy _ T110.out)).trans T110.out, (HB.out.cell (World.block_lt_of_cell? wy _ T111.out)).trans T111.out, (HB.out.cell (World.block_lt_of_cell? wy _ T120.out)).trans T120.out, (HB.out.cell (World.block_lt_of_cell? wy _ T121.out)).trans T121.out, (HB.out.cell (World.block_lt_of_cell? wy _ T130.out)).trans T130.out, (HB.out.cell (World.block_lt_of_cell? wy _ T131.out)).trans T131.out, (HB.out.cell (World.block_lt_of_cell? wy _ T140.out)).trans T140.out, (HB.out.cell (World.block_lt_of_cell? wy _ T141.out)).trans T141.out, (HB.out.cell (World.block_lt_of_cell? wy _ T200.out)).trans T200.out, (HB.out.cell (World.block_lt_of_cell? wy _ T210.out)).trans T210.out, (HB.out.cell (World.block_lt_of_cell? wy _ T211.out)).trans T211.out, (HB.out.cell (World.block_lt_of_cell? wy _ T220.out)).trans T220.out, (HB.out.cell (World.block_lt_of_cell? wy _ T221.out)).trans T221.out, (HB.out.cell (World.block_lt_of_cell? wy _ T230.out)).trans T230.out, (HB.out.cell (World.block_lt_of_cell? wy _ T231.out)).trans T231.out, (HB.out.cell (World.block_lt_of_cell? wy _ T240.out)).trans T240.out, (HB.out.cell (World.block_lt_of_cell? wy _ T241.out)).trans T241.out⟩ (fun hHeld => ?_)
  clear hK K
  refine nm ?_
  refine one_ (i := 20) (N := some 103) (bb 28 2097151) rfl rfl (one_of HT_.out (by kernel_rfl)) (by decide) (fun K hK => ?_)
  refine goes_ Try.func22 (by kernel_rfl) rfl #[CV.val ub r1, CV.val uc r2] (by rfl) rfl rfl (by (try simp only [List.map_toArray, List.map_cons, List.map_nil]); first | done | rfl) ?_
  with_reducible refine (hypercuberef2_Equal.callsV k _ Rub.out Ruc.out H8.out).mono ?_

  rintro e wd6 ⟨rfl, hb⟩
  replace Rua := am (Rua.out.below hb)
  replace Rub := am (Rub.out.below hb)
  replace Ruc := am (Ruc.out.below hb)
  replace HB := am (below_step HB.out hb)
  clear hb
  refine ⟨_, rfl, ?_⟩
  refine hK.out _ _ ⟨(HB.out.cell (World.block_lt_of_cell? wy _ Eg10.out)).trans Eg10.out, (HB.out.cell (World.block_lt_of_cell? wy _ Eg11.out)).trans Eg11.out, (HB.out.cell (World.block_lt_of_cell? wy _ Eg12.out)).trans Eg12.out, (HB.out.cell (World.block_lt_of_cell? wy _ Eg13.out)).trans Eg13.out, (HB.out.cell (World.block_lt_of_cell? wy _ Eg14.out)).trans Eg14.out, (HB.out.cell (World.block_lt_of_cell? wy _ Eg20.out)).trans Eg20.out, (HB.out.cell (World.block_lt_of_cell? wy _ Eg21.out)).trans Eg21.out, (HB.out.cell (World.block_lt_of_cell? wy _ Eg22.out)).trans Eg22.out, (HB.out.cell (World.block_lt_of_cell? wy _ Eg23.out)).trans Eg23.out, (HB.out.cell (World.block_lt_of_cell? wy _ Eg24.out)).trans Eg24.out, (HB.out.cell (World.block_lt_of_cell? wy _ T000.out)).trans T000.out, (HB.out.cell (World.block_lt_of_cell? wy _ T010.out)).trans T010.out, (HB.out.cell (World.block_lt_of_cell? wy _ T020.out)).trans T020.out, (HB.out.cell (World.block_lt_of_cell? wy _ T030.out)).trans T030.out, (HB.out.cell (World.block_lt_of_cell? wy _ T040.out)).trans T040.out, (HB.out.cell (World.block_lt_of_cell? wy _ T100.out)).trans T100.out, (HB.out.cell (World.block_lt_of_cell? wy _ T110.out)).trans T110.out, (HB.out.cell (World.block_lt_of_cell? wy _ T111.out)).trans T111.out, (HB.out.cell (World.block_lt_of_cell? wy _ T120.out)).trans T120.out, (HB.out.cell (World.block_lt_of_cell? wy _ T121.out)).trans T121.out, (HB.out.cell (World.block_lt_of_cell? wy _ T130.out)).trans T130.out, (HB.out.cell (World.block_lt_of_cell? wy _ T131.out)).trans T131.out, (HB.out.cell (World.block_lt_of_cell? wy _ T140.out)).trans T140.out, (HB.out.cell (World.block_lt_of_cell? wy _ T141.out)).trans T141.out, (HB.out.cell (World.block_lt_of_cell? wy _ T200.out)).trans T200.out, (HB.out.cell (World.block_lt_of_cell? wy _ T210.out)).trans T210.out, (HB.out.cell (World.block_lt_of_cell? wy _ T211.out)).trans T211.out, (HB.out.cell (World.block_lt_of_cell? wy _ T220.out)).trans T220.out, (HB.out.cell (World.block_lt_of_cell? wy _ T221.out)).trans T221.out, (HB.out.cell (World.block_lt_of_cell? wy _ T230.out)).trans T230.out, (HB.out.cell (World.block_lt_of_cell? wy _ T231.out)).trans T231.out, (HB.out.cell (World.block_lt_of_cell? wy _ T240.out)).trans T240.out, (HB.out.cell (World.block_lt_of_cell? wy _ T241.out)).trans T241.out⟩ (fun hHeld => ?_)
  clear hK K
  refine nm ?_
  refine pu (i := 21) (N := some 104) (bb 28 4194303) HT_ ?_
  refine pu (i := 22) (N := some 105) (bb 28 8388607) HT_ ?_
  refine pu (i := 23) (N := some 106) (bb 28 16777215) HT_ ?_
  refine tk (i := 24) (N := some 107) (bb 28 33554431) HT_ HW_ hHeld ?_
  refine pu (i := 25) (N := some 108) (bb 28 67108863) HT_ ?_
  refine pu (i := 26) (N := some 109) (bb 28 134217727) HT_ ?_
  refine pu (i := 27) (N := some 4) (bb 28 268435455) HT_ ?_
  refine done_ (done_of HT_.out (by kernel_rfl)) ?_
  go_wp2
  go_ret
  exact ⟨by first | rfl | (simp [H9.out]; done) | (rw [H9.out]; rfl), below_step HBr.out (below_step HBB.out HB.out)⟩
theorem hypercubelaw2_CellJoins.walk (P : hypercubelaw2_CellJoins.Pure) (a0 : Option Addr) (len0 cap0 : Nat) (z0 : List Int) (a1 : Int) (w : World) (w0 : (a0 = none ∧ len0 = 0 ∧ cap0 = 0 ∧ z0 = []) ∨ ∃ x, a0 = some x ∧ len0 ≤ cap0 ∧ cap0 ≤ maxLen ∧ z0.length = cap0 ∧ (∀ i, i < z0.length → w.cell? (x.add i) = some (.int .i64 (z0.getD i 0))) ∧ ∀ n ∈ z0, (Lit.int .i64 n).wf = true) (y0 : len0 * 8 ≤ 140737488351232) (w1 : (Lit.int .i64 a1).wf = true) :
  Calls Try.prog 4 #[.slice a0 len0 cap0, .int .i64 a1] w fun e w' => e = .returned (.bool true) ∧ Below w.heap.size w w' := by
 obtain ⟨l0, rfl, hr0, hm0, hw0, hc0⟩ := ReadsInt.ofRowC w0
 obtain ⟨k, kk, ab, bc, ba, r1, r2, h1, h2, h3, h4, h5, h6, h7, h8, h9⟩ := P l0 a1 hm0 y0 hw0 w1
 exact hypercubelaw2_CellJoins.calls k _ _ l0 a1 w (Kd.C_of_reads (d := (0 : Int)) (h1 := fun _ => rfl) hr0) hc0 h1 h2 h3 h4 h5 h6 h7 h8 h9
theorem w64 {x : Int} (h0 : -9223372036854775808 ≤ x) (h1 : x ≤ 9223372036854775807) : wrap64 x = x := by unfold wrap64; omega
theorem w64s {i n : Nat} (h : i < n) (hn : n ≤ 4611686018427387904) : wrap64 ((i : Int) + 1) = ((i + 1 : Nat) : Int) := by unfold wrap64; omega
theorem within2_eq (a n : Int) (h0 : 0 < n) (h1 : n ≤ 4611686018427387904) : hypercubelaw2_within.f a n = some (a % n) := by
 unfold hypercubelaw2_within.f
 rw [if_neg (by omega)]
 have hb := Int.emod_nonneg a (show n ≠ 0 by omega)
 have hl := Int.emod_lt_of_pos a h0
 by_cases ha : 0 ≤ a
 ·rw [Int.tmod_eq_emod_of_nonneg ha, if_neg (by omega)]
 ·have ht : Int.tmod a n = if a % n = 0 then 0 else a % n - n := by
   rw [Int.tmod_eq_emod]
   split
   ·rename_i h
    rcases h with h | h
    ·omega
    ·rw [Int.emod_eq_zero_of_dvd h]; simp
   ·rename_i h
    have : a % n ≠ 0 := fun e => h (.inr (Int.dvd_of_emod_eq_zero e))
    rw [if_neg this, Int.natAbs_of_nonneg (by omega)]
  by_cases hz : a % n = 0
  ·rw [ht, if_pos hz, if_neg (by omega), hz]
  ·rw [ht, if_neg hz, if_pos (by omega)]
   congr 1
   rw [w64 (by omega) (by omega)]
   omega
theorem rd_get {l : List Int} {i : Nat} (h : i < l.length) : rd l (i : Int) = l[i] := by simp [rd, List.getD_eq_getElem?_getD, h]
theorem drop_cons {α : Type} {l : List α} {i : Nat} (h : i < l.length) : l.drop i = l[i] :: l.drop (i + 1) := List.drop_eq_getElem_cons h
theorem dec_cons_eq {α : Type} [DecidableEq α] {x y : α} (l l' : List α) (h : x = y) : decide (x :: l = y :: l') = decide (l = l') := by subst h; simp
theorem dec_cons_ne {α : Type} [DecidableEq α] {x y : α} (l l' : List α) (h : ¬ x = y) : decide (x :: l = y :: l') = false := by simp [h]
theorem ints_l0 (a b : List Int) (hl : a.length = b.length) (hn : a.length ≤ 4611686018427387904) (d : Nat) : ∀ i : Nat, a.length - i = d → i ≤ a.length →
  Ev (fun k => hypercuberef1_Ints.l0 k a b (i : Int)) (decide (a.drop i = b.drop i)) := by
 induction d with
 | zero =>
  intro i hd hi
  have e1 : a.drop i = [] := List.drop_eq_nil_of_le (by omega)
  have e2 : b.drop i = [] := List.drop_eq_nil_of_le (by omega)
  rw [e1, e2]
  exact Ev.step (fun k => by simp only [hypercuberef1_Ints.l0]; rw [if_neg (by omega)]; rfl) (Ev.now _)
 | succ d ih =>
  intro i hd hi
  have ha : i < a.length := by omega
  have hb : i < b.length := by omega
  rw [drop_cons ha, drop_cons hb]
  by_cases he : a[i] = b[i]
  ·rw [dec_cons_eq _ _ he]
   exact Ev.step (fun k => by simp only [hypercuberef1_Ints.l0]; rw [if_pos (by omega), if_pos (by omega), if_pos (by omega), rd_get ha, rd_get hb, if_pos he, w64s ha hn]) (ih (i + 1) (by omega) (by omega))
  ·rw [dec_cons_ne _ _ he]
   exact Ev.step (fun k => by simp only [hypercuberef1_Ints.l0]; rw [if_pos (by omega), if_pos (by omega), if_pos (by omega), rd_get ha, rd_get hb, if_neg he]) (Ev.now _)
theorem ints_ev (a b : List Int) (hn : a.length ≤ 4611686018427387904) : Ev (fun k => hypercuberef1_Ints.f k a b) (decide (a = b)) := by
 by_cases hl : a.length = b.length
 ·have h := ints_l0 a b hl hn a.length 0 (by omega) (by omega)
  simp only [List.drop_zero] at h
  exact Ev.congr (fun k => by unfold hypercuberef1_Ints.f; rw [if_pos (by omega)]; rfl) h
 ·have : decide (a = b) = false := by
   rw [decide_eq_false_iff_not]; intro e; exact hl (by rw [e])
  rw [this]
  exact Ev.congr (fun k => by unfold hypercuberef1_Ints.f; rw [if_neg (by omega)]) (Ev.now _)
def lexC : List Int → List Int → Int
 | [], [] => 0
 | [], _ :: _ => -1
 | _ :: _, [] => 1
 | x :: xs, y :: ys => if x < y then -1 else if x > y then 1 else lexC xs ys
theorem clone_eq (l : List Int) (h : l.length ≤ 1000000) : slices_Clone_int_int.f l = some l := by
 unfold slices_Clone_int_int.f
 rw [if_pos (by omega)]
theorem both_gen (op : Int → Int → Int) (L : Nat → List Int → List Int → List Int → Int → Int → Option (List Int))
  (h : ∀ k x1 x7 x10 x11 x12, L (k + 1) x1 x7 x10 x11 x12 = if x12 < x11 then (if 0 ≤ x12 then (if x12 < (x10.length : Int) then (if x12 < (x1.length : Int) then (if x7.length < 17592186044416 then (L k x1 (x7 ++ [op (rd x10 x12) (rd x1 x12)]) x10 x11 (wrap64 (x12 + 1))) else (none)) else (L k x1 x7 x10 x11 (wrap64 (x12 + 1)))) else (none)) else (none)) else ((slices_Clone_int_int.f x7).bind fun t => (some t)))
  (a b : List Int) (ha : a.length ≤ 100000) (d : Nat) : ∀ (i : Nat) (acc : List Int), a.length - i = d → i ≤ a.length → acc.length ≤ i →
  Ev (fun k => L k b acc a (a.length : Int) (i : Int)) (acc ++ List.zipWith op (a.drop i) (b.drop i)) := by
 induction d with
 | zero =>
  intro i acc hd hi hacc
  have e1 : a.drop i = [] := List.drop_eq_nil_of_le (by omega)
  rw [e1, List.zipWith_nil_left, List.append_nil]
  exact Ev.step (f := fun _ => some acc) (fun k => by rw [h, if_neg (by omega), clone_eq _ (by omega)]; rfl) (Ev.now _)
 | succ d ih =>
  intro i acc hd hi hacc
  have hia : i < a.length := by omega
  by_cases hib : i < b.length
  ·rw [drop_cons hia, drop_cons hib, List.zipWith_cons_cons]
   have := ih (i + 1) (acc ++ [op a[i] b[i]]) (by omega) (by omega) (by simp; omega)
   rw [List.append_assoc, List.singleton_append] at this
   exact Ev.step (fun k => by rw [h, if_pos (by omega), if_pos (by omega), if_pos (by omega), if_pos (by omega), if_pos (by omega), rd_get hia, rd_get hib, w64s hia (by omega)]) this
  ·have e2 : b.drop i = [] := List.drop_eq_nil_of_le (by omega)
   have e3 : b.drop (i + 1) = [] := List.drop_eq_nil_of_le (by omega)
   have := ih (i + 1) acc (by omega) (by omega) (by omega)
   rw [e3, List.zipWith_nil_right] at this
   rw [e2, List.zipWith_nil_right]
   exact Ev.step (fun k => by rw [h, if_pos (by omega), if_pos (by omega), if_pos (by omega), if_neg (by omega), w64s hia (by omega)]) this
theorem both1_ev (a b : List Int) (ha : a.length ≤ 100000) : Ev (fun k => cell_both_J1.f k a b) (List.zipWith (fun x y => wrap64 (x + y)) a b) := by
 have := both_gen (fun x y => wrap64 (x + y)) cell_both_J1.l0 (fun k x1 x7 x10 x11 x12 => by simp only [cell_both_J1.l0, cell_Join_1.f, Option.bind_some]) a b ha a.length 0 [] (by omega) (by omega) (by simp)
 simp only [List.drop_zero, List.nil_append] at this
 exact this
theorem both2_ev (a b : List Int) (ha : a.length ≤ 100000) : Ev (fun k => cell_both_J2.f k a b) (List.zipWith mn a b) := by
 have := both_gen mn cell_both_J2.l0 (fun k x1 x7 x10 x11 x12 => by simp only [cell_both_J2.l0, cell_Join_2.f, Option.bind_some]) a b ha a.length 0 [] (by omega) (by omega) (by simp)
 simp only [List.drop_zero, List.nil_append] at this
 exact this
theorem both3_ev (a b : List Int) (ha : a.length ≤ 100000) : Ev (fun k => cell_both_J3.f k a b) (List.zipWith mx a b) := by
 have := both_gen mx cell_both_J3.l0 (fun k x1 x7 x10 x11 x12 => by simp only [cell_both_J3.l0, cell_Join_3.f, Option.bind_some]) a b ha a.length 0 [] (by omega) (by omega) (by simp)
 simp only [List.drop_zero, List.nil_append] at this
 exact this
def joinC (a b : S30) : S30 := ⟨a.f0, wrap64 (a.f1 + b.f1), List.zipWith (fun x y => wrap64 (x + y)) a.f2 b.f2, List.zipWith mn a.f3 b.f3, List.zipWith mx a.f4 b.f4⟩
def SmallC (c : S30) : Prop := c.f0.length ≤ 100000 ∧ c.f2.length ≤ 100000 ∧ c.f3.length ≤ 100000 ∧ c.f4.length ≤ 100000
def tupC (c : S30) : List Int × Int × List Int × List Int × List Int := (c.f0, c.f1, c.f2, c.f3, c.f4)
theorem join_ev (a b : S30) (ha : SmallC a) : Ev (fun k => cell_Join.f k a.f0 a.f1 a.f2 a.f3 a.f4 b.f0 b.f1 b.f2 b.f3 b.f4) (tupC (joinC a b)) := by
 obtain ⟨h0, h2, h3, h4⟩ := ha
 refine Ev.congr (f := fun k => (cell_both_J1.f k a.f2 b.f2).bind fun t140 => ((cell_both_J2.f k a.f3 b.f3).bind fun t143 => ((cell_both_J3.f k a.f4 b.f4).bind fun t146 => (some (a.f0, wrap64 (a.f1 + b.f1), t140, t143, t146))))) (fun k => by unfold cell_Join.f; rw [clone_eq _ (by omega), Option.bind_some]) ?_
 exact Ev.bind (both1_ev _ _ h2) (Ev.bind (both2_ev _ _ h3) (Ev.bind (both3_ev _ _ h4) (Ev.now _)))
theorem joinC_small {a b : S30} (h : SmallC a) : SmallC (joinC a b) := by
 obtain ⟨h0, h2, h3, h4⟩ := h
 refine ⟨h0, ?_, ?_, ?_⟩ <;> (simp only [joinC, List.length_zipWith]; omega)
def putL (x : S30) : List S30 → List S30
 | [] => [x]
 | y :: ys => if lexC y.f0 x.f0 < 0 then y :: putL x ys else if lexC y.f0 x.f0 = 0 then joinC y x :: ys else x :: y :: ys
theorem wrap_assoc (a b c : Int) : wrap64 (wrap64 (a + b) + c) = wrap64 (a + wrap64 (b + c)) := by unfold wrap64; omega
theorem mn_comm (a b : Int) : mn a b = mn b a := by unfold mn; split <;> split <;> omega
theorem mx_comm (a b : Int) : mx a b = mx b a := by unfold mx; split <;> split <;> omega
theorem mn_assoc (a b c : Int) : mn (mn a b) c = mn a (mn b c) := by unfold mn; repeat' split
                                                                     all_goals omega
theorem mx_assoc (a b c : Int) : mx (mx a b) c = mx a (mx b c) := by unfold mx; repeat' split
                                                                     all_goals omega
theorem zip_assoc (f : Int → Int → Int) (hf : ∀ a b c, f (f a b) c = f a (f b c)) : ∀ a b c : List Int, List.zipWith f (List.zipWith f a b) c = List.zipWith f a (List.zipWith f b c)
 | [], _, _ => by simp
 | _ :: _, [], _ => by simp
 | _ :: _, _ :: _, [] => by simp
 | x :: xs, y :: ys, z :: zs => by simp only [List.zipWith_cons_cons, hf, zip_assoc f hf xs ys zs]
theorem zip_comm (f : Int → Int → Int) (hf : ∀ a b, f a b = f b a) : ∀ a b : List Int, List.zipWith f a b = List.zipWith f b a
 | [], [] => rfl
 | [], _ :: _ => by simp
 | _ :: _, [] => by simp
 | x :: xs, y :: ys => by simp only [List.zipWith_cons_cons, hf x y, zip_comm f hf xs ys]
theorem joinC_comm {a b : S30} (h : a.f0 = b.f0) : joinC a b = joinC b a := by
 unfold joinC
 rw [h, Int.add_comm, zip_comm _ (fun x y => by rw [Int.add_comm]) a.f2, zip_comm _ mn_comm a.f3, zip_comm _ mx_comm a.f4]
theorem joinC_assoc (a b c : S30) : joinC (joinC a b) c = joinC a (joinC b c) := by
 unfold joinC
 simp only [wrap_assoc]
 rw [zip_assoc _ (fun x y z => wrap_assoc x y z), zip_assoc _ mn_assoc, zip_assoc _ mx_assoc]
def putAll (acc l : List S30) : List S30 := l.foldl (fun acc x => putL x acc) acc
theorem equal_true {c : S30} (ha : SmallC c) : Ev (fun k => hypercuberef2_Equal.f k c.f0 c.f1 c.f2 c.f3 c.f4 c.f0 c.f1 c.f2 c.f3 c.f4) true := by
 obtain ⟨h0, h2, h3, h4⟩ := ha
 have e : ∀ l : List Int, l.length ≤ 100000 → Ev (fun k => hypercuberef1_Ints.f k l l) true := fun l hl => by
  have := ints_ev l l (by omega)
  rw [decide_eq_true rfl] at this
  exact this
 refine Ev.congr (fun k => by unfold hypercuberef2_Equal.f; rw [if_pos rfl]) ?_
 refine Ev.bind (e _ h0) (Ev.congr (fun k => by rw [if_pos rfl]) ?_)
 refine Ev.bind (e _ h2) (Ev.congr (fun k => by rw [if_pos rfl]) ?_)
 refine Ev.bind (e _ h3) (Ev.congr (fun k => by rw [if_pos rfl]) ?_)
 exact Ev.bind (e _ h4) (Ev.now _)
end Go.Proofs.Ytmkjkkmilopcpaa.Q
