-- packed by wip/tools/pack.py (a program of this session) out of its own texts
import Derived.Test.YtlacfpbfnedgdaaPRecReads0
import Derived.ArgAppend
import Derived.Below
import Derived.BigQuiet
import Derived.Deep.AppendLies
import Derived.Deep.CutBlock
import Derived.Deep.DeepCutAuto
import Derived.Deep.Draws
import Derived.Deep.LoopGhost
import Derived.Deep.OwnRows
import Derived.Deep.QuietTactic
import Derived.Deep.RegionHeld3
import Derived.Deep.RegionWith
import Derived.KernelRfl
import Derived.Laws.BitsLemmas
import Derived.Laws.BytesArg
import Derived.Laws.IdiomCopy
import Derived.Laws.MakeOwn
import Derived.Laws.OwnMore
import Derived.Laws.Rows
import Derived.Laws.Slices
import Derived.Lib.AppendStr
import Derived.Lib.ConvBytes
import Derived.Lib.SliceRun
import Derived.Maps.AppendAt
import Derived.OrdersHeld
import Derived.OwnWalk
import Derived.RegionTactic
import Derived.RowKit
import Derived.RowKit3
import Derived.Shelf.Abstract
import Derived.Tactics
import Derived.Test.YtlacfpbfnedgdaaProg
import Derived.WalkKit
import Derived.WalkSpells
import Derived.WideLaws
import Derived.Test.YtlacfpbfnedgdaaPRecReads1
import Derived.Test.YtlacfpbfnedgdaaPRecReads3
import Derived.Test.YtlacfpbfnedgdaaPRecReads4
import Derived.Test.YtlacfpbfnedgdaaPRecReads5
import Derived.Test.YtlacfpbfnedgdaaPRecReads6
import Derived.Test.YtlacfpbfnedgdaaPRecReads7
import Derived.Test.YtlacfpbfnedgdaaPRecReads10
namespace Go.Proofs.Ytlacfpbfnedgdaa.Q
open Go.RowKit Go.Proofs.YtlacfpbfnedgdaaW.PrintWords Go.Proofs.YtlacfpbfnedgdaaW.PrintLast Go.Proofs.YtlacfpbfnedgdaaW.PrintMore
set_option linter.unusedVariables false
set_option linter.unusedSimpArgs false
def checkP (cards : List Int) (meas : Int) : Bool := decide (1 ≤ cards.length) && decide (cards.length ≤ 4) && (cards.all fun x => decide (1 ≤ x) && decide (x ≤ 16)) && decide (0 ≤ meas) && decide (meas ≤ 2)
theorem check_eq (cards : List Int) (meas : Int) : rec_Check.f cards meas = some (checkP cards meas) := by
 unfold rec_Check.f rec_within_int.f checkP
 by_cases h1 : 1 ≤ cards.length
 ·rw [if_pos (by omega)]
  by_cases h2 : cards.length ≤ 4
  ·rw [if_pos (by omega)]
   simp only [Option.bind_some]
   cases h3 : (cards.all fun x => decide (1 ≤ x) && decide (x ≤ 16))
   ·simp
   ·simp only [if_true]
    by_cases h4 : 0 ≤ meas
    ·rw [if_pos (by omega)]; simp [h1, h2, h4]
    ·rw [if_neg (by omega)]; simp [h4]
  ·rw [if_neg (by omega)]; simp [h2]
 ·rw [if_neg (by omega)]; simp; omega
theorem check_len {cards : List Int} {meas : Int} (h : checkP cards meas = true) : cards.length ≤ 4 := by
 unfold checkP at h
 simp only [Bool.and_eq_true, decide_eq_true_eq] at h
 exact h.1.1.1.2
def rightP (cards : List Int) (meas : Int) (x : S33) : Bool := decide (x.f0.length = cards.length) && decide ((x.f1.length : Int) = meas) && (List.range x.f0.length).all fun i => decide (0 ≤ rd x.f0 i) && decide (rd x.f0 i < rd cards i)
theorem right_l0 (cards key mm : List Int) (meas : Int) (hk : key.length ≤ 4611686018427387904) (hl : key.length = cards.length) (d : Nat) : ∀ (k i : Nat), key.length - i = d → i ≤ key.length → d < k →
  rec_Right.l0 k key (key.length : Int) (i : Int) cards meas = some ((List.range' i (key.length - i)).all fun j => decide (0 ≤ rd key j) && decide (rd key j < rd cards j)) := by
 induction d with
 | zero =>
  intro k i hd hi hk'
  obtain ⟨k, rfl⟩ : ∃ m, k = m + 1 := ⟨k - 1, by omega⟩
  simp only [rec_Right.l0]
  rw [if_neg (by omega), hd]
  rfl
 | succ d ih =>
  intro k i hd hi hk'
  obtain ⟨k, rfl⟩ : ∃ m, k = m + 1 := ⟨k - 1, by omega⟩
  simp only [rec_Right.l0]
  rw [if_pos (by omega), if_pos (by omega), if_pos (by omega), hd, List.range'_succ, List.all_cons]
  by_cases h0 : rd key i < 0
  ·rw [if_pos h0]; simp; omega
  ·rw [if_neg h0, if_pos (by omega)]
   by_cases h1 : rd key i ≥ rd cards i
   ·rw [if_pos h1]; simp; omega
   ·rw [if_neg h1]
    have hw : wrap64 ((i : Int) + 1) = ((i + 1 : Nat) : Int) := by unfold wrap64; omega
    rw [hw, ih k (i + 1) (by omega) (by omega) (by omega)]
    have : key.length - (i + 1) = d := by omega
    rw [this]
    have e1 : decide (0 ≤ rd key (i : Int)) = true := decide_eq_true (by omega)
    have e2 : decide (rd key (i : Int) < rd cards (i : Int)) = true := decide_eq_true (by omega)
    rw [e1, e2]
    rfl
theorem right_eq (cards : List Int) (meas : Int) (x : S33) (hk : x.f0.length ≤ 4611686018427387904) (k : Nat) (hkk : x.f0.length + 2 ≤ k) : rec_Right.f k cards meas x.f0 x.f1 = some (rightP cards meas x) := by
 obtain ⟨k, rfl⟩ : ∃ m, k = m + 1 := ⟨k - 1, by omega⟩
 unfold rec_Right.f rightP
 by_cases h1 : x.f0.length = cards.length
 ·rw [if_pos (by omega)]
  by_cases h2 : (x.f1.length : Int) = meas
  ·have : ((x.f1.length : Int) != meas) = false := by simp [h2]
   simp only [rec_Right.j0, this]
   rw [if_neg (by simp)]
   have := right_l0 cards x.f0 x.f1 meas hk h1 x.f0.length k 0 (by omega) (by omega) (by omega)
   simp only [Nat.sub_zero] at this
   rw [show ((0 : Nat) : Int) = 0 from rfl] at this
   rw [this, List.range_eq_range']
   simp [h1, h2]
  ·have : ((x.f1.length : Int) != meas) = true := by simp [h2]
   simp only [rec_Right.j0, this]
   simp [h2]
 ·rw [if_neg (by omega)]
  simp only [rec_Right.j0]
  simp [h1]
def rowsL (cards : List Int) (meas : Int) : Nat → List Int → List S33 → Option (List S33 × List Int)
 | 0, l, acc => some (acc, l)
 | m + 1, l, acc =>
  if (listL 8 meas.toNat (listL 1 cards.length l false []).2.1 (listL 1 cards.length l false []).2.2 []).2.2 = true then none
  else if rightP cards meas ⟨(listL 1 cards.length l false []).1, (listL 8 meas.toNat (listL 1 cards.length l false []).2.1 (listL 1 cards.length l false []).2.2 []).1⟩ = true then
   rowsL cards meas m (listL 8 meas.toNat (listL 1 cards.length l false []).2.1 (listL 1 cards.length l false []).2.2 []).2.1
    (acc ++ [⟨(listL 1 cards.length l false []).1, (listL 8 meas.toNat (listL 1 cards.length l false []).2.1 (listL 1 cards.length l false []).2.2 []).1⟩])
  else none
def badP : List Int × Int × List S33 × Int := ([], 0, [], 1)
def decRows (cards : List Int) (meas n : Int) (l : List Int) (bad : Bool) : List Int × Int × List S33 × Int :=
 if bad = true then badP else if checkP cards meas = false then badP else if 300 < n then badP else
  match rowsL cards meas n.toNat l [] with
  | none => badP
  | some p => if 0 < p.2.length then badP else (cards, meas, p.1, 0)
def decM (cards : List Int) (m : Int) (l : List Int) (b : Bool) : List Int × Int × List S33 × Int := decRows cards m (takeV l 2) (takeL l 2) (takeB l 2 b)
def decTail (c : List Int × List Int × Bool) : List Int × Int × List S33 × Int := decM c.1 (takeV c.2.1 1) (takeL c.2.1 1) (takeB c.2.1 1 c.2.2)
def decHead (l : List Int) : List Int × Int × List S33 × Int := decTail (listL 1 (takeV l 1).toNat (takeL l 1) (takeB l 1 false) [])
def markP (l0 : List Int) : Bool := (strOfNums (l0.take 4)).toList == [67, 85, 66, 49]
def decodeP (l0 : List Int) : List Int × Int × List S33 × Int :=
 if l0.length < 4 then badP else if markP l0 = false then badP else decHead (l0.drop 4)
def rec_Decode.f (l0 : List Int) : Option (List Int × Int × (List (S33)) × Int) := if l0.length ≤ 100000000000 then some (decodeP l0) else none
def DecPost (w : World) (p : List Int × Int × List S33 × Int) (e : Ending) (w' : World) : Prop := ∃ v0_ v2_ : Value, e = .returned (.tuple #[.agg #[v0_, .int .i64 p.2.1], v2_, .int .i64 p.2.2.2]) ∧ Kd.R (Kd.int .i64) 3 w' w.heap.size (fun _ => True) v0_ p.1 ∧ Kd.S k33 33 w' w.heap.size (fun k_ => some k_ ≠ (v0_ : Value).ownBlock) v2_ p.2.2.1 ∧ Below w.heap.size w w'
theorem DecPost.bad {w w' : World} {e : Ending} (he : e = .returned (.tuple #[.agg #[.slice none 0 0, .int .i64 0], .slice none 0 0, .int .i64 1])) (hb : Below w.heap.size w w') : DecPost w badP e w' :=
 ⟨_, _, he, Kd.R_nil _ _ _ _ _, Kd.S_nil _ _ _ _ _, hb⟩
set_option maxHeartbeats 8000000 in
theorem decode_short (A0 : Option Addr) (c0 : Nat) (l0 : List Int) (w : World) (hr0 : Kd.C (Kd.int .u8) w A0 l0.length l0) (hc0 : l0.length ≤ c0) (hlt : l0.length < 4) :
  Calls Try.prog 23 #[.slice A0 l0.length c0] w (DecPost w badP) := by
 have hd : decide (l0.length < 4) = true := decide_eq_true hlt
 clear hr0
 go_enter Try.func23, Try.ntmps23
 go_wp2
 refine bodyPost_ret (v := .tuple #[.agg #[.slice none 0 0, .int .i64 0], .slice none 0 0, .int .i64 1]) (by simp [results, Try.results23, go_sem]) rfl ?_
 exact DecPost.bad rfl ((Below.refl _ _).alloc (Nat.le_refl _) _)
theorem mark_runs (A0 : Option Addr) (c0 : Nat) (l0 : List Int) (w : World) (hr0 : Kd.C (Kd.int .u8) w A0 l0.length l0) (hc0 : l0.length ≤ c0) (h4 : 4 ≤ l0.length) :
  (∀ W : World, (Instr.slice 36 (.slice A0 l0.length c0) none (some (.int .i64 4)) none).run Try.prog W = .ok (.slice A0 4 c0) W) ∧
  (∀ W : World, Below w.heap.size w W → (convert 36 9 (.slice A0 4 c0)).run Try.prog W = .ok (.string (strOfNums (l0.take 4))) W) := by
 obtain ⟨i0, hi0, _, hsz, _⟩ := info_parts info5
 refine ⟨fun W => ?_, fun W hb => ?_⟩
 ·exact cut_to (P := Try.prog) 36 5 .i64 Try.underlying36 hi0 A0 l0.length c0 4 (by omega) (by omega) hc0 W
 ·have h := Kd.C_take (k := Kd.int .u8) (Kd.C_below hr0 hb) (m := 4) h4
  have hl : (l0.take 4).length = 4 := by rw [List.length_take]; omega
  rw [hl] at h
  exact Kd.C_string Try.underlying36 Try.underlying5 Try.underlying9 h
set_option maxHeartbeats 8000000 in
theorem decode_unmarked (A0 : Option Addr) (c0 : Nat) (l0 : List Int) (w : World) (hr0 : Kd.C (Kd.int .u8) w A0 l0.length l0) (hc0 : l0.length ≤ c0) (hge : 4 ≤ l0.length) (hm : markP l0 = false) :
  Calls Try.prog 23 #[.slice A0 l0.length c0] w (DecPost w badP) := by
 have hd : decide (l0.length < 4) = false := decide_eq_false (by omega)
 obtain ⟨h1, h2⟩ := mark_runs A0 c0 l0 w hr0 hc0 hge
 have h3 := fun o => h2 (w.alloc o) (below_alloc (Below.refl _ _) o)
 have hmk : ((strOfNums (l0.take 4)).toList == [67, 85, 66, 49]) = false := hm
 have hmk' : ((strOfNums (l0.take 4)).toList != [67, 85, 66, 49]) = true := by rw [bne, hmk]; rfl
 clear h2 hr0 hm
 generalize strOfNums (l0.take 4) = s at h3 hmk hmk'
 go_enter Try.func23, Try.ntmps23
 go_wp2
 refine bodyPost_ret (v := .tuple #[.agg #[.slice none 0 0, .int .i64 0], .slice none 0 0, .int .i64 1]) (by simp [results, Try.results23, go_sem]) rfl ?_
 exact DecPost.bad rfl ((Below.refl _ _).alloc (Nat.le_refl _) _)
def DInv (w : World) (vc : Value) (meas : Int) (cards : List Int) (l : List Int) (b : Bool) (W : World) : Prop :=
 W.heap[w.heap.size]? = some (.cells #[vc, .int .i64 meas] 24 (0, 0)) ∧ RdrAt (w.heap.size + 1) w l b W ∧ Below w.heap.size w W ∧ w.heap.size + 2 ≤ W.heap.size ∧
 Kd.R (Kd.int .i64) 3 W w.heap.size (fun k => w.heap.size + 2 ≤ k) vc cards
theorem DInv.step {w : World} {vc : Value} {meas : Int} {cards l l' : List Int} {b b' : Bool} {W W' : World} (h : DInv w vc meas cards l b W) (hR : RdrAt (w.heap.size + 1) w l' b' W') (hB : Below w.heap.size w W') (hK : KeepBut W W' (w.heap.size + 1) none) : DInv w vc meas cards l' b' W' := by
 obtain ⟨h1, h2, h3, h4, h5⟩ := h
 exact ⟨(hK.2 _ (by omega) (by omega) (by simp)).trans h1, hR, hB, Nat.le_trans h4 hK.1, Kd.R_keep h5 hK (fun k hk => by omega)⟩
theorem DInv.grow {w : World} {vc : Value} {meas : Int} {cards l : List Int} {b : Bool} {W W' : World} (h : DInv w vc meas cards l b W) (hB : Below W.heap.size W W') : DInv w vc meas cards l b W' := by
 obtain ⟨h1, h2, h3, h4, h5⟩ := h
 exact ⟨(hB.block _ (by omega)).trans h1, h2.move (hB.block _ (by omega)), below_step h3 hB, Nat.le_trans h4 hB.size, Kd.R_below h5 hB⟩
theorem DInv.setc {w : World} {vc v : Value} {meas : Int} {cards c2 l : List Int} {b : Bool} {W : World} (h : DInv w vc meas cards l b W) (hv : Kd.R (Kd.int .i64) 3 W w.heap.size (fun k => w.heap.size + 2 ≤ k) v c2) : DInv w v meas c2 l b (W.setCell ⟨w.heap.size, 0, none⟩ v) := by
 obtain ⟨h1, h2, h3, h4, h5⟩ := h
 exact ⟨blk_set h1 0 v, h2.move (Below.heap_setCell W _ _ _ (by simp)), below_set h3 (Nat.le_refl _), by simpa [World.setCell] using h4, Kd.R_far (p := ⟨w.heap.size, 0, none⟩) hv (fun k hk => by show k ≠ w.heap.size; omega) _⟩
theorem DInv.setm {w : World} {vc : Value} {meas m2 : Int} {cards l : List Int} {b : Bool} {W : World} (h : DInv w vc meas cards l b W) : DInv w vc m2 cards l b (W.setCell ⟨w.heap.size, 1, none⟩ (.int .i64 m2)) := by
 obtain ⟨h1, h2, h3, h4, h5⟩ := h
 exact ⟨blk_set h1 1 _, h2.move (Below.heap_setCell W _ _ _ (by simp)), below_set h3 (Nat.le_refl _), by simpa [World.setCell] using h4, Kd.R_far (p := ⟨w.heap.size, 1, none⟩) h5 (fun k hk => by show k ≠ w.heap.size; omega) _⟩
theorem DInv.cells {w : World} {vc : Value} {meas : Int} {cards l : List Int} {b : Bool} {W : World} (h : DInv w vc meas cards l b W) :
  W.cell? ⟨w.heap.size, 0, none⟩ = some vc ∧ W.cell? ⟨w.heap.size, 1, none⟩ = some (.int .i64 meas) ∧ W.frozen? ⟨w.heap.size, 0, none⟩ = false ∧ W.frozen? ⟨w.heap.size, 1, none⟩ = false ∧ W.cell? ⟨w.heap.size + 1, 1, none⟩ = some (.bool b) := by
 obtain ⟨h1, ⟨A, c, h2, _⟩, _⟩ := h
 exact ⟨blk_cell h1 0, blk_cell h1 1, blk_frozen h1 0, blk_frozen h1 1, blk_cell h2 1⟩
theorem DInv.zeros {w : World} {vc : Value} {meas : Int} {cards l : List Int} {b : Bool} {W : World} (h : DInv w vc meas cards l b W) :
  (W.setCell ⟨w.heap.size, 0, none⟩ (.slice none 0 0)).cell? ⟨w.heap.size, 0, none⟩ = some (.slice none 0 0) ∧
  ((W.setCell ⟨w.heap.size, 0, none⟩ (.slice none 0 0)).setCell ⟨w.heap.size, 1, none⟩ (.int .i64 0)).cell? ⟨w.heap.size, 1, none⟩ = some (.int .i64 0) ∧
  Below w.heap.size w ((W.setCell ⟨w.heap.size, 0, none⟩ (.slice none 0 0)).setCell ⟨w.heap.size, 1, none⟩ (.int .i64 0)) := by
 obtain ⟨h1, h2, h3, h4, h5⟩ := h
 exact ⟨blk_cell (blk_set h1 0 _) 0, blk_cell (blk_set (blk_set h1 0 _) 1 _) 1, below_set (below_set h3 (Nat.le_refl _)) (Nat.le_refl _)⟩
def okS (w : World) (vc : Value) (k : Nat) : Prop := w.heap.size + 2 ≤ k ∧ some k ≠ vc.ownBlock
theorem DInv.lt {w : World} {vc : Value} {meas : Int} {cards l : List Int} {b : Bool} {W : World} (h : DInv w vc meas cards l b W) : ∀ k, vc.ownBlock = some k → k < W.heap.size := Kd.R_lt h.2.2.2.2
theorem DInv.grown {w : World} {vc v : Value} {meas : Int} {cards l : List Int} {b : Bool} {W W' : World} (h : DInv w vc meas cards l b W) (hB : Below w.heap.size w W') (hg : W.grownBy W' v.ownBlock) (hv : ∀ k, v.ownBlock = some k → okS w vc k) : DInv w vc meas cards l b W' := by
 obtain ⟨h1, h2, h3, h4, h5⟩ := h
 refine ⟨(hg.block _ (by omega) (fun e => by have := (hv _ e.symm).1; omega)).trans h1, h2.move (hg.block _ (by omega) (fun e => by have := (hv _ e.symm).1; omega)), hB, Nat.le_trans h4 hg.size, ?_⟩
 refine Kd.R_mono (Kd.R_grown (Kd.R_mono (Kd.R_tight rfl h5) (ok' := fun k => some k = vc.ownBlock) (fun k hk => hk)) hg (fun k hk e => (hv k e.symm).2 hk)) (fun k hk => h5.1 k hk.symm)
theorem DInv.far {w : World} {vc : Value} {meas : Int} {cards l : List Int} {b : Bool} {W : World} (h : DInv w vc meas cards l b W) {bx j : Nat} (u : Value) (hx : w.heap.size + 2 ≤ bx) (hc : some bx ≠ vc.ownBlock) : DInv w vc meas cards l b (W.setCell ⟨bx, j, none⟩ u) := by
 obtain ⟨h1, h2, h3, h4, h5⟩ := h
 refine ⟨(Below.heap_setCell W _ _ _ (by show w.heap.size ≠ bx; omega)).trans h1, h2.move (Below.heap_setCell W _ _ _ (by show w.heap.size + 1 ≠ bx; omega)), below_set h3 (by omega), by simpa [World.setCell] using h4, ?_⟩
 refine Kd.R_mono (Kd.R_far (p := ⟨bx, j, none⟩) (Kd.R_tight rfl h5) (fun k hk e => hc (by rw [← hk, e])) u) (fun k hk => h5.1 k hk.symm)
theorem DInv.back {w : World} {A : Option Addr} {cc : Nat} {meas : Int} {cards l : List Int} {b : Bool} {W : World} (h : DInv w (.slice A cards.length cc) meas cards l b W) :
  (W.setCell ⟨w.heap.size, 0, none⟩ (.slice A cards.length cc)).cell? ⟨w.heap.size, 0, none⟩ = some (.slice A cards.length cc) ∧
  ((W.setCell ⟨w.heap.size, 0, none⟩ (.slice A cards.length cc)).setCell ⟨w.heap.size, 1, none⟩ (.int .i64 meas)).cell? ⟨w.heap.size, 1, none⟩ = some (.int .i64 meas) ∧
  DInv w (.slice A cards.length cc) meas cards l b ((W.setCell ⟨w.heap.size, 0, none⟩ (.slice A cards.length cc)).setCell ⟨w.heap.size, 1, none⟩ (.int .i64 meas)) := by
 have h1 := h.1
 exact ⟨blk_cell (blk_set h1 0 _) 0, blk_cell (blk_set (blk_set h1 0 _) 1 _) 1, (h.setc h.2.2.2.2).setm⟩
theorem take_D {w : World} {vc : Value} {meas : Int} {cards l : List Int} {b : Bool} {W : World} (h : DInv w vc meas cards l b W) (n : Nat) (hn : n ≤ 8) :
  Calls Try.prog 34 #[.pointer (some ⟨w.heap.size + 1, 0, none⟩), .int .i64 (n : Int)] W fun e W' => e = .returned (.int .i64 (takeV l n)) ∧ DInv w vc meas cards (takeL l n) (takeB l n b) W' ∧ KeepBut W W' (w.heap.size + 1) none :=
 (take_calls (w.heap.size + 1) l b n w W h.2.2.1 (by omega) h.2.1 hn).mono fun e W' ⟨h1, h2, h3, h4⟩ => ⟨h1, h.step h2 h3 h4, h4⟩
theorem list_D {w : World} {vc : Value} {meas : Int} {cards l : List Int} {b : Bool} {W : World} (h : DInv w vc meas cards l b W) (m : Int) (n : Nat) (hn : n ≤ 8) (hn1 : 1 ≤ n) (hL : l.length ≤ 1000000000000) (hm : m ≤ 9223372036854775807) :
  Calls Try.prog 33 #[.pointer (some ⟨w.heap.size + 1, 0, none⟩), .int .i64 m, .int .i64 (n : Int)] W fun e W' => ∃ v, e = .returned v ∧
   Kd.R (Kd.int .i64) 3 W' w.heap.size (fun k_ => W.heap.size ≤ k_) v (listL n m.toNat l b []).1 ∧ DInv w vc meas cards (listL n m.toNat l b []).2.1 (listL n m.toNat l b []).2.2 W' ∧ KeepBut W W' (w.heap.size + 1) none :=
 (list_calls (w.heap.size + 1) l b m n w W h.2.2.1 (by omega) h.2.1 hn hn1 hL hm).mono fun e W' ⟨v, h1, h2, h3, h4, h5⟩ => ⟨v, h1, h2, h.step h3 h4 h5, h5⟩
theorem wrap_i64_bd (n : Int) : -9223372036854775808 ≤ IntKind.i64.wrap n ∧ IntKind.i64.wrap n ≤ 9223372036854775807 := by
 have hb : IntKind.i64.bits = 64 := rfl
 have hs : IntKind.i64.signed = true := rfl
 unfold IntKind.wrap
 simp only [hb, hs, Bool.true_and]
 split
 ·rename_i h
  have := of_decide_eq_true h
  omega
 ·rename_i h
  have := of_decide_eq_false (Bool.eq_false_iff.2 h)
  omega
theorem numOf_bd (l : List Int) : -9223372036854775808 ≤ numOf l ∧ numOf l ≤ 9223372036854775807 := by
 rcases List.eq_nil_or_concat l with rfl | ⟨xs, c, rfl⟩
 ·simp [numOf]
 ·rw [List.concat_eq_append, numOf_snoc]
  exact wrap_i64_bd _
theorem takeV_le (l : List Int) (n : Nat) : takeV l n ≤ 9223372036854775807 := by
 unfold takeV; split
 ·decide
 ·exact (numOf_bd _).2
theorem takeL_le (l : List Int) (n : Nat) : (takeL l n).length ≤ l.length := by
 unfold takeL; split
 ·simp
 ·rw [List.length_drop]; omega
theorem listL_len (n m : Nat) : ∀ (l : List Int) (b : Bool) (acc : List Int), (listL n m l b acc).1.length ≤ acc.length + m := by
 induction m with
 | zero => intro l b acc; exact Nat.le_refl _
 | succ m ih =>
  intro l b acc
  cases b with
  | true => rw [listL_bad]; exact Nat.zero_le _
  | false => rw [listL_go]; have := ih (takeL l n) (takeB l n false) (acc ++ [takeV l n]); simp at this; omega
theorem listL_le (n m : Nat) : ∀ (l : List Int) (b : Bool) (acc : List Int), (listL n m l b acc).2.1.length ≤ l.length := by
 induction m with
 | zero => intro l b acc; exact Nat.le_refl _
 | succ m ih =>
  intro l b acc
  cases b with
  | true => rw [listL_bad]; exact Nat.le_refl _
  | false => rw [listL_go]; exact Nat.le_trans (ih _ _ _) (takeL_le l n)
set_option maxHeartbeats 8000000 in
theorem decode_main (A0 : Option Addr) (c0 : Nat) (l0 : List Int) (w : World) (hr0 : Kd.C (Kd.int .u8) w A0 l0.length l0) (hc0 : l0.length ≤ c0) (hge : 4 ≤ l0.length) (hm : markP l0 = true) (hlim : l0.length ≤ 100000000000) (p : List Int × Int × List S33 × Int) (hp : p = decHead (l0.drop 4)) :
  Calls Try.prog 23 #[.slice A0 l0.length c0] w (DecPost w p) := by
 have hd : decide (l0.length < 4) = false := decide_eq_false (by omega)
 obtain ⟨h1, h2⟩ := mark_runs A0 c0 l0 w hr0 hc0 hge
 have h3 := fun o => h2 (w.alloc o) (below_alloc (Below.refl _ _) o)
 have hmk : ((strOfNums (l0.take 4)).toList == [67, 85, 66, 49]) = true := hm
 have hmk' : ((strOfNums (l0.take 4)).toList != [67, 85, 66, 49]) = false := by rw [bne, hmk]; rfl
 obtain ⟨i0, hi0, _, hsz, _⟩ := info_parts info5
 have h4 := cut_from (P := Try.prog) 36 5 .i64 Try.underlying36 hi0 1 hsz A0 l0.length c0 4 (by omega) (by omega)
 rw [show ((4 : Int)).toNat = 4 from rfl] at h4
 obtain ⟨A', hA'⟩ : ∃ A', A' = (if c0 = 4 then A0 else A0.map (·.add (4 * 1))) := ⟨_, rfl⟩
 rw [← hA'] at h4
 have HC : Aside0 (Kd.C (Kd.int .u8) w A' (l0.drop 4).length (l0.drop 4)) := by
  have := Kd.C_drop (k := Kd.int .u8) hr0 hge hc0
  rw [show (Kd.int .u8).sz = 1 from rfl, ← hA'] at this
  exact ⟨this⟩
 have HL : Aside0 ((l0.drop 4).length = l0.length - 4) := ⟨by rw [List.length_drop]⟩
 clear h2 hr0 hm hi0 hsz hA'
 generalize strOfNums (l0.take 4) = s at h3 hmk hmk'
 obtain ⟨l, hl⟩ : ∃ l, l = l0.drop 4 := ⟨_, rfl⟩
 rw [← hl] at HC HL hp
 clear hl
 unfold decHead at hp
 have HP := am hp
 clear hp
 go_enter Try.func23, Try.ntmps23
 go_wp2_with fail
 have D0 : DInv w (.slice none 0 0) 0 [] l false ((w.alloc (.cells #[.slice none 0 0, .int .i64 0] 24)).alloc (.cells #[.slice A' (l0.length - 4) (c0 - 4), .bool false] 61)) := by
  refine ⟨?_, ⟨A', c0 - 4, ?_, HC.out, by rw [HL.out]; omega⟩, ((Below.refl _ _).alloc (Nat.le_refl _) _).alloc (by simp) _, by simp, Kd.R_nil _ _ _ _ _⟩
  ·refine (Below.heap_alloc _ _ _ (by simp)).trans ?_
   show (w.heap.push _)[w.heap.size]? = _
   simp
  ·rw [HL.out]
   have hs1 : (w.alloc (.cells #[.slice none 0 0, .int .i64 0] 24)).heap.size = w.heap.size + 1 := by simp
   show ((w.alloc (.cells #[.slice none 0 0, .int .i64 0] 24)).heap.push _)[w.heap.size + 1]? = _
   rw [← hs1]
   exact Array.getElem?_push_size
 have D0' := am D0
 clear D0
 have hl1 : l.length ≤ 1000000000000 := by have := HL.out; omega
 have HL1 := am hl1
 clear hl1 h1 h3 h4 hmk hmk'
 have hS := am (Below.refl w.heap.size w)
 refine (take_D D0'.out 1 (by omega)).mono ?_
 obtain ⟨d, hd1⟩ : ∃ d, d = takeV l 1 := ⟨_, rfl⟩
 obtain ⟨l1, hl1⟩ : ∃ l1, l1 = takeL l 1 := ⟨_, rfl⟩
 obtain ⟨b1, hb1⟩ : ∃ b1, b1 = takeB l 1 false := ⟨_, rfl⟩
 rw [← hd1, ← hl1, ← hb1] at HP ⊢
 have hdm := takeV_le l 1
 rw [← hd1] at hdm
 have hln1 : l1.length ≤ 1000000000000 := by rw [hl1]; exact Nat.le_trans (takeL_le l 1) HL1.out
 clear hd1 hl1 hb1
 rintro e W1 ⟨rfl, D1, -⟩
 clear D0' HC HL HL1
 have E1 := am D1
 have N1 := am hln1
 have M1 := am hdm
 clear D1 hln1 hdm
 go_wp2_with fail
 refine (list_D E1.out d 1 (by omega) (by omega) N1.out M1.out).mono ?_
 have hln2 := Nat.le_trans (listL_le 1 d.toNat l1 b1 []) N1.out
 generalize listL 1 d.toNat l1 b1 [] = c at hln2 HP ⊢
 obtain ⟨cards, l2, b2⟩ := c
 have N2 := am hln2
 simp only [] at N2
 unfold decTail at HP
 simp only [] at HP ⊢
 clear hln2
 rintro e W2 ⟨vc, rfl, hvc, D2, -⟩
 obtain ⟨Ac, cc, ec⟩ := Kd.R_slice hvc
 subst ec
 have hW1 := E1.out.2.2.2.1
 have E2 := am (D2.setc (Kd.R_mono hvc (fun k hk => Nat.le_trans hW1 hk)))
 obtain ⟨c20, c21, f20, f21, -⟩ := D2.cells
 clear E1 N1 M1 hW1 hvc D2
 go_wp2_with fail
 refine (take_D E2.out 1 (by omega)).mono ?_
 unfold decM at HP
 have hln3 := Nat.le_trans (takeL_le l2 1) N2.out
 have hmm := takeV_le l2 1
 generalize takeV l2 1 = meas at HP hmm ⊢
 generalize takeL l2 1 = l3 at HP hln3 ⊢
 generalize takeB l2 1 b2 = b3 at HP ⊢
 have N3 := am hln3
 have MM := am hmm
 clear hln3 hmm
 rintro e W3 ⟨rfl, D3, -⟩
 have E3 := am (D3.setm (m2 := meas))
 obtain ⟨c30, c31, f30, f31, -⟩ := D3.cells
 clear E2 N2 c20 c21 f20 f21 D3
 go_wp2_with fail
 refine (take_D E3.out 2 (by omega)).mono ?_
 unfold decRows at HP
 have hln4 := Nat.le_trans (takeL_le l3 2) N3.out
 have hnm := takeV_le l3 2
 generalize takeV l3 2 = n at HP hnm ⊢
 generalize takeL l3 2 = l4 at HP hln4 ⊢
 generalize takeB l3 2 b3 = b4 at HP ⊢
 have N4 := am hln4
 have M4 := am hnm
 clear hln4 hnm
 rintro e W4 ⟨rfl, D4, -⟩
 obtain ⟨c40, c41, f40, f41, cb4⟩ := D4.cells
 have E4 := am D4
 clear E3 N3 c30 c31 f30 f31 D4
 cases b4 with
 | true =>
  rw [if_pos rfl] at HP
  obtain ⟨z0, z1, zb⟩ := E4.out.zeros
  have ZB := am zb
  clear zb
  go_wp2
  refine bodyPost_ret (v := .tuple #[.agg #[.slice none 0 0, .int .i64 0], .slice none 0 0, .int .i64 1]) (by simp [results, Try.results23, go_sem, z0, z1]) rfl ?_
  rw [HP.out]
  exact DecPost.bad rfl ZB.out
 | false =>
  rw [if_neg (by simp)] at HP
  go_wp2_with fail
  have hrd := (Kd.R_reads' E4.out.2.2.2.2)
  refine (rec_Check.calls Ac cc cards meas _ W4 hrd.2.2 hrd.2.1 (check_eq cards meas)).mono ?_
  have hck := am (check_len (cards := cards) (meas := meas))
  generalize checkP cards meas = ck at HP hck ⊢
  rintro e W5 ⟨rfl, hb5⟩
  have D5 := E4.out.grow hb5
  obtain ⟨c50, c51, f50, f51, cb5⟩ := D5.cells
  have E5 := am D5
  clear E4 hrd hb5 D5 c40 c41 f40 f41 cb4
  cases ck with
  | false =>
   rw [if_pos rfl] at HP
   obtain ⟨z0, z1, zb⟩ := E5.out.zeros
   have ZB := am zb
   clear zb
   go_wp2
   refine bodyPost_ret (v := .tuple #[.agg #[.slice none 0 0, .int .i64 0], .slice none 0 0, .int .i64 1]) (by simp [results, Try.results23, go_sem, z0, z1]) rfl ?_
   rw [HP.out]
   exact DecPost.bad rfl ZB.out
  | true =>
   have CK := am (hck.out rfl)
   clear hck
   rw [if_neg (by simp)] at HP
   by_cases hn : 300 < n
   ·rw [if_pos hn] at HP
    obtain ⟨z0, z1, zb⟩ := E5.out.zeros
    have ZB := am zb
    clear zb
    go_wp2
    refine bodyPost_ret (v := .tuple #[.agg #[.slice none 0 0, .int .i64 0], .slice none 0 0, .int .i64 1]) (by simp [results, Try.results23, go_sem, z0, z1]) rfl ?_
    rw [HP.out]
    exact DecPost.bad rfl ZB.out
   ·rw [if_neg hn] at HP
    obtain ⟨R0, hR0⟩ : ∃ R0, R0 = rowsL cards meas n.toNat l4 [] := ⟨_, rfl⟩
    rw [← hR0] at HP
    have HR0 := am hR0
    clear hR0
    have LT5 := am E5.out.lt
    have hnle : n ≤ 300 := by omega
    clear cb5
    go_wp2
    go_loopg [3, 7, 47] n.toNat (fun gg v3 _ v47 wr => ∃ (j : Nat) (li : List Int) (acc : List S33), j ≤ n.toNat ∧ n.toNat - j ≤ gg ∧ v47 = .int .i64 (j : Int) ∧ Aside0 (rowsL cards meas (n.toNat - j) li acc = R0) ∧ Aside0 (acc.length = j) ∧ Aside0 (li.length ≤ 1000000000000) ∧
     Aside0 (DInv w (.slice Ac cards.length cc) meas cards li false wr) ∧ Aside0 (Kd.S k33 33 wr w.heap.size (okS w (.slice Ac cards.length cc)) v3 acc) ∧ Aside0 (W5.heap.size ≤ wr.heap.size))
    case atStart => exact ⟨0, l4, [], Nat.zero_le _, by omega, rfl, ⟨by rw [Nat.sub_zero]; exact HR0.out.symm⟩, ⟨rfl⟩, N4, E5, ⟨Kd.S_nil _ _ _ _ _⟩, ⟨Nat.le_refl _⟩⟩
    case round =>
     obtain ⟨j, li, acc, hj, hg, rfl, Q, LA, LL, D, SR, SZ⟩ := hrel
     obtain ⟨c60, c61, f60, f61, cb6⟩ := D.out.cells
     by_cases hlt : j < n.toNat
     ·have hltz : (j : Int) < n := by omega
      obtain ⟨r, hr⟩ : ∃ r, n.toNat - j = r + 1 := ⟨n.toNat - j - 1, by omega⟩
      rw [hr] at Q
      unfold rowsL at Q
      go_wp2_with fail
      refine (list_D D.out (cards.length : Int) 1 (by omega) (by omega) LL.out (by have := D.out.2.2.2.2; have := (Kd.R_reads' this).2.2.2.1; omega)).mono ?_
      rw [Int.toNat_natCast]
      have hln7 := Nat.le_trans (listL_le 1 cards.length li false []) LL.out
      have hky := Nat.le_trans (listL_len 1 cards.length li false []) (by have := CK.out; simpa using this)
      generalize listL 1 cards.length li false [] = c7 at Q hln7 hky ⊢
      obtain ⟨key, l7, b7⟩ := c7
      have N7 := am hln7
      have KY := am hky
      simp only [] at N7 KY Q ⊢
      clear hln7 hky
      rintro e W7 ⟨v7, rfl, hv7, D7, hk7⟩
      obtain ⟨A7, c7, e7⟩ := Kd.R_slice hv7
      subst e7
      have S7 := am (Kd.S_keep (Kd.S_bound SR.out) hk7 (fun k hk => by have := hk.1.1; omega))
      have V7 := am (Kd.R_bound hv7)
      have K7 := am hk7.1
      have WR := am D.out.2.2.2.1
      have E7 := am D7
      have LTv := am (Kd.S_lt SR.out)
      have OKv := am (Kd.R_typed (Kd.S_R SR.out))
      have OKu := am (Kd.S_R SR.out).1
      clear D7 hv7 hk7 SR D c60 c61 f60 f61 cb6 LL
      have hdx := E7.out.grow (below_alloc (Below.refl _ W7) (.cells #[.slice A7 key.length c7, .slice none 0 0] 33))
      obtain ⟨c70, c71, f70, f71, cb7⟩ := hdx.cells
      have EX := am hdx
      clear hdx
      go_wp2_with fail
      refine (list_D EX.out meas 8 (by omega) (by omega) N7.out MM.out).mono ?_
      have hln8 := Nat.le_trans (listL_le 8 meas.toNat l7 b7 []) N7.out
      generalize listL 8 meas.toNat l7 b7 [] = c8 at Q hln8 ⊢
      obtain ⟨mm, l8, b8⟩ := c8
      have N8 := am hln8
      simp only [] at N8 Q ⊢
      clear hln8 EX c70 c71 f70 f71 cb7
      rintro e W8 ⟨v8, rfl, hv8, D8, hk8⟩
      obtain ⟨A8, c8, e8⟩ := Kd.R_slice hv8
      subst e8
      have hsz7 : W7.heap.size + 1 ≤ W8.heap.size := by have := hk8.1; simpa using this
      have hbx : W8.heap[W7.heap.size]? = some (.cells #[.slice A7 key.length c7, .slice none 0 0] 33 (0, 0)) := by
       refine (hk8.2 _ (by simp) (by have := E7.out.2.2.2.1; omega) (by simp)).trans ?_
       show (W7.heap.push _)[W7.heap.size]? = _
       simp
      have S8 := am (Kd.S_keep (Kd.S_alloc S7.out (.cells #[.slice A7 key.length c7, .slice none 0 0] 33)) hk8 (fun k hk => by have := hk.1.1; omega))
      have V78 := am (Kd.R_keep (Kd.R_alloc V7.out (.cells #[.slice A7 key.length c7, .slice none 0 0] 33)) hk8 (fun k hk => by have := hk.1; have := SZ.out; have := E7.out.2.2.2.1; have := WR.out; omega))
      have V8 := am (Kd.R_mono (ok' := fun k => W7.heap.size + 1 ≤ k) hv8 (fun k hk => by simpa using hk))
      have hlv : ∀ k, (Value.slice Ac cards.length cc).ownBlock = some k → k < W7.heap.size := fun k hk => by have := LT5.out k hk; have := SZ.out; have := K7.out; omega
      have X9 := am (blk_set hbx 1 (.slice A8 mm.length c8))
      have E9 := am (D8.far (j := 1) (.slice A8 mm.length c8) (by have := E7.out.2.2.2.1; omega) (fun e => by have := hlv _ e.symm; omega))
      have S9 := am (Kd.S_far (p := ⟨W7.heap.size, 1, none⟩) S8.out (fun k hk => by have := hk.2.1; have := K7.out; show k ≠ W7.heap.size; omega) (.slice A8 mm.length c8))
      have V79 := am (Kd.R_far (p := ⟨W7.heap.size, 1, none⟩) V78.out (fun k hk => by have := hk.2.2.1; show k ≠ W7.heap.size; omega) (.slice A8 mm.length c8))
      have V89 := am (Kd.R_far (p := ⟨W7.heap.size, 1, none⟩) V8.out (fun k hk => by show k ≠ W7.heap.size; omega) (.slice A8 mm.length c8))
      have x80 := blk_cell hbx 0
      have x81 := blk_cell hbx 1
      have y80 := blk_frozen hbx 0
      have y81 := blk_frozen hbx 1
      have K8 := am hsz7
      have HLV := am hlv
      clear hsz7 hbx S8 S7 V78 V7 V8 hv8 hk8 D8 hlv
      obtain ⟨c90, c91, f90, f91, cb9⟩ := E9.out.cells
      have x90 := blk_cell X9.out 0
      have x91 := blk_cell X9.out 1
      cases b8 with
      | true =>
       have hq : R0 = none := by rw [← Q.out]; simp
       rw [hq] at HP
       simp only [] at HP
       clear hq Q HR0
       obtain ⟨z0, z1, zb⟩ := E9.out.zeros
       have ZB := am zb
       clear zb
       go_wp2
       refine bodyPost_ret (v := .tuple #[.agg #[.slice none 0 0, .int .i64 0], .slice none 0 0, .int .i64 1]) (by simp [results, Try.results23, go_sem, z0, z1]) rfl ?_
       rw [HP.out]
       exact DecPost.bad rfl ZB.out
      | false =>
       rw [if_neg (by simp)] at Q
       go_wp2_with fail
       have r1 := Kd.R_reads' E9.out.2.2.2.2
       have r2 := Kd.R_reads' V79.out
       have r3 := Kd.R_reads' V89.out
       have hkl : key.length ≤ 4611686018427387904 := by have := KY.out; omega
       refine (rec_Right.calls (key.length + 2) Ac cc cards meas A7 c7 key A8 c8 mm _ _ r1.2.2 r1.2.1 r2.2.2 r2.2.1 r3.2.2 r3.2.1 (right_eq cards meas ⟨key, mm⟩ hkl _ (Nat.le_refl _))).mono ?_
       generalize rightP cards meas ⟨key, mm⟩ = ok at Q ⊢
       rintro e W10 ⟨rfl, hb10⟩
       have X10 := am (blk_below X9.out hb10)
       have E10 := am (E9.out.grow hb10)
       have S10 := am (Kd.S_below S9.out hb10)
       have V710 := am (Kd.R_below V79.out hb10)
       have V810 := am (Kd.R_below V89.out hb10)
       have K10 : Aside0 (W7.heap.size + 1 ≤ W10.heap.size) := ⟨Nat.le_trans K8.out (by have := hb10.size; simpa [World.setCell] using this)⟩
       clear r1 r2 r3 hkl hb10 X9 E9 S9 V79 V89 c90 c91 f90 f91 cb9 x90 x91 x80 x81 y80 y81 K8
       obtain ⟨c100, c101, f100, f101, cb10⟩ := E10.out.cells
       have x100 := blk_cell X10.out 0
       have x101 := blk_cell X10.out 1
       cases ok with
       | false =>
        have hq : R0 = none := by rw [← Q.out]; simp
        rw [hq] at HP
        simp only [] at HP
        clear hq Q HR0
        obtain ⟨z0, z1, zb⟩ := E10.out.zeros
        have ZB := am zb
        clear zb
        go_wp2
        refine bodyPost_ret (v := .tuple #[.agg #[.slice none 0 0, .int .i64 0], .slice none 0 0, .int .i64 1]) (by simp [results, Try.results23, go_sem, z0, z1]) rfl ?_
        rw [HP.out]
        exact DecPost.bad rfl ZB.out
       | true =>
        rw [if_pos rfl] at Q
        have hal : (acc.length + 1) * 48 ≤ 140737488355328 := by have := LA.out; omega
        have hw10 : w.heap.size ≤ W10.heap.size := by have := E10.out.2.2.2.1; omega
        have hok : ∀ k, wr.heap.size ≤ k → okS w (.slice Ac cards.length cc) k := fun k hk => ⟨by have := WR.out; omega, fun e => by have := LT5.out k e.symm; have := SZ.out; omega⟩
        have HM : Aside0 (k33.M W10 w.heap.size (fun k => wr.heap.size ≤ k) ⟨key, mm⟩ [.slice A7 key.length c7, .slice A8 mm.length c8]) := ⟨k33_mkM W10 _ _ ⟨key, mm⟩ (Kd.R_mono V710.out (fun k hk => hk.1)) (Kd.R_mono V810.out (fun k hk => by have := K7.out; omega))⟩
        have HO := am (Kd.S_mono (ok' := fun k => okS w (.slice Ac cards.length cc) k ∧ ¬ wr.heap.size ≤ k) S10.out (fun k hk => ⟨hk.1, by have := hk.2.2.1; omega⟩))
        have HK := am hok
        have HA := am hal
        have HW := am hw10
        clear hal hw10 hok S10 V710 V810
        go_wp2_with (((with_reducible refine gate_builtin (b := .append) (xs := #[.tmp 71, .tmp 73]) rfl ?_); at_builtin; refine Kd.S_append k33 (w0 := w) w.heap.size rfl (.tmp 71) (.tmp 73) 25 33 (.agg #[.slice none 0 0, .slice none 0 0]) 48 rfl Try.underlying25 info33 rfl (by decide) (by decide) u3 acc ⟨key, mm⟩ [.slice A7 key.length c7, .slice A8 mm.length c8] (okS w (.slice Ac cards.length cc)) (fun k => wr.heap.size ≤ k) rfl rfl HM.out (fun k hk => ⟨HK.out k hk, fun e => by have := LTv.out k e.symm; omega⟩) (fun k hk => HK.out k (by have := K10.out; have := K7.out; omega)) HO.out E10.out.2.2.1 HW.out HA.out ?_; intro v11 W11 ho hb hg hat; have O11 := am ho; have B11 := am hb; have G11 := am hg; clear ho hb hg hat))
        go_roundg (n.toNat - (j + 1))
        case measure => omega
        case rel =>
         exact ⟨j + 1, l8, acc ++ [⟨key, mm⟩], by omega, by omega, by go_num, ⟨by rw [show n.toNat - (j + 1) = r by omega]; exact Q.out⟩, ⟨by simp [LA.out]⟩, N8, ⟨E10.out.grown B11.out G11.out (fun k hk => OKu.out k hk)⟩, O11, ⟨by have := SZ.out; have := K7.out; have := K10.out; have := G11.out.size; omega⟩⟩
     ·have hltz : ¬ (j : Int) < n := by omega
      obtain rfl : j = n.toNat := by omega
      rw [Nat.sub_self] at Q
      have hq : R0 = some (acc, li) := Q.out.symm
      rw [hq] at HP
      simp only [] at HP
      clear hq Q HR0
      obtain ⟨Ar, cr, hrd, _, _⟩ := D.out.2.1
      have cr0 := blk_cell hrd 0
      simp only [List.getElem?_toArray, List.getElem?_cons_zero] at cr0
      clear hrd
      by_cases hli : 0 < li.length
      ·rw [if_pos hli] at HP
       have hli1 : decide (0 < li.length) = true := decide_eq_true hli
       obtain ⟨z0, z1, zb⟩ := D.out.zeros
       have ZB := am zb
       clear zb
       go_wp2
       refine bodyPost_ret (v := .tuple #[.agg #[.slice none 0 0, .int .i64 0], .slice none 0 0, .int .i64 1]) (by simp [results, Try.results23, go_sem, z0, z1]) rfl ?_
       rw [HP.out]
       exact DecPost.bad rfl ZB.out
      ·rw [if_neg hli] at HP
       have hli1 : decide (0 < li.length) = false := decide_eq_false hli
       have hcl : ∀ W, Below wr.heap.size wr W → Calls Try.prog 35 #[u3] W fun e w' => ∃ v1 : Value, e = .returned v1 ∧ Aside0 (Kd.S k33 33 w' w.heap.size (okS w (.slice Ac cards.length cc)) v1 acc) ∧ Aside0 (Below wr.heap.size wr w') := by
        intro W hW
        obtain ⟨f, hf⟩ := Kd.S_below SR.out hW
        have h5 := LT5.out
        have hs5 := SZ.out
        have hd4 := D.out.2.2.2.1
        refine (CloneRows_calls (Kd.tag f k33) rfl u3 acc.zipIdx w.heap.size _ w W (below_step D.out.2.2.1 hW) (by have := hW.size; omega) hf (fun k hk => ⟨by have := hW.size; omega, fun e => by have := h5 k e.symm; have := hW.size; omega⟩) (by rw [List.length_zipIdx, LA.out]; omega)).mono ?_
        rintro e w' ⟨v1, rfl, h1, h2, h3⟩
        exact ⟨v1, rfl, ⟨⟨f, h1⟩⟩, ⟨below_step hW h3⟩⟩
       have hv3 : ∃ A3 c3, u3 = .slice A3 acc.length c3 := by
        obtain ⟨f, hf⟩ := SR.out
        obtain ⟨A3, c3, e3⟩ := Kd.R_slice hf
        exact ⟨A3, c3, by rw [e3, List.length_zipIdx]⟩
       obtain ⟨A3, c3, e3⟩ := hv3
       subst e3
       go_wp2
       go_region_with (go_at_call 35; refine (hcl _ (by repeat (first | exact Below.refl _ _ | apply below_drew1 | apply pw_below_drewN))).mono ?_; clear hcl; rintro e w8 ⟨v1, rfl, S1, B1⟩; obtain ⟨c80, c81, f80, f81, cb8⟩ := (D.out.grow B1.out).cells)
       all_goals
        go_wp2
        have D8 := D.out.grow B1.out
        obtain ⟨z0, z1, D9⟩ := D8.back
        refine bodyPost_ret (v := .tuple #[.agg #[.slice Ac cards.length cc, .int .i64 meas], v1, .int .i64 0]) (by simp [results, Try.results23, go_sem, z0, z1]) rfl ?_
        rw [HP.out]
        have S9 := Kd.S_far (p := ⟨w.heap.size, 1, none⟩) (Kd.S_far (p := ⟨w.heap.size, 0, none⟩) S1.out (fun k hk => by have := hk.1; show k ≠ w.heap.size; omega) (.slice Ac cards.length cc)) (fun k hk => by have := hk.1; show k ≠ w.heap.size; omega) (.int .i64 meas)
        exact ⟨_, _, rfl, Kd.R_mono D9.2.2.2.2 (fun _ _ => trivial), Kd.S_mono S9 (fun k hk => hk.2), D9.2.2.1⟩
theorem rec_Decode.calls (A0 : Option Addr) (c0 : Nat) (l0 : List Int) (r1 : List Int) (r2 : Int) (r3 : List (S33)) (r4 : Int) (w : World) (hr0 : Kd.C (Kd.int .u8) w A0 l0.length l0) (hc0 : l0.length ≤ c0) (h : rec_Decode.f l0 = some (r1, r2, r3, r4)) :
  Calls Try.prog 23 #[.slice A0 l0.length c0] w fun e w' => ∃ v0_ v2_ : Value, e = .returned (.tuple #[.agg #[v0_, .int .i64 r2], v2_, .int .i64 r4]) ∧ Kd.R (Kd.int .i64) 3 w' w.heap.size (fun _ => True) v0_ r1 ∧ Kd.S k33 33 w' w.heap.size (fun k_ => some k_ ≠ (v0_ : Value).ownBlock) v2_ r3 ∧ Below w.heap.size w w' := by
 unfold rec_Decode.f at h
 split at h
 case isFalse => cases h
 case isTrue hlim =>
 have hp : decodeP l0 = (r1, r2, r3, r4) := Option.some.inj h
 have main : Calls Try.prog 23 #[.slice A0 l0.length c0] w (DecPost w (decodeP l0)) := by
  unfold decodeP
  by_cases h4 : l0.length < 4
  ·rw [if_pos h4]; exact decode_short A0 c0 l0 w hr0 hc0 h4
  ·rw [if_neg h4]
   cases hm : markP l0 with
   | false => rw [if_pos rfl]; exact decode_unmarked A0 c0 l0 w hr0 hc0 (by omega) hm
   | true => rw [if_neg (by simp)]; exact decode_main A0 c0 l0 w hr0 hc0 (by omega) hm hlim _ rfl
 rw [hp] at main
 exact main
theorem ref_check_l0 (c : List Int) (m : Int) (hl : c.length ≤ 4) (d : Nat) : ∀ (i k : Nat), c.length - i = d → i ≤ c.length → d < k → hypercuberef1_Check.l0 k (i : Int) c m = some ((c.drop i).all fun x => decide (1 ≤ x) && decide (x ≤ 16)) := by
 induction d with
 | zero =>
  intro i k hd hi hk
  obtain ⟨k, rfl⟩ : ∃ j, k = j + 1 := ⟨k - 1, by omega⟩
  rw [List.drop_eq_nil_of_le (by omega)]
  simp only [hypercuberef1_Check.l0]
  rw [if_neg (by omega)]; rfl
 | succ d ih =>
  intro i k hd hi hk
  obtain ⟨k, rfl⟩ : ∃ j, k = j + 1 := ⟨k - 1, by omega⟩
  have ha : i < c.length := by omega
  have hg := rd_get ha
  rw [drop_cons ha, List.all_cons]
  simp only [hypercuberef1_Check.l0]
  rw [if_pos (by omega), if_pos (by omega), hg]
  by_cases h0 : c[i] < 1
  ·rw [if_pos h0, show decide (1 ≤ c[i]) = false from decide_eq_false (by omega)]; rfl
  ·rw [if_neg h0, show decide (1 ≤ c[i]) = true from decide_eq_true (by omega)]
   by_cases h1 : c[i] > 16
   ·rw [if_pos h1, show decide (c[i] ≤ 16) = false from decide_eq_false (by omega)]; rfl
   ·rw [if_neg h1, show decide (c[i] ≤ 16) = true from decide_eq_true (by omega), w64s ha (by omega), ih (i + 1) k (by omega) (by omega) (by omega)]
    rfl
theorem ref_check (c : List Int) (m : Int) (k : Nat) (hk : 10 ≤ k) : hypercuberef1_Check.f k c m = some (checkP c m) := by
 obtain ⟨k, rfl⟩ : ∃ j, k = j + 1 := ⟨k - 1, by omega⟩
 unfold hypercuberef1_Check.f checkP
 by_cases h1 : 1 ≤ c.length
 ·rw [if_neg (by omega)]
  by_cases h2 : c.length ≤ 4
  ·rw [if_neg (by omega)]
   by_cases h3 : 0 ≤ m
   ·rw [if_neg (by omega)]
    simp only [hypercuberef1_Check.j0]
    by_cases h4 : m ≤ 2
    ·rw [if_neg (by simp; omega)]
     have := ref_check_l0 c m h2 c.length 0 k (by omega) (by omega) (by omega)
     rw [List.drop_zero] at this
     rw [show (0 : Int) = ((0 : Nat) : Int) from rfl, this]
     simp [h1, h2, h3, h4]
    ·rw [if_pos (by simp; omega)]
     simp [h4]
   ·rw [if_pos (by omega)]
    simp only [hypercuberef1_Check.j0]
    simp [h3]
  ·rw [if_pos (by omega)]
   simp only [hypercuberef1_Check.j0]
   simp [h2]
 ·rw [if_pos (by omega)]
  simp only [hypercuberef1_Check.j0]
  simp [h1]
theorem ref_right_l0 (c : List Int) (m : Int) (x y : List Int) : ∀ (k : Nat) (i : Int), hypercuberef1_Right.l0 k i c m x y = rec_Right.l0 k x (x.length : Int) i c m
 | 0, _ => rfl
 | k + 1, i => by
  simp only [hypercuberef1_Right.l0, rec_Right.l0]
  rw [ref_right_l0 c m x y k]
  by_cases h : i < (x.length : Int)
  ·simp only [if_pos h]
  ·simp only [if_neg h]
theorem ref_right (c : List Int) (m : Int) (x y : List Int) (k : Nat) : hypercuberef1_Right.f k c m x y = rec_Right.f k c m x y := by
 unfold hypercuberef1_Right.f rec_Right.f
 have h : ∀ b, hypercuberef1_Right.j0 k b c m x y = rec_Right.j0 k b c m x y := by
  intro b
  cases k with
  | zero => rfl
  | succ k => simp only [hypercuberef1_Right.j0, rec_Right.j0]; rw [ref_right_l0]
 rw [h, h]
theorem ref_back_l0 (l : List Int) (h : l.length = 8) (d : Nat) : ∀ (i k : Nat) (x : Int), 8 - i = d → i ≤ 8 → d < k → hypercuberef1_Back.l0 k l x (i : Int) = some ((l.drop i).foldl (fun x c => Go.bits .or .i64 (wrap64 (x * 256)) (wrap64 c)) x) := by
 induction d with
 | zero =>
  intro i k x hd hi hk
  obtain ⟨k, rfl⟩ : ∃ m, k = m + 1 := ⟨k - 1, by omega⟩
  obtain rfl : i = 8 := by omega
  simp only [hypercuberef1_Back.l0]
  rw [if_neg (by omega), List.drop_eq_nil_of_le (by omega)]
  rfl
 | succ d ih =>
  intro i k x hd hi hk
  obtain ⟨k, rfl⟩ : ∃ m, k = m + 1 := ⟨k - 1, by omega⟩
  simp only [hypercuberef1_Back.l0]
  have hw : wrap64 ((i : Int) + 1) = ((i + 1 : Nat) : Int) := by unfold wrap64; omega
  rw [if_pos (by omega), if_pos (by omega), if_pos (by omega), hw, ih (i + 1) k _ (by omega) (by omega) (by omega)]
  rw [List.drop_eq_getElem_cons (show i < l.length by omega), List.foldl_cons]
  congr 2
  unfold rd
  rw [Int.toNat_natCast, List.getD_eq_getElem?_getD, List.getElem?_eq_getElem (by omega)]
  rfl
theorem ref_back (l : List Int) (h : l.length = 8) (k : Nat) (hk : 9 ≤ k) : hypercuberef1_Back.f k l = some (numOf l) := by
 unfold hypercuberef1_Back.f
 have := ref_back_l0 l h 8 0 k 0 (by omega) (by omega) (by omega)
 rw [List.drop_zero] at this
 exact this
def hdD (b : List Int) : Int := rd b 4
def hdTo (b : List Int) (n : Nat) : List Int := (List.range n).map fun i => rd b ((5 + i : Nat) : Int)
theorem hdTo_length (b : List Int) (n : Nat) : (hdTo b n).length = n := by simp [hdTo]
theorem hdTo_succ (b : List Int) (n : Nat) : hdTo b (n + 1) = hdTo b n ++ [rd b ((5 + n : Nat) : Int)] := by unfold hdTo; rw [List.range_succ, List.map_append]; rfl
def hdMeas (b : List Int) : Int := rd b (5 + hdD b)
def hdN (b : List Int) : Int := rd b (6 + hdD b) * 256 + rd b (7 + hdD b)
def hdRest (b : List Int) : List Int := b.drop (8 + hdD b).toNat
def hdFits (b : List Int) : Prop := (5 ≤ b.length ∧ markP b = true) ∧ hdD b ≤ 4 ∧ 8 + hdD b ≤ b.length
instance (b : List Int) : Decidable (hdFits b) := by unfold hdFits; infer_instance
def BytesOk (b : List Int) : Prop := ∀ x ∈ b, 0 ≤ x ∧ x ≤ 255
theorem BytesOk.at_ {b : List Int} (h : BytesOk b) (i : Int) : 0 ≤ rd b i ∧ rd b i ≤ 255 := by
 unfold rd
 rw [List.getD_eq_getElem?_getD]
 rcases Nat.lt_or_ge i.toNat b.length with hlt | hge
 ·rw [List.getElem?_eq_getElem hlt]; exact h _ (List.getElem_mem hlt)
 ·rw [List.getElem?_eq_none hge]; exact ⟨by decide, by decide⟩
def refRow (d m : Nat) (x : List Int) : S33 := ⟨(List.range d).map (fun k : Nat => rd x (k : Int)), (List.range m).map fun k => numOf ((x.drop (d + 8 * k)).take 8)⟩
def refW (b : List Int) : Nat := (hdD b).toNat + 8 * (hdMeas b).toNat
def refAt (b : List Int) (i : Nat) : S33 := refRow (hdD b).toNat (hdMeas b).toNat ((hdRest b).drop (i * refW b))
def refOk (b : List Int) : Prop := hdFits b ∧ checkP (hdTo b (hdD b).toNat) (hdMeas b) = true ∧ hdN b ≤ 300 ∧ (hdRest b).length = (hdN b).toNat * refW b ∧ ∀ i, i < (hdN b).toNat → rightP (hdTo b (hdD b).toNat) (hdMeas b) (refAt b i) = true
instance (b : List Int) : Decidable (refOk b) := by unfold refOk; infer_instance
def refRows (b : List Int) (n : Nat) : List S33 := (List.range n).map (refAt b)
def refDecP (b : List Int) : List Int × Int × List S33 × Int := if refOk b then (hdTo b (hdD b).toNat, hdMeas b, refRows b (hdN b).toNat, 0) else badP
end Go.Proofs.Ytlacfpbfnedgdaa.Q
