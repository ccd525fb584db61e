-- packed by wip/tools/pack.py (a program of this session) out of its own texts
import Derived.Test.YtmkjkkmilopcpaaPCellBack0
import Derived.ArgAppend
import Derived.Below
import Derived.BigQuiet
import Derived.Deep.AppendLies
import Derived.Deep.CutBlock
import Derived.Deep.DeepCutAuto
import Derived.Deep.Draws
import Derived.Deep.LoopGhost
import Derived.Deep.OwnRows
import Derived.Deep.QuietTactic
import Derived.Deep.RegionHeld3
import Derived.KernelRfl
import Derived.Laws.BitsLemmas
import Derived.Laws.BytesArg
import Derived.Laws.EntriesVeiled
import Derived.Laws.Externs
import Derived.Laws.IdiomCopy
import Derived.Laws.MakeOwn
import Derived.Laws.OwnMore
import Derived.Laws.Rows
import Derived.Laws.Slices
import Derived.Lib.AppendStr
import Derived.Lib.AppendZeros
import Derived.Lib.AppendZerosOnto
import Derived.Lib.ConvBytes
import Derived.Lib.JoinLaws
import Derived.Lib.Overlaps
import Derived.Lib.SliceRun
import Derived.Lib.Walk
import Derived.LoopIn
import Derived.LoopNIn
import Derived.Maps.AppendAt
import Derived.OrdersHeld
import Derived.OrdersIn
import Derived.OwnWalk
import Derived.OwnWalkIn
import Derived.RangeFuncBound
import Derived.RangeFuncBox
import Derived.RangeFuncCalls
import Derived.RangeFuncLeaves
import Derived.RangeFuncNested
import Derived.RangeFuncOwn
import Derived.RowKit
import Derived.RowKit3
import Derived.Shelf.Abstract
import Derived.Shelf.RegionOpen
import Derived.Shelf.RegionOpenPlain
import Derived.Tactics
import Derived.TacticsInMore
import Derived.Test.YtmkjkkmilopcpaaProg
import Derived.WalkKit
import Derived.WalkSpells
import Derived.WideLaws
import Derived.Test.YtmkjkkmilopcpaaPCellBack1
import Derived.Test.YtmkjkkmilopcpaaPCellBack3
import Derived.Test.YtmkjkkmilopcpaaPCellBack4
import Derived.Test.YtmkjkkmilopcpaaPCellBack5
import Derived.Test.YtmkjkkmilopcpaaPCellBack6
import Derived.Test.YtmkjkkmilopcpaaPCellBack7
import Derived.Test.YtmkjkkmilopcpaaPCellBack8
import Derived.Test.YtmkjkkmilopcpaaPCellBack9
import Derived.Test.YtmkjkkmilopcpaaPCellBack10
import Derived.Test.YtmkjkkmilopcpaaPCellBack11
import Derived.Test.YtmkjkkmilopcpaaPCellBack12
import Derived.Test.YtmkjkkmilopcpaaPCellBack14
import Derived.Test.YtmkjkkmilopcpaaPCellBack15
namespace Go.Proofs.Ytmkjkkmilopcpaa.Q
open Go.RowKit Go.Proofs.YtmkjkkmilopcpaaW.PrintWords Go.Proofs.YtmkjkkmilopcpaaW.PrintLast Go.Proofs.YtmkjkkmilopcpaaW.PrintMore
set_option linter.unusedVariables false
set_option linter.unusedSimpArgs false
def eight (x : Int) : List Int := [x / 72057594037927936 % 256, x / 281474976710656 % 256, x / 1099511627776 % 256, x / 4294967296 % 256, x / 16777216 % 256, x / 65536 % 256, x / 256 % 256, x % 256]
theorem eight_length (x : Int) : (eight x).length = 8 := rfl
def twoB (x : Int) : List Int := [x / 256 % 256, x % 256]
def enc3 (c : S30) (j : Nat) : List Int := eight (rd c.f2 (j : Int)) ++ (eight (rd c.f3 (j : Int)) ++ eight (rd c.f4 (j : Int)))
def encMs (c : S30) : Nat → Nat → List Int
 | 0, _ => []
 | d + 1, j => enc3 c j ++ encMs c d (j + 1)
theorem enc3_length (c : S30) (j : Nat) : (enc3 c j).length = 24 := rfl
theorem encMs_length (c : S30) : ∀ d j, (encMs c d j).length = 24 * d
 | 0, _ => rfl
 | d + 1, j => by simp only [encMs, List.length_append, enc3_length, encMs_length c d]; omega
def encC (c : S30) : List Int := c.f0.map (· % 256) ++ (twoB c.f1 ++ encMs c c.f2.length 0)
theorem encC_length (c : S30) : (encC c).length = c.f0.length + 2 + 24 * c.f2.length := by
 simp only [encC, List.length_append, List.length_map, encMs_length]
 show c.f0.length + (2 + _) = _
 omega
def encP (s : Int) (cells : List S30) : List Int := [s % 256] ++ (twoB (cells.length : Int) ++ cells.flatMap encC)
theorem shr64 (x : Int) (n : Nat) (h : n ≤ 64) : shr .i64 x (n : Int) = x / 2 ^ n := by
 unfold shr
 rw [Int.toNat_natCast, Nat.min_eq_left (by exact h)]
theorem eight_shr (x : Int) (b : List Int) : b ++ eight x = ((((((((b ++ [shr .i64 x 56 % 256]) ++ [shr .i64 x 48 % 256]) ++ [shr .i64 x 40 % 256]) ++ [shr .i64 x 32 % 256]) ++ [shr .i64 x 24 % 256]) ++ [shr .i64 x 16 % 256]) ++ [shr .i64 x 8 % 256]) ++ [shr .i64 x 0 % 256]) := by
 have s56 := shr64 x 56 (by decide +kernel); have s48 := shr64 x 48 (by decide +kernel); have s40 := shr64 x 40 (by decide +kernel); have s32 := shr64 x 32 (by decide +kernel)
 have s24 := shr64 x 24 (by decide +kernel); have s16 := shr64 x 16 (by decide +kernel); have s8 := shr64 x 8 (by decide +kernel); have s0 := shr64 x 0 (by decide +kernel)
 rw [show shr .i64 x 56 = _ from s56, show shr .i64 x 48 = _ from s48, show shr .i64 x 40 = _ from s40, show shr .i64 x 32 = _ from s32, show shr .i64 x 24 = _ from s24, show shr .i64 x 16 = _ from s16, show shr .i64 x 8 = _ from s8, show shr .i64 x 0 = _ from s0]
 simp [eight]
theorem put_st (w x : Int) (l : List Int) (n j : Int) (c : List Int) (q q' : Int) (h0 : 0 ≤ q) (hq : wrap64 (q - 8) = q') (hc : c.length ≤ 10000001000) {r : List Int} (hr : Ev (fun k => cell_put.l1 k (c ++ [shr .i64 x q % 256]) w x q' l n j) r) : Ev (fun k => cell_put.l1 k c w x q l n j) r :=
 Ev.step (fun k => by simp only [cell_put.l1]; rw [if_pos (by omega), if_pos h0, if_pos (by omega), hq]) hr
theorem put_end (w x : Int) (l : List Int) (n j : Int) (c : List Int) {r : List Int} (hr : Ev (fun k => cell_put.l0 k c w l n (wrap64 (j + 1))) r) : Ev (fun k => cell_put.l1 k c w x (-8) l n j) r :=
 Ev.step (fun k => by simp only [cell_put.l1]; rw [if_neg (by omega)]) hr
theorem put8 (x : Int) (l : List Int) (n j : Int) (b : List Int) (hb : b.length ≤ 10000000000) {r : List Int} (h : Ev (fun k => cell_put.l0 k (b ++ eight x) 8 l n (wrap64 (j + 1))) r) : Ev (fun k => cell_put.l1 k b 8 x 56 l n j) r := by
 rw [eight_shr] at h
 refine put_st _ _ _ _ _ _ 56 48 (by decide +kernel) (by decide +kernel) (by omega) (put_st _ _ _ _ _ _ 48 40 (by decide +kernel) (by decide +kernel) (by simp; omega) (put_st _ _ _ _ _ _ 40 32 (by decide +kernel) (by decide +kernel) (by simp; omega) (put_st _ _ _ _ _ _ 32 24 (by decide +kernel) (by decide +kernel) (by simp; omega)
  (put_st _ _ _ _ _ _ 24 16 (by decide +kernel) (by decide +kernel) (by simp; omega) (put_st _ _ _ _ _ _ 16 8 (by decide +kernel) (by decide +kernel) (by simp; omega) (put_st _ _ _ _ _ _ 8 0 (by decide +kernel) (by decide +kernel) (by simp; omega) (put_st _ _ _ _ _ _ 0 (-8) (by decide +kernel) (by decide +kernel) (by simp; omega) (put_end _ _ _ _ _ _ h))))))))
theorem put2 (x : Int) (l : List Int) (n j : Int) (b : List Int) (hb : b.length ≤ 10000000000) {r : List Int} (h : Ev (fun k => cell_put.l0 k (b ++ twoB x) 2 l n (wrap64 (j + 1))) r) : Ev (fun k => cell_put.l1 k b 2 x 8 l n j) r := by
 have s8 := shr64 x 8 (by decide +kernel); have s0 := shr64 x 0 (by decide +kernel)
 have e : b ++ twoB x = (b ++ [shr .i64 x 8 % 256]) ++ [shr .i64 x 0 % 256] := by
  rw [show shr .i64 x 8 = _ from s8, show shr .i64 x 0 = _ from s0]
  simp [twoB]
 rw [e] at h
 exact put_st _ _ _ _ _ _ 8 0 (by decide +kernel) (by decide +kernel) (by omega) (put_st _ _ _ _ _ _ 0 (-8) (by decide +kernel) (by decide +kernel) (by simp; omega) (put_end _ _ _ _ _ _ h))
theorem put1 (x : Int) (l : List Int) (n j : Int) (b : List Int) (hb : b.length ≤ 10000000000) {r : List Int} (h : Ev (fun k => cell_put.l0 k (b ++ [x % 256]) 1 l n (wrap64 (j + 1))) r) : Ev (fun k => cell_put.l1 k b 1 x 0 l n j) r := by
 have s0 := shr64 x 0 (by decide +kernel)
 have e : b ++ [x % 256] = b ++ [shr .i64 x 0 % 256] := by rw [show shr .i64 x 0 = _ from s0]; simp
 rw [e] at h
 exact put_st _ _ _ _ _ _ 0 (-8) (by decide +kernel) (by decide +kernel) (by omega) (put_end _ _ _ _ _ _ h)
theorem put_gen (w s0 : Int) (enc : Int → List Int) (hs0 : wrap64 (8 * wrap64 (w - 1)) = s0) (hL : ∀ x, (enc x).length ≤ 8)
  (hst : ∀ (x : Int) (l : List Int) (n j : Int) (b : List Int), b.length ≤ 10000000000 → ∀ {r : List Int}, Ev (fun k => cell_put.l0 k (b ++ enc x) w l n (wrap64 (j + 1))) r → Ev (fun k => cell_put.l1 k b w x s0 l n j) r)
  (l : List Int) (hn : l.length ≤ 1000) (d : Nat) : ∀ (i : Nat) (b : List Int), l.length - i = d → i ≤ l.length → b.length + 8 * d ≤ 10000000000 → Ev (fun k => cell_put.l0 k b w l (l.length : Int) (i : Int)) (b ++ (l.drop i).flatMap enc) := by
 induction d with
 | zero =>
  intro i b hd hi hb
  rw [List.drop_eq_nil_of_le (by omega), List.flatMap_nil, List.append_nil]
  exact Ev.step (fun k => by simp only [cell_put.l0]; rw [if_neg (by omega)]) (Ev.now _)
 | succ d ih =>
  intro i b hd hi hb
  have ha : i < l.length := by omega
  rw [drop_cons ha, List.flatMap_cons]
  have := ih (i + 1) (b ++ enc l[i]) (by omega) (by omega) (by have := hL l[i]; simp; omega)
  rw [List.append_assoc] at this
  refine Ev.step (fun k => by simp only [cell_put.l0]; rw [if_pos (by omega), if_pos (by omega), if_pos (by omega), rd_get ha, hs0]) (hst l[i] l (l.length : Int) (i : Int) b (by omega) ?_)
  rw [w64s ha (by omega)]
  exact this
theorem flat_one (f : Int → Int) : ∀ l : List Int, l.flatMap (fun x => [f x]) = l.map f
 | [] => rfl
 | x :: t => by rw [List.flatMap_cons, List.map_cons, flat_one f t]; rfl
theorem put1_f (b l : List Int) (hn : l.length ≤ 1000) (hb : b.length ≤ 1000000000) : Ev (fun k => cell_put.f k b 1 l) (b ++ l.map (· % 256)) := by
 have := put_gen 1 0 (fun x => [x % 256]) (by decide +kernel) (fun _ => by simp) put1 l hn l.length 0 b (by omega) (by omega) (by omega)
 rw [List.drop_zero, flat_one] at this
 exact this
theorem put2_f (b l : List Int) (hn : l.length ≤ 1000) (hb : b.length ≤ 1000000000) : Ev (fun k => cell_put.f k b 2 l) (b ++ l.flatMap twoB) :=
 put_gen 2 8 twoB (by decide +kernel) (fun _ => by simp [twoB]) put2 l hn l.length 0 b (by omega) (by omega) (by omega)
theorem put8_f (b l : List Int) (hn : l.length ≤ 1000) (hb : b.length ≤ 1000000000) : Ev (fun k => cell_put.f k b 8 l) (b ++ l.flatMap eight) :=
 put_gen 8 56 eight (by decide +kernel) (fun _ => by simp [eight]) put8 l hn l.length 0 b (by omega) (by omega) (by omega)
def EncOk (cells : List S30) : Prop := cells.length ≤ 1000 ∧ ∀ c ∈ cells, c.f0.length ≤ 10 ∧ c.f2.length ≤ 10 ∧ c.f3.length = c.f2.length ∧ c.f4.length = c.f2.length
theorem encC_le {c : S30} (h : c.f0.length ≤ 10 ∧ c.f2.length ≤ 10) : (encC c).length ≤ 300 := by rw [encC_length]; omega
theorem enc_l1 (cells : List S30) (n i : Int) (c : S30) (h2 : c.f2.length ≤ 10) (h3 : c.f3.length = c.f2.length) (h4 : c.f4.length = c.f2.length) {r : List Int} (d : Nat) : ∀ (j : Nat) (b : List Int), c.f2.length - j = d → j ≤ c.f2.length → b.length + 24 * d ≤ 100000000 →
  Ev (fun k => cell_Encode.l0 k (b ++ encMs c d j) cells n (wrap64 (i + 1))) r → Ev (fun k => cell_Encode.l1 k b cells n i (c.f2.length : Int) (j : Int) c.f0 c.f1 c.f2 c.f3 c.f4) r := by
 induction d with
 | zero =>
  intro j b hd hj hb h
  simp only [encMs, List.append_nil] at h
  exact Ev.step (fun k => by simp only [cell_Encode.l1]; rw [if_neg (by omega)]) h
 | succ d ih =>
  intro j b hd hj hb h
  have ha : j < c.f2.length := by omega
  have hp := put8_f b [rd c.f2 (j : Int), rd c.f3 (j : Int), rd c.f4 (j : Int)] (by simp) (by omega)
  refine Ev.step (fun k => by simp only [cell_Encode.l1]; rw [if_pos (by omega), if_pos (by omega), if_pos (by omega), if_pos (by omega), if_pos (by omega)]) (Ev.bind hp ?_)
  rw [w64s ha (by omega)]
  have e : [rd c.f2 (j : Int), rd c.f3 (j : Int), rd c.f4 (j : Int)].flatMap eight = enc3 c j := by simp [enc3]
  rw [e]
  refine ih (j + 1) (b ++ enc3 c j) (by omega) (by omega) (by rw [List.length_append, enc3_length]; omega) ?_
  rw [List.append_assoc]
  exact h
theorem enc_l0 (cells : List S30) (hc : EncOk cells) (d : Nat) : ∀ (i : Nat) (b : List Int), cells.length - i = d → i ≤ cells.length → b.length + 300 * d ≤ 10000000 →
  Ev (fun k => cell_Encode.l0 k b cells (cells.length : Int) (i : Int)) (b ++ (cells.drop i).flatMap encC) := by
 induction d with
 | zero =>
  intro i b hd hi hb
  rw [List.drop_eq_nil_of_le (by omega), List.flatMap_nil, List.append_nil]
  refine Ev.step (fun k => by simp only [cell_Encode.l0]; rw [if_neg (by omega)]) ?_
  refine Ev.congr (fun k => ?_) (Ev.now b)
  have : slices_Clone_byte_byte.f b = some b := by unfold slices_Clone_byte_byte.f; rw [if_pos (by omega)]
  rw [this]; rfl
 | succ d ih =>
  intro i b hd hi hb
  have ha : i < cells.length := by omega
  have hm := hc.2 _ (List.getElem_mem ha)
  have hl := encC_le ⟨hm.1, hm.2.1⟩
  rw [drop_cons ha, List.flatMap_cons]
  have h := ih (i + 1) (b ++ encC cells[i]) (by omega) (by omega) (by rw [List.length_append]; omega)
  rw [List.append_assoc] at h
  refine Ev.step (fun k => by simp only [cell_Encode.l0]; rw [if_pos (by omega), if_pos (by omega), if_pos (by omega), rdC_get ha]) ?_
  refine Ev.bind (put1_f b cells[i].f0 (by omega) (by omega)) ?_
  refine Ev.bind (put2_f (b ++ cells[i].f0.map (· % 256)) [cells[i].f1] (by simp) (by rw [List.length_append, List.length_map]; omega)) ?_
  have hlen : (encC cells[i]).length = cells[i].f0.length + 2 + 24 * cells[i].f2.length := encC_length _
  refine enc_l1 cells _ _ cells[i] hm.2.1 hm.2.2.1 hm.2.2.2 cells[i].f2.length 0 _ rfl (Nat.zero_le _) ?_ ?_
  ·simp [twoB]; omega
  ·rw [w64s ha (by have := hc.1; omega)]
   have e : b ++ cells[i].f0.map (· % 256) ++ [cells[i].f1].flatMap twoB ++ encMs cells[i] cells[i].f2.length 0 = b ++ encC cells[i] := by simp [encC]
   rw [e]
   exact h
theorem cell_encode_ev (s : Int) (cells : List S30) (hc : EncOk cells) : Ev (fun k => cell_Encode.f k s cells) (encP s cells) := by
 refine Ev.congr (fun k => by unfold cell_Encode.f; rfl) ?_
 refine Ev.bind (put1_f [] [s] (by simp) (by simp)) ?_
 refine Ev.bind (put2_f _ [(cells.length : Int)] (by simp) (by simp)) ?_
 have := enc_l0 cells hc cells.length 0 ([] ++ [s].map (· % 256) ++ [(cells.length : Int)].flatMap twoB) rfl (Nat.zero_le _) (by have := hc.1; simp [twoB]; omega)
 rw [List.drop_zero] at this
 have e : [] ++ [s].map (· % 256) ++ [(cells.length : Int)].flatMap twoB ++ cells.flatMap encC = encP s cells := by simp [encP]
 rw [e] at this
 exact this
theorem eight_f (x : Int) : Ev (fun k => hypercuberef1_Eight.f k x) (eight x) := by
 have e := eight_shr x []
 rw [List.nil_append] at e
 rw [e]
 have st : ∀ (c : List Int) (q q' y : Int), q < 8 → IntKind.u64.wrap (wrap64 (56 - wrap64 (8 * q))) = y → 0 ≤ y → wrap64 (q + 1) = q' → c.length ≤ 1000 → ∀ {r}, Ev (fun k => hypercuberef1_Eight.l0 k x (c ++ [shr .i64 x y % 256]) q') r → Ev (fun k => hypercuberef1_Eight.l0 k x c q) r := by
  intro c q q' y h0 hy hy0 hq hc r hr
  exact Ev.step (fun k => by simp only [hypercuberef1_Eight.l0]; rw [if_pos h0, hy, if_pos hy0, if_pos (by omega), hq]) hr
 show Ev (fun k => hypercuberef1_Eight.l0 k x [] 0) _
 refine st _ 0 1 56 (by decide +kernel) (by decide +kernel) (by decide +kernel) (by decide +kernel) (by simp) (st _ 1 2 48 (by decide +kernel) (by decide +kernel) (by decide +kernel) (by decide +kernel) (by simp) (st _ 2 3 40 (by decide +kernel) (by decide +kernel) (by decide +kernel) (by decide +kernel) (by simp) (st _ 3 4 32 (by decide +kernel) (by decide +kernel) (by decide +kernel) (by decide +kernel) (by simp)
  (st _ 4 5 24 (by decide +kernel) (by decide +kernel) (by decide +kernel) (by decide +kernel) (by simp) (st _ 5 6 16 (by decide +kernel) (by decide +kernel) (by decide +kernel) (by decide +kernel) (by simp) (st _ 6 7 8 (by decide +kernel) (by decide +kernel) (by decide +kernel) (by decide +kernel) (by simp) (st _ 7 8 0 (by decide +kernel) (by decide +kernel) (by decide +kernel) (by decide +kernel) (by simp) ?_)))))))
 exact Ev.step (fun k => by simp only [hypercuberef1_Eight.l0]; rw [if_neg (by omega)]) (Ev.now _)
theorem two_eq (x : Int) : hypercuberef1_Two.f x = some (twoB x) := rfl
theorem ref_enc_l2 (cells : List S30) (i : Int) (c : S30) (h2 : c.f2.length ≤ 10) (h3 : c.f3.length = c.f2.length) (h4 : c.f4.length = c.f2.length) {r : List Int} (d : Nat) : ∀ (j : Nat) (b : List Int), c.f2.length - j = d → j ≤ c.f2.length → b.length + 24 * d ≤ 100000000 →
  Ev (fun k => hypercuberef2_Encode.l0 k cells (b ++ encMs c d j) (wrap64 (i + 1))) r → Ev (fun k => hypercuberef2_Encode.l2 k cells b i (j : Int) c.f0 c.f1 c.f2 c.f3 c.f4) r := by
 induction d with
 | zero =>
  intro j b hd hj hb h
  simp only [encMs, List.append_nil] at h
  exact Ev.step (fun k => by simp only [hypercuberef2_Encode.l2]; rw [if_neg (by omega)]) h
 | succ d ih =>
  intro j b hd hj hb h
  have ha : j < c.f2.length := by omega
  refine Ev.step (fun k => by simp only [hypercuberef2_Encode.l2]; rw [if_pos (by omega), if_pos (by omega)]) (Ev.bind (eight_f (rd c.f2 (j : Int))) ?_)
  refine Ev.congr (fun k => by rw [if_pos (by rw [eight_length]; omega), Option.bind_some, if_pos (by omega)]) (Ev.bind (eight_f (rd c.f3 (j : Int))) ?_)
  refine Ev.congr (fun k => by rw [if_pos (by rw [List.length_append, eight_length, eight_length]; omega), Option.bind_some, if_pos (by omega)]) (Ev.bind (eight_f (rd c.f4 (j : Int))) ?_)
  refine Ev.congr (fun k => by rw [if_pos (by simp only [List.length_append, eight_length]; omega), w64s ha (by omega)]) ?_
  have e : b ++ eight (rd c.f2 (j : Int)) ++ eight (rd c.f3 (j : Int)) ++ eight (rd c.f4 (j : Int)) = b ++ enc3 c j := by simp [enc3]
  rw [e]
  refine ih (j + 1) (b ++ enc3 c j) (by omega) (by omega) (by rw [List.length_append, enc3_length]; omega) ?_
  rw [List.append_assoc]
  exact h
theorem ref_enc_l1 (cells : List S30) (i : Int) (c : S30) (h0 : c.f0.length ≤ 10) (h2 : c.f2.length ≤ 10) (h3 : c.f3.length = c.f2.length) (h4 : c.f4.length = c.f2.length) {r : List Int} (d : Nat) : ∀ (j : Nat) (b : List Int), c.f0.length - j = d → j ≤ c.f0.length → b.length + d ≤ 10000000 →
  Ev (fun k => hypercuberef2_Encode.l0 k cells (b ++ ((c.f0.drop j).map (· % 256) ++ (twoB c.f1 ++ encMs c c.f2.length 0))) (wrap64 (i + 1))) r → Ev (fun k => hypercuberef2_Encode.l1 k cells b i (j : Int) c.f0 c.f1 c.f2 c.f3 c.f4) r := by
 induction d with
 | zero =>
  intro j b hd hj hb h
  rw [List.drop_eq_nil_of_le (by omega), List.map_nil, List.nil_append, ← List.append_assoc] at h
  refine Ev.step (fun k => by simp only [hypercuberef2_Encode.l1]; rw [if_neg (by omega), two_eq, Option.bind_some, if_pos (by simp [twoB]; omega)]) ?_
  exact ref_enc_l2 cells i c h2 h3 h4 c.f2.length 0 _ rfl (Nat.zero_le _) (by simp [twoB]; omega) h
 | succ d ih =>
  intro j b hd hj hb h
  have ha : j < c.f0.length := by omega
  refine Ev.step (fun k => by simp only [hypercuberef2_Encode.l1]; rw [if_pos (by omega), if_pos (by omega), if_pos (by omega), rd_get ha, w64s ha (by omega)]) ?_
  refine ih (j + 1) (b ++ [c.f0[j] % 256]) (by omega) (by omega) (by simp; omega) ?_
  rw [drop_cons ha, List.map_cons] at h
  simpa using h
theorem ref_enc_l0 (cells : List S30) (hc : EncOk cells) (d : Nat) : ∀ (i : Nat) (b : List Int), cells.length - i = d → i ≤ cells.length → b.length + 300 * d ≤ 1000000 →
  Ev (fun k => hypercuberef2_Encode.l0 k cells b (i : Int)) (b ++ (cells.drop i).flatMap encC) := by
 induction d with
 | zero =>
  intro i b hd hi hb
  rw [List.drop_eq_nil_of_le (by omega), List.flatMap_nil, List.append_nil]
  exact Ev.step (fun k => by simp only [hypercuberef2_Encode.l0]; rw [if_neg (by omega)]) (Ev.now b)
 | succ d ih =>
  intro i b hd hi hb
  have ha : i < cells.length := by omega
  have hm := hc.2 _ (List.getElem_mem ha)
  have hl := encC_le ⟨hm.1, hm.2.1⟩
  rw [drop_cons ha, List.flatMap_cons]
  have h := ih (i + 1) (b ++ encC cells[i]) (by omega) (by omega) (by rw [List.length_append]; omega)
  rw [List.append_assoc] at h
  refine Ev.step (fun k => by simp only [hypercuberef2_Encode.l0]; rw [if_pos (by omega), if_pos (by omega), rdC_get ha]) ?_
  refine ref_enc_l1 cells _ cells[i] hm.1 hm.2.1 hm.2.2.1 hm.2.2.2 cells[i].f0.length 0 b rfl (Nat.zero_le _) (by omega) ?_
  rw [w64s ha (by have := hc.1; omega)]
  exact h
theorem ref_encode_ev (s : Int) (cells : List S30) (hc : EncOk cells) : Ev (fun k => hypercuberef2_Encode.f k s cells) (encP s cells) := by
 have h := ref_enc_l0 cells hc cells.length 0 ([s % 256] ++ twoB (cells.length : Int)) rfl (Nat.zero_le _) (by have := hc.1; simp [twoB]; omega)
 rw [List.drop_zero, List.append_assoc] at h
 refine Ev.congr (fun k => ?_) h
 unfold hypercuberef2_Encode.f
 rw [Option.bind_some, two_eq, Option.bind_some, if_pos (by simp [twoB])]
 rfl
theorem ref_facts_l0 {n : Nat} (hn : n ≤ 100) (s : Int) (rows : List S45) (hr : ∀ r ∈ rows, RegR n r) (d : Nat) : ∀ (i : Nat) (acc : List S30), rows.length - i = d → i ≤ rows.length → RegL n acc → acc.length + (rows.length - i) ≤ 1000000 → rows.length ≤ 1000000 →
  Ev (fun k => hypercuberef2_Facts.l0 k rows s acc (i : Int)) (putAll acc (makeL s (rows.drop i))) := by
 induction d with
 | zero =>
  intro i acc hd hi ha hb hl
  have e : rows.drop i = [] := List.drop_eq_nil_of_le (by omega)
  rw [e]
  exact Ev.step (f := fun _ => some acc) (fun k => by simp only [hypercuberef2_Facts.l0]; rw [if_neg (by omega)]) (Ev.now _)
 | succ d ih =>
  intro i acc hd hi ha hb hl
  have hlt : i < rows.length := by omega
  have hx := hr _ (List.getElem_mem hlt)
  have hc := ofR_reg hx s
  have := putL_length (ofR s rows[i]) acc
  rw [drop_cons hlt]
  show Ev _ (putAll acc (ofR s rows[i] :: makeL s (rows.drop (i + 1))))
  rw [putAll_cons]
  have hp : Ev (fun k => hypercuberef2_Put.f k acc (tupC (ofR s rows[i])).1 (tupC (ofR s rows[i])).2.1 (tupC (ofR s rows[i])).2.2.1 (tupC (ofR s rows[i])).2.2.2.1 (tupC (ofR s rows[i])).2.2.2.2) (putL (ofR s rows[i]) acc) := ref_put_ev hn (by omega) ha hc
  refine Ev.step (f := fun k => (hypercuberef2_Of.f k (rows[i]).f0 (rows[i]).f1 s).bind fun bt => (hypercuberef2_Put.f k acc bt.1 bt.2.1 bt.2.2.1 bt.2.2.2.1 bt.2.2.2.2).bind fun t => hypercuberef2_Facts.l0 k rows s t ((i + 1 : Nat) : Int)) (fun k => ?_) (Ev.bind (of_ev hn hx s) (Ev.bind hp (ih (i + 1) _ (by omega) (by omega) (regL_put hc ha) (by omega) hl)))
  simp only [hypercuberef2_Facts.l0]
  rw [if_pos (by omega), if_pos (by omega), rdR_get hlt, w64s hlt (by omega)]
theorem ref_facts_ev {n : Nat} (hn : n ≤ 100) {rows : List S45} (hr : ∀ r ∈ rows, RegR n r) (hl : rows.length ≤ 1000000) (s : Int) : Ev (fun k => hypercuberef2_Facts.f k rows s) (groupL (makeL s rows)) := by
 have h := ref_facts_l0 hn s rows hr rows.length 0 [] (by omega) (by omega) (regL_nil n) (by simpa using hl) hl
 simp only [List.drop_zero] at h
 exact Ev.congr (fun k => by unfold hypercuberef2_Facts.f; rfl) h
end Go.Proofs.Ytmkjkkmilopcpaa.Q
