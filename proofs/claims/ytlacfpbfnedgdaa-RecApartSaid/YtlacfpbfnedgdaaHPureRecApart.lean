/- RecApart, in plain Lean: two files of facts have the same bytes just where they are the same; for every input. -/
import Derived.ArgAppend
import Derived.Below
import Derived.BigQuiet
import Derived.Deep.AppendLies
import Derived.Deep.CutBlock
import Derived.Deep.DeepCutAuto
import Derived.Deep.Draws
import Derived.Deep.LoopGhost
import Derived.Deep.OwnRows
import Derived.Deep.QuietTactic
import Derived.Deep.RegionHeld3
import Derived.Deep.RegionWith
import Derived.KernelRfl
import Derived.Laws.BitsLemmas
import Derived.Laws.BytesArg
import Derived.Laws.CopyOwn
import Derived.Laws.IdiomCopy
import Derived.Laws.MakeOwn
import Derived.Laws.OwnMore
import Derived.Laws.Rows
import Derived.Laws.Slices
import Derived.Lib.AppendStr
import Derived.Lib.Bytes
import Derived.Lib.ConvBytes
import Derived.Lib.SlBytesConst
import Derived.Lib.SliceRun
import Derived.Maps.AppendAt
import Derived.OrdersHeld
import Derived.OwnWalk
import Derived.RegionTactic
import Derived.RowKit
import Derived.RowKit3
import Derived.Shelf.Abstract
import Derived.Tactics
import Derived.Test.YtlacfpbfnedgdaaProg
import Derived.WalkKit
import Derived.WalkSpells
import Derived.WideLaws
import Derived.Test.YtlacfpbfnedgdaaPRecApart1
import Derived.Test.YtlacfpbfnedgdaaPRecApart3
import Derived.Test.YtlacfpbfnedgdaaPRecApart4
import Derived.Test.YtlacfpbfnedgdaaPRecApart5
import Derived.Test.YtlacfpbfnedgdaaPRecApart6
import Derived.Test.YtlacfpbfnedgdaaPRecApart7
import Derived.Test.YtlacfpbfnedgdaaPRecApart8
import Derived.Test.YtlacfpbfnedgdaaPRecApart9
import Derived.Test.YtlacfpbfnedgdaaPRecApart10
import Derived.Test.YtlacfpbfnedgdaaPRecApart11
import Derived.Test.YtlacfpbfnedgdaaPRecApart12
namespace Go.Proofs.Ytlacfpbfnedgdaa.Pure
open Go.RowKit Go.Proofs.Ytlacfpbfnedgdaa.Q Go.Proofs.YtlacfpbfnedgdaaW.PrintWords Go.Proofs.YtlacfpbfnedgdaaW.PrintLast Go.Proofs.YtlacfpbfnedgdaaW.PrintMore
def Byt (l : List Int) : Prop := ∀ y ∈ l, 0 ≤ y ∧ y < 256
theorem Byt.app {a b : List Int} (ha : Byt a) (hb : Byt b) : Byt (a ++ b) := fun y hy => (List.mem_append.1 hy).elim (ha y) (hb y)
theorem Byt.cons {x : Int} {b : List Int} (ha : 0 ≤ x ∧ x < 256) (hb : Byt b) : Byt (x :: b) := fun y hy => by
  rcases List.mem_cons.1 hy with h | h
  · rw [h]; exact ha
  · exact hb y h
theorem byt_mod (l : List Int) : Byt (l.map (· % 256)) := fun y hy => by
  obtain ⟨x, _, rfl⟩ := List.mem_map.1 hy
  have h1 := Int.emod_nonneg x (show (256 : Int) ≠ 0 by decide)
  have h2 := Int.emod_lt_of_pos x (show (0 : Int) < 256 by decide)
  exact ⟨h1, h2⟩
theorem m256 (x : Int) : 0 ≤ x % 256 ∧ x % 256 < 256 := ⟨Int.emod_nonneg x (by decide), Int.emod_lt_of_pos x (by decide)⟩
theorem byt_nil : Byt [] := fun _ h => by cases h
theorem byt_eight (x : Int) : Byt (eight x) := by
  unfold eight
  exact .cons (m256 _) (.cons (m256 _) (.cons (m256 _) (.cons (m256 _) (.cons (m256 _) (.cons (m256 _) (.cons (m256 _) (.cons (m256 _) byt_nil)))))))
theorem byt_flat {α : Type} (f : α → List Int) (h : ∀ x, Byt (f x)) (l : List α) : Byt (l.flatMap f) := fun y hy => by
  obtain ⟨x, _, hx⟩ := List.mem_flatMap.1 hy
  exact h x y hx
theorem byt_enc (cards : List Int) (meas : Int) (rows : List S33) : Byt (encP cards meas rows) := by
  unfold encP
  refine ((Byt.app ?_ (byt_mod _)).app ?_).app (byt_flat _ (fun x => ?_) _)
  · exact .cons (by decide) (.cons (by decide) (.cons (by decide) (.cons (by decide) (.cons (m256 _) byt_nil))))
  · exact .cons (m256 _) (.cons (m256 _) (.cons (m256 _) byt_nil))
  · exact (byt_mod _).app (byt_flat _ byt_eight _)
theorem u8_inj {x y : Int} (hx : 0 ≤ x ∧ x < 256) (hy : 0 ≤ y ∧ y < 256) (h : UInt8.ofNat x.toNat = UInt8.ofNat y.toNat) : x = y := by
  have h1 := congrArg UInt8.toNat h
  rw [UInt8.toNat_ofNat', UInt8.toNat_ofNat'] at h1
  rw [Nat.mod_eq_of_lt (show x.toNat < 2 ^ 8 by omega), Nat.mod_eq_of_lt (show y.toNat < 2 ^ 8 by omega)] at h1
  omega
theorem bytes_inj : ∀ (a b : List Int), Byt a → Byt b → (a.map fun n => UInt8.ofNat n.toNat) = (b.map fun n => UInt8.ofNat n.toNat) → a = b
  | [], [], _, _, _ => rfl
  | [], y :: b, _, _, h => by cases h
  | x :: a, [], _, _, h => by cases h
  | x :: a, y :: b, ha, hb, h => by
    rw [List.map_cons, List.map_cons] at h
    injection h with h1 h2
    rw [u8_inj (ha x (by simp)) (hb y (by simp)) h1, bytes_inj a b (fun z hz => ha z (by simp [hz])) (fun z hz => hb z (by simp [hz])) h2]
theorem str_same {cards cards2 : List Int} {meas meas2 : Int} {rows rows2 : List S33} (h : GoodF cards meas rows) (h2 : GoodF cards2 meas2 rows2) :
    ((strOfNums (encP cards meas rows)).toList == (strOfNums (encP cards2 meas2 rows2)).toList) = (decide (cards = cards2) && decide (meas = meas2) && decide (rows = rows2)) := by
  rw [Bool.eq_iff_iff]
  simp only [beq_iff_eq, Bool.and_eq_true, decide_eq_true_eq]
  constructor
  · intro e
    rw [Go.Lib.strOfNums_toList, Go.Lib.strOfNums_toList] at e
    have e2 := bytes_inj _ _ (byt_enc _ _ _) (byt_enc _ _ _) e
    have b1 := back h
    rw [e2, back h2] at b1
    injection b1 with b1
    injection b1 with c1 b1
    injection b1 with c2 b1
    injection b1 with c3 _
    exact ⟨⟨c1.symm, c2.symm⟩, c3.symm⟩
  · rintro ⟨⟨rfl, rfl⟩, rfl⟩
    rfl
theorem rd_set0 (l : List Int) (v : Int) (i : Nat) (h : i < l.length) : rd (l.set 0 v) (i : Int) = if i = 0 then v else rd l (i : Int) := by
  rw [rd_get (by simpa using h), rd_get h]
  rcases i with _ | i
  · simp
  · simp
theorem ap_good {cards : List Int} {meas : Int} {rows : List S33} (h : GoodF cards meas rows) (i : Nat) {v : Int} (hv : 0 ≤ v ∧ v < rd cards 0) : GoodF cards meas (apR rows i v) := by
  obtain ⟨h1, h2, h3⟩ := h
  refine ⟨h1, by rw [apR_length]; exact h2, fun x hx => ?_⟩
  unfold apR at hx
  split at hx
  · by_cases hi : i < rows.length
    · have h0 : rows.getD i z33 ∈ rows := by rw [List.getD_eq_getElem?_getD, List.getElem?_eq_getElem hi]; exact List.getElem_mem hi
      rcases List.mem_or_eq_of_mem_set hx with hx | hx
      · exact h3 x hx
      · obtain ⟨r1, r2, r3⟩ := right_open (h3 _ h0).1
        rw [hx]
        refine ⟨right_mk (by show ((rows.getD i z33).f0.set 0 v).length = _; rw [List.length_set]; exact r1) r2 (fun j hj => ?_), (h3 _ h0).2⟩
        have hj' : j < (rows.getD i z33).f0.length := by
          have : j < ((rows.getD i z33).f0.set 0 v).length := hj
          rwa [List.length_set] at this
        show 0 ≤ rd ((rows.getD i z33).f0.set 0 v) (j : Int) ∧ rd ((rows.getD i z33).f0.set 0 v) (j : Int) < _
        rw [rd_set0 _ _ _ hj']
        by_cases hj0 : j = 0
        · subst hj0
          rw [if_pos rfl]
          exact hv
        · rw [if_neg hj0]
          exact r3 j hj'
    · rw [List.set_eq_of_length_le (by omega)] at hx
      exact h3 x hx
  · exact h3 x hx
theorem RecApart : hypercubelaw1_RecApart.Pure := by
  intro a0 l1 a2 l3 l4 a5 a6
  intros
  obtain ⟨cards, meas, rows, hf, h1, h2, h3, h4, h5⟩ := facts_ev a0 l1 a2 l3
  obtain ⟨cards2, meas2, rows2, hf2, i1, i2, i3, i4, i5⟩ := facts_ev a0 l1 a2 l4
  have hg := facts_good h1 h4 h5
  have hg2 := facts_good i1 i4 i5
  obtain ⟨c1, c2, c3, c4, c5⟩ := check_open h1
  have hc0 : 1 ≤ rd cards 0 ∧ rd cards 0 ≤ 16 := by
    have hr : rd cards ((0 : Nat) : Int) = cards[0] := rd_get (by omega)
    rw [show (0 : Int) = ((0 : Nat) : Int) from rfl, hr]
    exact c3 _ (List.getElem_mem _)
  obtain ⟨v, hv⟩ : ∃ v, v = (wrap64 (Int.tdiv a6 50)) % rd cards 0 := ⟨_, rfl⟩
  have hv2 : 0 ≤ v ∧ v < rd cards 0 := by rw [hv]; exact ⟨Int.emod_nonneg _ (by omega), Int.emod_lt_of_pos _ (by omega)⟩
  obtain ⟨ax, hax⟩ : ∃ ax, ax = (a6 % (rows.length : Int)).toNat := ⟨_, rfl⟩
  obtain ⟨tc, tm, tr, ht, hgt⟩ : ∃ (tc : List Int) (tm : Int) (tr : List S33), ((a5 = false → tc = cards2 ∧ tm = meas2 ∧ tr = rows2) ∧ (a5 = true → tc = cards ∧ tm = meas ∧ tr = apR rows ax v)) ∧ GoodF tc tm tr := by
    cases a5
    · exact ⟨cards2, meas2, rows2, ⟨fun _ => ⟨rfl, rfl, rfl⟩, fun h => by cases h⟩, hg2⟩
    · exact ⟨cards, meas, apR rows ax v, ⟨fun h => (by cases h), fun _ => ⟨rfl, rfl, rfl⟩⟩, ap_good hg ax hv2⟩
  obtain ⟨K0, e0⟩ := known_ev
  obtain ⟨K1, e1⟩ := hf
  obtain ⟨K2, e2⟩ := hf2
  obtain ⟨K3, e3⟩ := rec_encode_ev cards meas rows hg.small
  obtain ⟨K4, e4⟩ := rec_encode_ev tc tm tr hgt.small
  obtain ⟨K5, e5⟩ := same_ev cards meas rows tc tm tr (by omega) hg.mild
  exact ⟨K0 + K1 + K2 + K3 + K4 + K5, cards, meas, rows, cards2, meas2, rows2, ax, v, tc, tm, tr, encP cards meas rows, encP tc tm tr, _, e0 _ (by omega), e1 _ (by omega), e2 _ (by omega),
    fun _ hn => by
      have g1 := Int.emod_nonneg a6 (show (rows.length : Int) ≠ 0 by omega)
      have g2 := Int.emod_lt_of_pos a6 (show (0 : Int) < (rows.length : Int) by omega)
      refine ⟨?_, by omega⟩
      rw [within_eq a6 (rows.length : Int) (by omega) (by omega)]
      congr 1
      omega,
    fun _ _ => by rw [within_eq _ _ (by omega) (by omega), hv],
    ⟨by omega, fun r hr => by
      have := (right_open (h5 r hr).1).1
      omega⟩, ht, e3 _ (by omega), e4 _ (by omega), e5 _ (by omega), str_same hg hgt⟩
end Go.Proofs.Ytlacfpbfnedgdaa.Pure
