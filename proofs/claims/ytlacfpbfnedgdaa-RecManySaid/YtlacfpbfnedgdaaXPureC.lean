import Derived.Test.YtlacfpbfnedgdaaXPureB
namespace Go.Proofs.Ytlacfpbfnedgdaa.Q
open Go.RowKit Go.Proofs.YtlacfpbfnedgdaaW.PrintWords Go.Proofs.YtlacfpbfnedgdaaW.PrintLast Go.Proofs.YtlacfpbfnedgdaaW.PrintMore
set_option linter.unusedVariables false
set_option linter.unusedSimpArgs false

/-! Chapter 1: what Encode writes. -/

theorem small_ev (l : List Int) (hn : l.length ≤ 1000000000) (d : Nat) : ∀ (i : Nat) (b : List Int), l.length - i = d → i ≤ l.length → b.length ≤ 10000000000 →
    b.length + d ≤ 10000000000 → Ev (fun k => rec_small.l0 k b l (l.length : Int) (i : Int)) (b ++ (l.drop i).map (· % 256)) := by
  induction d with
  | zero =>
    intro i b hd hi hb hb2
    rw [List.drop_eq_nil_of_le (by omega), List.map_nil, List.append_nil]
    exact Ev.step (fun k => by simp only [rec_small.l0]; rw [if_neg (by omega)]) (Ev.now _)
  | succ d ih =>
    intro i b hd hi hb hb2
    have ha : i < l.length := by omega
    rw [drop_cons ha, List.map_cons]
    have := ih (i + 1) (b ++ [l[i] % 256]) (by omega) (by omega) (by simp; omega) (by simp; omega)
    rw [List.append_assoc] at this
    exact Ev.step (fun k => by simp only [rec_small.l0]; rw [if_pos (by omega), if_pos (by omega), if_pos (by omega), if_pos (by omega), rd_get ha, w64s ha (by omega)]) this
theorem small_f (b l : List Int) (hn : l.length ≤ 1000000000) (hb : b.length ≤ 1000000000) : Ev (fun k => rec_small.f k b l) (b ++ l.map (· % 256)) := by
  have := small_ev l hn l.length 0 b (by omega) (by omega) (by omega) (by omega)
  exact this

theorem shr64 (x : Int) (n : Nat) (h : n ≤ 64) : shr .i64 x (n : Int) = x / 2 ^ n := by
  unfold shr
  rw [Int.toNat_natCast, Nat.min_eq_left (by exact h)]
theorem great_eight (x : Int) (l : List Int) (n j : Int) (b : List Int) (hb : b.length ≤ 10000000000) {r : List Int} (h : Ev (fun k => rec_great.l0 k (b ++ eight x) l n (wrap64 (j + 1))) r) : Ev (fun k => rec_great.l1 k b x 56 l n j) r := by
  have e : b ++ eight x = ((((((((b ++ [shr .i64 x 56 % 256]) ++ [shr .i64 x 48 % 256]) ++ [shr .i64 x 40 % 256]) ++ [shr .i64 x 32 % 256]) ++ [shr .i64 x 24 % 256]) ++ [shr .i64 x 16 % 256]) ++ [shr .i64 x 8 % 256]) ++ [shr .i64 x 0 % 256]) := by
    have s56 := shr64 x 56 (by decide +kernel); have s48 := shr64 x 48 (by decide +kernel); have s40 := shr64 x 40 (by decide +kernel); have s32 := shr64 x 32 (by decide +kernel)
    have s24 := shr64 x 24 (by decide +kernel); have s16 := shr64 x 16 (by decide +kernel); have s8 := shr64 x 8 (by decide +kernel); have s0 := shr64 x 0 (by decide +kernel)
    rw [show shr .i64 x 56 = _ from s56, show shr .i64 x 48 = _ from s48, show shr .i64 x 40 = _ from s40, show shr .i64 x 32 = _ from s32, show shr .i64 x 24 = _ from s24, show shr .i64 x 16 = _ from s16, show shr .i64 x 8 = _ from s8, show shr .i64 x 0 = _ from s0]
    simp [eight]
  rw [e] at h
  have st : ∀ (c : List Int) (q q' : Int), 0 ≤ q → wrap64 (q - 8) = q' → c.length ≤ 10000001000 → Ev (fun k => rec_great.l1 k (c ++ [shr .i64 x q % 256]) x q' l n j) r → Ev (fun k => rec_great.l1 k c x q l n j) r := by
    intro c q q' h0 hq hc hr
    exact Ev.step (fun k => by simp only [rec_great.l1]; rw [if_pos (by omega), if_pos h0, if_pos (by omega), hq]) hr
  refine st _ 56 48 (by decide +kernel) (by decide +kernel) (by omega) (st _ 48 40 (by decide +kernel) (by decide +kernel) (by simp; omega) (st _ 40 32 (by decide +kernel) (by decide +kernel) (by simp; omega) (st _ 32 24 (by decide +kernel) (by decide +kernel) (by simp; omega)
    (st _ 24 16 (by decide +kernel) (by decide +kernel) (by simp; omega) (st _ 16 8 (by decide +kernel) (by decide +kernel) (by simp; omega) (st _ 8 0 (by decide +kernel) (by decide +kernel) (by simp; omega) (st _ 0 (-8) (by decide +kernel) (by decide +kernel) (by simp; omega) ?_)))))))
  exact Ev.step (fun k => by simp only [rec_great.l1]; rw [if_neg (by omega)]) h
theorem great_ev (l : List Int) (hn : l.length ≤ 1000000000) (d : Nat) : ∀ (i : Nat) (b : List Int), l.length - i = d → i ≤ l.length → b.length + 8 * d ≤ 10000000000 →
    Ev (fun k => rec_great.l0 k b l (l.length : Int) (i : Int)) (b ++ (l.drop i).flatMap eight) := by
  induction d with
  | zero =>
    intro i b hd hi hb
    rw [List.drop_eq_nil_of_le (by omega), List.flatMap_nil, List.append_nil]
    exact Ev.step (fun k => by simp only [rec_great.l0]; rw [if_neg (by omega)]) (Ev.now _)
  | succ d ih =>
    intro i b hd hi hb
    have ha : i < l.length := by omega
    rw [drop_cons ha, List.flatMap_cons]
    have := ih (i + 1) (b ++ eight l[i]) (by omega) (by omega) (by simp [eight_length]; omega)
    rw [List.append_assoc] at this
    refine Ev.step (fun k => by simp only [rec_great.l0]; rw [if_pos (by omega), if_pos (by omega), if_pos (by omega), rd_get ha]) (great_eight l[i] l (l.length : Int) (i : Int) b (by omega) ?_)
    rw [w64s ha (by omega)]
    exact this
theorem great_f (b l : List Int) (hn : l.length ≤ 100000000) (hb : b.length ≤ 1000000000) : Ev (fun k => rec_great.f k b l) (b ++ l.flatMap eight) := by
  have := great_ev l (by omega) l.length 0 b (by omega) (by omega) (by omega)
  exact this

def encRow (x : S33) : List Int := x.f0.map (· % 256) ++ x.f1.flatMap eight
def encP (cards : List Int) (meas : Int) (rows : List S33) : List Int :=
  [67, 85, 66, 49, (cards.length : Int) % 256] ++ cards.map (· % 256) ++ [meas % 256, (rows.length : Int) / 256 % 256, (rows.length : Int) % 256] ++ rows.flatMap encRow
/-- Few enough, short enough. -/
def Small (cards : List Int) (rows : List S33) : Prop := cards.length ≤ 100 ∧ rows.length ≤ 1000 ∧ ∀ x ∈ rows, x.f0.length ≤ 100 ∧ x.f1.length ≤ 100
theorem encRow_le {x : S33} (h : x.f0.length ≤ 100 ∧ x.f1.length ≤ 100) : (encRow x).length ≤ 900 := by
  unfold encRow
  rw [List.length_append, List.length_map, List.length_flatMap]
  have : (x.f1.map fun y => (eight y).length) = x.f1.map fun _ => 8 := rfl
  rw [this, List.map_const', List.sum_replicate_nat]
  omega
theorem rec_encode_l0 (rows : List S33) (hl : rows.length ≤ 1000) (hr : ∀ x ∈ rows, x.f0.length ≤ 100 ∧ x.f1.length ≤ 100) (d : Nat) : ∀ (i : Nat) (b : List Int), rows.length - i = d → i ≤ rows.length → b.length + 900 * d ≤ 1000000 →
    Ev (fun k => rec_Encode.l0 k b rows (rows.length : Int) (i : Int)) (b ++ (rows.drop i).flatMap encRow) := by
  induction d with
  | zero =>
    intro i b hd hi hb
    rw [List.drop_eq_nil_of_le (by omega), List.flatMap_nil, List.append_nil]
    exact Ev.step (fun k => by simp only [rec_Encode.l0]; rw [if_neg (by omega)]; unfold rec_own.f; rw [if_pos (by omega)]; rfl) (Ev.now _)
  | succ d ih =>
    intro i b hd hi hb
    have ha : i < rows.length := by omega
    have hx := hr rows[i] (List.getElem_mem ha)
    have hxl := encRow_le hx
    rw [drop_cons ha, List.flatMap_cons]
    have := ih (i + 1) (b ++ encRow rows[i]) (by omega) (by omega) (by rw [List.length_append]; omega)
    rw [List.append_assoc] at this
    refine Ev.step (fun k => by simp only [rec_Encode.l0]; rw [if_pos (by omega), if_pos (by omega), if_pos (by omega), rdT_get ha, w64s ha (by omega)]) (Ev.bind (small_f b rows[i].f0 (by omega) (by omega)) (Ev.bind (great_f (b ++ rows[i].f0.map (· % 256)) rows[i].f1 (by omega) (by rw [List.length_append, List.length_map]; omega)) ?_))
    rw [List.append_assoc]
    exact this
theorem rec_encode_ev (cards : List Int) (meas : Int) (rows : List S33) (h : Small cards rows) : Ev (fun k => rec_Encode.f k cards meas rows) (encP cards meas rows) := by
  obtain ⟨hc, hl, hr⟩ := h
  have h1 := small_f [67, 85, 66, 49] [(cards.length : Int)] (by simp) (by simp)
  have h2 := small_f ([67, 85, 66, 49] ++ [(cards.length : Int)].map (· % 256)) cards (by omega) (by simp)
  have h3 := small_f ([67, 85, 66, 49] ++ [(cards.length : Int)].map (· % 256) ++ cards.map (· % 256)) [meas, (rows.length : Int) / 256, (rows.length : Int)] (by simp) (by simp; omega)
  have h4 := rec_encode_l0 rows hl hr rows.length 0 ([67, 85, 66, 49] ++ [(cards.length : Int)].map (· % 256) ++ cards.map (· % 256) ++ [meas, (rows.length : Int) / 256, (rows.length : Int)].map (· % 256)) (by omega) (by omega) (by simp; omega)
  refine Ev.congr (fun k => by unfold rec_Encode.f; rfl) (Ev.bind h1 (Ev.bind h2 (Ev.bind h3 ?_)))
  have e : encP cards meas rows = [67, 85, 66, 49] ++ [(cards.length : Int)].map (· % 256) ++ cards.map (· % 256) ++ [meas, (rows.length : Int) / 256, (rows.length : Int)].map (· % 256) ++ (rows.drop 0).flatMap encRow := by simp [encP]
  rw [e]
  exact h4

/-! ### the reference's Encode -/
theorem eight_f (x : Int) : Ev (fun k => hypercuberef1_Eight.f k x) (eight x) := by
  have e : eight x = ((((((((([] : List Int) ++ [shr .i64 x 56 % 256]) ++ [shr .i64 x 48 % 256]) ++ [shr .i64 x 40 % 256]) ++ [shr .i64 x 32 % 256]) ++ [shr .i64 x 24 % 256]) ++ [shr .i64 x 16 % 256]) ++ [shr .i64 x 8 % 256]) ++ [shr .i64 x 0 % 256]) := by
    have s56 := shr64 x 56 (by decide +kernel); have s48 := shr64 x 48 (by decide +kernel); have s40 := shr64 x 40 (by decide +kernel); have s32 := shr64 x 32 (by decide +kernel)
    have s24 := shr64 x 24 (by decide +kernel); have s16 := shr64 x 16 (by decide +kernel); have s8 := shr64 x 8 (by decide +kernel); have s0 := shr64 x 0 (by decide +kernel)
    rw [show shr .i64 x 56 = _ from s56, show shr .i64 x 48 = _ from s48, show shr .i64 x 40 = _ from s40, show shr .i64 x 32 = _ from s32, show shr .i64 x 24 = _ from s24, show shr .i64 x 16 = _ from s16, show shr .i64 x 8 = _ from s8, show shr .i64 x 0 = _ from s0]
    simp [eight]
  rw [e]
  have st : ∀ (c : List Int) (q q' y : Int), q < 8 → IntKind.u64.wrap (wrap64 (56 - wrap64 (8 * q))) = y → 0 ≤ y → wrap64 (q + 1) = q' → c.length ≤ 1000 → ∀ {r}, Ev (fun k => hypercuberef1_Eight.l0 k x (c ++ [shr .i64 x y % 256]) q') r → Ev (fun k => hypercuberef1_Eight.l0 k x c q) r := by
    intro c q q' y h0 hy hy0 hq hc r hr
    exact Ev.step (fun k => by simp only [hypercuberef1_Eight.l0]; rw [if_pos h0, hy, if_pos hy0, if_pos (by omega), hq]) hr
  show Ev (fun k => hypercuberef1_Eight.l0 k x [] 0) _
  refine st _ 0 1 56 (by decide +kernel) (by decide +kernel) (by decide +kernel) (by decide +kernel) (by simp) (st _ 1 2 48 (by decide +kernel) (by decide +kernel) (by decide +kernel) (by decide +kernel) (by simp) (st _ 2 3 40 (by decide +kernel) (by decide +kernel) (by decide +kernel) (by decide +kernel) (by simp) (st _ 3 4 32 (by decide +kernel) (by decide +kernel) (by decide +kernel) (by decide +kernel) (by simp)
    (st _ 4 5 24 (by decide +kernel) (by decide +kernel) (by decide +kernel) (by decide +kernel) (by simp) (st _ 5 6 16 (by decide +kernel) (by decide +kernel) (by decide +kernel) (by decide +kernel) (by simp) (st _ 6 7 8 (by decide +kernel) (by decide +kernel) (by decide +kernel) (by decide +kernel) (by simp) (st _ 7 8 0 (by decide +kernel) (by decide +kernel) (by decide +kernel) (by decide +kernel) (by simp) ?_)))))))
  exact Ev.step (fun k => by simp only [hypercuberef1_Eight.l0]; rw [if_neg (by omega)]) (Ev.now _)

theorem ref_l3 (rows : List S33) (i : Nat) (ha : i < rows.length) (hl : rows.length ≤ 1000) (hx : rows[i].f1.length ≤ 100) {r : List Int} (d : Nat) : ∀ (j : Nat) (b : List Int), rows[i].f1.length - j = d → j ≤ rows[i].f1.length → b.length + 8 * d ≤ 10000000 →
    Ev (fun k => hypercuberef1_Encode.l1 k rows (b ++ (rows[i].f1.drop j).flatMap eight) (((i + 1 : Nat) : Int))) r → Ev (fun k => hypercuberef1_Encode.l3 k rows b (i : Int) (j : Int)) r := by
  induction d with
  | zero =>
    intro j b hd hj hb h
    rw [List.drop_eq_nil_of_le (by omega), List.flatMap_nil, List.append_nil] at h
    exact Ev.step (fun k => by simp only [hypercuberef1_Encode.l3]; rw [if_pos (by omega), if_pos (by omega), rdT_get ha, if_neg (by omega), w64s ha (by omega)]) h
  | succ d ih =>
    intro j b hd hj hb h
    have hja : j < rows[i].f1.length := by omega
    rw [drop_cons hja, List.flatMap_cons, ← List.append_assoc] at h
    have := ih (j + 1) (b ++ eight rows[i].f1[j]) (by omega) (by omega) (by rw [List.length_append, eight_length]; omega) h
    refine Ev.step (fun k => by simp only [hypercuberef1_Encode.l3]; rw [if_pos (by omega), if_pos (by omega), rdT_get ha, if_pos (by omega), if_pos (by omega), rd_get hja, w64s hja (by omega)]) (Ev.bind (eight_f _) ?_)
    exact Ev.congr (fun k => by rw [if_pos (by rw [eight_length]; omega)]) this
theorem ref_l2 (rows : List S33) (i : Nat) (ha : i < rows.length) (hl : rows.length ≤ 1000) (hx : rows[i].f0.length ≤ 100) {r : List Int} (d : Nat) : ∀ (j : Nat) (b : List Int), rows[i].f0.length - j = d → j ≤ rows[i].f0.length → b.length + d ≤ 10000000 →
    Ev (fun k => hypercuberef1_Encode.l3 k rows (b ++ (rows[i].f0.drop j).map (· % 256)) (i : Int) 0) r → Ev (fun k => hypercuberef1_Encode.l2 k rows b (i : Int) (j : Int)) r := by
  induction d with
  | zero =>
    intro j b hd hj hb h
    rw [List.drop_eq_nil_of_le (by omega), List.map_nil, List.append_nil] at h
    exact Ev.step (fun k => by simp only [hypercuberef1_Encode.l2]; rw [if_pos (by omega), if_pos (by omega), rdT_get ha, if_neg (by omega)]) h
  | succ d ih =>
    intro j b hd hj hb h
    have hja : j < rows[i].f0.length := by omega
    rw [drop_cons hja, List.map_cons, List.append_cons] at h
    have := ih (j + 1) (b ++ [rows[i].f0[j] % 256]) (by omega) (by omega) (by simp; omega) h
    exact Ev.step (fun k => by simp only [hypercuberef1_Encode.l2]; rw [if_pos (by omega), if_pos (by omega), rdT_get ha, if_pos (by omega), if_pos (by omega), if_pos (by omega), rd_get hja, w64s hja (by omega)]) this
theorem ref_l1 (rows : List S33) (hl : rows.length ≤ 1000) (hr : ∀ x ∈ rows, x.f0.length ≤ 100 ∧ x.f1.length ≤ 100) (d : Nat) : ∀ (i : Nat) (b : List Int), rows.length - i = d → i ≤ rows.length → b.length + 900 * d ≤ 1000000 →
    Ev (fun k => hypercuberef1_Encode.l1 k rows b (i : Int)) (b ++ (rows.drop i).flatMap encRow) := by
  induction d with
  | zero =>
    intro i b hd hi hb
    rw [List.drop_eq_nil_of_le (by omega), List.flatMap_nil, List.append_nil]
    exact Ev.step (fun k => by simp only [hypercuberef1_Encode.l1]; rw [if_neg (by omega)]) (Ev.now _)
  | succ d ih =>
    intro i b hd hi hb
    have ha : i < rows.length := by omega
    have hx := hr rows[i] (List.getElem_mem ha)
    have hxl := encRow_le hx
    rw [drop_cons ha, List.flatMap_cons]
    have h0 := ih (i + 1) (b ++ encRow rows[i]) (by omega) (by omega) (by rw [List.length_append]; omega)
    rw [List.append_assoc] at h0
    have h1 : Ev (fun k => hypercuberef1_Encode.l1 k rows ((b ++ (rows[i].f0.drop 0).map (· % 256)) ++ (rows[i].f1.drop 0).flatMap eight) (((i + 1 : Nat) : Int))) (b ++ (encRow rows[i] ++ List.flatMap encRow (List.drop (i + 1) rows))) := by
      have e : (b ++ (rows[i].f0.drop 0).map (· % 256)) ++ (rows[i].f1.drop 0).flatMap eight = b ++ encRow rows[i] := by rw [List.drop_zero, List.drop_zero, List.append_assoc]; rfl
      rw [e]
      exact h0
    have h2 := ref_l3 rows i ha hl hx.2 rows[i].f1.length 0 (b ++ (rows[i].f0.drop 0).map (· % 256)) (by omega) (by omega) (by rw [List.length_append, List.length_map, List.drop_zero]; omega) h1
    have h3 := ref_l2 rows i ha hl hx.1 rows[i].f0.length 0 b (by omega) (by omega) (by omega) h2
    exact Ev.step (fun k => by simp only [hypercuberef1_Encode.l1]; rw [if_pos (by omega)]; rfl) h3
theorem ref_l0 (cards : List Int) (meas : Int) (rows : List S33) (hc : cards.length ≤ 100) {r : List Int} (d : Nat) : ∀ (j : Nat) (b : List Int), cards.length - j = d → j ≤ cards.length → b.length + d ≤ 10000 →
    Ev (fun k => hypercuberef1_Encode.l1 k rows (((b ++ (cards.drop j).map (· % 256)) ++ [meas % 256]) ++ [(rows.length : Int) / 256 % 256, (rows.length : Int) % 256]) 0) r → Ev (fun k => hypercuberef1_Encode.l0 k rows b (j : Int) cards meas) r := by
  induction d with
  | zero =>
    intro j b hd hj hb h
    rw [List.drop_eq_nil_of_le (by omega), List.map_nil, List.append_nil] at h
    refine Ev.step (fun k => by simp only [hypercuberef1_Encode.l0]; rw [if_neg (by omega), if_pos (by omega)]) ?_
    simp only [Option.bind_some, hypercuberef1_Two.f]
    exact Ev.congr (fun k => by rw [if_pos (by simp <;> omega)]) h
  | succ d ih =>
    intro j b hd hj hb h
    have hja : j < cards.length := by omega
    rw [drop_cons hja, List.map_cons, show b ++ (cards[j] % 256 :: (cards.drop (j + 1)).map (· % 256)) = (b ++ [cards[j] % 256]) ++ (cards.drop (j + 1)).map (· % 256) by simp] at h
    have := ih (j + 1) (b ++ [cards[j] % 256]) (by omega) (by omega) (by simp; omega) h
    exact Ev.step (fun k => by simp only [hypercuberef1_Encode.l0]; rw [if_pos (by omega), if_pos (by omega), if_pos (by omega), rd_get hja, w64s hja (by omega)]) this
theorem ref_encode_ev (cards : List Int) (meas : Int) (rows : List S33) (h : Small cards rows) : Ev (fun k => hypercuberef1_Encode.f k cards meas rows) (encP cards meas rows) := by
  obtain ⟨hc, hl, hr⟩ := h
  have h1 := ref_l1 rows hl hr rows.length 0 ((([67, 85, 66, 49] ++ [(cards.length : Int) % 256]) ++ (cards.drop 0).map (· % 256) ++ [meas % 256]) ++ [(rows.length : Int) / 256 % 256, (rows.length : Int) % 256]) (by omega) (by omega) (by simp; omega)
  have e : encP cards meas rows = ((([67, 85, 66, 49] ++ [(cards.length : Int) % 256]) ++ (cards.drop 0).map (· % 256) ++ [meas % 256]) ++ [(rows.length : Int) / 256 % 256, (rows.length : Int) % 256]) ++ (rows.drop 0).flatMap encRow := by simp [encP]
  rw [e]
  have h2 := ref_l0 cards meas rows hc cards.length 0 ([67, 85, 66, 49] ++ [(cards.length : Int) % 256]) (by omega) (by omega) (by simp; omega) h1
  refine Ev.congr (fun k => ?_) h2
  unfold hypercuberef1_Encode.f
  simp only [Option.bind_some]
  rw [if_pos (by simp)]
  rfl
end Go.Proofs.Ytlacfpbfnedgdaa.Q
