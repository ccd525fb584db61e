/- CellTotals, in plain Lean: of no dimensions there is one cell, of all rows: how many, their sum, their least, their greatest; of no rows none; for every input. -/
import Derived.Test.YtmkjkkmilopcpaaXPureCB
import Derived.Test.YtmkjkkmilopcpaaQ7
import Derived.Test.YtmkjkkmilopcpaaQ13
namespace Go.Proofs.Ytmkjkkmilopcpaa.Pure
open Go.RowKit Go.Proofs.Ytmkjkkmilopcpaa.Q Go.Proofs.YtmkjkkmilopcpaaW.PrintWords Go.Proofs.YtmkjkkmilopcpaaW.PrintLast Go.Proofs.YtmkjkkmilopcpaaW.PrintMore

def cellV (v : Int) : S30 := ⟨[], 1, [v], [v], [v]⟩
theorem of_v (v : Int) : cell_Of.f [1, 2] [v] 0 = some ([], 1, [v], [v], [v]) := by
  unfold cell_Of.f
  rw [clone_eq [v] (by simp)]
  have h : cell_dims.f [1, 2] 0 = some [] := by decide
  rw [h]
  rfl
theorem equal_ev (a b : S30) (ha : SmallC a) (h : a = b) : Ev (fun k => hypercuberef2_Equal.f k a.f0 a.f1 a.f2 a.f3 a.f4 b.f0 b.f1 b.f2 b.f3 b.f4) true := by
  subst h
  obtain ⟨h0, h2, h3, h4⟩ := ha
  have e : ∀ l : List Int, l.length ≤ 100000 → Ev (fun k => hypercuberef1_Ints.f k l l) true := fun l hl => by
    have := ints_ev l l (by omega)
    rw [decide_eq_true rfl] at this
    exact this
  refine Ev.congr (fun k => by unfold hypercuberef2_Equal.f; rw [if_pos rfl]) ?_
  refine Ev.bind (e _ h0) (Ev.congr (fun k => by rw [if_pos rfl]) ?_)
  refine Ev.bind (e _ h2) (Ev.congr (fun k => by rw [if_pos rfl]) ?_)
  refine Ev.bind (e _ h3) (Ev.congr (fun k => by rw [if_pos rfl]) ?_)
  exact Ev.bind (e _ h4) (Ev.now _)
structure InvT (i : Nat) (x3 : List S30) (x4 x5 x6 : Int) : Prop where
  len : x3.length = i
  small : ∀ y ∈ x3, SmallC y
  sum : -1000 * (i : Int) ≤ x4 ∧ x4 ≤ 1000 * (i : Int)
  grp : groupL x3 = if i = 0 then [] else [⟨[], (i : Int), [x4], [x5], [x6]⟩]
theorem group_snoc (l : List S30) (x : S30) : groupL (l ++ [x]) = putL x (groupL l) := by
  unfold groupL
  rw [List.foldl_append]
  rfl
theorem invT_step {i : Nat} {x3 : List S30} {x4 x5 x6 : Int} (h : InvT i x3 x4 x5 x6) (hi : i ≤ 60) (v : Int) (h0 : -1000 ≤ v) (h1 : v ≤ 1000) :
    InvT (i + 1) (x3 ++ [cellV v]) (wrap64 (x4 + v)) (if i = 0 then v else mn x5 v) (if i = 0 then v else mx x6 v) := by
  obtain ⟨hl, hs, hb, hg⟩ := h
  have hw : wrap64 (x4 + v) = x4 + v := w64 (by omega) (by omega)
  refine ⟨by simp [hl], fun y hy => ?_, ⟨by rw [hw]; omega, by rw [hw]; omega⟩, ?_⟩
  · rcases List.mem_append.1 hy with hy | hy
    · exact hs y hy
    · rw [List.mem_singleton.1 hy]
      exact ⟨by simp [cellV], by simp [cellV], by simp [cellV], by simp [cellV]⟩
  · have hne : ¬ (i + 1 = 0) := by omega
    rw [group_snoc, if_neg hne]
    by_cases c : i = 0
    · rw [if_pos c] at hg
      rw [hg, if_pos c, if_pos c, hw]
      have : x4 = 0 := by omega
      rw [this, c]
      simp [putL, cellV]
    · rw [if_neg c] at hg
      rw [hg, if_neg c, if_neg c]
      have hk : lexC ([] : List Int) [] = 0 := rfl
      simp only [putL, cellV, hk]
      rw [if_neg (by omega), if_pos trivial]
      simp only [joinC, List.zipWith_cons_cons, List.zipWith_nil_left]
      rw [w64 (x := (i : Int) + 1) (by omega) (by omega)]
      rfl
theorem tot_end (ms : List Int) (i : Nat) (x3 : List S30) (x4 x5 x6 x7 : Int) (hi : i ≤ 60) (h : InvT i x3 x4 x5 x6) : Ev (fun k => hypercubelaw2_CellTotals.j1 k ms x3 x4 x5 x6 x7 false) true := by
  obtain ⟨hl, hs, hb, hg⟩ := h
  refine Ev.step (f := fun k => (cell_Group.f k x3).bind fun t804 => (if (x3.length : Int) = 0 then (some ((t804.length : Int) == 0)) else (if (t804.length : Int) = 1 then (if 0 < (t804.length : Int) then ((hypercuberef2_Equal.f k ((rd_T30 t804 0).f0) ((rd_T30 t804 0).f1) ((rd_T30 t804 0).f2) ((rd_T30 t804 0).f3) ((rd_T30 t804 0).f4) ([] : List Int) (x3.length : Int) (([x4] : List Int)) (([x5] : List Int)) (([x6] : List Int))).bind fun t817 => (some t817)) else (none)) else (none)))) (fun k => by simp only [hypercubelaw2_CellTotals.j1]; rw [if_neg (by simp)]) ?_
  refine Ev.bind (group_ev x3 (by omega) hs) ?_
  by_cases c : i = 0
  · refine Ev.congr (f := fun _ => some true) (fun k => ?_) (Ev.now _)
    rw [if_pos (by omega), hg, if_pos c]
    rfl
  · rw [if_neg c] at hg
    rw [hg]
    refine Ev.congr (fun k => by rw [if_neg (by omega), if_pos (by simp), if_pos (by simp)]) ?_
    have he := equal_ev (⟨[], (i : Int), [x4], [x5], [x6]⟩ : S30) ⟨[], (i : Int), [x4], [x5], [x6]⟩ ⟨by simp, by simp, by simp, by simp⟩ rfl
    have := Ev.bind (f := fun _ t => some t) he (Ev.now _)
    rw [hl]
    exact this
theorem tot_l0 (ms : List Int) (hm : ms.length ≤ 4611686018427387904) (d : Nat) : ∀ (i : Nat) (x3 : List S30) (x4 x5 x6 : Int), 60 - i = d → i ≤ 60 → i ≤ ms.length → InvT i x3 x4 x5 x6 →
    Ev (fun k => hypercubelaw2_CellTotals.l0 k ms x3 x4 x5 x6 (i : Int)) true := by
  have hstop : ∀ (i : Nat) (x3 : List S30) (x4 x5 x6 : Int), i ≤ 60 → (¬ i < ms.length ∨ ¬ i < 60) → InvT i x3 x4 x5 x6 → Ev (fun k => hypercubelaw2_CellTotals.l0 k ms x3 x4 x5 x6 (i : Int)) true := by
    intro i x3 x4 x5 x6 hi hno h
    refine Ev.step (f := fun k => hypercubelaw2_CellTotals.j1 k ms x3 x4 x5 x6 (i : Int) false) (fun k => ?_) (tot_end ms i x3 x4 x5 x6 _ hi h)
    simp only [hypercubelaw2_CellTotals.l0]
    by_cases c : i < ms.length
    · rw [if_pos (by omega), show decide ((i : Int) < 60) = false from decide_eq_false (by omega)]
    · rw [if_neg (by omega)]
  induction d with
  | zero => exact fun i x3 x4 x5 x6 hd hi hil h => hstop i x3 x4 x5 x6 hi (by omega) h
  | succ d ih =>
    intro i x3 x4 x5 x6 hd hi hil h
    by_cases c : i < ms.length
    · refine Ev.step (f := fun k => hypercubelaw2_CellTotals.j1 k ms x3 x4 x5 x6 (i : Int) true) (fun k => by simp only [hypercubelaw2_CellTotals.l0]; rw [if_pos (by omega), show decide ((i : Int) < 60) = true from decide_eq_true (by omega)]) ?_
      obtain ⟨v, hv⟩ : ∃ v, v = ms[i] % 2001 - 1000 := ⟨_, rfl⟩
      have hb0 := Int.emod_nonneg ms[i] (show (2001 : Int) ≠ 0 by omega)
      have hb1 := Int.emod_lt_of_pos ms[i] (show (0 : Int) < 2001 by omega)
      have hw : wrap64 (ms[i] % 2001 - 1000) = v := by rw [w64 (by omega) (by omega), hv]
      have hstep := invT_step h hi v (by omega) (by omega)
      have hl := h.len
      have hgo := ih (i + 1) _ _ _ _ (by omega) (by omega) (by omega) hstep
      have hw7 := w64s c hm
      refine Ev.step (f := fun k => if i = 0 then hypercubelaw2_CellTotals.j2 k ms (x3 ++ [cellV v]) (wrap64 (x4 + v)) x5 x6 (i : Int) v true else hypercubelaw2_CellTotals.j2 k ms (x3 ++ [cellV v]) (wrap64 (x4 + v)) x5 x6 (i : Int) v (decide (v < x5))) (fun k => ?_) ?_
      · simp only [hypercubelaw2_CellTotals.j1]
        rw [if_pos trivial, if_pos (by omega), if_pos (by omega), rd_get c, within2_eq _ _ (by omega) (by omega), Option.bind_some, hw, of_v, Option.bind_some, if_pos (by omega), Option.bind_some]
        by_cases c0 : i = 0
        · rw [if_pos (by omega), if_pos c0]; rfl
        · rw [if_neg (by omega), if_neg c0]; rfl
      by_cases c0 : i = 0
      · rw [if_pos c0, if_pos c0] at hgo
        refine Ev.congr (fun k => by rw [if_pos c0]) ?_
        exact Ev.step (fun k => by simp only [hypercubelaw2_CellTotals.j2]; rw [if_pos trivial, if_pos (by omega), hw7]) hgo
      · rw [if_neg c0, if_neg c0] at hgo
        refine Ev.congr (fun k => by rw [if_neg c0]) ?_
        by_cases c1 : v < x5
        · rw [show mn x5 v = v by unfold mn; rw [if_pos c1]] at hgo
          by_cases c2 : v > x6
          · rw [show mx x6 v = v by unfold mx; rw [if_pos c2]] at hgo
            exact Ev.step (fun k => by simp only [hypercubelaw2_CellTotals.j2]; rw [if_pos (by simp [c1]), if_neg (by omega), if_pos c2, hw7]) hgo
          · rw [show mx x6 v = x6 by unfold mx; rw [if_neg (by omega)]] at hgo
            exact Ev.step (fun k => by simp only [hypercubelaw2_CellTotals.j2]; rw [if_pos (by simp [c1]), if_neg (by omega), if_neg c2, hw7]) hgo
        · rw [show mn x5 v = x5 by unfold mn; rw [if_neg c1]] at hgo
          by_cases c2 : v > x6
          · rw [show mx x6 v = v by unfold mx; rw [if_pos c2]] at hgo
            exact Ev.step (fun k => by simp only [hypercubelaw2_CellTotals.j2]; rw [if_neg (by simp; omega), if_neg (by omega), if_pos c2, hw7]) hgo
          · rw [show mx x6 v = x6 by unfold mx; rw [if_neg (by omega)]] at hgo
            exact Ev.step (fun k => by simp only [hypercubelaw2_CellTotals.j2]; rw [if_neg (by simp; omega), if_neg (by omega), if_neg c2, hw7]) hgo
    · exact hstop i x3 x4 x5 x6 hi (.inl c) h
theorem CellTotals : hypercubelaw2_CellTotals.Pure := by
  intro ms _ h8 _
  refine Ev.rounds ?_
  refine Ev.congr (f := fun k => hypercubelaw2_CellTotals.l0 k ms [] 0 0 0 0) (fun k => by unfold hypercubelaw2_CellTotals.f hypercubelaw2_known.f; rw [Option.bind_some, if_pos rfl]) ?_
  exact tot_l0 ms (by omega) 60 0 [] 0 0 0 (by omega) (by omega) (by omega) ⟨rfl, fun y h => by simp at h, by omega, rfl⟩
end Go.Proofs.Ytmkjkkmilopcpaa.Pure
