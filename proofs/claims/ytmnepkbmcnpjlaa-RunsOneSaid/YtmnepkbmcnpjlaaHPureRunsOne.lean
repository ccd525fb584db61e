/- RunsOne, in plain Lean: held all at once there is one run: the group-by; of sorted cells the runs are these, cut; for every input. -/
import Derived.ArgAppend
import Derived.Below
import Derived.BigQuiet
import Derived.Deep.AppendLies
import Derived.Deep.CutBlock
import Derived.Deep.DeepCutAuto
import Derived.Deep.Draws
import Derived.Deep.LoopGhost
import Derived.Deep.OwnRows
import Derived.Deep.QuietTactic
import Derived.Deep.RegionHeld3
import Derived.KernelRfl
import Derived.Laws.BitsLemmas
import Derived.Laws.BytesArg
import Derived.Laws.EntriesVeiled
import Derived.Laws.Externs
import Derived.Laws.IdiomCopy
import Derived.Laws.MakeOwn
import Derived.Laws.OwnMore
import Derived.Laws.Rows
import Derived.Laws.Slices
import Derived.Lib.AppendStr
import Derived.Lib.AppendZeros
import Derived.Lib.AppendZerosOnto
import Derived.Lib.ConvBytes
import Derived.Lib.JoinLaws
import Derived.Lib.Overlaps
import Derived.Lib.SliceRun
import Derived.Lib.Walk
import Derived.LoopIn
import Derived.LoopNIn
import Derived.Maps.AppendAt
import Derived.OrdersHeld
import Derived.OrdersIn
import Derived.OwnWalk
import Derived.OwnWalkIn
import Derived.RangeFuncBound
import Derived.RangeFuncBox
import Derived.RangeFuncCalls
import Derived.RangeFuncLeaves
import Derived.RangeFuncNested
import Derived.RangeFuncOwn
import Derived.RowKit
import Derived.RowKit3
import Derived.Shelf.Abstract
import Derived.Shelf.RegionOpen
import Derived.Shelf.RegionOpenPlain
import Derived.Tactics
import Derived.TacticsInMore
import Derived.Test.YtmnepkbmcnpjlaaProg
import Derived.WalkKit
import Derived.WalkSpells
import Derived.WideLaws
import Derived.Test.YtmnepkbmcnpjlaaPRunsOne1
import Derived.Test.YtmnepkbmcnpjlaaPRunsOne3
import Derived.Test.YtmnepkbmcnpjlaaPRunsOne4
import Derived.Test.YtmnepkbmcnpjlaaPRunsOne5
import Derived.Test.YtmnepkbmcnpjlaaPRunsOne6
import Derived.Test.YtmnepkbmcnpjlaaPRunsOne7
import Derived.Test.YtmnepkbmcnpjlaaPRunsOne8
import Derived.Test.YtmnepkbmcnpjlaaPRunsOne9
import Derived.Test.YtmnepkbmcnpjlaaPRunsOne10
import Derived.Test.YtmnepkbmcnpjlaaPRunsOne11
import Derived.Test.YtmnepkbmcnpjlaaPRunsOne12
import Derived.Test.YtmnepkbmcnpjlaaPRunsOne13
import Derived.Test.YtmnepkbmcnpjlaaPRunsOne14
import Derived.Test.YtmnepkbmcnpjlaaPRunsOne15
namespace Go.Proofs.Ytmnepkbmcnpjlaa.Pure
open Go.RowKit Go.Proofs.Ytmnepkbmcnpjlaa.Q Go.Proofs.YtmnepkbmcnpjlaaW.PrintWords Go.Proofs.YtmnepkbmcnpjlaaW.PrintLast Go.Proofs.YtmnepkbmcnpjlaaW.PrintMore
theorem no_has {held g : List S41} {c : S41} (h : SortedC (held ++ c :: g)) : hasK held c = false := by
  unfold hasK
  rw [List.any_eq_false]
  intro y hy he
  have := (List.pairwise_append.1 h).2.2 y hy c (by simp)
  have h0 : lexC y.f0 c.f0 = 0 := by simpa using he
  omega
theorem runs_cut (m : Nat) (h1 : 1 ≤ m) : ∀ (g held : List S41), SortedC (held ++ g) → held.length ≤ m → (0 < held.length ∨ held = []) →
    ∀ i : Nat, (runsR m held g)[i]? = if i * m < (held ++ g).length then some (((held ++ g).take ((i + 1) * m)).drop (i * m)) else none
  | [], held, hs, hm, hne, i => by
    rw [List.append_nil]
    unfold runsR
    rcases hne with c | c
    · rw [if_pos c]
      cases i with
      | zero => rw [Nat.zero_mul, if_pos c, Nat.zero_add, Nat.one_mul, List.take_of_length_le hm]; rfl
      | succ i =>
        have : m ≤ (i + 1) * m := Nat.le_mul_of_pos_left _ (by omega)
        rw [if_neg (by omega)]; rfl
    · subst c
      rw [if_neg (by simp), if_neg (by simp)]; rfl
  | c :: g, held, hs, hm, hne, i => by
    have hno := no_has hs
    by_cases hf : held.length < m
    · have e : runsR m held (c :: g) = runsR m (held ++ [c]) g := by
        simp only [runsR]
        rw [if_pos (Or.inr hf), putL_last c held (fun y hy => (List.pairwise_append.1 hs).2.2 y hy c (by simp))]
      have ea : held ++ [c] ++ g = held ++ c :: g := by simp
      rw [e, runs_cut m h1 g (held ++ [c]) (by rw [ea]; exact hs) (by simp; omega) (.inl (by simp)) i, ea]
    · have hl : held.length = m := by omega
      have e : runsR m held (c :: g) = held :: runsR m [c] g := by
        simp only [runsR]
        rw [if_neg (by simp [hno]; omega)]
      rw [e]
      cases i with
      | zero =>
        rw [Nat.zero_mul, if_pos (by rw [List.length_append, List.length_cons]; omega), Nat.zero_add, Nat.one_mul, List.drop_zero, ← hl, List.take_left]
        rfl
      | succ i =>
        have hs2 : SortedC ([c] ++ g) := (List.pairwise_append.1 hs).2.1
        have ih := runs_cut m h1 g [c] hs2 (by simpa using h1) (.inl (by simp)) i
        have e2 : (held :: runsR m [c] g)[i + 1]? = (runsR m [c] g)[i]? := rfl
        have a1 : (i + 1) * m = m + i * m := by rw [Nat.add_mul, Nat.one_mul, Nat.add_comm]
        have a2 : (i + 1 + 1) * m = m + (i + 1) * m := by rw [Nat.add_mul (i + 1), Nat.one_mul, Nat.add_comm]
        have e3 : ([c] ++ g : List S41) = c :: g := rfl
        have e4 : ((held ++ c :: g).take ((i + 1 + 1) * m)).drop ((i + 1) * m) = ((c :: g).take ((i + 1) * m)).drop (i * m) := by
          rw [a2, a1, ← hl, List.take_length_add_append, List.drop_length_add_append]
        rw [e2, ih, e3, e4]
        by_cases q : i * m < (c :: g).length
        · rw [if_pos q, if_pos (by rw [List.length_append, a1]; omega)]
        · rw [if_neg q, if_neg (by rw [List.length_append, a1]; omega)]
theorem cut_length {m : Nat} (h1 : 1 ≤ m) {w : List S41} {rs : List (List S41)} (h : ∀ i : Nat, rs[i]? = if i * m < w.length then some ((w.take ((i + 1) * m)).drop (i * m)) else none) : rs.length = (w.length + m - 1) / m := by
  have hlt : ∀ i, i < rs.length ↔ i * m < w.length := fun i => by
    have := h i
    constructor
    · intro hi
      rw [List.getElem?_eq_getElem hi] at this
      refine Decidable.byContradiction (fun hn => ?_)
      rw [if_neg hn] at this
      cases this
    · intro hi
      rw [if_pos hi] at this
      exact (List.getElem?_eq_some_iff.1 this).1
  refine Nat.le_antisymm ?_ ?_
  · refine Decidable.byContradiction (fun hn => ?_)
    have hq : (w.length + m - 1) / m < rs.length := by omega
    have h3 := (hlt _).1 hq
    have h4 := Nat.div_add_mod (w.length + m - 1) m
    have h5 := Nat.mod_lt (w.length + m - 1) (show 0 < m by omega)
    rw [Nat.mul_comm] at h4
    omega
  · refine Decidable.byContradiction (fun hn => ?_)
    have hr : ¬ rs.length < rs.length := Nat.lt_irrefl _
    rw [hlt] at hr
    have h4 : w.length + m - 1 < (rs.length + 1) * m := by rw [Nat.add_mul, Nat.one_mul]; omega
    have h5 := (Nat.div_lt_iff_lt_mul (show 0 < m by omega)).2 h4
    omega
theorem one_l0 (m : Nat) (h1 : 1 ≤ m) (hm : m ≤ 1000) (g : List S41) (hg : g.length ≤ 1000) (hs : ∀ c ∈ g, SmallC c) (rs : List (List S41)) (hl : rs.length ≤ 1000)
    (h : ∀ i : Nat, rs[i]? = if i * m < g.length then some ((g.take ((i + 1) * m)).drop (i * m)) else none) (d : Nat) : ∀ i : Nat, rs.length - i = d → i ≤ rs.length → Ev (fun k => hypercubelaw5_RunsOne.l0 k g (m : Int) rs (i : Int)) true := by
  induction d with
  | zero =>
    intro i hd hi
    exact Ev.step (f := fun _ => some true) (fun k => by simp only [hypercubelaw5_RunsOne.l0]; rw [if_neg (by omega)]) (Ev.now _)
  | succ d ih =>
    intro i hd hi
    have hlt : i < rs.length := by omega
    have hi2 := h i
    rw [List.getElem?_eq_getElem hlt] at hi2
    have hq : i * m < g.length := Decidable.byContradiction (fun hn => by rw [if_neg hn] at hi2; cases hi2)
    rw [if_pos hq] at hi2
    have he := Option.some.inj hi2
    have a1 : (i + 1) * m = i * m + m := by rw [Nat.add_mul, Nat.one_mul]
    have w0 : wrap64 ((i : Int) * (m : Int)) = ((i * m : Nat) : Int) := by
      have e : (i : Int) * (m : Int) = ((i * m : Nat) : Int) := by simp
      rw [e, w64 (by omega) (by omega)]
    have w1 : wrap64 (((i + 1 : Nat) : Int) * (m : Int)) = (((i + 1) * m : Nat) : Int) := by
      have e : ((i + 1 : Nat) : Int) * (m : Int) = (((i + 1) * m : Nat) : Int) := by simp
      rw [e, w64 (by omega) (by omega)]
    have hmn : mn (g.length : Int) (((i + 1) * m : Nat) : Int) = ((min g.length ((i + 1) * m) : Nat) : Int) := by unfold mn; split <;> omega
    have htk : (g.take (min g.length ((i + 1) * m))).drop (i * m) = (g.take ((i + 1) * m)).drop (i * m) := by
      congr 1
      by_cases c : g.length ≤ (i + 1) * m
      · rw [Nat.min_eq_left c, List.take_of_length_le (Nat.le_refl _), List.take_of_length_le c]
      · rw [Nat.min_eq_right (by omega)]
    have hsame : Ev (fun k => hypercuberef2_Same.f k rs[i] ((g.take (min g.length ((i + 1) * m))).drop (i * m))) true := by
      rw [htk]
      refine same_true he ?_ (fun c hc => hs c ?_)
      · rw [he, List.length_drop, List.length_take]; omega
      · rw [he] at hc
        exact List.mem_of_mem_take (List.mem_of_mem_drop hc)
    refine Ev.step (f := fun k => (hypercuberef2_Same.f k rs[i] ((g.take (min g.length ((i + 1) * m))).drop (i * m))).bind fun t => if t = true then hypercubelaw5_RunsOne.l0 k g (m : Int) rs ((i + 1 : Nat) : Int) else none) (fun k => ?_) (Ev.bind hsame (Ev.congr (fun k => by rw [if_pos rfl]) (ih (i + 1) (by omega) (by omega))))
    simp only [hypercubelaw5_RunsOne.l0]
    rw [if_pos (by omega), if_pos (by omega), w64s hlt (by omega), w0, w1, hmn, if_pos (by omega), if_pos (by omega), if_pos (by omega), rdL_get hlt, Int.toNat_natCast, Int.toNat_natCast]
theorem RunsOne : hypercubelaw5_RunsOne.Pure := by
  intro a0 l1 a2 l3 a4 a5 _ _ _ _ _ _ _ _ _ _
  obtain ⟨cards, meas, rows, s, n, hf, hs, hc, hn, hl, hr, _⟩ := facts_set a0 l1 a2 l3 a4
  obtain ⟨m, hm1, hm2, hw, hm⟩ := most_eq a5 12 (by omega) (by omega)
  have hw' : hypercubelaw5_within.f a5 12 = some (a5 % 12) := hw
  have hm' : wrap64 (1 + a5 % 12) = (m : Int) := hm
  have hreg := makeL_reg hr s
  have hlen := makeL_length s rows
  obtain ⟨G, hG⟩ : ∃ G, G = groupL (makeL s rows) := ⟨_, rfl⟩
  have hGs : SortedC G := by rw [hG]; exact groupL_sorted _
  have hGr : RegL n G := by rw [hG]; exact regL_group hreg
  have hGl : G.length ≤ 40 := by
    have := putAll_length (makeL s rows) []
    rw [hG, groupL_all]; simp only [List.length_nil] at this; omega
  have hfull : runsR 1000 [] (makeL s rows) = if 0 < G.length then [G] else [] := by
    have := runsR_one 1000 (makeL s rows) [] (by rw [← groupL_all, ← hG]; omega)
    rw [this, ← groupL_all, ← hG]
  have hcut := runs_cut m hm1 G [] hGs (by simp) (.inr rfl)
  simp only [List.nil_append] at hcut
  have hcl := cut_length hm1 hcut
  have hrl := (runsR_len m hm1 G).1
  refine Ev.rounds ?_
  refine Ev.congr (fun k => by unfold hypercubelaw5_RunsOne.f hypercubelaw5_known.f; rw [Option.bind_some, if_pos rfl]) ?_
  refine Ev.bind hf ?_
  refine Ev.congr (fun k => by rw [hs, Option.bind_some]) ?_
  refine Ev.bind (ref_facts_ev hn hr (by omega) s) ?_
  rw [← hG]
  refine Ev.bind (make_ev hn s rows (by omega) hr) ?_
  refine Ev.bind (runs_ev 1000 (by omega) _ (hreg.small hn) (by omega)) ?_
  refine Ev.congr (fun k => by rw [hw', Option.bind_some, hm']) ?_
  refine Ev.bind (runs_ev m hm1 G (hGr.small hn) (by omega)) ?_
  by_cases c : G.length = 0
  · rw [if_neg (by omega)] at hfull
    rw [hfull]
    have h0 : (runsR m [] G).length = 0 := by
      have : G = [] := List.eq_nil_of_length_eq_zero c
      rw [this]; rfl
    refine Ev.congr (f := fun _ => some true) (fun k => ?_) (Ev.now _)
    rw [if_pos (show (G.length : Int) = 0 by omega), if_pos (show (([] : List (List S41)).length : Int) = 0 from rfl), h0]
    rfl
  · rw [if_pos (by omega)] at hfull
    rw [hfull]
    have hsm := same_true (l := G) rfl (by omega) (hGr.small hn)
    have e0 : rd_L3 [G] 0 = G := rfl
    have ht : (((runsR m [] G).length : Int) != (wrap64 (Int.tdiv (wrap64 ((wrap64 ((G.length : Int) + (m : Int))) - 1)) (m : Int)))) = false := by
      rw [w64 (x := (G.length : Int) + (m : Int)) (by omega) (by omega), w64 (x := (G.length : Int) + (m : Int) - 1) (by omega) (by omega), Int.tdiv_eq_ediv_of_nonneg (by omega)]
      have e1 : ((G.length : Int) + (m : Int) - 1) / (m : Int) = (((G.length + m - 1) / m : Nat) : Int) := by
        have e2 : ((G.length : Int) + (m : Int) - 1) = ((G.length + m - 1 : Nat) : Int) := by omega
        rw [e2]; rfl
      rw [e1, ← hcl, w64 (x := ((runsR m [] G).length : Int)) (by omega) (by omega)]
      simp
    refine Ev.congr (f := fun k => (hypercuberef2_Same.f k G G).bind fun t535 => (if t535 = true then hypercubelaw5_RunsOne.j0 k G (m : Int) (runsR m [] G) false else hypercubelaw5_RunsOne.j0 k G (m : Int) (runsR m [] G) true)) (fun k => ?_) (Ev.bind hsm ?_)
    · rw [if_neg (show ¬ (G.length : Int) = 0 by omega), if_pos (show (([G] : List (List S41)).length : Int) = 1 from rfl), if_pos (show (0 : Int) < (([G] : List (List S41)).length : Int) by simp), e0]
      congr 1
      funext t
      split
      · rw [if_neg (by omega), ht]
      · rfl
    · refine Ev.congr (fun k => by rw [if_pos rfl]) ?_
      refine Ev.step (f := fun k => hypercubelaw5_RunsOne.l0 k G (m : Int) (runsR m [] G) 0) (fun k => by simp only [hypercubelaw5_RunsOne.j0]; rw [if_neg (by simp)]) ?_
      exact one_l0 m hm1 (by omega) G (by omega) (hGr.small hn) _ (by omega) hcut _ 0 rfl (by omega)
end Go.Proofs.Ytmnepkbmcnpjlaa.Pure
