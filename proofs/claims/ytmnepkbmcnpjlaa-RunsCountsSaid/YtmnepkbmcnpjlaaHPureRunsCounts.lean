/- RunsCounts, in plain Lean: counts in all runs are together as many as there were; for every input. -/
import Derived.ArgAppend
import Derived.Below
import Derived.BigQuiet
import Derived.Deep.AppendLies
import Derived.Deep.CutBlock
import Derived.Deep.DeepCutAuto
import Derived.Deep.Draws
import Derived.Deep.LoopGhost
import Derived.Deep.OwnRows
import Derived.Deep.QuietTactic
import Derived.Deep.RegionHeld3
import Derived.KernelRfl
import Derived.Laws.BitsLemmas
import Derived.Laws.BytesArg
import Derived.Laws.EntriesVeiled
import Derived.Laws.Externs
import Derived.Laws.IdiomCopy
import Derived.Laws.MakeOwn
import Derived.Laws.OwnMore
import Derived.Laws.Rows
import Derived.Laws.Slices
import Derived.Lib.AppendStr
import Derived.Lib.AppendZeros
import Derived.Lib.AppendZerosOnto
import Derived.Lib.ConvBytes
import Derived.Lib.JoinLaws
import Derived.Lib.Overlaps
import Derived.Lib.SliceRun
import Derived.Lib.Walk
import Derived.LoopIn
import Derived.LoopNIn
import Derived.Maps.AppendAt
import Derived.OrdersHeld
import Derived.OrdersIn
import Derived.OwnWalk
import Derived.OwnWalkIn
import Derived.RangeFuncBound
import Derived.RangeFuncBox
import Derived.RangeFuncCalls
import Derived.RangeFuncLeaves
import Derived.RangeFuncNested
import Derived.RangeFuncOwn
import Derived.RowKit
import Derived.RowKit3
import Derived.Shelf.Abstract
import Derived.Shelf.RegionOpen
import Derived.Shelf.RegionOpenPlain
import Derived.Tactics
import Derived.TacticsInMore
import Derived.Test.YtmnepkbmcnpjlaaProg
import Derived.WalkKit
import Derived.WalkSpells
import Derived.WideLaws
import Derived.Test.YtmnepkbmcnpjlaaPRunsCounts1
import Derived.Test.YtmnepkbmcnpjlaaPRunsCounts3
import Derived.Test.YtmnepkbmcnpjlaaPRunsCounts4
import Derived.Test.YtmnepkbmcnpjlaaPRunsCounts5
import Derived.Test.YtmnepkbmcnpjlaaPRunsCounts6
import Derived.Test.YtmnepkbmcnpjlaaPRunsCounts7
import Derived.Test.YtmnepkbmcnpjlaaPRunsCounts8
import Derived.Test.YtmnepkbmcnpjlaaPRunsCounts9
import Derived.Test.YtmnepkbmcnpjlaaPRunsCounts10
import Derived.Test.YtmnepkbmcnpjlaaPRunsCounts11
import Derived.Test.YtmnepkbmcnpjlaaPRunsCounts12
import Derived.Test.YtmnepkbmcnpjlaaPRunsCounts13
import Derived.Test.YtmnepkbmcnpjlaaPRunsCounts14
namespace Go.Proofs.Ytmnepkbmcnpjlaa.Pure
open Go.RowKit Go.Proofs.Ytmnepkbmcnpjlaa.Q Go.Proofs.YtmnepkbmcnpjlaaW.PrintWords Go.Proofs.YtmnepkbmcnpjlaaW.PrintLast Go.Proofs.YtmnepkbmcnpjlaaW.PrintMore
theorem counts_l (rows : List S45) (hrl : rows.length ≤ 1000) (rs : List (List S41)) (hl : rs.length ≤ 1000) (hrs : ∀ r ∈ rs, r.length ≤ 1000) (hnn : ∀ r ∈ rs, NonNeg r) (d : Nat) : ∀ (i : Nat) (x : Int), rs.length - i = d → i ≤ rs.length → 0 ≤ x → x + cnt (rs.drop i).flatten = (rows.length : Int) → Ev (fun k => hypercubelaw5_RunsCounts.l0 k rows rs x (i : Int)) true := by
  have hsn : Ev (fun k => hypercuberef5_Sorted.f k ([] : List S41)) true := ref_sorted_ev (l := []) (fun y h => by simp at h) (by simp)
  induction d with
  | zero =>
    intro i x hd hi h0 hx
    have e : rs.drop i = [] := List.drop_eq_nil_of_le (by omega)
    rw [e] at hx
    have hx' : x = (rows.length : Int) := by simpa [cnt] using hx
    refine Ev.step (f := fun k => (hypercuberef5_Sorted.f k ([] : List S41)).bind fun t => some t) (fun k => ?_) (Ev.bind hsn (Ev.now _))
    simp only [hypercubelaw5_RunsCounts.l0]
    rw [if_neg (by omega), if_pos hx']
  | succ d ih =>
    intro i x hd hi h0 hx
    have hlt : i < rs.length := by omega
    rw [drop_cons hlt, List.flatten_cons, cnt_append] at hx
    have hr := hrs _ (List.getElem_mem hlt)
    have hn1 := hnn _ (List.getElem_mem hlt)
    have hn2 : 0 ≤ cnt (rs.drop (i + 1)).flatten := cnt_nn _ (fun c hc => by
      obtain ⟨r, h1, h2⟩ := List.mem_flatten.1 hc
      exact hnn r (List.mem_of_mem_drop h1) c h2)
    have inner : ∀ (e j : Nat) (y : Int), (rs[i]).length - j = e → j ≤ (rs[i]).length → 0 ≤ y → y + cnt ((rs[i]).drop j) + cnt (rs.drop (i + 1)).flatten = (rows.length : Int) → Ev (fun k => hypercubelaw5_RunsCounts.l1 k rows rs y (i : Int) (j : Int)) true := by
      intro e
      induction e with
      | zero =>
        intro j y he hj h0y hy
        have e2 : (rs[i]).drop j = [] := List.drop_eq_nil_of_le (by omega)
        rw [e2] at hy
        refine Ev.step (fun k => ?_) (ih (i + 1) y (by omega) (by omega) h0y (by simpa [cnt] using hy))
        simp only [hypercubelaw5_RunsCounts.l1]
        rw [if_pos (by omega), if_pos (by omega), rdL_get hlt, if_neg (by omega), w64s hlt (by omega)]
      | succ e ihe =>
        intro j y he hj h0y hy
        have hlj : j < (rs[i]).length := by omega
        rw [drop_cons hlj, cnt_cons] at hy
        have hc0 := hn1 _ (List.getElem_mem hlj)
        have hn3 : 0 ≤ cnt ((rs[i]).drop (j + 1)) := cnt_nn _ (fun c hc => hn1 c (List.mem_of_mem_drop hc))
        have hw : wrap64 (y + ((rs[i])[j]).f1) = y + ((rs[i])[j]).f1 := w64 (by omega) (by omega)
        refine Ev.step (fun k => ?_) (ihe (j + 1) (y + ((rs[i])[j]).f1) (by omega) (by omega) (by omega) (by omega))
        simp only [hypercubelaw5_RunsCounts.l1]
        rw [if_pos (by omega), if_pos (by omega), rdL_get hlt, if_pos (by omega), if_pos (by omega), rdC_get hlj, hw, w64s hlj (by omega)]
    have h := inner _ 0 x rfl (by omega) h0 (by rw [List.drop_zero]; omega)
    refine Ev.step (fun k => ?_) h
    simp only [hypercubelaw5_RunsCounts.l0]
    rw [if_pos (by omega)]
    rfl
theorem runsR_nn (most : Nat) : ∀ (cs held : List S41), NonNeg cs → NonNeg held → cnt held + cnt cs ≤ 4611686018427387904 → ∀ r ∈ runsR most held cs, NonNeg r
  | [], held, _, hh, _, r, hr => by
    unfold runsR at hr
    split at hr
    · rw [List.mem_singleton.1 hr]; exact hh
    · simp at hr
  | c :: cs, held, hc, hh, hb, r, hr => by
    have h0 := hc c (by simp)
    have hcs : NonNeg cs := fun x hx => hc x (List.mem_cons_of_mem _ hx)
    have hn := cnt_nn cs hcs
    have hhn := cnt_nn held hh
    rw [cnt_cons] at hb
    simp only [runsR] at hr
    split at hr
    · obtain ⟨p1, p2⟩ := cnt_put c h0 held hh (by omega)
      exact runsR_nn most cs (putL c held) hcs p2 (by omega) r hr
    · rcases List.mem_cons.1 hr with e | e
      · rw [e]; exact hh
      · have hone : cnt [c] = c.f1 := by simp [cnt]
        exact runsR_nn most cs [c] hcs (fun x hx => by rw [List.mem_singleton.1 hx]; exact h0) (by rw [hone]; omega) r e
theorem RunsCounts : hypercubelaw5_RunsCounts.Pure := by
  intro a0 l1 a2 l3 a4 a5 _ _ _ _ _ _ _ _ _ _
  obtain ⟨cards, meas, rows, s, n, hf, hs, hc, hn, hl, hr, _⟩ := facts_set a0 l1 a2 l3 a4
  obtain ⟨m, hm1, hm2, hw, hm⟩ := most_eq a5 9 (by omega) (by omega)
  have hw' : hypercubelaw5_within.f a5 9 = some (a5 % 9) := hw
  have hm' : wrap64 (1 + a5 % 9) = (m : Int) := hm
  have hreg := makeL_reg hr s
  have hlen := makeL_length s rows
  have hcn := makeL_cnt s rows
  have hnn := makeL_nn s rows
  have hz : cnt ([] : List S41) = 0 := rfl
  have hnil : NonNeg ([] : List S41) := fun c hc => by simp at hc
  obtain ⟨h1, h2⟩ := runsR_len m hm1 (makeL s rows)
  refine Ev.rounds ?_
  refine Ev.congr (fun k => by unfold hypercubelaw5_RunsCounts.f hypercubelaw5_known.f; rw [Option.bind_some, if_pos rfl]) ?_
  refine Ev.bind hf ?_
  refine Ev.congr (fun k => by rw [hs, Option.bind_some]) ?_
  refine Ev.bind (make_ev hn s rows (by omega) hr) ?_
  refine Ev.congr (fun k => by rw [hw', Option.bind_some, hm']) ?_
  refine Ev.bind (runs_ev m hm1 _ (hreg.small hn) (by omega)) ?_
  exact counts_l rows (by omega) _ (by omega) (fun r hr2 => by have := h2 r hr2; omega) (runsR_nn m _ _ hnn hnil (by omega)) _ 0 0 rfl (by omega) (by omega) (by rw [List.drop_zero, runsR_cnt m _ _ hnn hnil (by omega)]; omega)
end Go.Proofs.Ytmnepkbmcnpjlaa.Pure
