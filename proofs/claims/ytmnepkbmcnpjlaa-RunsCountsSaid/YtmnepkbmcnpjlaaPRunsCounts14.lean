-- packed by wip/tools/pack.py (a program of this session) out of its own texts
import Derived.ArgAppend
import Derived.Below
import Derived.BigQuiet
import Derived.Deep.AppendLies
import Derived.Deep.CutBlock
import Derived.Deep.DeepCutAuto
import Derived.Deep.Draws
import Derived.Deep.LoopGhost
import Derived.Deep.OwnRows
import Derived.Deep.QuietTactic
import Derived.Deep.RegionHeld3
import Derived.KernelRfl
import Derived.Laws.BitsLemmas
import Derived.Laws.BytesArg
import Derived.Laws.EntriesVeiled
import Derived.Laws.Externs
import Derived.Laws.IdiomCopy
import Derived.Laws.MakeOwn
import Derived.Laws.OwnMore
import Derived.Laws.Rows
import Derived.Laws.Slices
import Derived.Lib.AppendStr
import Derived.Lib.AppendZeros
import Derived.Lib.AppendZerosOnto
import Derived.Lib.ConvBytes
import Derived.Lib.JoinLaws
import Derived.Lib.Overlaps
import Derived.Lib.SliceRun
import Derived.Lib.Walk
import Derived.LoopIn
import Derived.LoopNIn
import Derived.Maps.AppendAt
import Derived.OrdersHeld
import Derived.OrdersIn
import Derived.OwnWalk
import Derived.OwnWalkIn
import Derived.RangeFuncBound
import Derived.RangeFuncBox
import Derived.RangeFuncCalls
import Derived.RangeFuncLeaves
import Derived.RangeFuncNested
import Derived.RangeFuncOwn
import Derived.RowKit
import Derived.RowKit3
import Derived.Shelf.Abstract
import Derived.Shelf.RegionOpen
import Derived.Shelf.RegionOpenPlain
import Derived.Tactics
import Derived.TacticsInMore
import Derived.Test.YtmnepkbmcnpjlaaProg
import Derived.WalkKit
import Derived.WalkSpells
import Derived.WideLaws
import Derived.Test.YtmnepkbmcnpjlaaPRunsCounts1
import Derived.Test.YtmnepkbmcnpjlaaPRunsCounts3
import Derived.Test.YtmnepkbmcnpjlaaPRunsCounts4
import Derived.Test.YtmnepkbmcnpjlaaPRunsCounts5
import Derived.Test.YtmnepkbmcnpjlaaPRunsCounts6
import Derived.Test.YtmnepkbmcnpjlaaPRunsCounts7
import Derived.Test.YtmnepkbmcnpjlaaPRunsCounts8
import Derived.Test.YtmnepkbmcnpjlaaPRunsCounts9
import Derived.Test.YtmnepkbmcnpjlaaPRunsCounts10
import Derived.Test.YtmnepkbmcnpjlaaPRunsCounts11
import Derived.Test.YtmnepkbmcnpjlaaPRunsCounts12
import Derived.Test.YtmnepkbmcnpjlaaPRunsCounts13
namespace Go.Proofs.Ytmnepkbmcnpjlaa.Q
open Go.RowKit Go.Proofs.YtmnepkbmcnpjlaaW.PrintWords Go.Proofs.YtmnepkbmcnpjlaaW.PrintLast Go.Proofs.YtmnepkbmcnpjlaaW.PrintMore
set_option linter.unusedVariables false
set_option linter.unusedSimpArgs false
theorem bsfR_l0 (xs : List S41) (x : S41) (hn : xs.length ≤ 1000000) (hs : ∀ y ∈ xs, SmallC y) (p : Nat) (hp : p ≤ xs.length) (h1 : ∀ m (h : m < xs.length), m < p → lexC (xs[m]).f0 x.f0 < 0) (h2 : ∀ m (h : m < xs.length), p ≤ m → 0 ≤ lexC (xs[m]).f0 x.f0) (d : Nat) :
    ∀ i j : Nat, j - i ≤ d → i ≤ p → p ≤ j → j ≤ xs.length → Ev (fun k => bsf_R1.l0 k xs (xs.length : Int) (i : Int) (j : Int) x.f0 x.f1 x.f2 x.f3 x.f4) ((p : Int), if h : p < xs.length then lexC (xs[p]).f0 x.f0 == 0 else false) := by
  have hcmp : ∀ m (h : m < xs.length), Ev (fun k => runs_by.f k (xs[m]).f0 (xs[m]).f1 (xs[m]).f2 (xs[m]).f3 (xs[m]).f4 x.f0 x.f1 x.f2 x.f3 x.f4) (lexC (xs[m]).f0 x.f0) := fun m h => by
    refine Ev.congr (f := fun k => (cell_Less.f k (xs[m]).f0 x.f0).bind fun t => some t) (fun k => rfl) ?_
    exact Ev.bind (cell_less_ev _ _ (by have := (hs _ (List.getElem_mem h)).1; omega)) (Ev.now _)
  induction d with
  | zero =>
    intro i j hd hip hpj hjn
    have e1 : i = p := by omega
    have e2 : j = p := by omega
    rw [e1, e2]
    by_cases hlt : p < xs.length
    · rw [dif_pos hlt]
      refine Ev.step (f := fun k => (runs_by.f k (xs[p]).f0 (xs[p]).f1 (xs[p]).f2 (xs[p]).f3 (xs[p]).f4 x.f0 x.f1 x.f2 x.f3 x.f4).bind fun t => some ((p : Int), t == 0)) (fun k => by simp only [bsf_R1.l0]; rw [if_neg (by omega), if_pos (by omega), if_pos (by omega), if_pos (by omega), rdC_get hlt]) (Ev.bind (hcmp p hlt) (Ev.now _))
    · rw [dif_neg hlt]
      exact Ev.step (f := fun _ => some ((p : Int), false)) (fun k => by simp only [bsf_R1.l0]; rw [if_neg (by omega), if_neg (by omega)]) (Ev.now _)
  | succ d ih =>
    intro i j hd hip hpj hjn
    by_cases hij : i < j
    · have hh : (i + j) / 2 < xs.length := by omega
      have hstep : ∀ k, bsf_R1.l0 (k + 1) xs (xs.length : Int) (i : Int) (j : Int) x.f0 x.f1 x.f2 x.f3 x.f4 = (runs_by.f k (xs[(i + j) / 2]).f0 (xs[(i + j) / 2]).f1 (xs[(i + j) / 2]).f2 (xs[(i + j) / 2]).f3 (xs[(i + j) / 2]).f4 x.f0 x.f1 x.f2 x.f3 x.f4).bind fun t => if t < 0 then bsf_R1.l0 k xs (xs.length : Int) (((i + j) / 2 + 1 : Nat) : Int) (j : Int) x.f0 x.f1 x.f2 x.f3 x.f4 else bsf_R1.l0 k xs (xs.length : Int) (i : Int) (((i + j) / 2 : Nat) : Int) x.f0 x.f1 x.f2 x.f3 x.f4 := fun k => by
        simp only [bsf_R1.l0]
        rw [if_pos (by omega), wrap_mid i j (by omega), if_pos (by omega), if_pos (by omega), rdC_get hh, w64s hh (by omega)]
      refine Ev.step hstep ?_
      by_cases hlt : (i + j) / 2 < p
      · have c := h1 _ hh hlt
        exact Ev.bind (hcmp _ hh) (Ev.congr (fun k => by rw [if_pos c]) (ih ((i + j) / 2 + 1) j (by omega) (by omega) hpj hjn))
      · have c := h2 _ hh (by omega)
        exact Ev.bind (hcmp _ hh) (Ev.congr (fun k => by rw [if_neg (by omega)]) (ih i ((i + j) / 2) (by omega) hip (by omega) (by omega)))
    · exact ih i j (by omega) hip hpj hjn
theorem has_at (x : S41) (xs : List S41) (hs : SortedC xs) (p : Nat) (h1 : ∀ m (h : m < xs.length), m < p → lexC (xs[m]).f0 x.f0 < 0) (h2 : ∀ m (h : m < xs.length), p ≤ m → 0 ≤ lexC (xs[m]).f0 x.f0) :
    (if h : p < xs.length then lexC (xs[p]).f0 x.f0 == 0 else false) = hasK xs x := by
  rw [Bool.eq_iff_iff]
  constructor
  · intro h
    by_cases hlt : p < xs.length
    · rw [dif_pos hlt] at h
      exact List.any_eq_true.2 ⟨xs[p], List.getElem_mem hlt, h⟩
    · rw [dif_neg hlt] at h; cases h
  · intro h
    obtain ⟨y, hy, he⟩ := List.any_eq_true.1 h
    obtain ⟨m, hm, rfl⟩ := List.getElem_of_mem hy
    have he' : lexC (xs[m]).f0 x.f0 = 0 := by simpa using he
    rcases Nat.lt_trichotomy m p with c | c | c
    · have := h1 m hm c; omega
    · subst c; rw [dif_pos hm]; exact he
    · have hlt : p < xs.length := by omega
      have hpm := (List.pairwise_iff_getElem.1 hs) p m hlt hm c
      rw [(lexC_key he').1] at hpm
      have := h2 p hlt (Nat.le_refl _)
      omega
theorem group_one (x : S41) : groupL [x] = [x] := rfl
theorem runsPut_ev (xs : List S41) (x : S41) (most : Nat) (hn : xs.length ≤ 1000000) (hs : ∀ y ∈ xs, SmallC y) (hx : SmallC x) (ho : SortedC xs) :
    Ev (fun k => runsPut.f k xs x (most : Int)) (if hasK xs x = true ∨ xs.length < most then (true, putL x xs) else (false, xs)) := by
  obtain ⟨p, hp, h1, h2⟩ := place x xs ho
  have hb := bsfR_l0 xs x hn hs p hp h1 h2 xs.length 0 xs.length (by omega) (by omega) hp (by omega)
  have hb' : Ev (fun k => bsf_R1.f k xs x.f0 x.f1 x.f2 x.f3 x.f4) ((p : Int), if h : p < xs.length then lexC (xs[p]).f0 x.f0 == 0 else false) := hb
  have hput := putL_at x p xs hp h1 (fun h => h2 p h (by omega))
  have hhas := has_at x xs ho p h1 h2
  have hg : Ev (fun k => cell_Group.f k [x]) [x] := by
    have := group_ev [x] (by simp) (fun y hy => by rw [List.mem_singleton.1 hy]; exact hx)
    rwa [group_one] at this
  unfold runsPut.f
  refine Ev.bind hb' ?_
  simp only [hhas]
  by_cases hh : hasK xs x = true
  · rw [if_pos (Or.inl hh)]
    rw [hh] at hhas
    have hlt : p < xs.length := Decidable.byContradiction (fun hlt => by rw [dif_neg hlt] at hhas; cases hhas)
    rw [dif_pos hlt] at hput hhas
    have c : lexC (xs[p]).f0 x.f0 = 0 := by simpa using hhas
    rw [if_pos c] at hput
    have hj := Ev.bind (f := fun (_ : Nat) (j : List Int × Int × List Int × List Int × List Int) => some (true, xs.set p (⟨j.1, j.2.1, j.2.2.1, j.2.2.2.1, j.2.2.2.2⟩ : S41))) (join_ev (xs[p]) x (hs _ (List.getElem_mem hlt))) (Ev.now _)
    rw [hput]
    exact Ev.congr (fun k => by rw [if_pos hh, if_pos (by omega), rdC_get hlt, Int.toNat_natCast]) hj
  · have hput' : putL x xs = xs.take p ++ [x] ++ xs.drop p := by
      rw [hput]
      by_cases hlt : p < xs.length
      · rw [dif_pos hlt] at hhas ⊢
        have c : ¬ lexC (xs[p]).f0 x.f0 = 0 := fun c => by rw [c] at hhas; simp at hhas; first | exact hh hhas | exact hh hhas.symm
        rw [if_neg c]; simp
      · rw [dif_neg hlt]; simp
    by_cases hm : xs.length < most
    · rw [if_pos (Or.inr hm), hput']
      refine Ev.congr (fun k => by rw [if_neg hh, if_neg (by omega)]) (Ev.bind hg ?_)
      exact Ev.congr (f := fun _ => some (true, xs.take p ++ [x] ++ xs.drop p)) (fun k => by rw [if_pos ⟨by omega, by omega, by omega, rfl⟩, Int.toNat_natCast]) (Ev.now _)
    · rw [if_neg (by simp [hh]; omega)]
      exact Ev.congr (f := fun _ => some (false, xs)) (fun k => by rw [if_neg hh, if_pos (by omega)]) (Ev.now _)
def runsR (most : Nat) : List S41 → List S41 → List (List S41)
  | held, [] => if 0 < held.length then [held] else []
  | held, c :: cs => if hasK held c = true ∨ held.length < most then runsR most (putL c held) cs else held :: runsR most [c] cs
theorem putL_le {most : Nat} {held : List S41} {c : S41} (ho : SortedC held) (hm : held.length ≤ most) (h : hasK held c = true ∨ held.length < most) : (putL c held).length ≤ most := by
  by_cases hh : hasK held c = true
  · rw [putL_old c held ho hh]; exact hm
  · have := putL_length c held
    have := h.resolve_left hh
    omega
theorem mx_one (most : Nat) (h : 1 ≤ most) : mx (most : Int) 1 = (most : Int) := by unfold mx; split <;> omega
theorem sorted_one (c : S41) : SortedC [c] := List.pairwise_singleton _ _
theorem put_nil_f (most : Nat) (h1 : 1 ≤ most) (c : S41) (hc : SmallC c) : Ev (fun k => runsPut.f k [] c (most : Int)) (true, [c]) := by
  have := runsPut_ev [] c most (by simp) (fun y h => by simp at h) hc List.Pairwise.nil
  rwa [if_pos (Or.inr (by simp; omega))] at this
theorem runsGo_ev (most : Nat) (h1 : 1 ≤ most) : ∀ (cs : List S41) (out : List (List S41)) (held : List S41), (∀ y ∈ cs, SmallC y) → (∀ y ∈ held, SmallC y) → SortedC held → held.length + cs.length ≤ 1000000 → out.length + cs.length ≤ 1000000 →
    ∃ o h, Ev (fun k => runsGo k (most : Int) out held cs) (o, h) ∧ h.length ≤ 1000000 ∧ o.length ≤ 1000000 ∧ (if 0 < h.length then o ++ [h] else o) = out ++ runsR most held cs
  | [], out, held, _, _, _, hb, hb2 => ⟨out, held, Ev.now _, by simpa using hb, by simpa using hb2, by unfold runsR; split <;> simp⟩
  | c :: cs, out, held, hcs, hh, ho, hb, hb2 => by
    have hc := hcs c (by simp)
    have hcs' := fun y h => hcs y (List.mem_cons_of_mem _ h)
    simp only [List.length_cons] at hb hb2
    have hp := runsPut_ev held c most (by omega) hh hc ho
    by_cases h : hasK held c = true ∨ held.length < most
    · rw [if_pos h] at hp
      have := putL_length c held
      obtain ⟨o, h', e1, e2, e3, e4⟩ := runsGo_ev most h1 cs out (putL c held) hcs' (putL_small c hc held hh) (putL_sorted c held ho) (by omega) (by omega)
      refine ⟨o, h', ?_, e2, e3, by rw [e4]; simp only [runsR]; rw [if_pos h]⟩
      refine Ev.congr (fun k => by unfold runsGo; rfl) (Ev.bind hp ?_)
      exact Ev.congr (fun k => by rw [if_pos rfl]) e1
    · rw [if_neg h] at hp
      obtain ⟨o, h', e1, e2, e3, e4⟩ := runsGo_ev most h1 cs (out ++ [held]) [c] hcs' (fun y hy => by rw [List.mem_singleton.1 hy]; exact hc) (sorted_one c) (by simp; omega) (by simp; omega)
      refine ⟨o, h', ?_, e2, e3, by rw [e4]; simp only [runsR]; rw [if_neg h]; simp⟩
      refine Ev.congr (fun k => by unfold runsGo; rfl) (Ev.bind hp ?_)
      refine Ev.congr (fun k => by rw [if_neg (by simp)]; dsimp only; rw [if_pos ⟨by omega, by omega⟩, mx_one most h1]) (Ev.bind (put_nil_f most h1 c hc) ?_)
      exact e1
theorem runs_ev (most : Nat) (h1 : 1 ≤ most) (cs : List S41) (hcs : ∀ y ∈ cs, SmallC y) (hl : cs.length ≤ 1000000) : Ev (fun k => runs_Runs.f k cs (most : Int)) (runsR most [] cs) := by
  obtain ⟨o, h, e1, e2, e3, e4⟩ := runsGo_ev most h1 cs [] [] hcs (fun y h => by simp at h) List.Pairwise.nil (by simpa using hl) (by simpa using hl)
  rw [List.nil_append] at e4
  rw [← e4]
  refine Ev.bind e1 ?_
  refine Ev.congr (f := fun _ => some (if 0 < h.length then o ++ [h] else o)) (fun k => ?_) (Ev.now _)
  dsimp only
  by_cases c : 0 < h.length
  · simp only [if_pos c]
    rw [if_pos ⟨by omega, by omega⟩, Option.bind_some, if_pos (by simp; omega)]
  · simp only [if_neg c]
    rw [Option.bind_some, if_pos (by omega)]
def srtB : List S41 → Bool
  | a :: b :: t => decide (lexC a.f0 b.f0 < 0) && srtB (b :: t)
  | _ => true
theorem srtB_drop {l : List S41} {i : Nat} (h1 : 1 ≤ i) (h : i < l.length) : srtB (l.drop (i - 1)) = (decide (lexC (l[i - 1]).f0 (l[i]).f0 < 0) && srtB (l.drop i)) := by
  rw [drop_cons (i := i - 1) (by omega), show i - 1 + 1 = i by omega, drop_cons h]
  rfl
theorem ref_sorted_l0 (l : List S41) (hs : ∀ y ∈ l, SmallC y) (hl : l.length ≤ 1000000) (d : Nat) : ∀ i : Nat, l.length - i = d → 1 ≤ i → Ev (fun k => hypercuberef5_Sorted.l0 k l (i : Int)) (srtB (l.drop (i - 1))) := by
  have hend : ∀ i : Nat, l.length ≤ i → 1 ≤ i → Ev (fun k => hypercuberef5_Sorted.l0 k l (i : Int)) (srtB (l.drop (i - 1))) := fun i hi h1 => by
    have e : srtB (l.drop (i - 1)) = true := by
      by_cases c : i - 1 < l.length
      · rw [drop_cons c, List.drop_eq_nil_of_le (by omega)]; rfl
      · rw [List.drop_eq_nil_of_le (by omega)]; rfl
    rw [e]
    exact Ev.step (f := fun _ => some true) (fun k => by simp only [hypercuberef5_Sorted.l0]; rw [if_neg (by omega)]) (Ev.now _)
  induction d with
  | zero => exact fun i hd h1 => hend i (by omega) h1
  | succ d ih =>
    intro i hd h1
    have hlt : i < l.length := by omega
    have hlt' : i - 1 < l.length := by omega
    have hw : wrap64 ((i : Int) - 1) = ((i - 1 : Nat) : Int) := by rw [w64 (by omega) (by omega)]; omega
    rw [srtB_drop h1 hlt]
    refine Ev.step (f := fun k => (hypercuberef2_Less.f k (l[i - 1]).f0 (l[i]).f0).bind fun t => if t ≥ 0 then some false else hypercuberef5_Sorted.l0 k l ((i + 1 : Nat) : Int)) (fun k => ?_) (Ev.bind (ref_less_ev (l[i - 1]).f0 (l[i]).f0 (by have := (hs _ (List.getElem_mem hlt')).1; omega)) ?_)
    · simp only [hypercuberef5_Sorted.l0]
      rw [if_pos (by omega), hw, if_pos (by omega), if_pos (by omega), if_pos (by omega), rdC_get hlt, rdC_get hlt', w64s hlt (by omega)]
    · by_cases c : lexC (l[i - 1]).f0 (l[i]).f0 ≥ 0
      · rw [decide_eq_false (by omega), Bool.false_and]
        exact Ev.congr (fun k => by rw [if_pos c]) (Ev.now _)
      · rw [decide_eq_true (by omega), Bool.true_and]
        have := ih (i + 1) (by omega) (by omega)
        rw [Nat.add_sub_cancel] at this
        exact Ev.congr (fun k => by rw [if_neg c]) this
theorem ref_sorted_ev {l : List S41} (hs : ∀ y ∈ l, SmallC y) (hl : l.length ≤ 1000000) : Ev (fun k => hypercuberef5_Sorted.f k l) (srtB l) := by
  have h : Ev (fun k => hypercuberef5_Sorted.l0 k l 1) (srtB l) := ref_sorted_l0 l hs hl (l.length - 1) 1 rfl (Nat.le_refl 1)
  exact Ev.congr (fun k => by unfold hypercuberef5_Sorted.f; rfl) h
theorem rdL_get {l : List (List S41)} {i : Nat} (h : i < l.length) : rd_L3 l (i : Int) = l[i] := by simp [rd_L3, List.getD_eq_getElem?_getD, h]
theorem runsR_bounds (most : Nat) (h1 : 1 ≤ most) : ∀ (cs held : List S41), SortedC held → held.length ≤ most → (held = [] ∨ 0 < held.length) →
    ∀ (i : Nat) (h : i < (runsR most held cs).length), 1 ≤ ((runsR most held cs)[i]).length ∧ ((runsR most held cs)[i]).length ≤ most ∧ (i + 1 < (runsR most held cs).length → ((runsR most held cs)[i]).length = most) ∧ SortedC ((runsR most held cs)[i])
  | [], held, ho, hm, _, i, h => by
    unfold runsR at h ⊢
    by_cases c : 0 < held.length
    · simp only [if_pos c] at h ⊢
      have : i = 0 := by simpa using h
      subst this
      exact ⟨c, hm, fun h => by simp at h, ho⟩
    · simp only [if_neg c] at h; simp at h
  | c :: cs, held, ho, hm, hne, i, h => by
    by_cases hc : hasK held c = true ∨ held.length < most
    · have e : runsR most held (c :: cs) = runsR most (putL c held) cs := by simp only [runsR]; rw [if_pos hc]
      have ih := runsR_bounds most h1 cs (putL c held) (putL_sorted c held ho) (putL_le ho hm hc) (by cases h : putL c held <;> simp)
      simp only [e] at h ⊢
      exact ih i h
    · have e : runsR most held (c :: cs) = held :: runsR most [c] cs := by simp only [runsR]; rw [if_neg hc]
      have ih := runsR_bounds most h1 cs [c] (sorted_one c) (by simpa using h1) (.inr (by simp))
      have hfull : held.length = most := by
        have : ¬ held.length < most := fun h => hc (.inr h)
        omega
      simp only [e] at h ⊢
      cases i with
      | zero => simp only [List.getElem_cons_zero]; exact ⟨by omega, hm, fun _ => hfull, ho⟩
      | succ i =>
        simp only [List.getElem_cons_succ, List.length_cons] at h ⊢
        have := ih i (by omega)
        exact ⟨this.1, this.2.1, fun h => this.2.2.1 (by omega), this.2.2.2⟩
theorem runsR_total (most : Nat) : ∀ (cs held : List S41), (runsR most held cs).flatten.length ≤ held.length + cs.length
  | [], held => by unfold runsR; split <;> simp
  | c :: cs, held => by
    simp only [runsR]
    split
    · have := runsR_total most cs (putL c held)
      have := putL_length c held
      simp only [List.length_cons]; omega
    · have := runsR_total most cs [c]
      have e1 : ([c] : List S41).length = 1 := rfl
      rw [List.flatten_cons, List.length_append, List.length_cons]
      omega
theorem runsR_len (most : Nat) (h1 : 1 ≤ most) (cs : List S41) : (runsR most [] cs).length ≤ cs.length ∧ ∀ r ∈ runsR most [] cs, r.length ≤ cs.length := by
  have ht := runsR_total most cs []
  simp only [List.length_nil, Nat.zero_add] at ht
  have hb := runsR_bounds most h1 cs [] List.Pairwise.nil (by simp) (.inl rfl)
  generalize runsR most [] cs = rs at ht hb
  have hsum : ∀ l : List (List S41), (∀ r ∈ l, 1 ≤ r.length) → l.length ≤ l.flatten.length ∧ ∀ r ∈ l, r.length ≤ l.flatten.length := by
    intro l
    induction l with
    | nil => intro _; exact ⟨by simp, fun r h => by simp at h⟩
    | cons x l ih =>
      intro h
      obtain ⟨i1, i2⟩ := ih (fun r hr => h r (List.mem_cons_of_mem _ hr))
      have := h x (by simp)
      refine ⟨by simp only [List.length_cons, List.flatten_cons, List.length_append]; omega, fun r hr => ?_⟩
      rcases List.mem_cons.1 hr with e | e
      · rw [e]; simp
      · have := i2 r e; simp only [List.flatten_cons, List.length_append]; omega
  obtain ⟨s1, s2⟩ := hsum rs (fun r hr => by
    obtain ⟨i, hi, rfl⟩ := List.getElem_of_mem hr
    exact (hb i hi).1)
  exact ⟨by omega, fun r hr => by have := s2 r hr; omega⟩
theorem runsR_cnt (most : Nat) : ∀ (cs held : List S41), NonNeg cs → NonNeg held → cnt held + cnt cs ≤ 4611686018427387904 → cnt (runsR most held cs).flatten = cnt held + cnt cs
  | [], held, _, _, _ => by
    unfold runsR
    by_cases c : 0 < held.length
    · rw [if_pos c]; simp [cnt]
    · rw [if_neg c]
      have : held = [] := by cases held <;> simp_all
      rw [this]; rfl
  | c :: cs, held, hc, hh, hb => by
    have h0 := hc c (by simp)
    have hcs : NonNeg cs := fun x hx => hc x (List.mem_cons_of_mem _ hx)
    have hn := cnt_nn cs hcs
    rw [cnt_cons] at hb ⊢
    simp only [runsR]
    split
    · obtain ⟨p1, p2⟩ := cnt_put c h0 held hh (by omega)
      rw [runsR_cnt most cs (putL c held) hcs p2 (by omega), p1]; omega
    · have hone : cnt [c] = c.f1 := by simp [cnt]
      have hhn := cnt_nn held hh
      rw [List.flatten_cons, cnt_append, runsR_cnt most cs [c] hcs (fun x hx => by rw [List.mem_singleton.1 hx]; exact h0) (by rw [hone]; omega), hone]
theorem within5_eq (a n : Int) (h0 : 0 < n) (h1 : n ≤ 4611686018427387904) : hypercubelaw5_within.f a n = some (a % n) := by
  have := within2_eq a n h0 h1
  unfold hypercubelaw2_within.f at this
  unfold hypercubelaw5_within.f
  exact this
theorem most_eq (a : Int) (m : Nat) (h0 : 0 < m) (h1 : m ≤ 1000) : ∃ k : Nat, 1 ≤ k ∧ k ≤ m ∧ hypercubelaw5_within.f a (m : Int) = some (a % m) ∧ wrap64 (1 + a % (m : Int)) = (k : Int) := by
  have b0 := Int.emod_nonneg a (show (m : Int) ≠ 0 by omega)
  have b1 := Int.emod_lt_of_pos a (show (0 : Int) < m by omega)
  refine ⟨(1 + a % (m : Int)).toNat, by omega, by omega, within5_eq _ _ (by omega) (by omega), ?_⟩
  rw [w64 (by omega) (by omega)]; omega
end Go.Proofs.Ytmnepkbmcnpjlaa.Q
namespace Go.Proofs.Ytmnepkbmcnpjlaa.Q
open Go.RowKit Go.Proofs.YtmnepkbmcnpjlaaW.PrintWords Go.Proofs.YtmnepkbmcnpjlaaW.PrintLast Go.Proofs.YtmnepkbmcnpjlaaW.PrintMore
set_option linter.unusedVariables false
set_option linter.unusedSimpArgs false
theorem known_runs : runs_Runs.f 9 [⟨[2], 1, [], [], []⟩, ⟨[1], 1, [], [], []⟩] 2 = some [[⟨[1], 1, [], [], []⟩, ⟨[2], 1, [], [], []⟩]] := by kernel_rfl
theorem known_runs0 : runs_Runs.f 9 [] 1 = some [] := by kernel_rfl
theorem known_sorted : runs_Sorted.f 9 [⟨[1], 1, [], [], []⟩, ⟨[2], 1, [], [], []⟩] = some true := by kernel_rfl
theorem known_not : runs_Sorted.f 9 [⟨[2], 1, [], [], []⟩, ⟨[1], 1, [], [], []⟩] = some false := by kernel_rfl
theorem rC_of_blk {w : World} {g : Nat} {xs : List Int} (h : w.heap[g]? = some (.cells (encs (Value.int .i64) xs).toArray 3 (0, 0))) (hl : xs.length ≤ maxLen) : Kd.C (Kd.int .i64) w (some ⟨g, 0, none⟩) xs.length xs := by
  have hR : Kd.R (Kd.int .i64) 3 w 0 (fun _ => True) (.slice (some ⟨g, 0, none⟩) xs.length xs.length) xs := by
    refine Kd.R_of_own (h1 := fun _ => rfl) ⟨by rw [encs_length, Nat.mul_one], .inr ⟨g, xs.length, _, rfl, Nat.zero_le _, h, Nat.le_refl _, hl, ?_, ?_⟩⟩ (fun _ _ => trivial)
    · rw [List.size_toArray, encs_length, Nat.mul_one]
    · rw [Nat.mul_one, ← encs_length (enc := Value.int .i64) xs]
      exact List.take_length
  exact (Kd.R_reads' hR).2.2
theorem rC_two {w : World} {g : Nat} {x y : S41} {cs ds : List Value} (h : w.heap[g]? = some (.cells (cs ++ ds).toArray 41 (0, 0))) (hx : k41.K w x cs) (hy : k41.K w y ds) : Kd.C k41 w (some ⟨g, 0, none⟩) [x, y].length [x, y] := by
  have hl : cs.length = 5 := k41.K_len hx
  have hl2 : ds.length = 5 := k41.K_len hy
  refine ⟨rfl, by simp, fun _ => ⟨_, rfl, fun j p hj => ?_⟩⟩
  have hj2 : j < 2 := (List.getElem?_eq_some_iff.1 hj).1
  match j, hj2, hj with
  | 0, _, hj =>
    have hm : p = x := by simpa using hj.symm
    refine ⟨cs, hl, by rw [hm]; exact hx, fun i u hu => ?_⟩
    have hi : i < cs.length := (List.getElem?_eq_some_iff.1 hu).1
    rw [Addr.add_lit, cell_of_row w g _ _ _ _ h, List.getElem?_toArray, Nat.zero_add, show 0 * k41.sz + i = i by omega, List.getElem?_append_left hi]
    exact hu
  | 1, _, hj =>
    have hm : p = y := by simpa using hj.symm
    refine ⟨ds, hl2, by rw [hm]; exact hy, fun i u hu => ?_⟩
    rw [Addr.add_lit, cell_of_row w g _ _ _ _ h, List.getElem?_toArray, Nat.zero_add, show 1 * k41.sz + i = cs.length + i by rw [hl]; rfl, List.getElem?_append_right (by omega), Nat.add_sub_cancel_left]
    exact hu
theorem new_at {w : World} {n : Nat} (o : Obj) (h : w.heap.size = n) : (w.alloc o).heap[n]? = some o := by rw [← h]; exact heap_alloc_new w o
def hypercubelaw5_known.f : Option Bool := some true
set_option maxHeartbeats 8000000 in
set_option maxRecDepth 100000 in
theorem hypercubelaw5_known.calls (r : Bool) (w : World) (h : hypercubelaw5_known.f = some r) :
    Calls Try.prog 12 #[] w fun e w' => e = .returned (.bool r) ∧ Below w.heap.size w w' := by
 have e : true = r := Option.some.inj h
 subst e
 clear h
 have HB := Aside0.mk (Below.refl w.heap.size w)
 have hu41 := Try.underlying41
 have hkk : ∀ (W : World) (g1 : Nat) (x : Int), W.heap[g1]? = some (.cells #[.int .i64 x] 3 (0, 0)) → k41.K W (⟨[x], 1, [], [], []⟩ : S41) [.slice (some ⟨g1, 0, none⟩) 1 1, .int .i64 1, .slice none 0 0, .slice none 0 0, .slice none 0 0] := fun W g1 x h1 =>
  k41_mk W (⟨[x], 1, [], [], []⟩ : S41) (c0 := 1) (c2 := 0) (c3 := 0) (c4 := 0) (Nat.le_refl 1) (rC_of_blk (xs := [x]) h1 (by show 1 ≤ maxLen; decide)) (Nat.le_refl 0) (Kd.C_nil _ _) (Nat.le_refl 0) (Kd.C_nil _ _) (Nat.le_refl 0) (Kd.C_nil _ _)
 go_enter Try.func12, Try.ntmps12
 go_wp2_with (first
  | ((with_reducible refine gate_callee (f := 18) rfl ?_)
     refine goesL_ (some 11) rfl rfl Try.func18 (by kernel_rfl) rfl #[.slice (some ⟨w.heap.size + 1 + 1 + 1 + 1, 0, none⟩) 2 2, .int .i64 2] rfl (by (try simp only [List.map_toArray, List.map_cons, List.map_nil]); first | done | rfl) ?_
     refine name_calls ?_
     intro w2 hw2
     have b0 : w2.heap[w.heap.size]? = some (.cells #[.int .i64 2] 3 (0, 0)) := by rw [hw2]; exact blk_alloc (blk_alloc (blk_alloc (blk_alloc (new_at _ (by simp only [World.size_alloc])) _) _) _) _
     have b1 : w2.heap[w.heap.size + 1]? = some (.cells #[.int .i64 1] 3 (0, 0)) := by rw [hw2]; exact blk_alloc (blk_alloc (blk_alloc (new_at _ (by simp only [World.size_alloc])) _) _) _
     have b2 : w2.heap[w.heap.size + 1 + 1]? = some (.cells #[.slice (some ⟨w.heap.size, 0, none⟩) 1 1, .int .i64 1, .slice none 0 0, .slice none 0 0, .slice none 0 0] 41 (0, 0)) := by rw [hw2]; exact blk_alloc (blk_alloc (new_at _ (by simp only [World.size_alloc])) _) _
     have b3 : w2.heap[w.heap.size + 1 + 1 + 1]? = some (.cells #[.slice (some ⟨w.heap.size + 1, 0, none⟩) 1 1, .int .i64 1, .slice none 0 0, .slice none 0 0, .slice none 0 0] 41 (0, 0)) := by rw [hw2]; exact blk_alloc (new_at _ (by simp only [World.size_alloc])) _
     have b4 : w2.heap[w.heap.size + 1 + 1 + 1 + 1]? = some (.cells (([.slice (some ⟨w.heap.size, 0, none⟩) 1 1, .int .i64 1, .slice none 0 0, .slice none 0 0, .slice none 0 0] : List Value) ++ ([.slice (some ⟨w.heap.size + 1, 0, none⟩) 1 1, .int .i64 1, .slice none 0 0, .slice none 0 0, .slice none 0 0] : List Value)).toArray 41 (0, 0)) := by rw [hw2]; exact new_at _ (by simp only [World.size_alloc])
     have n0_ : Aside0 (Below w.heap.size w w2) := Aside0.mk (by rw [hw2]; exact below_alloc (below_alloc (below_alloc (below_alloc (below_alloc HB.out _) _) _) _) _)
     clear HB
     have HB := n0_
     clear n0_ hw2
     refine (runs_Runs.calls 9 (some ⟨w.heap.size + 1 + 1 + 1 + 1, 0, none⟩) 2 [(⟨[2], 1, [], [], []⟩ : S41), (⟨[1], 1, [], [], []⟩ : S41)] 2 _ w2 (rC_two b4 (hkk w2 _ 2 b0) (hkk w2 _ 1 b1)) (by decide) known_runs).mono ?_
     rintro e w3 ⟨v, rfl, hR, hb⟩
     refine ⟨_, rfl, ?_⟩
     obtain ⟨A, c, rfl⟩ := Kd.R_slice hR
     have hC := (Kd.R_reads' hR).2.2
     obtain ⟨ad, rfl, hcell⟩ := hC.2.2 (by decide)
     obtain ⟨g, rfl⟩ := Kd.R_head hR
     obtain ⟨cs, hcl, ⟨A1, c1, rfl, hc1, hK1⟩, hcc⟩ := hcell 0 _ rfl
     have x0 := hcc 0 _ rfl
     have x0' : w3.cell? ⟨g, 0, none⟩ = some (.slice A1 2 c1) := x0
     have HK1 := Aside0.mk hK1
     have HLc := Aside0.mk hc1
     have n0_ := Aside0.mk (below_step HB.out hb)
     have m0_ := Aside0.mk (blk_below b0 hb)
     have m1_ := Aside0.mk (blk_below b1 hb)
     have m2_ := Aside0.mk (blk_below b2 hb)
     have m3_ := Aside0.mk (blk_below b3 hb)
     clear HB b0 b1 b2 b3 b4 hC hR hcell hcc x0 hc1 hK1 hb
     have HB := n0_
     clear n0_)
  | ((with_reducible refine gate_callee (f := 18) rfl ?_)
     refine goesL_ (some 12) rfl rfl Try.func18 (by kernel_rfl) rfl #[.slice none 0 0, .int .i64 1] rfl (by (try simp only [List.map_toArray, List.map_cons, List.map_nil]); first | done | rfl) ?_
     refine (runs_Runs.calls 9 none 0 [] 1 _ w3 (Kd.C_nil _ _) (by decide) known_runs0).mono ?_
     rintro e w4 ⟨v, rfl, hR, hb⟩
     refine ⟨_, rfl, ?_⟩
     obtain ⟨A2, c2, rfl⟩ := Kd.R_slice hR
     have x0 : w4.cell? ⟨g, 0, none⟩ = some (.slice A1 2 c1) := (hb.cell (World.block_lt_of_cell? _ _ x0')).trans x0'
     have k_ := Aside0.mk (Kd.C_below HK1.out hb)
     have n0_ := Aside0.mk (below_step HB.out hb)
     have p0_ := Aside0.mk (blk_below m0_.out hb)
     have p1_ := Aside0.mk (blk_below m1_.out hb)
     have p2_ := Aside0.mk (blk_below m2_.out hb)
     have p3_ := Aside0.mk (blk_below m3_.out hb)
     clear HB x0' HK1 m0_ m1_ m2_ m3_ hR hb
     have HB := n0_
     clear n0_)
  | ((with_reducible refine gate_callee (f := 20) rfl ?_)
     (try (refine gate_guard (by rfl) ?_; dsimp only))
     refine goesL_ (some 31) rfl rfl Try.func20 (by kernel_rfl) rfl #[.slice A1 2 c1] rfl (by (try simp only [List.map_toArray, List.map_cons, List.map_nil]); first | done | rfl) ?_
     refine (runs_Sorted.calls 9 A1 c1 [(⟨[1], 1, [], [], []⟩ : S41), (⟨[2], 1, [], [], []⟩ : S41)] _ w4 k_.out HLc.out known_sorted).mono ?_
     rintro e w5 ⟨rfl, hb⟩
     refine ⟨_, rfl, ?_⟩
     have n0_ := Aside0.mk (below_step HB.out hb)
     have q0_ := Aside0.mk (blk_below p0_.out hb)
     have q1_ := Aside0.mk (blk_below p1_.out hb)
     have b2 := blk_below p2_.out hb
     have b3 := blk_below p3_.out hb
     have y20 := (blk_cell b2 0).trans rfl
     have y21 := (blk_cell b2 1).trans rfl
     have y22 := (blk_cell b2 2).trans rfl
     have y23 := (blk_cell b2 3).trans rfl
     have y24 := (blk_cell b2 4).trans rfl
     have y30 := (blk_cell b3 0).trans rfl
     have y31 := (blk_cell b3 1).trans rfl
     have y32 := (blk_cell b3 2).trans rfl
     have y33 := (blk_cell b3 3).trans rfl
     have y34 := (blk_cell b3 4).trans rfl
     clear HB p0_ p1_ p2_ p3_ k_ x0 b2 b3 hb
     have HB := n0_
     clear n0_)
  | ((with_reducible refine gate_callee (f := 20) rfl ?_)
     (try (refine gate_guard (by rfl) ?_; dsimp only))
     refine goesL_ (some 37) rfl rfl Try.func20 (by kernel_rfl) rfl #[.slice (some ⟨w5.heap.size, 0, none⟩) 2 2] rfl (by (try simp only [List.map_toArray, List.map_cons, List.map_nil]); first | done | rfl) ?_
     refine name_calls ?_
     intro w6 hw6
     have b4 : w6.heap[w5.heap.size]? = some (.cells (([.slice (some ⟨w.heap.size, 0, none⟩) 1 1, .int .i64 1, .slice none 0 0, .slice none 0 0, .slice none 0 0] : List Value) ++ ([.slice (some ⟨w.heap.size + 1, 0, none⟩) 1 1, .int .i64 1, .slice none 0 0, .slice none 0 0, .slice none 0 0] : List Value)).toArray 41 (0, 0)) := by rw [hw6]; exact heap_alloc_new _ _
     have r0 : w6.heap[w.heap.size]? = some (.cells #[.int .i64 2] 3 (0, 0)) := by rw [hw6]; exact blk_alloc q0_.out _
     have r1 : w6.heap[w.heap.size + 1]? = some (.cells #[.int .i64 1] 3 (0, 0)) := by rw [hw6]; exact blk_alloc q1_.out _
     have n0_ : Aside0 (Below w.heap.size w w6) := Aside0.mk (by rw [hw6]; exact below_alloc HB.out _)
     clear HB
     have HB := n0_
     clear n0_ hw6
     refine (runs_Sorted.calls 9 (some ⟨w5.heap.size, 0, none⟩) 2 [(⟨[2], 1, [], [], []⟩ : S41), (⟨[1], 1, [], [], []⟩ : S41)] _ w6 (rC_two b4 (hkk w6 _ 2 r0) (hkk w6 _ 1 r1)) (by decide) known_not).mono ?_
     rintro e w7 ⟨rfl, hb⟩
     refine ⟨_, rfl, ?_⟩
     have n0_ := Aside0.mk (below_step HB.out hb)
     clear HB r0 r1 b4 hb
     have HB := n0_
     clear n0_))
 go_ret
 exact ⟨rfl, HB.out⟩
end Go.Proofs.Ytmnepkbmcnpjlaa.Q
namespace Go.Proofs.Ytmnepkbmcnpjlaa.Q
open Go.RowKit Go.Proofs.YtmnepkbmcnpjlaaW.PrintWords Go.Proofs.YtmnepkbmcnpjlaaW.PrintLast Go.Proofs.YtmnepkbmcnpjlaaW.PrintMore
attribute [local go_sem] max2_int min2_int max_two min_two max_three min_three max_four min_four
set_option linter.unusedVariables false
set_option linter.unusedSimpArgs false
mutual
def hypercubelaw5_RunsCounts.l0 : Nat → List (S45) → List (List (S41)) → Int → Int → Option (Bool)
 | 0, _, _, _, _ => none
 | k + 1, x14, x16, x17, x18 => if x18 < (x16.length : Int) then (hypercubelaw5_RunsCounts.l1 k x14 x16 x17 x18 0) else (if x17 = (x14.length : Int) then ((hypercuberef5_Sorted.f k ([] : List (S41))).bind fun t651 => (some t651)) else (none))
def hypercubelaw5_RunsCounts.l1 : Nat → List (S45) → List (List (S41)) → Int → Int → Int → Option (Bool)
 | 0, _, _, _, _, _ => none
 | k + 1, x14, x16, x17, x18, x19 => if 0 ≤ x18 then (if x18 < (x16.length : Int) then (if x19 < ((rd_L3 x16 x18).length : Int) then (if 0 ≤ x19 then (hypercubelaw5_RunsCounts.l1 k x14 x16 (wrap64 (x17 + ((rd_T41 (rd_L3 x16 x18) x19).f1))) x18 (wrap64 (x19 + 1))) else (none)) else (hypercubelaw5_RunsCounts.l0 k x14 x16 x17 (wrap64 (x18 + 1)))) else (none)) else (none)
end
def hypercubelaw5_RunsCounts.f (k : Nat) (a0 : Int) (l1 : List Int) (a2 : Int) (l3 : List Int) (a4 : Int) (a5 : Int) : Option (Bool) := (hypercubelaw5_known.f).bind fun t634 => (if t634 = true then ((hypercubelaw1_Facts.f k a0 l1 a2 l3).bind fun bt635 => ((hypercubelaw2_Set.f bt635.1 bt635.2.1 a4).bind fun t643 => ((hypercubelaw2_Make.f k bt635.2.2 t643).bind fun t644 => ((hypercubelaw5_within.f a5 9).bind fun t647 => ((runs_Runs.f k t644 (wrap64 (1 + t647))).bind fun t648 => (hypercubelaw5_RunsCounts.l0 k bt635.2.2 t648 0 0)))))) else (none))
set_option maxHeartbeats 8000000 in
set_option maxRecDepth 100000 in
theorem hypercubelaw5_RunsCounts.calls (k : Nat) (a0 : Int) (A1 : Option Addr) (c1 : Nat) (l1 : List Int) (a2 : Int) (A3 : Option Addr) (c3 : Nat) (l3 : List Int) (a4 : Int) (a5 : Int) (r : Bool) (w : World) (hr1 : Kd.C (Kd.int .i64) w A1 l1.length l1) (hc1 : l1.length ≤ c1) (hr3 : Kd.C (Kd.int .i64) w A3 l3.length l3) (hc3 : l3.length ≤ c3) (h : hypercubelaw5_RunsCounts.f k a0 l1 a2 l3 a4 a5 = some r) :
  Calls Try.prog 11 #[.int .i64 a0, .slice A1 l1.length c1, .int .i64 a2, .slice A3 l3.length c3, .int .i64 a4, .int .i64 a5] w fun e w' => e = .returned (.bool r) ∧ Below w.heap.size w w' := by
 have hu25 := Try.underlying25
 have HR1 := Aside0.mk hr1
 have HC1 := Aside0.mk hc1
 clear hr1 hc1
 have HR3 := Aside0.mk hr3
 have HC3 := Aside0.mk hc3
 clear hr3 hc3
 have HB := Aside0.mk (Below.refl w.heap.size w)
 have H : ((hypercubelaw5_known.f).bind fun t634 => (if t634 = true then ((hypercubelaw1_Facts.f k a0 l1 a2 l3).bind fun bt635 => ((hypercubelaw2_Set.f bt635.1 bt635.2.1 a4).bind fun t643 => ((hypercubelaw2_Make.f k bt635.2.2 t643).bind fun t644 => ((hypercubelaw5_within.f a5 9).bind fun t647 => ((runs_Runs.f k t644 (wrap64 (1 + t647))).bind fun t648 => (hypercubelaw5_RunsCounts.l0 k bt635.2.2 t648 0 0)))))) else (none))) = some r := h
 clear h
 replace H := Option.bind_eq_some_iff.mp H
 obtain ⟨t634, A70, H⟩ := H
 replace H : (if t634 = true then ((hypercubelaw1_Facts.f k a0 l1 a2 l3).bind fun bt635 => ((hypercubelaw2_Set.f bt635.1 bt635.2.1 a4).bind fun t643 => ((hypercubelaw2_Make.f k bt635.2.2 t643).bind fun t644 => ((hypercubelaw5_within.f a5 9).bind fun t647 => ((runs_Runs.f k t644 (wrap64 (1 + t647))).bind fun t648 => (hypercubelaw5_RunsCounts.l0 k bt635.2.2 t648 0 0)))))) else (none)) = some r := H
 have A7 := Aside0.mk A70
 clear A70
 by_cases c8 : t634 = true
 ·subst c8
  have H1 : ((hypercubelaw1_Facts.f k a0 l1 a2 l3).bind fun bt635 => ((hypercubelaw2_Set.f bt635.1 bt635.2.1 a4).bind fun t643 => ((hypercubelaw2_Make.f k bt635.2.2 t643).bind fun t644 => ((hypercubelaw5_within.f a5 9).bind fun t647 => ((runs_Runs.f k t644 (wrap64 (1 + t647))).bind fun t648 => (hypercubelaw5_RunsCounts.l0 k bt635.2.2 t648 0 0)))))) = some r := by rw [if_pos rfl] at H; exact H
  clear H
  have H := H1
  clear H1
  replace H := Option.bind_eq_some_iff.mp H
  obtain ⟨⟨t635, t638, t639⟩, A90, H⟩ := H
  replace H : ((hypercubelaw2_Set.f t635 t638 a4).bind fun t643 => ((hypercubelaw2_Make.f k t639 t643).bind fun t644 => ((hypercubelaw5_within.f a5 9).bind fun t647 => ((runs_Runs.f k t644 (wrap64 (1 + t647))).bind fun t648 => (hypercubelaw5_RunsCounts.l0 k t639 t648 0 0))))) = some r := H
  have A9 := Aside0.mk A90
  clear A90
  replace H := Option.bind_eq_some_iff.mp H
  obtain ⟨t643, A100, H⟩ := H
  replace H : ((hypercubelaw2_Make.f k t639 t643).bind fun t644 => ((hypercubelaw5_within.f a5 9).bind fun t647 => ((runs_Runs.f k t644 (wrap64 (1 + t647))).bind fun t648 => (hypercubelaw5_RunsCounts.l0 k t639 t648 0 0)))) = some r := H
  have A10 := Aside0.mk A100
  clear A100
  replace H := Option.bind_eq_some_iff.mp H
  obtain ⟨t644, A110, H⟩ := H
  replace H : ((hypercubelaw5_within.f a5 9).bind fun t647 => ((runs_Runs.f k t644 (wrap64 (1 + t647))).bind fun t648 => (hypercubelaw5_RunsCounts.l0 k t639 t648 0 0))) = some r := H
  have A11 := Aside0.mk A110
  clear A110
  replace H := Option.bind_eq_some_iff.mp H
  obtain ⟨t647, A120, H⟩ := H
  replace H : ((runs_Runs.f k t644 (wrap64 (1 + t647))).bind fun t648 => (hypercubelaw5_RunsCounts.l0 k t639 t648 0 0)) = some r := H
  have A12 := Aside0.mk A120
  clear A120
  replace H := Option.bind_eq_some_iff.mp H
  obtain ⟨t648, A130, H⟩ := H
  replace H : (hypercubelaw5_RunsCounts.l0 k t639 t648 0 0) = some r := H
  have A13 := Aside0.mk A130
  clear A130
  have H' := Aside0.mk H
  clear H
  go_enter Try.func11, Try.ntmps11
  go_wp2_with (first | ((with_reducible refine gate_callee (f := 12) rfl ?_); refine goesL_ (some 20) rfl rfl Try.func12 (by kernel_rfl) rfl #[] rfl (by (try simp only [List.map_toArray, List.map_cons, List.map_nil]); first | done | rfl | (simp only [List.length_drop, List.length_take]; rfl)) ?_; (with_reducible refine (hypercubelaw5_known.calls  true _ A7.out).mono ?_); rintro e w14 ⟨rfl, hb⟩; refine ⟨_, rfl, ?_⟩; have n0_ := Aside0.mk (below_step (by repeat (first | (with_reducible first | exact HB.out | apply below_alloc | apply pw_below_drewN | apply below_drew1) | exact HB.out)) hb); clear HB; have HB := n0_; clear n0_; (try clear hb); (try clear hb2); (try clear hk); (try clear hi)) | ((with_reducible refine gate_callee (f := 13) rfl ?_); refine goesL_ (some 27) rfl rfl Try.func13 (by kernel_rfl) rfl #[.int .i64 a0, .slice A1 l1.length c1, .int .i64 a2, .slice A3 l3.length c3] rfl (by (try simp only [List.map_toArray, List.map_cons, List.map_nil]); first | done | rfl | (simp only [List.length_drop, List.length_take]; rfl)) ?_; (with_reducible refine (hypercubelaw1_Facts.calls k a0 _ _ l1 a2 _ _ l3 t635 t638 t639 _ ?side1 ?side2 ?side3 ?side4 A9.out).mono ?_); (case side1 => repeat (first | exact (Kd.C_below HR1.out HB.out) | (with_reducible refine Kd.C_alloc ?_ _) | (with_reducible refine Kd.C_drewN ?_ _) | (with_reducible refine Kd.C_drew ?_))); (case side2 => exact HC1.out); (case side3 => repeat (first | exact (Kd.C_below HR3.out HB.out) | (with_reducible refine Kd.C_alloc ?_ _) | (with_reducible refine Kd.C_drewN ?_ _) | (with_reducible refine Kd.C_drew ?_))); (case side4 => exact HC3.out); rintro e w15 ⟨v636, v640, rfl, ho0, ho1, hb⟩; refine ⟨_, rfl, ?_⟩; have n0_ := Aside0.mk (Kd.R_lower ho0 (below_size (by repeat (first | (with_reducible first | exact HB.out | apply below_alloc | apply pw_below_drewN | apply below_drew1) | exact HB.out)))); have n1_ := Aside0.mk (Kd.S_lower ho1 (below_size (by repeat (first | (with_reducible first | exact HB.out | apply below_alloc | apply pw_below_drewN | apply below_drew1) | exact HB.out)))); have n2_ := Aside0.mk (below_step (by repeat (first | (with_reducible first | exact HB.out | apply below_alloc | apply pw_below_drewN | apply below_drew1) | exact HB.out)) hb); clear HB; have HO637 := n0_; have HO641 := n1_; have HB := n2_; clear n0_ n1_ n2_; (try clear hb); (try clear hb2); (try clear hk); (try clear hi); (try clear ho0); (try clear ho1)) | ((with_reducible refine gate_dst (N := 13) rfl ?_); refine box_event ?hg (N := 13) ?hd (cs := #[.slice none 0 0, .int .i64 0]) (t := 25) ?hr ?_; (case hd => rfl); (case hg => rfl); (case hr => first | (go_simp; done) | (go_simp; rfl)); intro gb642 hg w16 hbox hb; have n0_ := Aside0.mk (Kd.R_below (by (with_reducible repeat (first | apply Kd.R_alloc | apply Kd.R_drewN | apply Kd.R_drew)); exact HO637.out) hb); have n1_ := Aside0.mk (Kd.S_below (by (with_reducible repeat (first | apply Kd.S_alloc | apply Kd.S_drewN | apply Kd.S_drew)); exact HO641.out) hb); have n2_ := Aside0.mk (below_step (by repeat (first | (with_reducible first | exact HB.out | apply below_alloc | apply pw_below_drewN | apply below_drew1) | exact HB.out)) hb); have n3_ := Aside0.mk (hbox); have n4_ := Aside0.mk ((by rw [hg]; exact (below_size (by repeat (first | (with_reducible first | exact HB.out | apply below_alloc | apply pw_below_drewN | apply below_drew1) | exact HB.out))) : w.heap.size ≤ gb642)); have n5_ := Aside0.mk ((by rw [hg]; exact (below_size (by repeat (first | (with_reducible first | exact HB.out | apply below_alloc | apply pw_below_drewN | apply below_drew1) | exact HB.out))) : w.heap.size ≤ gb642)); clear HO637; clear HO641; clear HB; have HO637 := n0_; have HO641 := n1_; have HB := n2_; have BK642 := n3_; have GW642 := n4_; have GE642 := n5_; clear n0_ n1_ n2_ n3_ n4_ n5_; clear hb hbox hg; obtain ⟨Ao17, co17, eo17⟩ := Kd.R_slice HO637.out; subst eo17; have hcz18_0 : w16.cell? ⟨gb642, 0, none⟩ = some (.slice none 0 0) := (blk_cell BK642.out 0).trans rfl; have hcz18_1 : w16.cell? ⟨gb642, 1, none⟩ = some (.int .i64 0) := (blk_cell BK642.out 1).trans rfl; have hfz18_0 := blk_frozen BK642.out 0; have hfz18_1 := blk_frozen BK642.out 1) | ((with_reducible refine gate_callee (f := 15) rfl ?_); refine goesL_ (some 33) rfl rfl Try.func15 (by kernel_rfl) rfl #[.agg #[.slice Ao17 t635.length co17, .int .i64 t638], .int .i64 a4] rfl (by (try simp only [List.map_toArray, List.map_cons, List.map_nil]); first | done | rfl | (simp only [List.length_drop, List.length_take]; rfl)) ?_; (with_reducible refine (hypercubelaw2_Set.calls _ _ t635 t638 a4 t643 _ ?side1 ?side2 A10.out).mono ?_); (case side1 => refine (Kd.R_reads' (e := 3) (base := w.heap.size) (ok := fun k_ => True) (n := t635.length) (c := co17) ?_).2.2; exact (by (with_reducible repeat (first | apply Kd.R_alloc | apply Kd.R_drewN | apply Kd.R_drew)); exact (Kd.R_mono (Kd.R_far (p := ⟨gb642, 1, none⟩) (Kd.R_far (p := ⟨gb642, 0, none⟩) (Kd.R_types HO637.out BK642.out (by decide)) (fun _ hk => hk.2) (.slice Ao17 t635.length co17)) (fun _ hk => hk.2) (.int .i64 t638)) (fun _ h_ => h_.1)))); (case side2 => exact (Kd.R_reads' HO637.out).2.1); rintro e w19 ⟨rfl, hb⟩; refine ⟨_, rfl, ?_⟩; have n0_ := Aside0.mk (Kd.R_below (by (with_reducible repeat (first | apply Kd.R_alloc | apply Kd.R_drewN | apply Kd.R_drew)); exact (Kd.R_mono (Kd.R_far (p := ⟨gb642, 1, none⟩) (Kd.R_far (p := ⟨gb642, 0, none⟩) (Kd.R_types HO637.out BK642.out (by decide)) (fun _ hk => hk.2) (.slice Ao17 t635.length co17)) (fun _ hk => hk.2) (.int .i64 t638)) (fun _ h_ => h_.1))) hb); have n1_ := Aside0.mk (Kd.S_below (by (with_reducible repeat (first | apply Kd.S_alloc | apply Kd.S_drewN | apply Kd.S_drew)); exact (Kd.S_mono (Kd.S_far (p := ⟨gb642, 1, none⟩) (Kd.S_far (p := ⟨gb642, 0, none⟩) (Kd.S_types HO641.out BK642.out (by decide)) (fun _ hk => hk.2) (.slice Ao17 t635.length co17)) (fun _ hk => hk.2) (.int .i64 t638)) (fun _ h_ => h_.1))) hb); have n2_ := Aside0.mk (blk_below (g := gb642) (o := .cells #[.slice Ao17 t635.length co17, .int .i64 t638] 25 (0, 0)) (by (with_reducible repeat (first | refine blk_drewN ?_ _ | refine blk_drew ?_ | refine blk_alloc ?_ _)); refine blk_put (cs := #[.slice Ao17 t635.length co17, .int .i64 0]) ?_ 1 _ rfl; (with_reducible repeat (first | refine blk_drewN ?_ _ | refine blk_drew ?_ | refine blk_alloc ?_ _)); refine blk_put (cs := #[.slice none 0 0, .int .i64 0]) ?_ 0 _ rfl; (with_reducible repeat (first | refine blk_drewN ?_ _ | refine blk_drew ?_ | refine blk_alloc ?_ _)); exact BK642.out) hb); have n3_ := Aside0.mk (below_step (by repeat (first | (with_reducible first | exact HB.out | apply below_alloc | apply pw_below_drewN | apply below_drew1 | refine below_set ?_ GE642.out) | exact HB.out)) hb); clear HO637; clear HO641; clear BK642; clear HB; have HO637 := n0_; have HO641 := n1_; have BK642 := n2_; have HB := n3_; clear n0_ n1_ n2_ n3_; (try clear hb); (try clear hb2); (try clear hk); (try clear hi); obtain ⟨Ao20, co20, eo20⟩ := Kd.S_slice HO641.out; subst eo20) | ((with_reducible refine gate_callee (f := 14) rfl ?_); refine goesL_ (some 34) rfl rfl Try.func14 (by kernel_rfl) rfl #[.slice Ao20 t639.length co20, .int .i64 t643] rfl (by (try simp only [List.map_toArray, List.map_cons, List.map_nil]); first | done | rfl | (simp only [List.length_drop, List.length_take]; rfl)) ?_; (with_reducible refine (hypercubelaw2_Make.calls k _ _ t639 t643 t644 _ ?side1 ?side2 A11.out).mono ?_); (case side1 => repeat (first | exact (Kd.S_reads' HO641.out).2.2 | (with_reducible refine Kd.C_alloc ?_ _) | (with_reducible refine Kd.C_drewN ?_ _) | (with_reducible refine Kd.C_drew ?_))); (case side2 => exact (Kd.S_reads' HO641.out).2.1); rintro e w21 ⟨v645, rfl, ho0, hb⟩; refine ⟨_, rfl, ?_⟩; have n0_ := Aside0.mk (Kd.R_below (by (with_reducible repeat (first | apply Kd.R_alloc | apply Kd.R_drewN | apply Kd.R_drew)); exact HO637.out) hb); have n1_ := Aside0.mk (Kd.S_below (by (with_reducible repeat (first | apply Kd.S_alloc | apply Kd.S_drewN | apply Kd.S_drew)); exact HO641.out) hb); have n2_ := Aside0.mk (Kd.S_lower (Kd.S_new' ho0 (Kd.R_lt (by (with_reducible repeat (first | apply Kd.R_alloc | apply Kd.R_drewN | apply Kd.R_drew)); exact HO637.out))) (below_size (by repeat (first | (with_reducible first | exact HB.out | apply below_alloc | apply pw_below_drewN | apply below_drew1 | refine below_set ?_ GE642.out) | exact HB.out)))); have n3_ := Aside0.mk (blk_below (g := gb642) (o := .cells #[.slice Ao17 t635.length co17, .int .i64 t638] 25 (0, 0)) (by (with_reducible repeat (first | refine blk_drewN ?_ _ | refine blk_drew ?_ | refine blk_alloc ?_ _)); exact BK642.out) hb); have n4_ := Aside0.mk (below_step (by repeat (first | (with_reducible first | exact HB.out | apply below_alloc | apply pw_below_drewN | apply below_drew1 | refine below_set ?_ GE642.out) | exact HB.out)) hb); clear HO637; clear HO641; clear BK642; clear HB; have HO637 := n0_; have HO641 := n1_; have HO646 := n2_; have BK642 := n3_; have HB := n4_; clear n0_ n1_ n2_ n3_ n4_; (try clear hb); (try clear hb2); (try clear hk); (try clear hi); (try clear ho0)) | ((with_reducible refine gate_callee (f := 16) rfl ?_); refine goesL_ (some 37) rfl rfl Try.func16 (by kernel_rfl) rfl #[.int .i64 a5, .int .i64 9] rfl (by (try simp only [List.map_toArray, List.map_cons, List.map_nil]); first | done | rfl | (simp only [List.length_drop, List.length_take]; rfl)) ?_; (with_reducible refine (hypercubelaw5_within.calls a5 9 t647 _ A12.out).mono ?_); rintro e w' ⟨rfl, ⟨nd, rfl⟩⟩; refine ⟨_, rfl, ?_⟩; obtain ⟨Ao22, co22, eo22⟩ := Kd.S_slice HO646.out; subst eo22) | ((with_reducible refine gate_callee (f := 18) rfl ?_); refine goesL_ (some 39) rfl rfl Try.func18 (by kernel_rfl) rfl #[.slice Ao22 t644.length co22, .int .i64 (wrap64 (1 + t647))] rfl (by (try simp only [List.map_toArray, List.map_cons, List.map_nil]); first | done | rfl | (simp only [List.length_drop, List.length_take]; rfl)) ?_; (with_reducible refine (runs_Runs.calls k _ _ t644 (wrap64 (1 + t647)) t648 _ ?side1 ?side2 A13.out).mono ?_); (case side1 => repeat (first | exact (Kd.S_reads' HO646.out).2.2 | (with_reducible refine Kd.C_alloc ?_ _) | (with_reducible refine Kd.C_drewN ?_ _) | (with_reducible refine Kd.C_drew ?_))); (case side2 => exact (Kd.S_reads' HO646.out).2.1); rintro e w23 ⟨v649, rfl, ho0, hb⟩; refine ⟨_, rfl, ?_⟩; have n0_ := Aside0.mk (Kd.R_below (by (with_reducible repeat (first | apply Kd.R_alloc | apply Kd.R_drewN | apply Kd.R_drew)); exact HO637.out) hb); have n1_ := Aside0.mk (Kd.S_below (by (with_reducible repeat (first | apply Kd.S_alloc | apply Kd.S_drewN | apply Kd.S_drew)); exact HO641.out) hb); have n2_ := Aside0.mk (Kd.S_below (by (with_reducible repeat (first | apply Kd.S_alloc | apply Kd.S_drewN | apply Kd.S_drew)); exact HO646.out) hb); have n3_ := Aside0.mk (Kd.R_lower (Kd.R_new' (Kd.R_new' ho0 (Kd.R_lt (by (with_reducible repeat (first | apply Kd.R_alloc | apply Kd.R_drewN | apply Kd.R_drew)); exact HO637.out))) (Kd.S_lt (by (with_reducible repeat (first | apply Kd.S_alloc | apply Kd.S_drewN | apply Kd.S_drew)); exact HO646.out))) (below_size (by repeat (first | (with_reducible first | exact HB.out | apply below_alloc | apply pw_below_drewN | apply below_drew1 | refine below_set ?_ GE642.out) | exact HB.out)))); have n4_ := Aside0.mk (blk_below (g := gb642) (o := .cells #[.slice Ao17 t635.length co17, .int .i64 t638] 25 (0, 0)) (by (with_reducible repeat (first | refine blk_drewN ?_ _ | refine blk_drew ?_ | refine blk_alloc ?_ _)); exact BK642.out) hb); have n5_ := Aside0.mk (below_step (by repeat (first | (with_reducible first | exact HB.out | apply below_alloc | apply pw_below_drewN | apply below_drew1 | refine below_set ?_ GE642.out) | exact HB.out)) hb); clear HO637; clear HO641; clear HO646; clear BK642; clear HB; have HO637 := n0_; have HO641 := n1_; have HO646 := n2_; have HO650 := n3_; have BK642 := n4_; have HB := n5_; clear n0_ n1_ n2_ n3_ n4_ n5_; (try clear hb); (try clear hb2); (try clear hk); (try clear hi); (try clear ho0)))
  go_loopg [17, 18] k (fun kq v17 v18 w' => ∃ (x17_1 : Int) (x18_1 : Int), v17 = .int .i64 x17_1 ∧ v18 = .int .i64 x18_1 ∧ Aside0 (hypercubelaw5_RunsCounts.l0 kq t639 t648 x17_1 x18_1 = some r) ∧ Aside0 (kq ≤ k) ∧ Aside0 (Kd.S k45 45 w' w.heap.size (fun k_ => some k_ ≠ ((.slice Ao17 t635.length co17) : Value).ownBlock) (.slice Ao20 t639.length co20) t639) ∧ Aside0 (Kd.R (Kd.slice 41 k41) 29 w' w.heap.size (fun k_ => some k_ ≠ ((.slice Ao17 t635.length co17) : Value).ownBlock) v649 t648) ∧ Aside0 (Kd.R (Kd.int .i64) 3 w' w.heap.size (fun _ => True) (.slice Ao17 t635.length co17) t635) ∧ Aside0 (w'.heap[gb642]? = some (.cells #[(.slice Ao17 t635.length co17), .int .i64 t638] 25 (0, 0))) ∧ Aside0 (Below w.heap.size w w'))
  case atStart => exact ⟨(0), (0), (by first | rfl | (simp; done) | (simp [*]; done)), (by first | rfl | (simp; done) | (simp [*]; done)), H', ⟨Nat.le_refl _⟩, ⟨by (with_reducible repeat (first | apply Kd.S_alloc | apply Kd.S_drewN | apply Kd.S_drew)); exact HO641.out⟩, ⟨by (with_reducible repeat (first | apply Kd.R_alloc | apply Kd.R_drewN | apply Kd.R_drew)); exact Kd.R_mono HO650.out (fun _ hk => hk.1.2)⟩, ⟨by (with_reducible repeat (first | apply Kd.R_alloc | apply Kd.R_drewN | apply Kd.R_drew)); exact HO637.out⟩, ⟨by (with_reducible repeat (first | refine blk_drewN ?_ _ | refine blk_drew ?_ | refine blk_alloc ?_ _)); exact BK642.out⟩, ⟨by repeat (first | (with_reducible first | exact HB.out | apply below_alloc | apply pw_below_drewN | apply below_drew1 | refine below_set ?_ GE642.out) | exact HB.out)⟩⟩
  case round =>
   clear H'
   try clear c1
   try clear p2
   try clear c3
   try clear p6
   try clear c8
   try clear c11
   try clear c12
   try clear c13
   try clear c14
   try clear c15
   try clear c16
   try clear c18
   try clear hcz18_0
   try clear hcz18_1
   try clear hfz18_0
   try clear hfz18_1
   obtain ⟨x17_1, x18_1, rfl, rfl, HA, HK1, HO_14, HO_16, HO_643000, BK642, HB⟩ := hrel
   cases gk with
   | zero => exact absurd HA.out (by simp [hypercubelaw5_RunsCounts.l0])
   | succ k1 =>
    have H := HA.out
    clear HA
    simp only [hypercubelaw5_RunsCounts.l0] at H
    by_cases c24 : x18_1 < (t648.length : Int)
    ·rw [if_pos c24] at H
     have c24b0 : decide (x18_1 < (t648.length : Int)) = true := decide_eq_true c24
     clear c24
     have H' := Aside0.mk H
     clear H
     obtain ⟨Ao25, co25, eo25⟩ := Kd.R_slice HO_16.out
     subst eo25
     go_wp2
     go_loopg [17, 19] k1 (fun kq v17 v19 w' => ∃ (x17_2 : Int) (x19_2 : Int), v17 = .int .i64 x17_2 ∧ v19 = .int .i64 x19_2 ∧ Aside0 (hypercubelaw5_RunsCounts.l1 kq t639 t648 x17_2 x18_1 x19_2 = some r) ∧ Aside0 (kq ≤ k1) ∧ Aside0 (Kd.S k45 45 w' w.heap.size (fun k_ => some k_ ≠ ((.slice Ao17 t635.length co17) : Value).ownBlock) (.slice Ao20 t639.length co20) t639) ∧ Aside0 (Kd.R (Kd.slice 41 k41) 29 w' w.heap.size (fun k_ => some k_ ≠ ((.slice Ao17 t635.length co17) : Value).ownBlock) (.slice Ao25 t648.length co25) t648) ∧ Aside0 (Kd.R (Kd.int .i64) 3 w' w.heap.size (fun _ => True) (.slice Ao17 t635.length co17) t635) ∧ Aside0 (w'.heap[gb642]? = some (.cells #[(.slice Ao17 t635.length co17), .int .i64 t638] 25 (0, 0))) ∧ Aside0 (Below w.heap.size w w'))
     case atStart => exact ⟨(x17_1), (0), (by first | rfl | (simp; done) | (simp [*]; done)), (by first | rfl | (simp; done) | (simp [*]; done)), H', ⟨Nat.le_refl _⟩, ⟨by (with_reducible repeat (first | apply Kd.S_alloc | apply Kd.S_drewN | apply Kd.S_drew)); exact HO_14.out⟩, ⟨by (with_reducible repeat (first | apply Kd.R_alloc | apply Kd.R_drewN | apply Kd.R_drew)); exact HO_16.out⟩, ⟨by (with_reducible repeat (first | apply Kd.R_alloc | apply Kd.R_drewN | apply Kd.R_drew)); exact HO_643000.out⟩, ⟨by (with_reducible repeat (first | refine blk_drewN ?_ _ | refine blk_drew ?_ | refine blk_alloc ?_ _)); exact BK642.out⟩, ⟨by repeat (first | (with_reducible first | exact HB.out | apply below_alloc | apply pw_below_drewN | apply below_drew1 | refine below_set ?_ GE642.out) | exact HB.out)⟩⟩
     case round =>
      clear H'
      try clear c1
      try clear c2
      try clear p2
      try clear c3
      try clear p6
      try clear c8
      try clear c11
      try clear c12
      try clear c13
      try clear c14
      try clear c15
      try clear c16
      try clear c18
      try clear c24
      try clear c24b0
      try clear hcz18_0
      try clear hcz18_1
      try clear hfz18_0
      try clear hfz18_1
      try clear p2
      try clear p6
      obtain ⟨x17_2, x19_2, rfl, rfl, HA, HK2, HO_14, HO_16, HO_643000, BK642, HB⟩ := hrel
      cases gk with
      | zero => exact absurd HA.out (by simp [hypercubelaw5_RunsCounts.l1])
      | succ k2 =>
       have H := HA.out
       clear HA
       simp only [hypercubelaw5_RunsCounts.l1] at H
       by_cases c26 : 0 ≤ x18_1
       ·rw [if_pos c26] at H
        have c26b0 : decide (0 ≤ x18_1) = true := decide_eq_true c26
        clear c26
        by_cases c27 : x18_1 < (t648.length : Int)
        ·rw [if_pos c27] at H
         have c27b0 : decide (x18_1 < (t648.length : Int)) = true := decide_eq_true c27
         clear c27
         by_cases c28 : x19_2 < ((rd_L3 t648 x18_1).length : Int)
         ·rw [if_pos c28] at H
          have c28b0 : decide (x19_2 < ((rd_L3 t648 x18_1).length : Int)) = true := decide_eq_true c28
          clear c28
          by_cases c29 : 0 ≤ x19_2
          ·rw [if_pos c29] at H
           have c29b0 : decide (0 ≤ x19_2) = true := decide_eq_true c29
           clear c29
           have H' := Aside0.mk H
           clear H
           have p652 : 0 ≤ (x18_1 : Int) := of_decide_eq_true (by first | (with_reducible assumption) | assumption)
           have q652 : x18_1 < (t648.length : Int) := of_decide_eq_true (by first | (with_reducible assumption) | assumption)
           obtain ⟨ad652, A652_0, c652_0, e652, hx652_0, hl652_0, hi652_0⟩ := at_L3 (Kd.R_reads' HO_16.out).2.2 x18_1 p652 q652
           cases e652
           obtain ⟨ce652, hce652, hMe652, hcc652⟩ := Kd.R_get HO_16.out [] x18_1 p652 (by first | exact q652 | exact of_decide_eq_true (by first | (with_reducible assumption) | assumption) | (have e_ := (Kd.R_reads' HO_16.out).1; omega))
           obtain ⟨ve652_0, rfl, ge652_0⟩ := hMe652
           have hv652_0 := hcc652 0 _ rfl
           rw [Nat.add_zero, show ((Kd.slice 41 k41)).sz = 1 from rfl, Nat.mul_one] at hv652_0
           replace hv652_0 := Option.some.inj (hv652_0.symm.trans hx652_0)
           rw [hv652_0] at ge652_0
           have HL652_0 := Aside0.mk (show Kd.R k41 41 _ _ _ _ (rd_L3 t648 x18_1) from ge652_0)
           clear hv652_0 ge652_0
           clear hcc652 hce652
           have HR652_0 := Aside0.mk hi652_0
           have HC652_0 := Aside0.mk hl652_0
           clear hi652_0 hl652_0
           replace p652 := eq_true p652
           replace q652 := eq_true q652
           have p653 : 0 ≤ (x18_1 : Int) := of_decide_eq_true (by first | (with_reducible assumption) | assumption)
           have q653 : x18_1 < (t648.length : Int) := of_decide_eq_true (by first | (with_reducible assumption) | assumption)
           obtain ⟨ad653, A653_0, c653_0, e653, hx653_0, hl653_0, hi653_0⟩ := at_L3 (Kd.R_reads' HO_16.out).2.2 x18_1 p653 q653
           obtain rfl : ad652 = ad653 := (by injection e653)
           obtain ⟨ce653, hce653, hMe653, hcc653⟩ := Kd.R_get HO_16.out [] x18_1 p653 (by first | exact q653 | exact of_decide_eq_true (by first | (with_reducible assumption) | assumption) | (have e_ := (Kd.R_reads' HO_16.out).1; omega))
           obtain ⟨ve653_0, rfl, ge653_0⟩ := hMe653
           have hv653_0 := hcc653 0 _ rfl
           rw [Nat.add_zero, show ((Kd.slice 41 k41)).sz = 1 from rfl, Nat.mul_one] at hv653_0
           replace hv653_0 := Option.some.inj (hv653_0.symm.trans hx653_0)
           rw [hv653_0] at ge653_0
           have HL653_0 := Aside0.mk (show Kd.R k41 41 _ _ _ _ (rd_L3 t648 x18_1) from ge653_0)
           clear hv653_0 ge653_0
           clear hcc653 hce653
           have HR653_0 := Aside0.mk hi653_0
           have HC653_0 := Aside0.mk hl653_0
           clear hi653_0 hl653_0
           replace p653 := eq_true p653
           replace q653 := eq_true q653
           have ea_ := Option.some.inj (hx652_0.symm.trans hx653_0)
           injection ea_ with ea_ en_ ec_
           subst ea_
           subst ec_
           clear en_
           have p654 : 0 ≤ (x19_2 : Int) := of_decide_eq_true (by first | (with_reducible assumption) | assumption)
           have q654 : x19_2 < ((rd_L3 t648 x18_1).length : Int) := of_decide_eq_true (by first | (with_reducible assumption) | assumption)
           obtain ⟨ad654, A654_0, c654_0, A654_2, c654_2, A654_3, c654_3, A654_4, c654_4, e654, hx654_0, hx654_1, hx654_2, hx654_3, hx654_4, hl654_0, hi654_0, hl654_2, hi654_2, hl654_3, hi654_3, hl654_4, hi654_4⟩ := at_T41 (by repeat (first | (with_reducible exact HR653_0.out) | (with_reducible refine Kd.C_alloc ?_ _) | (with_reducible refine Kd.C_drewN ?_ _) | (with_reducible refine Kd.C_drew ?_) | exact HR653_0.out)) x19_2 p654 q654
           cases e654
           obtain ⟨ce654, hce654, hMe654, hcc654⟩ := Kd.R_get HL653_0.out z41 x19_2 p654 (by first | exact q654 | exact of_decide_eq_true (by first | (with_reducible assumption) | assumption) | (have e_ := (Kd.R_reads' HL653_0.out).1; omega))
           obtain ⟨ve654_0, ve654_2, ve654_3, ve654_4, rfl, ge654_0, ge654_2, ge654_3, ge654_4⟩ := k41_openM hMe654
           have hv654_0 := hcc654 0 _ rfl
           rw [Nat.add_zero] at hv654_0
           replace hv654_0 := Option.some.inj (hv654_0.symm.trans hx654_0)
           rw [hv654_0] at ge654_0
           have HL654_0 := Aside0.mk (show Kd.R (Kd.int .i64) 3 _ _ _ _ ((rd_T41 (rd_L3 t648 x18_1) x19_2).f0) from ge654_0)
           clear hv654_0 ge654_0
           have hv654_2 := hcc654 2 _ rfl
           rw [add_field _ _ 2 (by omega)] at hv654_2
           replace hv654_2 := Option.some.inj (hv654_2.symm.trans hx654_2)
           rw [hv654_2] at ge654_2
           have HL654_2 := Aside0.mk (show Kd.R (Kd.int .i64) 3 _ _ _ _ ((rd_T41 (rd_L3 t648 x18_1) x19_2).f2) from ge654_2)
           clear hv654_2 ge654_2
           have hv654_3 := hcc654 3 _ rfl
           rw [add_field _ _ 3 (by omega)] at hv654_3
           replace hv654_3 := Option.some.inj (hv654_3.symm.trans hx654_3)
           rw [hv654_3] at ge654_3
           have HL654_3 := Aside0.mk (show Kd.R (Kd.int .i64) 3 _ _ _ _ ((rd_T41 (rd_L3 t648 x18_1) x19_2).f3) from ge654_3)
           clear hv654_3 ge654_3
           have hv654_4 := hcc654 4 _ rfl
           rw [add_field _ _ 4 (by omega)] at hv654_4
           replace hv654_4 := Option.some.inj (hv654_4.symm.trans hx654_4)
           rw [hv654_4] at ge654_4
           have HL654_4 := Aside0.mk (show Kd.R (Kd.int .i64) 3 _ _ _ _ ((rd_T41 (rd_L3 t648 x18_1) x19_2).f4) from ge654_4)
           clear hv654_4 ge654_4
           clear hcc654 hce654
           have HR654_0 := Aside0.mk hi654_0
           have HC654_0 := Aside0.mk hl654_0
           clear hi654_0 hl654_0
           have HR654_2 := Aside0.mk hi654_2
           have HC654_2 := Aside0.mk hl654_2
           clear hi654_2 hl654_2
           have HR654_3 := Aside0.mk hi654_3
           have HC654_3 := Aside0.mk hl654_3
           clear hi654_3 hl654_3
           have HR654_4 := Aside0.mk hi654_4
           have HC654_4 := Aside0.mk hl654_4
           clear hi654_4 hl654_4
           replace p654 := eq_true p654
           replace q654 := eq_true q654
           go_wp2
           go_roundg k2
           case measure => have := HK1.out; have := HK2.out; omega
           case rel => exact ⟨(wrap64 (x17_2 + ((rd_T41 (rd_L3 t648 x18_1) x19_2).f1))), (wrap64 (x19_2 + 1)), (by first | rfl | (simp; done) | (simp [*]; done)), (by first | rfl | (simp; done) | (simp [*]; done)), H', ⟨by have := HK1.out; have := HK2.out; omega⟩, ⟨by (with_reducible repeat (first | apply Kd.S_alloc | apply Kd.S_drewN | apply Kd.S_drew)); exact HO_14.out⟩, ⟨by (with_reducible repeat (first | apply Kd.R_alloc | apply Kd.R_drewN | apply Kd.R_drew)); exact HO_16.out⟩, ⟨by (with_reducible repeat (first | apply Kd.R_alloc | apply Kd.R_drewN | apply Kd.R_drew)); exact HO_643000.out⟩, ⟨by (with_reducible repeat (first | refine blk_drewN ?_ _ | refine blk_drew ?_ | refine blk_alloc ?_ _)); exact BK642.out⟩, ⟨by repeat (first | (with_reducible first | exact HB.out | apply below_alloc | apply pw_below_drewN | apply below_drew1 | refine below_set ?_ GE642.out) | exact HB.out)⟩⟩
          ·rw [if_neg c29] at H
           exact absurd H (by simp)
         ·rw [if_neg c28] at H
          have c28b0 : decide (x19_2 < ((rd_L3 t648 x18_1).length : Int)) = false := decide_eq_false c28
          clear c28
          have H' := Aside0.mk H
          clear H
          have p652 : 0 ≤ (x18_1 : Int) := of_decide_eq_true (by first | (with_reducible assumption) | assumption)
          have q652 : x18_1 < (t648.length : Int) := of_decide_eq_true (by first | (with_reducible assumption) | assumption)
          obtain ⟨ad652, A652_0, c652_0, e652, hx652_0, hl652_0, hi652_0⟩ := at_L3 (Kd.R_reads' HO_16.out).2.2 x18_1 p652 q652
          cases e652
          obtain ⟨ce652, hce652, hMe652, hcc652⟩ := Kd.R_get HO_16.out [] x18_1 p652 (by first | exact q652 | exact of_decide_eq_true (by first | (with_reducible assumption) | assumption) | (have e_ := (Kd.R_reads' HO_16.out).1; omega))
          obtain ⟨ve652_0, rfl, ge652_0⟩ := hMe652
          have hv652_0 := hcc652 0 _ rfl
          rw [Nat.add_zero, show ((Kd.slice 41 k41)).sz = 1 from rfl, Nat.mul_one] at hv652_0
          replace hv652_0 := Option.some.inj (hv652_0.symm.trans hx652_0)
          rw [hv652_0] at ge652_0
          have HL652_0 := Aside0.mk (show Kd.R k41 41 _ _ _ _ (rd_L3 t648 x18_1) from ge652_0)
          clear hv652_0 ge652_0
          clear hcc652 hce652
          have HR652_0 := Aside0.mk hi652_0
          have HC652_0 := Aside0.mk hl652_0
          clear hi652_0 hl652_0
          replace p652 := eq_true p652
          replace q652 := eq_true q652
          go_wp2
          go_roundg k2
          case measure => have := HK1.out; have := HK2.out; omega
          case rel => exact ⟨(x17_2), (wrap64 (x18_1 + 1)), (by first | rfl | (simp; done) | (simp [*]; done)), (by first | rfl | (simp; done) | (simp [*]; done)), H', ⟨by have := HK1.out; have := HK2.out; omega⟩, ⟨by (with_reducible repeat (first | apply Kd.S_alloc | apply Kd.S_drewN | apply Kd.S_drew)); exact HO_14.out⟩, ⟨by (with_reducible repeat (first | apply Kd.R_alloc | apply Kd.R_drewN | apply Kd.R_drew)); exact HO_16.out⟩, ⟨by (with_reducible repeat (first | apply Kd.R_alloc | apply Kd.R_drewN | apply Kd.R_drew)); exact HO_643000.out⟩, ⟨by (with_reducible repeat (first | refine blk_drewN ?_ _ | refine blk_drew ?_ | refine blk_alloc ?_ _)); exact BK642.out⟩, ⟨by repeat (first | (with_reducible first | exact HB.out | apply below_alloc | apply pw_below_drewN | apply below_drew1 | refine below_set ?_ GE642.out) | exact HB.out)⟩⟩
        ·rw [if_neg c27] at H
         exact absurd H (by simp)
       ·rw [if_neg c26] at H
        exact absurd H (by simp)
    ·rw [if_neg c24] at H
     have c24b0 : decide (x18_1 < (t648.length : Int)) = false := decide_eq_false c24
     clear c24
     by_cases c30 : x17_1 = (t639.length : Int)
     ·rw [if_pos c30] at H
      have c30b0 : (x17_1 == (t639.length : Int)) = true := beq_iff_eq.mpr c30
      have c30b1 : (x17_1 != (t639.length : Int)) = false := bne_eq_false_iff_eq.mpr c30
      clear c30
      replace H := Option.bind_eq_some_iff.mp H
      obtain ⟨t651, A310, H⟩ := H
      replace H : (some t651) = some r := H
      have A31 := Aside0.mk A310
      clear A310
      obtain rfl := Option.some.inj H
      obtain ⟨Ao32, co32, eo32⟩ := Kd.R_slice HO_16.out
      subst eo32
      go_wp2_with (first | (go_at_call 21; (refine (hypercuberef5_Sorted.calls k1 _ _ ([] : List (S41)) t651 _ ?side1 ?side2 A31.out).mono ?_); (case side1 => exact Kd.C_nil _ _); (case side2 => exact Nat.le_refl _); rintro e w' ⟨rfl, ⟨nd, rfl⟩⟩))
      go_ret
      exact ⟨by first | rfl | (simp [errW_none, errW_some] <;> rfl) | (simp [*, errW_none, errW_some] <;> rfl), by repeat (first | (with_reducible first | exact HB.out | apply below_alloc | apply pw_below_drewN | apply below_drew1 | refine below_set ?_ GE642.out) | exact HB.out)⟩
     ·rw [if_neg c30] at H
      exact absurd H (by simp)
 ·replace c8 := Bool.eq_false_iff.mpr c8
  subst c8
  have H1 : (none) = some r := by rw [if_neg (show ¬ (false = true) by decide)] at H; exact H
  clear H
  have H := H1
  clear H1
  exact absurd H (by simp)
def hypercubelaw5_RunsCounts.Pure : Prop := ∀ (a0 : Int) (l1 : List Int) (a2 : Int) (l3 : List Int) (a4 : Int) (a5 : Int), (Lit.int .i64 a0).wf = true → l1.length ≤ maxLen → l1.length * 8 ≤ 140737488351232 → (∀ x ∈ l1, (Lit.int .i64 x).wf = true) → (Lit.int .i64 a2).wf = true → l3.length ≤ maxLen → l3.length * 8 ≤ 140737488351232 → (∀ x ∈ l3, (Lit.int .i64 x).wf = true) → (Lit.int .i64 a4).wf = true → (Lit.int .i64 a5).wf = true → ∃ k, hypercubelaw5_RunsCounts.f k a0 l1 a2 l3 a4 a5 = some true
theorem hypercubelaw5_RunsCounts.walk (P : hypercubelaw5_RunsCounts.Pure) (a0 : Int) (a1 : Option Addr) (len1 cap1 : Nat) (z1 : List Int) (a2 : Int) (a3 : Option Addr) (len3 cap3 : Nat) (z3 : List Int) (a4 : Int) (a5 : Int) (w : World) (w0 : (Lit.int .i64 a0).wf = true) (w1 : (a1 = none ∧ len1 = 0 ∧ cap1 = 0 ∧ z1 = []) ∨ ∃ x, a1 = some x ∧ len1 ≤ cap1 ∧ cap1 ≤ maxLen ∧ z1.length = cap1 ∧ (∀ i, i < z1.length → w.cell? (x.add i) = some (.int .i64 (z1.getD i 0))) ∧ ∀ n ∈ z1, (Lit.int .i64 n).wf = true) (y1 : len1 * 8 ≤ 140737488351232) (w2 : (Lit.int .i64 a2).wf = true) (w3 : (a3 = none ∧ len3 = 0 ∧ cap3 = 0 ∧ z3 = []) ∨ ∃ x, a3 = some x ∧ len3 ≤ cap3 ∧ cap3 ≤ maxLen ∧ z3.length = cap3 ∧ (∀ i, i < z3.length → w.cell? (x.add i) = some (.int .i64 (z3.getD i 0))) ∧ ∀ n ∈ z3, (Lit.int .i64 n).wf = true) (y3 : len3 * 8 ≤ 140737488351232) (w4 : (Lit.int .i64 a4).wf = true) (w5 : (Lit.int .i64 a5).wf = true) :
  Calls Try.prog 11 #[.int .i64 a0, .slice a1 len1 cap1, .int .i64 a2, .slice a3 len3 cap3, .int .i64 a4, .int .i64 a5] w fun e w' => e = .returned (.bool true) ∧ Below w.heap.size w w' := by
 obtain ⟨l1, rfl, hr1, hm1, hw1, hc1⟩ := ReadsInt.ofRowC w1
 obtain ⟨l3, rfl, hr3, hm3, hw3, hc3⟩ := ReadsInt.ofRowC w3
 obtain ⟨k, h⟩ := P a0 l1 a2 l3 a4 a5 w0 hm1 y1 hw1 w2 hm3 y3 hw3 w4 w5
 refine (hypercubelaw5_RunsCounts.calls k a0 _ _ l1 a2 _ _ l3 a4 a5 true w (Kd.C_of_reads (d := (0 : Int)) (h1 := fun _ => rfl) hr1) hc1 (Kd.C_of_reads (d := (0 : Int)) (h1 := fun _ => rfl) hr3) hc3 h).mono ?_
 rintro e w' ⟨rfl, hd⟩
 exact ⟨rfl, hd⟩
end Go.Proofs.Ytmnepkbmcnpjlaa.Q
