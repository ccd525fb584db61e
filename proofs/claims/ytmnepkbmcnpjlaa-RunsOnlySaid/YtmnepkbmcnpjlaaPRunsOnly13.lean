-- packed by wip/tools/pack.py (a program of this session) out of its own texts
import Derived.ArgAppend
import Derived.Below
import Derived.BigQuiet
import Derived.Deep.AppendLies
import Derived.Deep.CutBlock
import Derived.Deep.DeepCutAuto
import Derived.Deep.Draws
import Derived.Deep.LoopGhost
import Derived.Deep.OwnRows
import Derived.Deep.QuietTactic
import Derived.Deep.RegionHeld3
import Derived.KernelRfl
import Derived.Laws.BitsLemmas
import Derived.Laws.BytesArg
import Derived.Laws.EntriesVeiled
import Derived.Laws.Externs
import Derived.Laws.IdiomCopy
import Derived.Laws.MakeOwn
import Derived.Laws.OwnMore
import Derived.Laws.Rows
import Derived.Laws.Slices
import Derived.Lib.AppendStr
import Derived.Lib.AppendZeros
import Derived.Lib.AppendZerosOnto
import Derived.Lib.ConvBytes
import Derived.Lib.JoinLaws
import Derived.Lib.Overlaps
import Derived.Lib.SliceRun
import Derived.Lib.Walk
import Derived.LoopIn
import Derived.LoopNIn
import Derived.Maps.AppendAt
import Derived.OrdersHeld
import Derived.OrdersIn
import Derived.OwnWalk
import Derived.OwnWalkIn
import Derived.RangeFuncBound
import Derived.RangeFuncBox
import Derived.RangeFuncCalls
import Derived.RangeFuncLeaves
import Derived.RangeFuncNested
import Derived.RangeFuncOwn
import Derived.RowKit
import Derived.RowKit3
import Derived.Shelf.Abstract
import Derived.Shelf.RegionOpen
import Derived.Shelf.RegionOpenPlain
import Derived.Tactics
import Derived.TacticsInMore
import Derived.Test.YtmnepkbmcnpjlaaProg
import Derived.WalkKit
import Derived.WalkSpells
import Derived.WideLaws
import Derived.Test.YtmnepkbmcnpjlaaPRunsOnly1
import Derived.Test.YtmnepkbmcnpjlaaPRunsOnly3
import Derived.Test.YtmnepkbmcnpjlaaPRunsOnly4
import Derived.Test.YtmnepkbmcnpjlaaPRunsOnly5
import Derived.Test.YtmnepkbmcnpjlaaPRunsOnly6
import Derived.Test.YtmnepkbmcnpjlaaPRunsOnly7
import Derived.Test.YtmnepkbmcnpjlaaPRunsOnly8
import Derived.Test.YtmnepkbmcnpjlaaPRunsOnly9
import Derived.Test.YtmnepkbmcnpjlaaPRunsOnly10
import Derived.Test.YtmnepkbmcnpjlaaPRunsOnly11
import Derived.Test.YtmnepkbmcnpjlaaPRunsOnly12
namespace Go.Proofs.Ytmnepkbmcnpjlaa.Q
open Go.RowKit Go.Proofs.YtmnepkbmcnpjlaaW.PrintWords Go.Proofs.YtmnepkbmcnpjlaaW.PrintLast Go.Proofs.YtmnepkbmcnpjlaaW.PrintMore
set_option linter.unusedVariables false
set_option linter.unusedSimpArgs false
theorem bsfR_l0 (xs : List S41) (x : S41) (hn : xs.length ≤ 1000000) (hs : ∀ y ∈ xs, SmallC y) (p : Nat) (hp : p ≤ xs.length) (h1 : ∀ m (h : m < xs.length), m < p → lexC (xs[m]).f0 x.f0 < 0) (h2 : ∀ m (h : m < xs.length), p ≤ m → 0 ≤ lexC (xs[m]).f0 x.f0) (d : Nat) :
    ∀ i j : Nat, j - i ≤ d → i ≤ p → p ≤ j → j ≤ xs.length → Ev (fun k => bsf_R1.l0 k xs (xs.length : Int) (i : Int) (j : Int) x.f0 x.f1 x.f2 x.f3 x.f4) ((p : Int), if h : p < xs.length then lexC (xs[p]).f0 x.f0 == 0 else false) := by
  have hcmp : ∀ m (h : m < xs.length), Ev (fun k => runs_by.f k (xs[m]).f0 (xs[m]).f1 (xs[m]).f2 (xs[m]).f3 (xs[m]).f4 x.f0 x.f1 x.f2 x.f3 x.f4) (lexC (xs[m]).f0 x.f0) := fun m h => by
    refine Ev.congr (f := fun k => (cell_Less.f k (xs[m]).f0 x.f0).bind fun t => some t) (fun k => rfl) ?_
    exact Ev.bind (cell_less_ev _ _ (by have := (hs _ (List.getElem_mem h)).1; omega)) (Ev.now _)
  induction d with
  | zero =>
    intro i j hd hip hpj hjn
    have e1 : i = p := by omega
    have e2 : j = p := by omega
    rw [e1, e2]
    by_cases hlt : p < xs.length
    · rw [dif_pos hlt]
      refine Ev.step (f := fun k => (runs_by.f k (xs[p]).f0 (xs[p]).f1 (xs[p]).f2 (xs[p]).f3 (xs[p]).f4 x.f0 x.f1 x.f2 x.f3 x.f4).bind fun t => some ((p : Int), t == 0)) (fun k => by simp only [bsf_R1.l0]; rw [if_neg (by omega), if_pos (by omega), if_pos (by omega), if_pos (by omega), rdC_get hlt]) (Ev.bind (hcmp p hlt) (Ev.now _))
    · rw [dif_neg hlt]
      exact Ev.step (f := fun _ => some ((p : Int), false)) (fun k => by simp only [bsf_R1.l0]; rw [if_neg (by omega), if_neg (by omega)]) (Ev.now _)
  | succ d ih =>
    intro i j hd hip hpj hjn
    by_cases hij : i < j
    · have hh : (i + j) / 2 < xs.length := by omega
      have hstep : ∀ k, bsf_R1.l0 (k + 1) xs (xs.length : Int) (i : Int) (j : Int) x.f0 x.f1 x.f2 x.f3 x.f4 = (runs_by.f k (xs[(i + j) / 2]).f0 (xs[(i + j) / 2]).f1 (xs[(i + j) / 2]).f2 (xs[(i + j) / 2]).f3 (xs[(i + j) / 2]).f4 x.f0 x.f1 x.f2 x.f3 x.f4).bind fun t => if t < 0 then bsf_R1.l0 k xs (xs.length : Int) (((i + j) / 2 + 1 : Nat) : Int) (j : Int) x.f0 x.f1 x.f2 x.f3 x.f4 else bsf_R1.l0 k xs (xs.length : Int) (i : Int) (((i + j) / 2 : Nat) : Int) x.f0 x.f1 x.f2 x.f3 x.f4 := fun k => by
        simp only [bsf_R1.l0]
        rw [if_pos (by omega), wrap_mid i j (by omega), if_pos (by omega), if_pos (by omega), rdC_get hh, w64s hh (by omega)]
      refine Ev.step hstep ?_
      by_cases hlt : (i + j) / 2 < p
      · have c := h1 _ hh hlt
        exact Ev.bind (hcmp _ hh) (Ev.congr (fun k => by rw [if_pos c]) (ih ((i + j) / 2 + 1) j (by omega) (by omega) hpj hjn))
      · have c := h2 _ hh (by omega)
        exact Ev.bind (hcmp _ hh) (Ev.congr (fun k => by rw [if_neg (by omega)]) (ih i ((i + j) / 2) (by omega) hip (by omega) (by omega)))
    · exact ih i j (by omega) hip hpj hjn
theorem has_at (x : S41) (xs : List S41) (hs : SortedC xs) (p : Nat) (h1 : ∀ m (h : m < xs.length), m < p → lexC (xs[m]).f0 x.f0 < 0) (h2 : ∀ m (h : m < xs.length), p ≤ m → 0 ≤ lexC (xs[m]).f0 x.f0) :
    (if h : p < xs.length then lexC (xs[p]).f0 x.f0 == 0 else false) = hasK xs x := by
  rw [Bool.eq_iff_iff]
  constructor
  · intro h
    by_cases hlt : p < xs.length
    · rw [dif_pos hlt] at h
      exact List.any_eq_true.2 ⟨xs[p], List.getElem_mem hlt, h⟩
    · rw [dif_neg hlt] at h; cases h
  · intro h
    obtain ⟨y, hy, he⟩ := List.any_eq_true.1 h
    obtain ⟨m, hm, rfl⟩ := List.getElem_of_mem hy
    have he' : lexC (xs[m]).f0 x.f0 = 0 := by simpa using he
    rcases Nat.lt_trichotomy m p with c | c | c
    · have := h1 m hm c; omega
    · subst c; rw [dif_pos hm]; exact he
    · have hlt : p < xs.length := by omega
      have hpm := (List.pairwise_iff_getElem.1 hs) p m hlt hm c
      rw [(lexC_key he').1] at hpm
      have := h2 p hlt (Nat.le_refl _)
      omega
theorem group_one (x : S41) : groupL [x] = [x] := rfl
theorem runsPut_ev (xs : List S41) (x : S41) (most : Nat) (hn : xs.length ≤ 1000000) (hs : ∀ y ∈ xs, SmallC y) (hx : SmallC x) (ho : SortedC xs) :
    Ev (fun k => runsPut.f k xs x (most : Int)) (if hasK xs x = true ∨ xs.length < most then (true, putL x xs) else (false, xs)) := by
  obtain ⟨p, hp, h1, h2⟩ := place x xs ho
  have hb := bsfR_l0 xs x hn hs p hp h1 h2 xs.length 0 xs.length (by omega) (by omega) hp (by omega)
  have hb' : Ev (fun k => bsf_R1.f k xs x.f0 x.f1 x.f2 x.f3 x.f4) ((p : Int), if h : p < xs.length then lexC (xs[p]).f0 x.f0 == 0 else false) := hb
  have hput := putL_at x p xs hp h1 (fun h => h2 p h (by omega))
  have hhas := has_at x xs ho p h1 h2
  have hg : Ev (fun k => cell_Group.f k [x]) [x] := by
    have := group_ev [x] (by simp) (fun y hy => by rw [List.mem_singleton.1 hy]; exact hx)
    rwa [group_one] at this
  unfold runsPut.f
  refine Ev.bind hb' ?_
  simp only [hhas]
  by_cases hh : hasK xs x = true
  · rw [if_pos (Or.inl hh)]
    rw [hh] at hhas
    have hlt : p < xs.length := Decidable.byContradiction (fun hlt => by rw [dif_neg hlt] at hhas; cases hhas)
    rw [dif_pos hlt] at hput hhas
    have c : lexC (xs[p]).f0 x.f0 = 0 := by simpa using hhas
    rw [if_pos c] at hput
    have hj := Ev.bind (f := fun (_ : Nat) (j : List Int × Int × List Int × List Int × List Int) => some (true, xs.set p (⟨j.1, j.2.1, j.2.2.1, j.2.2.2.1, j.2.2.2.2⟩ : S41))) (join_ev (xs[p]) x (hs _ (List.getElem_mem hlt))) (Ev.now _)
    rw [hput]
    exact Ev.congr (fun k => by rw [if_pos hh, if_pos (by omega), rdC_get hlt, Int.toNat_natCast]) hj
  · have hput' : putL x xs = xs.take p ++ [x] ++ xs.drop p := by
      rw [hput]
      by_cases hlt : p < xs.length
      · rw [dif_pos hlt] at hhas ⊢
        have c : ¬ lexC (xs[p]).f0 x.f0 = 0 := fun c => by rw [c] at hhas; simp at hhas; first | exact hh hhas | exact hh hhas.symm
        rw [if_neg c]; simp
      · rw [dif_neg hlt]; simp
    by_cases hm : xs.length < most
    · rw [if_pos (Or.inr hm), hput']
      refine Ev.congr (fun k => by rw [if_neg hh, if_neg (by omega)]) (Ev.bind hg ?_)
      exact Ev.congr (f := fun _ => some (true, xs.take p ++ [x] ++ xs.drop p)) (fun k => by rw [if_pos ⟨by omega, by omega, by omega, rfl⟩, Int.toNat_natCast]) (Ev.now _)
    · rw [if_neg (by simp [hh]; omega)]
      exact Ev.congr (f := fun _ => some (false, xs)) (fun k => by rw [if_neg hh, if_pos (by omega)]) (Ev.now _)
def runsR (most : Nat) : List S41 → List S41 → List (List S41)
  | held, [] => if 0 < held.length then [held] else []
  | held, c :: cs => if hasK held c = true ∨ held.length < most then runsR most (putL c held) cs else held :: runsR most [c] cs
theorem putL_le {most : Nat} {held : List S41} {c : S41} (ho : SortedC held) (hm : held.length ≤ most) (h : hasK held c = true ∨ held.length < most) : (putL c held).length ≤ most := by
  by_cases hh : hasK held c = true
  · rw [putL_old c held ho hh]; exact hm
  · have := putL_length c held
    have := h.resolve_left hh
    omega
theorem mx_one (most : Nat) (h : 1 ≤ most) : mx (most : Int) 1 = (most : Int) := by unfold mx; split <;> omega
theorem sorted_one (c : S41) : SortedC [c] := List.pairwise_singleton _ _
theorem put_nil_f (most : Nat) (h1 : 1 ≤ most) (c : S41) (hc : SmallC c) : Ev (fun k => runsPut.f k [] c (most : Int)) (true, [c]) := by
  have := runsPut_ev [] c most (by simp) (fun y h => by simp at h) hc List.Pairwise.nil
  rwa [if_pos (Or.inr (by simp; omega))] at this
theorem runsGo_ev (most : Nat) (h1 : 1 ≤ most) : ∀ (cs : List S41) (out : List (List S41)) (held : List S41), (∀ y ∈ cs, SmallC y) → (∀ y ∈ held, SmallC y) → SortedC held → held.length + cs.length ≤ 1000000 → out.length + cs.length ≤ 1000000 →
    ∃ o h, Ev (fun k => runsGo k (most : Int) out held cs) (o, h) ∧ h.length ≤ 1000000 ∧ o.length ≤ 1000000 ∧ (if 0 < h.length then o ++ [h] else o) = out ++ runsR most held cs
  | [], out, held, _, _, _, hb, hb2 => ⟨out, held, Ev.now _, by simpa using hb, by simpa using hb2, by unfold runsR; split <;> simp⟩
  | c :: cs, out, held, hcs, hh, ho, hb, hb2 => by
    have hc := hcs c (by simp)
    have hcs' := fun y h => hcs y (List.mem_cons_of_mem _ h)
    simp only [List.length_cons] at hb hb2
    have hp := runsPut_ev held c most (by omega) hh hc ho
    by_cases h : hasK held c = true ∨ held.length < most
    · rw [if_pos h] at hp
      have := putL_length c held
      obtain ⟨o, h', e1, e2, e3, e4⟩ := runsGo_ev most h1 cs out (putL c held) hcs' (putL_small c hc held hh) (putL_sorted c held ho) (by omega) (by omega)
      refine ⟨o, h', ?_, e2, e3, by rw [e4]; simp only [runsR]; rw [if_pos h]⟩
      refine Ev.congr (fun k => by unfold runsGo; rfl) (Ev.bind hp ?_)
      exact Ev.congr (fun k => by rw [if_pos rfl]) e1
    · rw [if_neg h] at hp
      obtain ⟨o, h', e1, e2, e3, e4⟩ := runsGo_ev most h1 cs (out ++ [held]) [c] hcs' (fun y hy => by rw [List.mem_singleton.1 hy]; exact hc) (sorted_one c) (by simp; omega) (by simp; omega)
      refine ⟨o, h', ?_, e2, e3, by rw [e4]; simp only [runsR]; rw [if_neg h]; simp⟩
      refine Ev.congr (fun k => by unfold runsGo; rfl) (Ev.bind hp ?_)
      refine Ev.congr (fun k => by rw [if_neg (by simp)]; dsimp only; rw [if_pos ⟨by omega, by omega⟩, mx_one most h1]) (Ev.bind (put_nil_f most h1 c hc) ?_)
      exact e1
theorem runs_ev (most : Nat) (h1 : 1 ≤ most) (cs : List S41) (hcs : ∀ y ∈ cs, SmallC y) (hl : cs.length ≤ 1000000) : Ev (fun k => runs_Runs.f k cs (most : Int)) (runsR most [] cs) := by
  obtain ⟨o, h, e1, e2, e3, e4⟩ := runsGo_ev most h1 cs [] [] hcs (fun y h => by simp at h) List.Pairwise.nil (by simpa using hl) (by simpa using hl)
  rw [List.nil_append] at e4
  rw [← e4]
  refine Ev.bind e1 ?_
  refine Ev.congr (f := fun _ => some (if 0 < h.length then o ++ [h] else o)) (fun k => ?_) (Ev.now _)
  dsimp only
  by_cases c : 0 < h.length
  · simp only [if_pos c]
    rw [if_pos ⟨by omega, by omega⟩, Option.bind_some, if_pos (by simp; omega)]
  · simp only [if_neg c]
    rw [Option.bind_some, if_pos (by omega)]
theorem rdL_get {l : List (List S41)} {i : Nat} (h : i < l.length) : rd_L3 l (i : Int) = l[i] := by simp [rd_L3, List.getD_eq_getElem?_getD, h]
theorem runsR_bounds (most : Nat) (h1 : 1 ≤ most) : ∀ (cs held : List S41), SortedC held → held.length ≤ most → (held = [] ∨ 0 < held.length) →
    ∀ (i : Nat) (h : i < (runsR most held cs).length), 1 ≤ ((runsR most held cs)[i]).length ∧ ((runsR most held cs)[i]).length ≤ most ∧ (i + 1 < (runsR most held cs).length → ((runsR most held cs)[i]).length = most) ∧ SortedC ((runsR most held cs)[i])
  | [], held, ho, hm, _, i, h => by
    unfold runsR at h ⊢
    by_cases c : 0 < held.length
    · simp only [if_pos c] at h ⊢
      have : i = 0 := by simpa using h
      subst this
      exact ⟨c, hm, fun h => by simp at h, ho⟩
    · simp only [if_neg c] at h; simp at h
  | c :: cs, held, ho, hm, hne, i, h => by
    by_cases hc : hasK held c = true ∨ held.length < most
    · have e : runsR most held (c :: cs) = runsR most (putL c held) cs := by simp only [runsR]; rw [if_pos hc]
      have ih := runsR_bounds most h1 cs (putL c held) (putL_sorted c held ho) (putL_le ho hm hc) (by cases h : putL c held <;> simp)
      simp only [e] at h ⊢
      exact ih i h
    · have e : runsR most held (c :: cs) = held :: runsR most [c] cs := by simp only [runsR]; rw [if_neg hc]
      have ih := runsR_bounds most h1 cs [c] (sorted_one c) (by simpa using h1) (.inr (by simp))
      have hfull : held.length = most := by
        have : ¬ held.length < most := fun h => hc (.inr h)
        omega
      simp only [e] at h ⊢
      cases i with
      | zero => simp only [List.getElem_cons_zero]; exact ⟨by omega, hm, fun _ => hfull, ho⟩
      | succ i =>
        simp only [List.getElem_cons_succ, List.length_cons] at h ⊢
        have := ih i (by omega)
        exact ⟨this.1, this.2.1, fun h => this.2.2.1 (by omega), this.2.2.2⟩
theorem runsR_total (most : Nat) : ∀ (cs held : List S41), (runsR most held cs).flatten.length ≤ held.length + cs.length
  | [], held => by unfold runsR; split <;> simp
  | c :: cs, held => by
    simp only [runsR]
    split
    · have := runsR_total most cs (putL c held)
      have := putL_length c held
      simp only [List.length_cons]; omega
    · have := runsR_total most cs [c]
      have e1 : ([c] : List S41).length = 1 := rfl
      rw [List.flatten_cons, List.length_append, List.length_cons]
      omega
theorem runsR_len (most : Nat) (h1 : 1 ≤ most) (cs : List S41) : (runsR most [] cs).length ≤ cs.length ∧ ∀ r ∈ runsR most [] cs, r.length ≤ cs.length := by
  have ht := runsR_total most cs []
  simp only [List.length_nil, Nat.zero_add] at ht
  have hb := runsR_bounds most h1 cs [] List.Pairwise.nil (by simp) (.inl rfl)
  generalize runsR most [] cs = rs at ht hb
  have hsum : ∀ l : List (List S41), (∀ r ∈ l, 1 ≤ r.length) → l.length ≤ l.flatten.length ∧ ∀ r ∈ l, r.length ≤ l.flatten.length := by
    intro l
    induction l with
    | nil => intro _; exact ⟨by simp, fun r h => by simp at h⟩
    | cons x l ih =>
      intro h
      obtain ⟨i1, i2⟩ := ih (fun r hr => h r (List.mem_cons_of_mem _ hr))
      have := h x (by simp)
      refine ⟨by simp only [List.length_cons, List.flatten_cons, List.length_append]; omega, fun r hr => ?_⟩
      rcases List.mem_cons.1 hr with e | e
      · rw [e]; simp
      · have := i2 r e; simp only [List.flatten_cons, List.length_append]; omega
  obtain ⟨s1, s2⟩ := hsum rs (fun r hr => by
    obtain ⟨i, hi, rfl⟩ := List.getElem_of_mem hr
    exact (hb i hi).1)
  exact ⟨by omega, fun r hr => by have := s2 r hr; omega⟩
theorem runsR_cnt (most : Nat) : ∀ (cs held : List S41), NonNeg cs → NonNeg held → cnt held + cnt cs ≤ 4611686018427387904 → cnt (runsR most held cs).flatten = cnt held + cnt cs
  | [], held, _, _, _ => by
    unfold runsR
    by_cases c : 0 < held.length
    · rw [if_pos c]; simp [cnt]
    · rw [if_neg c]
      have : held = [] := by cases held <;> simp_all
      rw [this]; rfl
  | c :: cs, held, hc, hh, hb => by
    have h0 := hc c (by simp)
    have hcs : NonNeg cs := fun x hx => hc x (List.mem_cons_of_mem _ hx)
    have hn := cnt_nn cs hcs
    rw [cnt_cons] at hb ⊢
    simp only [runsR]
    split
    · obtain ⟨p1, p2⟩ := cnt_put c h0 held hh (by omega)
      rw [runsR_cnt most cs (putL c held) hcs p2 (by omega), p1]; omega
    · have hone : cnt [c] = c.f1 := by simp [cnt]
      have hhn := cnt_nn held hh
      rw [List.flatten_cons, cnt_append, runsR_cnt most cs [c] hcs (fun x hx => by rw [List.mem_singleton.1 hx]; exact h0) (by rw [hone]; omega), hone]
theorem within5_eq (a n : Int) (h0 : 0 < n) (h1 : n ≤ 4611686018427387904) : hypercubelaw5_within.f a n = some (a % n) := by
  have := within2_eq a n h0 h1
  unfold hypercubelaw2_within.f at this
  unfold hypercubelaw5_within.f
  exact this
end Go.Proofs.Ytmnepkbmcnpjlaa.Q
namespace Go.Proofs.Ytmnepkbmcnpjlaa.Q
open Go.RowKit Go.Proofs.YtmnepkbmcnpjlaaW.PrintWords Go.Proofs.YtmnepkbmcnpjlaaW.PrintLast Go.Proofs.YtmnepkbmcnpjlaaW.PrintMore
set_option linter.unusedVariables false
set_option linter.unusedSimpArgs false
theorem known_runs : runs_Runs.f 9 [⟨[2], 1, [], [], []⟩, ⟨[1], 1, [], [], []⟩] 2 = some [[⟨[1], 1, [], [], []⟩, ⟨[2], 1, [], [], []⟩]] := by kernel_rfl
theorem known_runs0 : runs_Runs.f 9 [] 1 = some [] := by kernel_rfl
theorem known_sorted : runs_Sorted.f 9 [⟨[1], 1, [], [], []⟩, ⟨[2], 1, [], [], []⟩] = some true := by kernel_rfl
theorem known_not : runs_Sorted.f 9 [⟨[2], 1, [], [], []⟩, ⟨[1], 1, [], [], []⟩] = some false := by kernel_rfl
theorem rC_of_blk {w : World} {g : Nat} {xs : List Int} (h : w.heap[g]? = some (.cells (encs (Value.int .i64) xs).toArray 3 (0, 0))) (hl : xs.length ≤ maxLen) : Kd.C (Kd.int .i64) w (some ⟨g, 0, none⟩) xs.length xs := by
  have hR : Kd.R (Kd.int .i64) 3 w 0 (fun _ => True) (.slice (some ⟨g, 0, none⟩) xs.length xs.length) xs := by
    refine Kd.R_of_own (h1 := fun _ => rfl) ⟨by rw [encs_length, Nat.mul_one], .inr ⟨g, xs.length, _, rfl, Nat.zero_le _, h, Nat.le_refl _, hl, ?_, ?_⟩⟩ (fun _ _ => trivial)
    · rw [List.size_toArray, encs_length, Nat.mul_one]
    · rw [Nat.mul_one, ← encs_length (enc := Value.int .i64) xs]
      exact List.take_length
  exact (Kd.R_reads' hR).2.2
theorem rC_two {w : World} {g : Nat} {x y : S41} {cs ds : List Value} (h : w.heap[g]? = some (.cells (cs ++ ds).toArray 41 (0, 0))) (hx : k41.K w x cs) (hy : k41.K w y ds) : Kd.C k41 w (some ⟨g, 0, none⟩) [x, y].length [x, y] := by
  have hl : cs.length = 5 := k41.K_len hx
  have hl2 : ds.length = 5 := k41.K_len hy
  refine ⟨rfl, by simp, fun _ => ⟨_, rfl, fun j p hj => ?_⟩⟩
  have hj2 : j < 2 := (List.getElem?_eq_some_iff.1 hj).1
  match j, hj2, hj with
  | 0, _, hj =>
    have hm : p = x := by simpa using hj.symm
    refine ⟨cs, hl, by rw [hm]; exact hx, fun i u hu => ?_⟩
    have hi : i < cs.length := (List.getElem?_eq_some_iff.1 hu).1
    rw [Addr.add_lit, cell_of_row w g _ _ _ _ h, List.getElem?_toArray, Nat.zero_add, show 0 * k41.sz + i = i by omega, List.getElem?_append_left hi]
    exact hu
  | 1, _, hj =>
    have hm : p = y := by simpa using hj.symm
    refine ⟨ds, hl2, by rw [hm]; exact hy, fun i u hu => ?_⟩
    rw [Addr.add_lit, cell_of_row w g _ _ _ _ h, List.getElem?_toArray, Nat.zero_add, show 1 * k41.sz + i = cs.length + i by rw [hl]; rfl, List.getElem?_append_right (by omega), Nat.add_sub_cancel_left]
    exact hu
theorem new_at {w : World} {n : Nat} (o : Obj) (h : w.heap.size = n) : (w.alloc o).heap[n]? = some o := by rw [← h]; exact heap_alloc_new w o
def hypercubelaw5_known.f : Option Bool := some true
set_option maxHeartbeats 8000000 in
set_option maxRecDepth 100000 in
theorem hypercubelaw5_known.calls (r : Bool) (w : World) (h : hypercubelaw5_known.f = some r) :
    Calls Try.prog 12 #[] w fun e w' => e = .returned (.bool r) ∧ Below w.heap.size w w' := by
 have e : true = r := Option.some.inj h
 subst e
 clear h
 have HB := Aside0.mk (Below.refl w.heap.size w)
 have hu41 := Try.underlying41
 have hkk : ∀ (W : World) (g1 : Nat) (x : Int), W.heap[g1]? = some (.cells #[.int .i64 x] 3 (0, 0)) → k41.K W (⟨[x], 1, [], [], []⟩ : S41) [.slice (some ⟨g1, 0, none⟩) 1 1, .int .i64 1, .slice none 0 0, .slice none 0 0, .slice none 0 0] := fun W g1 x h1 =>
  k41_mk W (⟨[x], 1, [], [], []⟩ : S41) (c0 := 1) (c2 := 0) (c3 := 0) (c4 := 0) (Nat.le_refl 1) (rC_of_blk (xs := [x]) h1 (by show 1 ≤ maxLen; decide)) (Nat.le_refl 0) (Kd.C_nil _ _) (Nat.le_refl 0) (Kd.C_nil _ _) (Nat.le_refl 0) (Kd.C_nil _ _)
 go_enter Try.func12, Try.ntmps12
 go_wp2_with (first
  | ((with_reducible refine gate_callee (f := 18) rfl ?_)
     refine goesL_ (some 11) rfl rfl Try.func18 (by kernel_rfl) rfl #[.slice (some ⟨w.heap.size + 1 + 1 + 1 + 1, 0, none⟩) 2 2, .int .i64 2] rfl (by (try simp only [List.map_toArray, List.map_cons, List.map_nil]); first | done | rfl) ?_
     refine name_calls ?_
     intro w2 hw2
     have b0 : w2.heap[w.heap.size]? = some (.cells #[.int .i64 2] 3 (0, 0)) := by rw [hw2]; exact blk_alloc (blk_alloc (blk_alloc (blk_alloc (new_at _ (by simp only [World.size_alloc])) _) _) _) _
     have b1 : w2.heap[w.heap.size + 1]? = some (.cells #[.int .i64 1] 3 (0, 0)) := by rw [hw2]; exact blk_alloc (blk_alloc (blk_alloc (new_at _ (by simp only [World.size_alloc])) _) _) _
     have b2 : w2.heap[w.heap.size + 1 + 1]? = some (.cells #[.slice (some ⟨w.heap.size, 0, none⟩) 1 1, .int .i64 1, .slice none 0 0, .slice none 0 0, .slice none 0 0] 41 (0, 0)) := by rw [hw2]; exact blk_alloc (blk_alloc (new_at _ (by simp only [World.size_alloc])) _) _
     have b3 : w2.heap[w.heap.size + 1 + 1 + 1]? = some (.cells #[.slice (some ⟨w.heap.size + 1, 0, none⟩) 1 1, .int .i64 1, .slice none 0 0, .slice none 0 0, .slice none 0 0] 41 (0, 0)) := by rw [hw2]; exact blk_alloc (new_at _ (by simp only [World.size_alloc])) _
     have b4 : w2.heap[w.heap.size + 1 + 1 + 1 + 1]? = some (.cells (([.slice (some ⟨w.heap.size, 0, none⟩) 1 1, .int .i64 1, .slice none 0 0, .slice none 0 0, .slice none 0 0] : List Value) ++ ([.slice (some ⟨w.heap.size + 1, 0, none⟩) 1 1, .int .i64 1, .slice none 0 0, .slice none 0 0, .slice none 0 0] : List Value)).toArray 41 (0, 0)) := by rw [hw2]; exact new_at _ (by simp only [World.size_alloc])
     have n0_ : Aside0 (Below w.heap.size w w2) := Aside0.mk (by rw [hw2]; exact below_alloc (below_alloc (below_alloc (below_alloc (below_alloc HB.out _) _) _) _) _)
     clear HB
     have HB := n0_
     clear n0_ hw2
     refine (runs_Runs.calls 9 (some ⟨w.heap.size + 1 + 1 + 1 + 1, 0, none⟩) 2 [(⟨[2], 1, [], [], []⟩ : S41), (⟨[1], 1, [], [], []⟩ : S41)] 2 _ w2 (rC_two b4 (hkk w2 _ 2 b0) (hkk w2 _ 1 b1)) (by decide) known_runs).mono ?_
     rintro e w3 ⟨v, rfl, hR, hb⟩
     refine ⟨_, rfl, ?_⟩
     obtain ⟨A, c, rfl⟩ := Kd.R_slice hR
     have hC := (Kd.R_reads' hR).2.2
     obtain ⟨ad, rfl, hcell⟩ := hC.2.2 (by decide)
     obtain ⟨g, rfl⟩ := Kd.R_head hR
     obtain ⟨cs, hcl, ⟨A1, c1, rfl, hc1, hK1⟩, hcc⟩ := hcell 0 _ rfl
     have x0 := hcc 0 _ rfl
     have x0' : w3.cell? ⟨g, 0, none⟩ = some (.slice A1 2 c1) := x0
     have HK1 := Aside0.mk hK1
     have HLc := Aside0.mk hc1
     have n0_ := Aside0.mk (below_step HB.out hb)
     have m0_ := Aside0.mk (blk_below b0 hb)
     have m1_ := Aside0.mk (blk_below b1 hb)
     have m2_ := Aside0.mk (blk_below b2 hb)
     have m3_ := Aside0.mk (blk_below b3 hb)
     clear HB b0 b1 b2 b3 b4 hC hR hcell hcc x0 hc1 hK1 hb
     have HB := n0_
     clear n0_)
  | ((with_reducible refine gate_callee (f := 18) rfl ?_)
     refine goesL_ (some 12) rfl rfl Try.func18 (by kernel_rfl) rfl #[.slice none 0 0, .int .i64 1] rfl (by (try simp only [List.map_toArray, List.map_cons, List.map_nil]); first | done | rfl) ?_
     refine (runs_Runs.calls 9 none 0 [] 1 _ w3 (Kd.C_nil _ _) (by decide) known_runs0).mono ?_
     rintro e w4 ⟨v, rfl, hR, hb⟩
     refine ⟨_, rfl, ?_⟩
     obtain ⟨A2, c2, rfl⟩ := Kd.R_slice hR
     have x0 : w4.cell? ⟨g, 0, none⟩ = some (.slice A1 2 c1) := (hb.cell (World.block_lt_of_cell? _ _ x0')).trans x0'
     have k_ := Aside0.mk (Kd.C_below HK1.out hb)
     have n0_ := Aside0.mk (below_step HB.out hb)
     have p0_ := Aside0.mk (blk_below m0_.out hb)
     have p1_ := Aside0.mk (blk_below m1_.out hb)
     have p2_ := Aside0.mk (blk_below m2_.out hb)
     have p3_ := Aside0.mk (blk_below m3_.out hb)
     clear HB x0' HK1 m0_ m1_ m2_ m3_ hR hb
     have HB := n0_
     clear n0_)
  | ((with_reducible refine gate_callee (f := 20) rfl ?_)
     (try (refine gate_guard (by rfl) ?_; dsimp only))
     refine goesL_ (some 31) rfl rfl Try.func20 (by kernel_rfl) rfl #[.slice A1 2 c1] rfl (by (try simp only [List.map_toArray, List.map_cons, List.map_nil]); first | done | rfl) ?_
     refine (runs_Sorted.calls 9 A1 c1 [(⟨[1], 1, [], [], []⟩ : S41), (⟨[2], 1, [], [], []⟩ : S41)] _ w4 k_.out HLc.out known_sorted).mono ?_
     rintro e w5 ⟨rfl, hb⟩
     refine ⟨_, rfl, ?_⟩
     have n0_ := Aside0.mk (below_step HB.out hb)
     have q0_ := Aside0.mk (blk_below p0_.out hb)
     have q1_ := Aside0.mk (blk_below p1_.out hb)
     have b2 := blk_below p2_.out hb
     have b3 := blk_below p3_.out hb
     have y20 := (blk_cell b2 0).trans rfl
     have y21 := (blk_cell b2 1).trans rfl
     have y22 := (blk_cell b2 2).trans rfl
     have y23 := (blk_cell b2 3).trans rfl
     have y24 := (blk_cell b2 4).trans rfl
     have y30 := (blk_cell b3 0).trans rfl
     have y31 := (blk_cell b3 1).trans rfl
     have y32 := (blk_cell b3 2).trans rfl
     have y33 := (blk_cell b3 3).trans rfl
     have y34 := (blk_cell b3 4).trans rfl
     clear HB p0_ p1_ p2_ p3_ k_ x0 b2 b3 hb
     have HB := n0_
     clear n0_)
  | ((with_reducible refine gate_callee (f := 20) rfl ?_)
     (try (refine gate_guard (by rfl) ?_; dsimp only))
     refine goesL_ (some 37) rfl rfl Try.func20 (by kernel_rfl) rfl #[.slice (some ⟨w5.heap.size, 0, none⟩) 2 2] rfl (by (try simp only [List.map_toArray, List.map_cons, List.map_nil]); first | done | rfl) ?_
     refine name_calls ?_
     intro w6 hw6
     have b4 : w6.heap[w5.heap.size]? = some (.cells (([.slice (some ⟨w.heap.size, 0, none⟩) 1 1, .int .i64 1, .slice none 0 0, .slice none 0 0, .slice none 0 0] : List Value) ++ ([.slice (some ⟨w.heap.size + 1, 0, none⟩) 1 1, .int .i64 1, .slice none 0 0, .slice none 0 0, .slice none 0 0] : List Value)).toArray 41 (0, 0)) := by rw [hw6]; exact heap_alloc_new _ _
     have r0 : w6.heap[w.heap.size]? = some (.cells #[.int .i64 2] 3 (0, 0)) := by rw [hw6]; exact blk_alloc q0_.out _
     have r1 : w6.heap[w.heap.size + 1]? = some (.cells #[.int .i64 1] 3 (0, 0)) := by rw [hw6]; exact blk_alloc q1_.out _
     have n0_ : Aside0 (Below w.heap.size w w6) := Aside0.mk (by rw [hw6]; exact below_alloc HB.out _)
     clear HB
     have HB := n0_
     clear n0_ hw6
     refine (runs_Sorted.calls 9 (some ⟨w5.heap.size, 0, none⟩) 2 [(⟨[2], 1, [], [], []⟩ : S41), (⟨[1], 1, [], [], []⟩ : S41)] _ w6 (rC_two b4 (hkk w6 _ 2 r0) (hkk w6 _ 1 r1)) (by decide) known_not).mono ?_
     rintro e w7 ⟨rfl, hb⟩
     refine ⟨_, rfl, ?_⟩
     have n0_ := Aside0.mk (below_step HB.out hb)
     clear HB r0 r1 b4 hb
     have HB := n0_
     clear n0_))
 go_ret
 exact ⟨rfl, HB.out⟩
end Go.Proofs.Ytmnepkbmcnpjlaa.Q
namespace Go.Proofs.Ytmnepkbmcnpjlaa.Q
open Go.RowKit Go.Proofs.YtmnepkbmcnpjlaaW.PrintWords Go.Proofs.YtmnepkbmcnpjlaaW.PrintLast Go.Proofs.YtmnepkbmcnpjlaaW.PrintMore
attribute [local go_sem] max2_int min2_int max_two min_two max_three min_three max_four min_four
set_option linter.unusedVariables false
set_option linter.unusedSimpArgs false
mutual
def hypercubelaw5_RunsOnly.l0 : Nat → List Int → List (S41) → Int → Int → Option (Bool)
 | 0, _, _, _, _ => none
 | k + 1, x0, x3, x4, x5 => if x5 < (x0.length : Int) then (hypercubelaw5_RunsOnly.j1 k x0 x3 x4 x5 (decide (x5 < 40))) else (hypercubelaw5_RunsOnly.j1 k x0 x3 x4 x5 false)
def hypercubelaw5_RunsOnly.j1 : Nat → List Int → List (S41) → Int → Int → Bool → Option (Bool)
 | 0, _, _, _, _, _ => none
 | k + 1, x0, x3, x4, x5, x19 => if x19 = true then (if 0 ≤ x5 then (if x5 < (x0.length : Int) then ((hypercubelaw5_within.f (rd x0 x5) 3).bind fun t597 => (if x3.length < 1353245080339 then ((some (x3 ++ [(⟨(([t597] : List Int)), 1, ([] : List Int), ([] : List Int), ([] : List Int)⟩ : S41)] : List (S41))).bind fun y601 => (if x5 = 0 then (hypercubelaw5_RunsOnly.l0 k x0 y601 (wrap64 (x4 + 1)) (wrap64 (x5 + 1))) else (if 0 ≤ (wrap64 (x5 - 1)) then (if (wrap64 (x5 - 1)) < (y601.length : Int) then (if 0 < (((rd_T41 y601 (wrap64 (x5 - 1))).f0).length : Int) then (if (rd ((rd_T41 y601 (wrap64 (x5 - 1))).f0) 0) = t597 then (hypercubelaw5_RunsOnly.l0 k x0 y601 x4 (wrap64 (x5 + 1))) else (hypercubelaw5_RunsOnly.l0 k x0 y601 (wrap64 (x4 + 1)) (wrap64 (x5 + 1)))) else (none)) else (none)) else (none)))) else (none))) else (none)) else (none)) else ((runs_Runs.f k x3 1).bind fun t606 => (hypercubelaw5_RunsOnly.l1 k x3 x4 t606 0 0))
def hypercubelaw5_RunsOnly.l1 : Nat → List (S41) → Int → List (List (S41)) → Int → Int → Option (Bool)
 | 0, _, _, _, _, _ => none
 | k + 1, x3, x4, x7, x8, x9 => if x9 < (x7.length : Int) then (if 0 ≤ x9 then (if ((rd_L3 x7 x9).length : Int) = 1 then (if 0 < ((rd_L3 x7 x9).length : Int) then (hypercubelaw5_RunsOnly.l1 k x3 x4 x7 (wrap64 (x8 + ((rd_T41 (rd_L3 x7 x9) 0).f1))) (wrap64 (x9 + 1))) else (none)) else (none)) else (none)) else (if (x7.length : Int) = x4 then (some (x8 == (x3.length : Int))) else (none))
end
def hypercubelaw5_RunsOnly.f (k : Nat) (l0 : List Int) : Option (Bool) := (hypercubelaw5_known.f).bind fun t595 => (if t595 = true then (hypercubelaw5_RunsOnly.l0 k l0 ([] : List (S41)) 0 0) else (none))
set_option maxHeartbeats 8000000 in
set_option maxRecDepth 100000 in
theorem hypercubelaw5_RunsOnly.calls (k : Nat) (A0 : Option Addr) (c0 : Nat) (l0 : List Int) (r : Bool) (w : World) (hr0 : Kd.C (Kd.int .i64) w A0 l0.length l0) (hc0 : l0.length ≤ c0) (h : hypercubelaw5_RunsOnly.f k l0 = some r) :
  Calls Try.prog 9 #[.slice A0 l0.length c0] w fun e w' => e = .returned (.bool r) ∧ Below w.heap.size w w' := by
 have hu41 := Try.underlying41
 have HR0 := Aside0.mk hr0
 have HC0 := Aside0.mk hc0
 clear hr0 hc0
 have HB := Aside0.mk (Below.refl w.heap.size w)
 have H : ((hypercubelaw5_known.f).bind fun t595 => (if t595 = true then (hypercubelaw5_RunsOnly.l0 k l0 ([] : List (S41)) 0 0) else (none))) = some r := h
 clear h
 replace H := Option.bind_eq_some_iff.mp H
 obtain ⟨t595, A20, H⟩ := H
 replace H : (if t595 = true then (hypercubelaw5_RunsOnly.l0 k l0 ([] : List (S41)) 0 0) else (none)) = some r := H
 have A2 := Aside0.mk A20
 clear A20
 by_cases c3 : t595 = true
 ·subst c3
  have H1 : (hypercubelaw5_RunsOnly.l0 k l0 ([] : List (S41)) 0 0) = some r := by rw [if_pos rfl] at H; exact H
  clear H
  have H := H1
  clear H1
  have H' := Aside0.mk H
  clear H
  go_enter Try.func9, Try.ntmps9
  go_wp2_with (first | ((with_reducible refine gate_callee (f := 12) rfl ?_); refine goesL_ (some 10) rfl rfl Try.func12 (by kernel_rfl) rfl #[] rfl (by (try simp only [List.map_toArray, List.map_cons, List.map_nil]); first | done | rfl | (simp only [List.length_drop, List.length_take]; rfl)) ?_; (with_reducible refine (hypercubelaw5_known.calls  true _ A2.out).mono ?_); rintro e w4 ⟨rfl, hb⟩; refine ⟨_, rfl, ?_⟩; have n0_ := Aside0.mk (below_step (by repeat (first | (with_reducible first | exact HB.out | apply below_alloc | apply pw_below_drewN | apply below_drew1) | exact HB.out)) hb); clear HB; have HB := n0_; clear n0_; (try clear hb); (try clear hb2); (try clear hk); (try clear hi)))
  go_loopg [3, 4, 5] k (fun kq v3 v4 v5 w' => ∃ (x3_1 : List (S41)) (x4_1 : Int) (x5_1 : Int), v4 = .int .i64 x4_1 ∧ v5 = .int .i64 x5_1 ∧ Aside0 (hypercubelaw5_RunsOnly.l0 kq l0 x3_1 x4_1 x5_1 = some r) ∧ Aside0 (kq ≤ k) ∧ Aside0 (Kd.S k41 41 w' w.heap.size (fun _ => True) v3 x3_1) ∧ Aside0 (Below w.heap.size w w'))
  case atStart => exact ⟨(([] : List (S41))), (0), (0), (by first | rfl | (simp; done) | (simp [*]; done)), (by first | rfl | (simp; done) | (simp [*]; done)), H', ⟨Nat.le_refl _⟩, ⟨by first | exact Kd.S_nil _ _ _ _ _ | exact Kd.N_nil _ _ _ _ _ | exact Kd.V_nil _ _ _ _ _ | exact Kd.Q_nil _ _ _ _ _ | exact Kd.R_nil _ _ _ _ _⟩, ⟨by repeat (first | (with_reducible first | exact HB.out | apply below_alloc | apply pw_below_drewN | apply below_drew1) | exact HB.out)⟩⟩
  case round =>
   clear H'
   try clear c1
   try clear p2
   try clear c3
   obtain ⟨x3_1, x4_1, x5_1, rfl, rfl, HA, HK1, HO_3, HB⟩ := hrel
   cases gk with
   | zero => exact absurd HA.out (by simp [hypercubelaw5_RunsOnly.l0])
   | succ k1 =>
    have H := HA.out
    clear HA
    simp only [hypercubelaw5_RunsOnly.l0] at H
    have HC5 := Aside0.mk H
    clear H
    go_upto_region 6 with (fail)
    go_cut [19] (fun v19 wc => ∃ (kq : Nat) (x19_4 : Bool), v19 = .bool x19_4 ∧ Aside0 (hypercubelaw5_RunsOnly.j1 kq l0 x3_1 x4_1 x5_1 x19_4 = some r) ∧ Aside0 (kq ≤ k1) ∧ Aside0 (Kd.S k41 41 wc w.heap.size (fun _ => True) u3 x3_1) ∧ Aside0 (Below w.heap.size w wc))
    case first =>
     have H := HC5.out
     clear HC5
     by_cases c6 : x5_1 < (l0.length : Int)
     ·rw [if_pos c6] at H
      have c6b0 : decide (x5_1 < (l0.length : Int)) = true := decide_eq_true c6
      clear c6
      (first | rw [c6b0] | (simp only [i64_w, i32_w]; rw [c6b0]) | skip)
      have H' := Aside0.mk H
      clear H
      go_wp2
      go_meet
      case rel => exact ⟨_, (decide (x5_1 < 40)), (by first | rfl | (simp; done) | (simp [*]; done)), H', ⟨by have := HK1.out; first | omega | exact Nat.le_refl _⟩, ⟨by (with_reducible repeat (first | apply Kd.S_alloc | apply Kd.S_drewN | apply Kd.S_drew)); exact HO_3.out⟩, ⟨by repeat (first | (with_reducible first | exact HB.out | apply below_alloc | apply pw_below_drewN | apply below_drew1) | exact HB.out)⟩⟩
     ·rw [if_neg c6] at H
      have c6b0 : decide (x5_1 < (l0.length : Int)) = false := decide_eq_false c6
      clear c6
      (first | rw [c6b0] | (simp only [i64_w, i32_w]; rw [c6b0]) | skip)
      have H' := Aside0.mk H
      clear H
      go_wp2
      go_meet
      case rel => exact ⟨_, (false), (by first | rfl | (simp; done) | (simp [*]; done)), H', ⟨by have := HK1.out; first | omega | exact Nat.le_refl _⟩, ⟨by (with_reducible repeat (first | apply Kd.S_alloc | apply Kd.S_drewN | apply Kd.S_drew)); exact HO_3.out⟩, ⟨by repeat (first | (with_reducible first | exact HB.out | apply below_alloc | apply pw_below_drewN | apply below_drew1) | exact HB.out)⟩⟩
    case rest =>
     clear HC5
     try clear c1
     try clear p2
     try clear c3
     try clear c6
     try clear c6b0
     try clear p2
     obtain ⟨kq, x19_4, rfl, HA, HJ4, HO_3, HB⟩ := hcut
     cases kq with
     | zero => exact absurd HA.out (by simp [hypercubelaw5_RunsOnly.j1])
     | succ kj4 =>
      have H := HA.out
      clear HA
      simp only [hypercubelaw5_RunsOnly.j1] at H
      by_cases c7 : x19_4 = true
      ·subst c7
       have H1 : (if 0 ≤ x5_1 then (if x5_1 < (l0.length : Int) then ((hypercubelaw5_within.f (rd l0 x5_1) 3).bind fun t597 => (if x3_1.length < 1353245080339 then ((some (x3_1 ++ [(⟨(([t597] : List Int)), 1, ([] : List Int), ([] : List Int), ([] : List Int)⟩ : S41)] : List (S41))).bind fun y601 => (if x5_1 = 0 then (hypercubelaw5_RunsOnly.l0 kj4 l0 y601 (wrap64 (x4_1 + 1)) (wrap64 (x5_1 + 1))) else (if 0 ≤ (wrap64 (x5_1 - 1)) then (if (wrap64 (x5_1 - 1)) < (y601.length : Int) then (if 0 < (((rd_T41 y601 (wrap64 (x5_1 - 1))).f0).length : Int) then (if (rd ((rd_T41 y601 (wrap64 (x5_1 - 1))).f0) 0) = t597 then (hypercubelaw5_RunsOnly.l0 kj4 l0 y601 x4_1 (wrap64 (x5_1 + 1))) else (hypercubelaw5_RunsOnly.l0 kj4 l0 y601 (wrap64 (x4_1 + 1)) (wrap64 (x5_1 + 1)))) else (none)) else (none)) else (none)))) else (none))) else (none)) else (none)) = some r := by rw [if_pos rfl] at H; exact H
       clear H
       have H := H1
       clear H1
       by_cases c8 : 0 ≤ x5_1
       ·rw [if_pos c8] at H
        have c8b0 : decide (0 ≤ x5_1) = true := decide_eq_true c8
        clear c8
        by_cases c9 : x5_1 < (l0.length : Int)
        ·rw [if_pos c9] at H
         have c9b0 : decide (x5_1 < (l0.length : Int)) = true := decide_eq_true c9
         clear c9
         replace H := Option.bind_eq_some_iff.mp H
         obtain ⟨t597, A100, H⟩ := H
         replace H : (if x3_1.length < 1353245080339 then ((some (x3_1 ++ [(⟨(([t597] : List Int)), 1, ([] : List Int), ([] : List Int), ([] : List Int)⟩ : S41)] : List (S41))).bind fun y601 => (if x5_1 = 0 then (hypercubelaw5_RunsOnly.l0 kj4 l0 y601 (wrap64 (x4_1 + 1)) (wrap64 (x5_1 + 1))) else (if 0 ≤ (wrap64 (x5_1 - 1)) then (if (wrap64 (x5_1 - 1)) < (y601.length : Int) then (if 0 < (((rd_T41 y601 (wrap64 (x5_1 - 1))).f0).length : Int) then (if (rd ((rd_T41 y601 (wrap64 (x5_1 - 1))).f0) 0) = t597 then (hypercubelaw5_RunsOnly.l0 kj4 l0 y601 x4_1 (wrap64 (x5_1 + 1))) else (hypercubelaw5_RunsOnly.l0 kj4 l0 y601 (wrap64 (x4_1 + 1)) (wrap64 (x5_1 + 1)))) else (none)) else (none)) else (none)))) else (none)) = some r := H
         have A10 := Aside0.mk A100
         clear A100
         obtain ⟨y598, hy598⟩ : ∃ y_ : List Int, y_ = (([t597] : List Int)) := ⟨_, rfl⟩
         replace H : (if x3_1.length < 1353245080339 then ((some (x3_1 ++ [(⟨y598, 1, ([] : List Int), ([] : List Int), ([] : List Int)⟩ : S41)] : List (S41))).bind fun y601 => (if x5_1 = 0 then (hypercubelaw5_RunsOnly.l0 kj4 l0 y601 (wrap64 (x4_1 + 1)) (wrap64 (x5_1 + 1))) else (if 0 ≤ (wrap64 (x5_1 - 1)) then (if (wrap64 (x5_1 - 1)) < (y601.length : Int) then (if 0 < (((rd_T41 y601 (wrap64 (x5_1 - 1))).f0).length : Int) then (if (rd ((rd_T41 y601 (wrap64 (x5_1 - 1))).f0) 0) = t597 then (hypercubelaw5_RunsOnly.l0 kj4 l0 y601 x4_1 (wrap64 (x5_1 + 1))) else (hypercubelaw5_RunsOnly.l0 kj4 l0 y601 (wrap64 (x4_1 + 1)) (wrap64 (x5_1 + 1)))) else (none)) else (none)) else (none)))) else (none)) = some r := by first | (rw [hy598]; with_reducible exact H) | (have H2_ := (Option.bind_some _ _).symm.trans H; rw [hy598]; with_reducible exact H2_) | (have H2_ := (Option.bind_some _ _).symm.trans H; with_reducible exact H2_) | with_reducible exact H | (rw [hy598]; exact H) | exact H
         have Ny598 := Aside0.mk hy598
         clear hy598
         by_cases c11 : x3_1.length < 1353245080339
         ·rw [if_pos c11] at H
          have LMc11 := Aside0.mk c11
          clear c11
          obtain ⟨y601, hy601⟩ : ∃ y_ : List (S41), y_ = (x3_1 ++ [(⟨y598, 1, ([] : List Int), ([] : List Int), ([] : List Int)⟩ : S41)]) := ⟨_, rfl⟩
          replace H : (if x5_1 = 0 then (hypercubelaw5_RunsOnly.l0 kj4 l0 y601 (wrap64 (x4_1 + 1)) (wrap64 (x5_1 + 1))) else (if 0 ≤ (wrap64 (x5_1 - 1)) then (if (wrap64 (x5_1 - 1)) < (y601.length : Int) then (if 0 < (((rd_T41 y601 (wrap64 (x5_1 - 1))).f0).length : Int) then (if (rd ((rd_T41 y601 (wrap64 (x5_1 - 1))).f0) 0) = t597 then (hypercubelaw5_RunsOnly.l0 kj4 l0 y601 x4_1 (wrap64 (x5_1 + 1))) else (hypercubelaw5_RunsOnly.l0 kj4 l0 y601 (wrap64 (x4_1 + 1)) (wrap64 (x5_1 + 1)))) else (none)) else (none)) else (none))) = some r := by first | (rw [hy601]; with_reducible exact H) | (have H2_ := (Option.bind_some _ _).symm.trans H; rw [hy601]; with_reducible exact H2_) | (have H2_ := (Option.bind_some _ _).symm.trans H; with_reducible exact H2_) | with_reducible exact H | (rw [hy601]; exact H) | exact H
          have Ny601 := Aside0.mk hy601
          clear hy601
          by_cases c12 : x5_1 = 0
          ·rw [if_pos c12] at H
           have c12b0 : (x5_1 == 0) = true := beq_iff_eq.mpr c12
           have c12b1 : (x5_1 != 0) = false := bne_eq_false_iff_eq.mpr c12
           clear c12
           have H' := Aside0.mk H
           clear H
           have p596 : 0 ≤ (x5_1 : Int) := of_decide_eq_true (by first | (with_reducible assumption) | assumption)
           have q596 : x5_1 < (l0.length : Int) := of_decide_eq_true (by first | (with_reducible assumption) | assumption)
           obtain ⟨ad596, e596, hx596_0⟩ := Kd.at_int HR0.out x5_1 p596 q596
           cases e596
           replace hx596_0 := (HB.out.cell (World.block_lt_of_cell? w _ hx596_0)).trans hx596_0
           replace p596 := eq_true p596
           replace q596 := eq_true q596
           go_wp2_with (first | ((with_reducible refine gate_callee (f := 16) rfl ?_); refine goesL_ (some 26) rfl rfl Try.func16 (by kernel_rfl) rfl #[.int .i64 (rd l0 x5_1), .int .i64 3] rfl (by (try simp only [List.map_toArray, List.map_cons, List.map_nil]); first | done | rfl | (simp only [List.length_drop, List.length_take]; rfl)) ?_; (with_reducible refine (hypercubelaw5_within.calls (rd l0 x5_1) 3 t597 _ A10.out).mono ?_); rintro e w' ⟨rfl, ⟨nd, rfl⟩⟩; refine ⟨_, rfl, ?_⟩) | ((with_reducible refine gate_dst (N := 29) rfl ?_); (try (refine gate_guard (by rfl) ?_; dsimp only)); refine Kd.R_lit (Kd.int .i64) _ 3 ?hg (N := 29) ?hd (xs := ([t597] : List Int)) (inner := [.int .i64 t597]) (ok := fun _ => True) (okp := fun _ => True) ?hr ?hp (fun _ hk => hk) trivial (Below.refl _ _) (Nat.le_refl _) (by simp) ?_; (case hd => rfl); (case hg => rfl); (case hr => first | (go_simp; done) | (go_simp; rfl)); (case hp => exact (Reps.one (show Kd.M (Kd.int .i64) _ _ _ t597 [.int .i64 t597] from rfl) (Reps.none _ _))); intro v599 w13 ho14 hb hg_ hnew_; clear hg_ hnew_; (first | rw [← Ny598.out] at ho14 | (simp only [Int.reduceToNat] at ho14; rw [← Ny598.out] at ho14)); have n0_ := Aside0.mk (Kd.S_elder' (by (with_reducible repeat (first | apply Kd.S_alloc | apply Kd.S_drewN | apply Kd.S_drew)); exact HO_3.out) (Kd.R_base ho14) hb); have n1_ := Aside0.mk (Kd.R_lower ho14 (below_size (by repeat (first | (with_reducible first | exact HB.out | apply below_alloc | apply pw_below_drewN | apply below_drew1) | exact HB.out)))); have n2_ := Aside0.mk (below_step (by repeat (first | (with_reducible first | exact HB.out | apply below_alloc | apply pw_below_drewN | apply below_drew1) | exact HB.out)) hb); clear HO_3; clear HB; have HO_3 := n0_; have HO600 := n1_; have HB := n2_; clear n0_ n1_ n2_; clear hb ho14; obtain ⟨Ao15, co15, eo15⟩ := Kd.R_slice HO600.out; subst eo15) | ((with_reducible refine gate_builtin (b := .append) (xs := #[.tmp 27, .tmp 31]) rfl ?_); (try (refine gate_guard (by rfl) ?_; dsimp only)); at_builtin; refine Kd.S_append k41 (w0 := w) w.heap.size rfl (.tmp 27) (.tmp 31) 29 41 (.agg #[(.slice none 0 0), (.int .i64 0), (.slice none 0 0), (.slice none 0 0), (.slice none 0 0)]) 104 rfl Try.underlying29 info41 rfl (by decide) (by omega) u3 x3_1 (⟨y598, 1, ([] : List Int), ([] : List Int), ([] : List Int)⟩ : S41) [.slice Ao15 y598.length co15, .int .i64 1, .slice none 0 0, .slice none 0 0, .slice none 0 0] (fun _ => True) (fun k_ => some k_ = (.slice Ao15 y598.length co15 : Value).ownBlock) rfl rfl ?aP (fun k_ hk_ => ((Kd.R_mono (ok' := fun k_ => ((fun _ => True)) k_ ∧ some k_ ≠ (u3 : Value).ownBlock) (Kd.R_apart' (HO600.out) (Kd.S_typed HO_3.out) (by decide)) (fun k_ hk => ⟨trivial, hk.2⟩))).1 k_ hk_.symm) ?aF ?aO ?aB ?aS ?aL ?_; (case aP => exact k41_mkM _ _ _ (⟨y598, 1, ([] : List Int), ([] : List Int), ([] : List Int)⟩ : S41) (Kd.R_mono (Kd.R_tight rfl (Kd.R_mono (ok' := fun k_ => ((fun _ => True)) k_ ∧ some k_ ≠ (u3 : Value).ownBlock) (Kd.R_apart' (HO600.out) (Kd.S_typed HO_3.out) (by decide)) (fun k_ hk => ⟨trivial, hk.2⟩))) (fun _ h_ => h_)) (Kd.R_nil _ _ _ _ _) (Kd.R_nil _ _ _ _ _) (Kd.R_nil _ _ _ _ _)); (case aB => exact (by repeat (first | (with_reducible first | exact HB.out | apply below_alloc | apply pw_below_drewN | apply below_drew1) | exact HB.out))); (case aF => exact (fun _ _ => trivial)); (case aO => exact (by (with_reducible repeat (first | apply Kd.S_alloc | apply Kd.S_drewN | apply Kd.S_drew)); exact Kd.S_mono HO_3.out (fun k_ hk => ⟨trivial, fun e_ => hk.2 e_⟩))); (case aS => exact (below_size (by repeat (first | (with_reducible first | exact HB.out | apply below_alloc | apply pw_below_drewN | apply below_drew1) | exact HB.out)))); (case aL => have := LMc11.out; omega); intro v602 w16 ho hb hg hat; rw [← Ny601.out] at ho; have n0_ := Aside0.mk (hb); have n1_ := Aside0.mk (ho); clear HB; clear HO_3; clear HO600; have HB := n0_; have HO603 := n1_; clear n0_ n1_; clear ho hb hg hat))
           go_roundg kj4
           case measure => have := HK1.out; have := HJ4.out; omega
           case rel => exact ⟨(y601), (wrap64 (x4_1 + 1)), (wrap64 (x5_1 + 1)), (by first | rfl | (simp; done) | (simp [*]; done)), (by first | rfl | (simp; done) | (simp [*]; done)), H', ⟨by have := HK1.out; have := HJ4.out; omega⟩, ⟨by (with_reducible repeat (first | apply Kd.S_alloc | apply Kd.S_drewN | apply Kd.S_drew)); exact HO603.out⟩, ⟨by repeat (first | (with_reducible first | exact HB.out | apply below_alloc | apply pw_below_drewN | apply below_drew1) | exact HB.out)⟩⟩
          ·rw [if_neg c12] at H
           have c12b0 : (x5_1 == 0) = false := beq_eq_false_iff_ne.mpr c12
           have c12b1 : (x5_1 != 0) = true := bne_iff_ne.mpr c12
           obtain ⟨ji17, hji17⟩ : ∃ j_ : Int, (wrap64 (x5_1 - 1)) = j_ := ⟨_, rfl⟩
           replace H : (if 0 ≤ (ji17) then (if (ji17) < (y601.length : Int) then (if 0 < (((rd_T41 y601 (ji17)).f0).length : Int) then (if (rd ((rd_T41 y601 (ji17)).f0) 0) = t597 then (hypercubelaw5_RunsOnly.l0 kj4 l0 y601 x4_1 (wrap64 (x5_1 + 1))) else (hypercubelaw5_RunsOnly.l0 kj4 l0 y601 (wrap64 (x4_1 + 1)) (wrap64 (x5_1 + 1)))) else (none)) else (none)) else (none)) = some r := by first | (rw [hji17] at H; exact H) | (simp only [hji17] at H ⊢; exact H)
           (try rw [hji17] at A10)
           have hji17w : (IntKind.i64.wrap (x5_1 - 1)) = ji17 := (i64_w _).trans hji17
           by_cases c18 : 0 ≤ (ji17)
           ·rw [if_pos c18] at H
            have c18b0 : decide (0 ≤ (ji17)) = true := decide_eq_true c18
            clear c18
            by_cases c19 : (ji17) < (y601.length : Int)
            ·rw [if_pos c19] at H
             have c19b0 : decide ((ji17) < (y601.length : Int)) = true := decide_eq_true c19
             clear c19
             by_cases c20 : 0 < (((rd_T41 y601 (ji17)).f0).length : Int)
             ·rw [if_pos c20] at H
              have c20b0 : decide (0 < (((rd_T41 y601 (ji17)).f0).length : Int)) = true := decide_eq_true c20
              have c20b1 : decide (0 < ((rd_T41 y601 (ji17)).f0).length) = true := decide_eq_true (by omega)
              clear c20
              by_cases c21 : (rd ((rd_T41 y601 (ji17)).f0) 0) = t597
              ·rw [if_pos c21] at H
               have c21b0 : ((rd ((rd_T41 y601 (ji17)).f0) 0) == t597) = true := beq_iff_eq.mpr c21
               have c21b1 : ((rd ((rd_T41 y601 (ji17)).f0) 0) != t597) = false := bne_eq_false_iff_eq.mpr c21
               clear c21
               have H' := Aside0.mk H
               clear H
               have p596 : 0 ≤ (x5_1 : Int) := of_decide_eq_true (by first | (with_reducible assumption) | assumption)
               have q596 : x5_1 < (l0.length : Int) := of_decide_eq_true (by first | (with_reducible assumption) | assumption)
               obtain ⟨ad596, e596, hx596_0⟩ := Kd.at_int HR0.out x5_1 p596 q596
               cases e596
               replace hx596_0 := (HB.out.cell (World.block_lt_of_cell? w _ hx596_0)).trans hx596_0
               replace p596 := eq_true p596
               replace q596 := eq_true q596
               go_wp2_with (first | ((with_reducible refine gate_callee (f := 16) rfl ?_); refine goesL_ (some 26) rfl rfl Try.func16 (by kernel_rfl) rfl #[.int .i64 (rd l0 x5_1), .int .i64 3] rfl (by (try simp only [List.map_toArray, List.map_cons, List.map_nil]); first | done | rfl | (simp only [List.length_drop, List.length_take]; rfl)) ?_; (with_reducible refine (hypercubelaw5_within.calls (rd l0 x5_1) 3 t597 _ A10.out).mono ?_); rintro e w' ⟨rfl, ⟨nd, rfl⟩⟩; refine ⟨_, rfl, ?_⟩) | ((with_reducible refine gate_dst (N := 29) rfl ?_); (try (refine gate_guard (by rfl) ?_; dsimp only)); refine Kd.R_lit (Kd.int .i64) _ 3 ?hg (N := 29) ?hd (xs := ([t597] : List Int)) (inner := [.int .i64 t597]) (ok := fun _ => True) (okp := fun _ => True) ?hr ?hp (fun _ hk => hk) trivial (Below.refl _ _) (Nat.le_refl _) (by simp) ?_; (case hd => rfl); (case hg => rfl); (case hr => first | (go_simp; done) | (go_simp; rfl)); (case hp => exact (Reps.one (show Kd.M (Kd.int .i64) _ _ _ t597 [.int .i64 t597] from rfl) (Reps.none _ _))); intro v599 w22 ho23 hb hg_ hnew_; clear hg_ hnew_; (first | rw [← Ny598.out] at ho23 | (simp only [Int.reduceToNat] at ho23; rw [← Ny598.out] at ho23)); have n0_ := Aside0.mk (Kd.S_elder' (by (with_reducible repeat (first | apply Kd.S_alloc | apply Kd.S_drewN | apply Kd.S_drew)); exact HO_3.out) (Kd.R_base ho23) hb); have n1_ := Aside0.mk (Kd.R_lower ho23 (below_size (by repeat (first | (with_reducible first | exact HB.out | apply below_alloc | apply pw_below_drewN | apply below_drew1) | exact HB.out)))); have n2_ := Aside0.mk (below_step (by repeat (first | (with_reducible first | exact HB.out | apply below_alloc | apply pw_below_drewN | apply below_drew1) | exact HB.out)) hb); clear HO_3; clear HB; have HO_3 := n0_; have HO600 := n1_; have HB := n2_; clear n0_ n1_ n2_; clear hb ho23; obtain ⟨Ao24, co24, eo24⟩ := Kd.R_slice HO600.out; subst eo24) | ((with_reducible refine gate_builtin (b := .append) (xs := #[.tmp 27, .tmp 31]) rfl ?_); (try (refine gate_guard (by rfl) ?_; dsimp only)); at_builtin; refine Kd.S_append k41 (w0 := w) w.heap.size rfl (.tmp 27) (.tmp 31) 29 41 (.agg #[(.slice none 0 0), (.int .i64 0), (.slice none 0 0), (.slice none 0 0), (.slice none 0 0)]) 104 rfl Try.underlying29 info41 rfl (by decide) (by omega) u3 x3_1 (⟨y598, 1, ([] : List Int), ([] : List Int), ([] : List Int)⟩ : S41) [.slice Ao24 y598.length co24, .int .i64 1, .slice none 0 0, .slice none 0 0, .slice none 0 0] (fun _ => True) (fun k_ => some k_ = (.slice Ao24 y598.length co24 : Value).ownBlock) rfl rfl ?aP (fun k_ hk_ => ((Kd.R_mono (ok' := fun k_ => ((fun _ => True)) k_ ∧ some k_ ≠ (u3 : Value).ownBlock) (Kd.R_apart' (HO600.out) (Kd.S_typed HO_3.out) (by decide)) (fun k_ hk => ⟨trivial, hk.2⟩))).1 k_ hk_.symm) ?aF ?aO ?aB ?aS ?aL ?_; (case aP => exact k41_mkM _ _ _ (⟨y598, 1, ([] : List Int), ([] : List Int), ([] : List Int)⟩ : S41) (Kd.R_mono (Kd.R_tight rfl (Kd.R_mono (ok' := fun k_ => ((fun _ => True)) k_ ∧ some k_ ≠ (u3 : Value).ownBlock) (Kd.R_apart' (HO600.out) (Kd.S_typed HO_3.out) (by decide)) (fun k_ hk => ⟨trivial, hk.2⟩))) (fun _ h_ => h_)) (Kd.R_nil _ _ _ _ _) (Kd.R_nil _ _ _ _ _) (Kd.R_nil _ _ _ _ _)); (case aB => exact (by repeat (first | (with_reducible first | exact HB.out | apply below_alloc | apply pw_below_drewN | apply below_drew1) | exact HB.out))); (case aF => exact (fun _ _ => trivial)); (case aO => exact (by (with_reducible repeat (first | apply Kd.S_alloc | apply Kd.S_drewN | apply Kd.S_drew)); exact Kd.S_mono HO_3.out (fun k_ hk => ⟨trivial, fun e_ => hk.2 e_⟩))); (case aS => exact (below_size (by repeat (first | (with_reducible first | exact HB.out | apply below_alloc | apply pw_below_drewN | apply below_drew1) | exact HB.out)))); (case aL => have := LMc11.out; omega); intro v602 w25 ho hb hg hat; rw [← Ny601.out] at ho; have n0_ := Aside0.mk (hb); have n1_ := Aside0.mk (ho); clear HB; clear HO_3; clear HO600; have HB := n0_; have HO603 := n1_; clear n0_ n1_; clear ho hb hg hat; obtain ⟨Ao26, co26, eo26⟩ := Kd.S_slice HO603.out; subst eo26; have p604 : 0 ≤ ((ji17) : Int) := of_decide_eq_true (by first | (with_reducible assumption) | assumption); have q604 : (ji17) < (y601.length : Int) := of_decide_eq_true (by first | (with_reducible assumption) | assumption); obtain ⟨ad604, A604_0, c604_0, A604_2, c604_2, A604_3, c604_3, A604_4, c604_4, e604, hx604_0, hx604_1, hx604_2, hx604_3, hx604_4, hl604_0, hi604_0, hl604_2, hi604_2, hl604_3, hi604_3, hl604_4, hi604_4⟩ := at_T41 (Kd.S_reads' HO603.out).2.2 (ji17) p604 q604; cases e604; obtain ⟨ce604, hce604, hMe604, hcc604⟩ := Kd.S_get HO603.out z41 (ji17) p604 (by first | exact q604 | exact of_decide_eq_true (by first | (with_reducible assumption) | assumption) | (have e_ := (Kd.S_reads' HO603.out).1; omega)); obtain ⟨ve604_0, ve604_2, ve604_3, ve604_4, rfl, ge604_0, ge604_2, ge604_3, ge604_4⟩ := k41_openM hMe604; have hv604_0 := hcc604 0 _ rfl; rw [Nat.add_zero] at hv604_0; replace hv604_0 := Option.some.inj (hv604_0.symm.trans hx604_0); rw [hv604_0] at ge604_0; have HL604_0 := Aside0.mk (show Kd.R (Kd.int .i64) 3 _ _ _ _ ((rd_T41 y601 (ji17)).f0) from ge604_0); clear hv604_0 ge604_0; have hv604_2 := hcc604 2 _ rfl; rw [add_field _ _ 2 (by omega)] at hv604_2; replace hv604_2 := Option.some.inj (hv604_2.symm.trans hx604_2); rw [hv604_2] at ge604_2; have HL604_2 := Aside0.mk (show Kd.R (Kd.int .i64) 3 _ _ _ _ ((rd_T41 y601 (ji17)).f2) from ge604_2); clear hv604_2 ge604_2; have hv604_3 := hcc604 3 _ rfl; rw [add_field _ _ 3 (by omega)] at hv604_3; replace hv604_3 := Option.some.inj (hv604_3.symm.trans hx604_3); rw [hv604_3] at ge604_3; have HL604_3 := Aside0.mk (show Kd.R (Kd.int .i64) 3 _ _ _ _ ((rd_T41 y601 (ji17)).f3) from ge604_3); clear hv604_3 ge604_3; have hv604_4 := hcc604 4 _ rfl; rw [add_field _ _ 4 (by omega)] at hv604_4; replace hv604_4 := Option.some.inj (hv604_4.symm.trans hx604_4); rw [hv604_4] at ge604_4; have HL604_4 := Aside0.mk (show Kd.R (Kd.int .i64) 3 _ _ _ _ ((rd_T41 y601 (ji17)).f4) from ge604_4); clear hv604_4 ge604_4; clear hcc604 hce604; have HR604_0 := Aside0.mk hi604_0; have HC604_0 := Aside0.mk hl604_0; clear hi604_0 hl604_0; have HR604_2 := Aside0.mk hi604_2; have HC604_2 := Aside0.mk hl604_2; clear hi604_2 hl604_2; have HR604_3 := Aside0.mk hi604_3; have HC604_3 := Aside0.mk hl604_3; clear hi604_3 hl604_3; have HR604_4 := Aside0.mk hi604_4; have HC604_4 := Aside0.mk hl604_4; clear hi604_4 hl604_4; replace p604 := eq_true p604; replace q604 := eq_true q604; have p605 : 0 ≤ (0 : Int) := (by omega); have q605 : 0 < (((rd_T41 y601 (ji17)).f0).length : Int) := of_decide_eq_true (by first | (with_reducible assumption) | assumption); obtain ⟨ad605, e605, hx605_0⟩ := Kd.at_int (by repeat (first | (with_reducible exact HR604_0.out) | (with_reducible refine Kd.C_alloc ?_ _) | (with_reducible refine Kd.C_drewN ?_ _) | (with_reducible refine Kd.C_drew ?_) | exact HR604_0.out)) 0 p605 q605; cases e605; have qi605 : (0 < ((rd_T41 y601 (ji17)).f0).length) = True := eq_true (by omega); (try rw [show ((0 : Int)).toNat = 0 from rfl] at hx605_0); (try rw [Addr.add_zero'] at hx605_0); replace p605 := eq_true p605; replace q605 := eq_true q605))
               go_roundg kj4
               case measure => have := HK1.out; have := HJ4.out; omega
               case rel => exact ⟨(y601), (x4_1), (wrap64 (x5_1 + 1)), (by first | rfl | (simp; done) | (simp [*]; done)), (by first | rfl | (simp; done) | (simp [*]; done)), H', ⟨by have := HK1.out; have := HJ4.out; omega⟩, ⟨by (with_reducible repeat (first | apply Kd.S_alloc | apply Kd.S_drewN | apply Kd.S_drew)); exact HO603.out⟩, ⟨by repeat (first | (with_reducible first | exact HB.out | apply below_alloc | apply pw_below_drewN | apply below_drew1) | exact HB.out)⟩⟩
              ·rw [if_neg c21] at H
               have c21b0 : ((rd ((rd_T41 y601 (ji17)).f0) 0) == t597) = false := beq_eq_false_iff_ne.mpr c21
               have c21b1 : ((rd ((rd_T41 y601 (ji17)).f0) 0) != t597) = true := bne_iff_ne.mpr c21
               have H' := Aside0.mk H
               clear H
               have p596 : 0 ≤ (x5_1 : Int) := of_decide_eq_true (by first | (with_reducible assumption) | assumption)
               have q596 : x5_1 < (l0.length : Int) := of_decide_eq_true (by first | (with_reducible assumption) | assumption)
               obtain ⟨ad596, e596, hx596_0⟩ := Kd.at_int HR0.out x5_1 p596 q596
               cases e596
               replace hx596_0 := (HB.out.cell (World.block_lt_of_cell? w _ hx596_0)).trans hx596_0
               replace p596 := eq_true p596
               replace q596 := eq_true q596
               go_wp2_with (first | ((with_reducible refine gate_callee (f := 16) rfl ?_); refine goesL_ (some 26) rfl rfl Try.func16 (by kernel_rfl) rfl #[.int .i64 (rd l0 x5_1), .int .i64 3] rfl (by (try simp only [List.map_toArray, List.map_cons, List.map_nil]); first | done | rfl | (simp only [List.length_drop, List.length_take]; rfl)) ?_; (with_reducible refine (hypercubelaw5_within.calls (rd l0 x5_1) 3 t597 _ A10.out).mono ?_); rintro e w' ⟨rfl, ⟨nd, rfl⟩⟩; refine ⟨_, rfl, ?_⟩) | ((with_reducible refine gate_dst (N := 29) rfl ?_); (try (refine gate_guard (by rfl) ?_; dsimp only)); refine Kd.R_lit (Kd.int .i64) _ 3 ?hg (N := 29) ?hd (xs := ([t597] : List Int)) (inner := [.int .i64 t597]) (ok := fun _ => True) (okp := fun _ => True) ?hr ?hp (fun _ hk => hk) trivial (Below.refl _ _) (Nat.le_refl _) (by simp) ?_; (case hd => rfl); (case hg => rfl); (case hr => first | (go_simp; done) | (go_simp; rfl)); (case hp => exact (Reps.one (show Kd.M (Kd.int .i64) _ _ _ t597 [.int .i64 t597] from rfl) (Reps.none _ _))); intro v599 w27 ho28 hb hg_ hnew_; clear hg_ hnew_; (first | rw [← Ny598.out] at ho28 | (simp only [Int.reduceToNat] at ho28; rw [← Ny598.out] at ho28)); have n0_ := Aside0.mk (Kd.S_elder' (by (with_reducible repeat (first | apply Kd.S_alloc | apply Kd.S_drewN | apply Kd.S_drew)); exact HO_3.out) (Kd.R_base ho28) hb); have n1_ := Aside0.mk (Kd.R_lower ho28 (below_size (by repeat (first | (with_reducible first | exact HB.out | apply below_alloc | apply pw_below_drewN | apply below_drew1) | exact HB.out)))); have n2_ := Aside0.mk (below_step (by repeat (first | (with_reducible first | exact HB.out | apply below_alloc | apply pw_below_drewN | apply below_drew1) | exact HB.out)) hb); clear HO_3; clear HB; have HO_3 := n0_; have HO600 := n1_; have HB := n2_; clear n0_ n1_ n2_; clear hb ho28; obtain ⟨Ao29, co29, eo29⟩ := Kd.R_slice HO600.out; subst eo29) | ((with_reducible refine gate_builtin (b := .append) (xs := #[.tmp 27, .tmp 31]) rfl ?_); (try (refine gate_guard (by rfl) ?_; dsimp only)); at_builtin; refine Kd.S_append k41 (w0 := w) w.heap.size rfl (.tmp 27) (.tmp 31) 29 41 (.agg #[(.slice none 0 0), (.int .i64 0), (.slice none 0 0), (.slice none 0 0), (.slice none 0 0)]) 104 rfl Try.underlying29 info41 rfl (by decide) (by omega) u3 x3_1 (⟨y598, 1, ([] : List Int), ([] : List Int), ([] : List Int)⟩ : S41) [.slice Ao29 y598.length co29, .int .i64 1, .slice none 0 0, .slice none 0 0, .slice none 0 0] (fun _ => True) (fun k_ => some k_ = (.slice Ao29 y598.length co29 : Value).ownBlock) rfl rfl ?aP (fun k_ hk_ => ((Kd.R_mono (ok' := fun k_ => ((fun _ => True)) k_ ∧ some k_ ≠ (u3 : Value).ownBlock) (Kd.R_apart' (HO600.out) (Kd.S_typed HO_3.out) (by decide)) (fun k_ hk => ⟨trivial, hk.2⟩))).1 k_ hk_.symm) ?aF ?aO ?aB ?aS ?aL ?_; (case aP => exact k41_mkM _ _ _ (⟨y598, 1, ([] : List Int), ([] : List Int), ([] : List Int)⟩ : S41) (Kd.R_mono (Kd.R_tight rfl (Kd.R_mono (ok' := fun k_ => ((fun _ => True)) k_ ∧ some k_ ≠ (u3 : Value).ownBlock) (Kd.R_apart' (HO600.out) (Kd.S_typed HO_3.out) (by decide)) (fun k_ hk => ⟨trivial, hk.2⟩))) (fun _ h_ => h_)) (Kd.R_nil _ _ _ _ _) (Kd.R_nil _ _ _ _ _) (Kd.R_nil _ _ _ _ _)); (case aB => exact (by repeat (first | (with_reducible first | exact HB.out | apply below_alloc | apply pw_below_drewN | apply below_drew1) | exact HB.out))); (case aF => exact (fun _ _ => trivial)); (case aO => exact (by (with_reducible repeat (first | apply Kd.S_alloc | apply Kd.S_drewN | apply Kd.S_drew)); exact Kd.S_mono HO_3.out (fun k_ hk => ⟨trivial, fun e_ => hk.2 e_⟩))); (case aS => exact (below_size (by repeat (first | (with_reducible first | exact HB.out | apply below_alloc | apply pw_below_drewN | apply below_drew1) | exact HB.out)))); (case aL => have := LMc11.out; omega); intro v602 w30 ho hb hg hat; rw [← Ny601.out] at ho; have n0_ := Aside0.mk (hb); have n1_ := Aside0.mk (ho); clear HB; clear HO_3; clear HO600; have HB := n0_; have HO603 := n1_; clear n0_ n1_; clear ho hb hg hat; obtain ⟨Ao31, co31, eo31⟩ := Kd.S_slice HO603.out; subst eo31; have p604 : 0 ≤ ((ji17) : Int) := of_decide_eq_true (by first | (with_reducible assumption) | assumption); have q604 : (ji17) < (y601.length : Int) := of_decide_eq_true (by first | (with_reducible assumption) | assumption); obtain ⟨ad604, A604_0, c604_0, A604_2, c604_2, A604_3, c604_3, A604_4, c604_4, e604, hx604_0, hx604_1, hx604_2, hx604_3, hx604_4, hl604_0, hi604_0, hl604_2, hi604_2, hl604_3, hi604_3, hl604_4, hi604_4⟩ := at_T41 (Kd.S_reads' HO603.out).2.2 (ji17) p604 q604; cases e604; obtain ⟨ce604, hce604, hMe604, hcc604⟩ := Kd.S_get HO603.out z41 (ji17) p604 (by first | exact q604 | exact of_decide_eq_true (by first | (with_reducible assumption) | assumption) | (have e_ := (Kd.S_reads' HO603.out).1; omega)); obtain ⟨ve604_0, ve604_2, ve604_3, ve604_4, rfl, ge604_0, ge604_2, ge604_3, ge604_4⟩ := k41_openM hMe604; have hv604_0 := hcc604 0 _ rfl; rw [Nat.add_zero] at hv604_0; replace hv604_0 := Option.some.inj (hv604_0.symm.trans hx604_0); rw [hv604_0] at ge604_0; have HL604_0 := Aside0.mk (show Kd.R (Kd.int .i64) 3 _ _ _ _ ((rd_T41 y601 (ji17)).f0) from ge604_0); clear hv604_0 ge604_0; have hv604_2 := hcc604 2 _ rfl; rw [add_field _ _ 2 (by omega)] at hv604_2; replace hv604_2 := Option.some.inj (hv604_2.symm.trans hx604_2); rw [hv604_2] at ge604_2; have HL604_2 := Aside0.mk (show Kd.R (Kd.int .i64) 3 _ _ _ _ ((rd_T41 y601 (ji17)).f2) from ge604_2); clear hv604_2 ge604_2; have hv604_3 := hcc604 3 _ rfl; rw [add_field _ _ 3 (by omega)] at hv604_3; replace hv604_3 := Option.some.inj (hv604_3.symm.trans hx604_3); rw [hv604_3] at ge604_3; have HL604_3 := Aside0.mk (show Kd.R (Kd.int .i64) 3 _ _ _ _ ((rd_T41 y601 (ji17)).f3) from ge604_3); clear hv604_3 ge604_3; have hv604_4 := hcc604 4 _ rfl; rw [add_field _ _ 4 (by omega)] at hv604_4; replace hv604_4 := Option.some.inj (hv604_4.symm.trans hx604_4); rw [hv604_4] at ge604_4; have HL604_4 := Aside0.mk (show Kd.R (Kd.int .i64) 3 _ _ _ _ ((rd_T41 y601 (ji17)).f4) from ge604_4); clear hv604_4 ge604_4; clear hcc604 hce604; have HR604_0 := Aside0.mk hi604_0; have HC604_0 := Aside0.mk hl604_0; clear hi604_0 hl604_0; have HR604_2 := Aside0.mk hi604_2; have HC604_2 := Aside0.mk hl604_2; clear hi604_2 hl604_2; have HR604_3 := Aside0.mk hi604_3; have HC604_3 := Aside0.mk hl604_3; clear hi604_3 hl604_3; have HR604_4 := Aside0.mk hi604_4; have HC604_4 := Aside0.mk hl604_4; clear hi604_4 hl604_4; replace p604 := eq_true p604; replace q604 := eq_true q604; have p605 : 0 ≤ (0 : Int) := (by omega); have q605 : 0 < (((rd_T41 y601 (ji17)).f0).length : Int) := of_decide_eq_true (by first | (with_reducible assumption) | assumption); obtain ⟨ad605, e605, hx605_0⟩ := Kd.at_int (by repeat (first | (with_reducible exact HR604_0.out) | (with_reducible refine Kd.C_alloc ?_ _) | (with_reducible refine Kd.C_drewN ?_ _) | (with_reducible refine Kd.C_drew ?_) | exact HR604_0.out)) 0 p605 q605; cases e605; have qi605 : (0 < ((rd_T41 y601 (ji17)).f0).length) = True := eq_true (by omega); (try rw [show ((0 : Int)).toNat = 0 from rfl] at hx605_0); (try rw [Addr.add_zero'] at hx605_0); replace p605 := eq_true p605; replace q605 := eq_true q605))
               go_roundg kj4
               case measure => have := HK1.out; have := HJ4.out; omega
               case rel => exact ⟨(y601), (wrap64 (x4_1 + 1)), (wrap64 (x5_1 + 1)), (by first | rfl | (simp; done) | (simp [*]; done)), (by first | rfl | (simp; done) | (simp [*]; done)), H', ⟨by have := HK1.out; have := HJ4.out; omega⟩, ⟨by (with_reducible repeat (first | apply Kd.S_alloc | apply Kd.S_drewN | apply Kd.S_drew)); exact HO603.out⟩, ⟨by repeat (first | (with_reducible first | exact HB.out | apply below_alloc | apply pw_below_drewN | apply below_drew1) | exact HB.out)⟩⟩
             ·rw [if_neg c20] at H
              exact absurd H (by simp)
            ·rw [if_neg c19] at H
             exact absurd H (by simp)
           ·rw [if_neg c18] at H
            exact absurd H (by simp)
         ·rw [if_neg c11] at H
          exact absurd H (by simp)
        ·rw [if_neg c9] at H
         exact absurd H (by simp)
       ·rw [if_neg c8] at H
        exact absurd H (by simp)
      ·replace c7 := Bool.eq_false_iff.mpr c7
       subst c7
       have H1 : ((runs_Runs.f kj4 x3_1 1).bind fun t606 => (hypercubelaw5_RunsOnly.l1 kj4 x3_1 x4_1 t606 0 0)) = some r := by rw [if_neg (show ¬ (false = true) by decide)] at H; exact H
       clear H
       have H := H1
       clear H1
       replace H := Option.bind_eq_some_iff.mp H
       obtain ⟨t606, A320, H⟩ := H
       replace H : (hypercubelaw5_RunsOnly.l1 kj4 x3_1 x4_1 t606 0 0) = some r := H
       have A32 := Aside0.mk A320
       clear A320
       have H' := Aside0.mk H
       clear H
       obtain ⟨Ao33, co33, eo33⟩ := Kd.S_slice HO_3.out
       subst eo33
       go_wp2_with (first | ((with_reducible refine gate_callee (f := 18) rfl ?_); refine goesL_ (some 50) rfl rfl Try.func18 (by kernel_rfl) rfl #[.slice Ao33 x3_1.length co33, .int .i64 1] rfl (by (try simp only [List.map_toArray, List.map_cons, List.map_nil]); first | done | rfl | (simp only [List.length_drop, List.length_take]; rfl)) ?_; (with_reducible refine (runs_Runs.calls kj4 _ _ x3_1 1 t606 _ ?side1 ?side2 A32.out).mono ?_); (case side1 => repeat (first | exact (Kd.S_reads' HO_3.out).2.2 | (with_reducible refine Kd.C_alloc ?_ _) | (with_reducible refine Kd.C_drewN ?_ _) | (with_reducible refine Kd.C_drew ?_))); (case side2 => exact (Kd.S_reads' HO_3.out).2.1); rintro e w34 ⟨v607, rfl, ho0, hb⟩; refine ⟨_, rfl, ?_⟩; have n0_ := Aside0.mk (Kd.S_below (by (with_reducible repeat (first | apply Kd.S_alloc | apply Kd.S_drewN | apply Kd.S_drew)); exact HO_3.out) hb); have n1_ := Aside0.mk (Kd.R_lower (Kd.R_new' ho0 (Kd.S_lt (by (with_reducible repeat (first | apply Kd.S_alloc | apply Kd.S_drewN | apply Kd.S_drew)); exact HO_3.out))) (below_size (by repeat (first | (with_reducible first | exact HB.out | apply below_alloc | apply pw_below_drewN | apply below_drew1) | exact HB.out)))); have n2_ := Aside0.mk (below_step (by repeat (first | (with_reducible first | exact HB.out | apply below_alloc | apply pw_below_drewN | apply below_drew1) | exact HB.out)) hb); clear HO_3; clear HB; have HO_3 := n0_; have HO608 := n1_; have HB := n2_; clear n0_ n1_ n2_; (try clear hb); (try clear hb2); (try clear hk); (try clear hi); (try clear ho0)))
       go_loopg [8, 9] kj4 (fun kq v8 v9 w' => ∃ (x8_3 : Int) (x9_3 : Int), v8 = .int .i64 x8_3 ∧ v9 = .int .i64 x9_3 ∧ Aside0 (hypercubelaw5_RunsOnly.l1 kq x3_1 x4_1 t606 x8_3 x9_3 = some r) ∧ Aside0 (kq ≤ kj4) ∧ Aside0 (Kd.S k41 41 w' w.heap.size (fun _ => True) (.slice Ao33 x3_1.length co33) x3_1) ∧ Aside0 (Kd.R (Kd.slice 41 k41) 29 w' w.heap.size (fun k_ => some k_ ≠ ((.slice Ao33 x3_1.length co33) : Value).ownBlock) v607 t606) ∧ Aside0 (Below w.heap.size w w'))
       case atStart => exact ⟨(0), (0), (by first | rfl | (simp; done) | (simp [*]; done)), (by first | rfl | (simp; done) | (simp [*]; done)), H', ⟨Nat.le_refl _⟩, ⟨by (with_reducible repeat (first | apply Kd.S_alloc | apply Kd.S_drewN | apply Kd.S_drew)); exact HO_3.out⟩, ⟨by (with_reducible repeat (first | apply Kd.R_alloc | apply Kd.R_drewN | apply Kd.R_drew)); exact Kd.R_mono HO608.out (fun _ hk => hk.2)⟩, ⟨by repeat (first | (with_reducible first | exact HB.out | apply below_alloc | apply pw_below_drewN | apply below_drew1) | exact HB.out)⟩⟩
       case round =>
        clear H'
        try clear c1
        try clear c2
        try clear p2
        try clear c3
        try clear p5
        try clear q5
        try clear hx5
        try clear c6
        try clear c6b0
        try clear p6
        try clear q6
        try clear hx6
        try clear qi6
        try clear c7
        try clear c8
        try clear c8b0
        try clear c9
        try clear c9b0
        try clear c11
        try clear c12
        try clear c12b0
        try clear c12b1
        try clear c16
        try clear c18
        try clear c18b0
        try clear c19
        try clear c19b0
        try clear c20
        try clear c20b0
        try clear c20b1
        try clear c21
        try clear c21b0
        try clear c21b1
        try clear hx596_0
        try clear hx604_0
        try clear hx604_1
        try clear hx604_2
        try clear hx604_3
        try clear hx604_4
        try clear hx605_0
        try clear p2
        try clear p596
        try clear p604
        try clear p605
        try clear q596
        try clear q604
        try clear q605
        obtain ⟨x8_3, x9_3, rfl, rfl, HA, HK3, HO_3, HO_7, HB⟩ := hrel
        cases gk with
        | zero => exact absurd HA.out (by simp [hypercubelaw5_RunsOnly.l1])
        | succ k3 =>
         have H := HA.out
         clear HA
         simp only [hypercubelaw5_RunsOnly.l1] at H
         by_cases c35 : x9_3 < (t606.length : Int)
         ·rw [if_pos c35] at H
          have c35b0 : decide (x9_3 < (t606.length : Int)) = true := decide_eq_true c35
          clear c35
          by_cases c36 : 0 ≤ x9_3
          ·rw [if_pos c36] at H
           have c36b0 : decide (0 ≤ x9_3) = true := decide_eq_true c36
           clear c36
           by_cases c37 : ((rd_L3 t606 x9_3).length : Int) = 1
           ·rw [if_pos c37] at H
            have c37b0 : (((rd_L3 t606 x9_3).length : Int) == 1) = true := beq_iff_eq.mpr c37
            have c37b1 : (((rd_L3 t606 x9_3).length : Int) != 1) = false := bne_eq_false_iff_eq.mpr c37
            clear c37
            by_cases c38 : 0 < ((rd_L3 t606 x9_3).length : Int)
            ·rw [if_pos c38] at H
             have c38b0 : decide (0 < ((rd_L3 t606 x9_3).length : Int)) = true := decide_eq_true c38
             have c38b1 : decide (0 < (rd_L3 t606 x9_3).length) = true := decide_eq_true (by omega)
             clear c38
             have H' := Aside0.mk H
             clear H
             obtain ⟨Ao39, co39, eo39⟩ := Kd.R_slice HO_7.out
             subst eo39
             have p609 : 0 ≤ (x9_3 : Int) := of_decide_eq_true (by first | (with_reducible assumption) | assumption)
             have q609 : x9_3 < (t606.length : Int) := of_decide_eq_true (by first | (with_reducible assumption) | assumption)
             obtain ⟨ad609, A609_0, c609_0, e609, hx609_0, hl609_0, hi609_0⟩ := at_L3 (Kd.R_reads' HO_7.out).2.2 x9_3 p609 q609
             cases e609
             obtain ⟨ce609, hce609, hMe609, hcc609⟩ := Kd.R_get HO_7.out [] x9_3 p609 (by first | exact q609 | exact of_decide_eq_true (by first | (with_reducible assumption) | assumption) | (have e_ := (Kd.R_reads' HO_7.out).1; omega))
             obtain ⟨ve609_0, rfl, ge609_0⟩ := hMe609
             have hv609_0 := hcc609 0 _ rfl
             rw [Nat.add_zero, show ((Kd.slice 41 k41)).sz = 1 from rfl, Nat.mul_one] at hv609_0
             replace hv609_0 := Option.some.inj (hv609_0.symm.trans hx609_0)
             rw [hv609_0] at ge609_0
             have HL609_0 := Aside0.mk (show Kd.R k41 41 _ _ _ _ (rd_L3 t606 x9_3) from ge609_0)
             clear hv609_0 ge609_0
             clear hcc609 hce609
             have HR609_0 := Aside0.mk hi609_0
             have HC609_0 := Aside0.mk hl609_0
             clear hi609_0 hl609_0
             replace p609 := eq_true p609
             replace q609 := eq_true q609
             have p610 : 0 ≤ (x9_3 : Int) := of_decide_eq_true (by first | (with_reducible assumption) | assumption)
             have q610 : x9_3 < (t606.length : Int) := of_decide_eq_true (by first | (with_reducible assumption) | assumption)
             obtain ⟨ad610, A610_0, c610_0, e610, hx610_0, hl610_0, hi610_0⟩ := at_L3 (Kd.R_reads' HO_7.out).2.2 x9_3 p610 q610
             obtain rfl : ad609 = ad610 := (by injection e610)
             obtain ⟨ce610, hce610, hMe610, hcc610⟩ := Kd.R_get HO_7.out [] x9_3 p610 (by first | exact q610 | exact of_decide_eq_true (by first | (with_reducible assumption) | assumption) | (have e_ := (Kd.R_reads' HO_7.out).1; omega))
             obtain ⟨ve610_0, rfl, ge610_0⟩ := hMe610
             have hv610_0 := hcc610 0 _ rfl
             rw [Nat.add_zero, show ((Kd.slice 41 k41)).sz = 1 from rfl, Nat.mul_one] at hv610_0
             replace hv610_0 := Option.some.inj (hv610_0.symm.trans hx610_0)
             rw [hv610_0] at ge610_0
             have HL610_0 := Aside0.mk (show Kd.R k41 41 _ _ _ _ (rd_L3 t606 x9_3) from ge610_0)
             clear hv610_0 ge610_0
             clear hcc610 hce610
             have HR610_0 := Aside0.mk hi610_0
             have HC610_0 := Aside0.mk hl610_0
             clear hi610_0 hl610_0
             replace p610 := eq_true p610
             replace q610 := eq_true q610
             have ea_ := Option.some.inj (hx609_0.symm.trans hx610_0)
             injection ea_ with ea_ en_ ec_
             subst ea_
             subst ec_
             clear en_
             have p611 : 0 ≤ (0 : Int) := (by omega)
             have q611 : 0 < ((rd_L3 t606 x9_3).length : Int) := of_decide_eq_true (by first | (with_reducible assumption) | assumption)
             obtain ⟨ad611, A611_0, c611_0, A611_2, c611_2, A611_3, c611_3, A611_4, c611_4, e611, hx611_0, hx611_1, hx611_2, hx611_3, hx611_4, hl611_0, hi611_0, hl611_2, hi611_2, hl611_3, hi611_3, hl611_4, hi611_4⟩ := at_T41 (by repeat (first | (with_reducible exact HR610_0.out) | (with_reducible refine Kd.C_alloc ?_ _) | (with_reducible refine Kd.C_drewN ?_ _) | (with_reducible refine Kd.C_drew ?_) | exact HR610_0.out)) 0 p611 q611
             cases e611
             obtain ⟨ce611, hce611, hMe611, hcc611⟩ := Kd.R_get HL610_0.out z41 0 p611 (by first | exact q611 | exact of_decide_eq_true (by first | (with_reducible assumption) | assumption) | (have e_ := (Kd.R_reads' HL610_0.out).1; omega))
             obtain ⟨ve611_0, ve611_2, ve611_3, ve611_4, rfl, ge611_0, ge611_2, ge611_3, ge611_4⟩ := k41_openM hMe611
             have hv611_0 := hcc611 0 _ rfl
             rw [Nat.add_zero] at hv611_0
             replace hv611_0 := Option.some.inj (hv611_0.symm.trans hx611_0)
             rw [hv611_0] at ge611_0
             have HL611_0 := Aside0.mk (show Kd.R (Kd.int .i64) 3 _ _ _ _ ((rd_T41 (rd_L3 t606 x9_3) 0).f0) from ge611_0)
             clear hv611_0 ge611_0
             have hv611_2 := hcc611 2 _ rfl
             rw [add_field _ _ 2 (by omega)] at hv611_2
             replace hv611_2 := Option.some.inj (hv611_2.symm.trans hx611_2)
             rw [hv611_2] at ge611_2
             have HL611_2 := Aside0.mk (show Kd.R (Kd.int .i64) 3 _ _ _ _ ((rd_T41 (rd_L3 t606 x9_3) 0).f2) from ge611_2)
             clear hv611_2 ge611_2
             have hv611_3 := hcc611 3 _ rfl
             rw [add_field _ _ 3 (by omega)] at hv611_3
             replace hv611_3 := Option.some.inj (hv611_3.symm.trans hx611_3)
             rw [hv611_3] at ge611_3
             have HL611_3 := Aside0.mk (show Kd.R (Kd.int .i64) 3 _ _ _ _ ((rd_T41 (rd_L3 t606 x9_3) 0).f3) from ge611_3)
             clear hv611_3 ge611_3
             have hv611_4 := hcc611 4 _ rfl
             rw [add_field _ _ 4 (by omega)] at hv611_4
             replace hv611_4 := Option.some.inj (hv611_4.symm.trans hx611_4)
             rw [hv611_4] at ge611_4
             have HL611_4 := Aside0.mk (show Kd.R (Kd.int .i64) 3 _ _ _ _ ((rd_T41 (rd_L3 t606 x9_3) 0).f4) from ge611_4)
             clear hv611_4 ge611_4
             clear hcc611 hce611
             have qi611 : (0 < (rd_L3 t606 x9_3).length) = True := eq_true (by omega)
             (try rw [show ((0 : Int)).toNat = 0 from rfl] at hx611_0)
             (try rw [show 0 * 5 = 0 from rfl] at hx611_0)
             (try rw [Addr.add_zero'] at hx611_0)
             (try rw [show ((0 : Int)).toNat = 0 from rfl] at hx611_1)
             (try rw [show 0 * 5 = 0 from rfl] at hx611_1)
             (try rw [Addr.add_zero'] at hx611_1)
             (try rw [show ((0 : Int)).toNat = 0 from rfl] at hx611_2)
             (try rw [show 0 * 5 = 0 from rfl] at hx611_2)
             (try rw [Addr.add_zero'] at hx611_2)
             (try rw [show ((0 : Int)).toNat = 0 from rfl] at hx611_3)
             (try rw [show 0 * 5 = 0 from rfl] at hx611_3)
             (try rw [Addr.add_zero'] at hx611_3)
             (try rw [show ((0 : Int)).toNat = 0 from rfl] at hx611_4)
             (try rw [show 0 * 5 = 0 from rfl] at hx611_4)
             (try rw [Addr.add_zero'] at hx611_4)
             have HR611_0 := Aside0.mk hi611_0
             have HC611_0 := Aside0.mk hl611_0
             clear hi611_0 hl611_0
             have HR611_2 := Aside0.mk hi611_2
             have HC611_2 := Aside0.mk hl611_2
             clear hi611_2 hl611_2
             have HR611_3 := Aside0.mk hi611_3
             have HC611_3 := Aside0.mk hl611_3
             clear hi611_3 hl611_3
             have HR611_4 := Aside0.mk hi611_4
             have HC611_4 := Aside0.mk hl611_4
             clear hi611_4 hl611_4
             replace p611 := eq_true p611
             replace q611 := eq_true q611
             go_wp2
             go_roundg k3
             case measure => have := HK1.out; have := HJ4.out; have := HK3.out; omega
             case rel => exact ⟨(wrap64 (x8_3 + ((rd_T41 (rd_L3 t606 x9_3) 0).f1))), (wrap64 (x9_3 + 1)), (by first | rfl | (simp; done) | (simp [*]; done)), (by first | rfl | (simp; done) | (simp [*]; done)), H', ⟨by have := HK1.out; have := HJ4.out; have := HK3.out; omega⟩, ⟨by (with_reducible repeat (first | apply Kd.S_alloc | apply Kd.S_drewN | apply Kd.S_drew)); exact HO_3.out⟩, ⟨by (with_reducible repeat (first | apply Kd.R_alloc | apply Kd.R_drewN | apply Kd.R_drew)); exact HO_7.out⟩, ⟨by repeat (first | (with_reducible first | exact HB.out | apply below_alloc | apply pw_below_drewN | apply below_drew1) | exact HB.out)⟩⟩
            ·rw [if_neg c38] at H
             exact absurd H (by simp)
           ·rw [if_neg c37] at H
            exact absurd H (by simp)
          ·rw [if_neg c36] at H
           exact absurd H (by simp)
         ·rw [if_neg c35] at H
          have c35b0 : decide (x9_3 < (t606.length : Int)) = false := decide_eq_false c35
          clear c35
          by_cases c40 : (t606.length : Int) = x4_1
          ·rw [if_pos c40] at H
           have c40b0 : ((t606.length : Int) == x4_1) = true := beq_iff_eq.mpr c40
           have c40b1 : ((t606.length : Int) != x4_1) = false := bne_eq_false_iff_eq.mpr c40
           clear c40
           obtain rfl := Option.some.inj H
           obtain ⟨Ao41, co41, eo41⟩ := Kd.R_slice HO_7.out
           subst eo41
           go_wp2
           go_ret
           exact ⟨by first | rfl | (simp [errW_none, errW_some] <;> rfl) | (simp [*, errW_none, errW_some] <;> rfl), by repeat (first | (with_reducible first | exact HB.out | apply below_alloc | apply pw_below_drewN | apply below_drew1) | exact HB.out)⟩
          ·rw [if_neg c40] at H
           exact absurd H (by simp)
 ·replace c3 := Bool.eq_false_iff.mpr c3
  subst c3
  have H1 : (none) = some r := by rw [if_neg (show ¬ (false = true) by decide)] at H; exact H
  clear H
  have H := H1
  clear H1
  exact absurd H (by simp)
def hypercubelaw5_RunsOnly.Pure : Prop := ∀ (l0 : List Int), l0.length ≤ maxLen → l0.length * 8 ≤ 140737488351232 → (∀ x ∈ l0, (Lit.int .i64 x).wf = true) → ∃ k, hypercubelaw5_RunsOnly.f k l0 = some true
theorem hypercubelaw5_RunsOnly.walk (P : hypercubelaw5_RunsOnly.Pure) (a0 : Option Addr) (len0 cap0 : Nat) (z0 : List Int) (w : World) (w0 : (a0 = none ∧ len0 = 0 ∧ cap0 = 0 ∧ z0 = []) ∨ ∃ x, a0 = some x ∧ len0 ≤ cap0 ∧ cap0 ≤ maxLen ∧ z0.length = cap0 ∧ (∀ i, i < z0.length → w.cell? (x.add i) = some (.int .i64 (z0.getD i 0))) ∧ ∀ n ∈ z0, (Lit.int .i64 n).wf = true) (y0 : len0 * 8 ≤ 140737488351232) :
  Calls Try.prog 9 #[.slice a0 len0 cap0] w fun e w' => e = .returned (.bool true) ∧ Below w.heap.size w w' := by
 obtain ⟨l0, rfl, hr0, hm0, hw0, hc0⟩ := ReadsInt.ofRowC w0
 obtain ⟨k, h⟩ := P l0 hm0 y0 hw0
 refine (hypercubelaw5_RunsOnly.calls k _ _ l0 true w (Kd.C_of_reads (d := (0 : Int)) (h1 := fun _ => rfl) hr0) hc0 h).mono ?_
 rintro e w' ⟨rfl, hd⟩
 exact ⟨rfl, hd⟩
end Go.Proofs.Ytmnepkbmcnpjlaa.Q
