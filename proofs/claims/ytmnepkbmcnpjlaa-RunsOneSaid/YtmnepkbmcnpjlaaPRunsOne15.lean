-- packed by wip/tools/pack.py (a program of this session) out of its own texts
import Derived.Test.YtmnepkbmcnpjlaaPRunsOne0
import Derived.ArgAppend
import Derived.Below
import Derived.BigQuiet
import Derived.Deep.AppendLies
import Derived.Deep.CutBlock
import Derived.Deep.DeepCutAuto
import Derived.Deep.Draws
import Derived.Deep.LoopGhost
import Derived.Deep.OwnRows
import Derived.Deep.QuietTactic
import Derived.Deep.RegionHeld3
import Derived.KernelRfl
import Derived.Laws.BitsLemmas
import Derived.Laws.BytesArg
import Derived.Laws.EntriesVeiled
import Derived.Laws.Externs
import Derived.Laws.IdiomCopy
import Derived.Laws.MakeOwn
import Derived.Laws.OwnMore
import Derived.Laws.Rows
import Derived.Laws.Slices
import Derived.Lib.AppendStr
import Derived.Lib.AppendZeros
import Derived.Lib.AppendZerosOnto
import Derived.Lib.ConvBytes
import Derived.Lib.JoinLaws
import Derived.Lib.Overlaps
import Derived.Lib.SliceRun
import Derived.Lib.Walk
import Derived.LoopIn
import Derived.LoopNIn
import Derived.Maps.AppendAt
import Derived.OrdersHeld
import Derived.OrdersIn
import Derived.OwnWalk
import Derived.OwnWalkIn
import Derived.RangeFuncBound
import Derived.RangeFuncBox
import Derived.RangeFuncCalls
import Derived.RangeFuncLeaves
import Derived.RangeFuncNested
import Derived.RangeFuncOwn
import Derived.RowKit
import Derived.RowKit3
import Derived.Shelf.Abstract
import Derived.Shelf.RegionOpen
import Derived.Shelf.RegionOpenPlain
import Derived.Tactics
import Derived.TacticsInMore
import Derived.Test.YtmnepkbmcnpjlaaProg
import Derived.WalkKit
import Derived.WalkSpells
import Derived.WideLaws
import Derived.Test.YtmnepkbmcnpjlaaPRunsOne1
import Derived.Test.YtmnepkbmcnpjlaaPRunsOne3
import Derived.Test.YtmnepkbmcnpjlaaPRunsOne4
import Derived.Test.YtmnepkbmcnpjlaaPRunsOne5
import Derived.Test.YtmnepkbmcnpjlaaPRunsOne6
import Derived.Test.YtmnepkbmcnpjlaaPRunsOne7
import Derived.Test.YtmnepkbmcnpjlaaPRunsOne8
import Derived.Test.YtmnepkbmcnpjlaaPRunsOne9
import Derived.Test.YtmnepkbmcnpjlaaPRunsOne10
import Derived.Test.YtmnepkbmcnpjlaaPRunsOne11
import Derived.Test.YtmnepkbmcnpjlaaPRunsOne12
import Derived.Test.YtmnepkbmcnpjlaaPRunsOne13
import Derived.Test.YtmnepkbmcnpjlaaPRunsOne14
namespace Go.Proofs.Ytmnepkbmcnpjlaa.Q
open Go.RowKit Go.Proofs.YtmnepkbmcnpjlaaW.PrintWords Go.Proofs.YtmnepkbmcnpjlaaW.PrintLast Go.Proofs.YtmnepkbmcnpjlaaW.PrintMore
set_option linter.unusedVariables false
set_option linter.unusedSimpArgs false
theorem bsfR_l0 (xs : List S41) (x : S41) (hn : xs.length ≤ 1000000) (hs : ∀ y ∈ xs, SmallC y) (p : Nat) (hp : p ≤ xs.length) (h1 : ∀ m (h : m < xs.length), m < p → lexC (xs[m]).f0 x.f0 < 0) (h2 : ∀ m (h : m < xs.length), p ≤ m → 0 ≤ lexC (xs[m]).f0 x.f0) (d : Nat) :
  ∀ i j : Nat, j - i ≤ d → i ≤ p → p ≤ j → j ≤ xs.length → Ev (fun k => bsf_R1.l0 k xs (xs.length : Int) (i : Int) (j : Int) x.f0 x.f1 x.f2 x.f3 x.f4) ((p : Int), if h : p < xs.length then lexC (xs[p]).f0 x.f0 == 0 else false) := by
 have hcmp : ∀ m (h : m < xs.length), Ev (fun k => runs_by.f k (xs[m]).f0 (xs[m]).f1 (xs[m]).f2 (xs[m]).f3 (xs[m]).f4 x.f0 x.f1 x.f2 x.f3 x.f4) (lexC (xs[m]).f0 x.f0) := fun m h => by
  refine Ev.congr (f := fun k => (cell_Less.f k (xs[m]).f0 x.f0).bind fun t => some t) (fun k => rfl) ?_
  exact Ev.bind (cell_less_ev _ _ (by have := (hs _ (List.getElem_mem h)).1; omega)) (Ev.now _)
 induction d with
 | zero =>
  intro i j hd hip hpj hjn
  have e1 : i = p := by omega
  have e2 : j = p := by omega
  rw [e1, e2]
  by_cases hlt : p < xs.length
  ·rw [dif_pos hlt]
   refine Ev.step (f := fun k => (runs_by.f k (xs[p]).f0 (xs[p]).f1 (xs[p]).f2 (xs[p]).f3 (xs[p]).f4 x.f0 x.f1 x.f2 x.f3 x.f4).bind fun t => some ((p : Int), t == 0)) (fun k => by simp only [bsf_R1.l0]; rw [if_neg (by omega), if_pos (by omega), if_pos (by omega), if_pos (by omega), rdC_get hlt]) (Ev.bind (hcmp p hlt) (Ev.now _))
  ·rw [dif_neg hlt]
   exact Ev.step (f := fun _ => some ((p : Int), false)) (fun k => by simp only [bsf_R1.l0]; rw [if_neg (by omega), if_neg (by omega)]) (Ev.now _)
 | succ d ih =>
  intro i j hd hip hpj hjn
  by_cases hij : i < j
  ·have hh : (i + j) / 2 < xs.length := by omega
   have hstep : ∀ k, bsf_R1.l0 (k + 1) xs (xs.length : Int) (i : Int) (j : Int) x.f0 x.f1 x.f2 x.f3 x.f4 = (runs_by.f k (xs[(i + j) / 2]).f0 (xs[(i + j) / 2]).f1 (xs[(i + j) / 2]).f2 (xs[(i + j) / 2]).f3 (xs[(i + j) / 2]).f4 x.f0 x.f1 x.f2 x.f3 x.f4).bind fun t => if t < 0 then bsf_R1.l0 k xs (xs.length : Int) (((i + j) / 2 + 1 : Nat) : Int) (j : Int) x.f0 x.f1 x.f2 x.f3 x.f4 else bsf_R1.l0 k xs (xs.length : Int) (i : Int) (((i + j) / 2 : Nat) : Int) x.f0 x.f1 x.f2 x.f3 x.f4 := fun k => by
    simp only [bsf_R1.l0]
    rw [if_pos (by omega), wrap_mid i j (by omega), if_pos (by omega), if_pos (by omega), rdC_get hh, w64s hh (by omega)]
   refine Ev.step hstep ?_
   by_cases hlt : (i + j) / 2 < p
   ·have c := h1 _ hh hlt
    exact Ev.bind (hcmp _ hh) (Ev.congr (fun k => by rw [if_pos c]) (ih ((i + j) / 2 + 1) j (by omega) (by omega) hpj hjn))
   ·have c := h2 _ hh (by omega)
    exact Ev.bind (hcmp _ hh) (Ev.congr (fun k => by rw [if_neg (by omega)]) (ih i ((i + j) / 2) (by omega) hip (by omega) (by omega)))
  ·exact ih i j (by omega) hip hpj hjn
theorem has_at (x : S41) (xs : List S41) (hs : SortedC xs) (p : Nat) (h1 : ∀ m (h : m < xs.length), m < p → lexC (xs[m]).f0 x.f0 < 0) (h2 : ∀ m (h : m < xs.length), p ≤ m → 0 ≤ lexC (xs[m]).f0 x.f0) :
  (if h : p < xs.length then lexC (xs[p]).f0 x.f0 == 0 else false) = hasK xs x := by
 rw [Bool.eq_iff_iff]
 constructor
 ·intro h
  by_cases hlt : p < xs.length
  ·rw [dif_pos hlt] at h
   exact List.any_eq_true.2 ⟨xs[p], List.getElem_mem hlt, h⟩
  ·rw [dif_neg hlt] at h; cases h
 ·intro h
  obtain ⟨y, hy, he⟩ := List.any_eq_true.1 h
  obtain ⟨m, hm, rfl⟩ := List.getElem_of_mem hy
  have he' : lexC (xs[m]).f0 x.f0 = 0 := by simpa using he
  rcases Nat.lt_trichotomy m p with c | c | c
  ·have := h1 m hm c; omega
  ·subst c; rw [dif_pos hm]; exact he
  ·have hlt : p < xs.length := by omega
   have hpm := (List.pairwise_iff_getElem.1 hs) p m hlt hm c
   rw [(lexC_key he').1] at hpm
   have := h2 p hlt (Nat.le_refl _)
   omega
theorem group_one (x : S41) : groupL [x] = [x] := rfl
theorem runsPut_ev (xs : List S41) (x : S41) (most : Nat) (hn : xs.length ≤ 1000000) (hs : ∀ y ∈ xs, SmallC y) (hx : SmallC x) (ho : SortedC xs) :
  Ev (fun k => runsPut.f k xs x (most : Int)) (if hasK xs x = true ∨ xs.length < most then (true, putL x xs) else (false, xs)) := by
 obtain ⟨p, hp, h1, h2⟩ := place x xs ho
 have hb := bsfR_l0 xs x hn hs p hp h1 h2 xs.length 0 xs.length (by omega) (by omega) hp (by omega)
 have hb' : Ev (fun k => bsf_R1.f k xs x.f0 x.f1 x.f2 x.f3 x.f4) ((p : Int), if h : p < xs.length then lexC (xs[p]).f0 x.f0 == 0 else false) := hb
 have hput := putL_at x p xs hp h1 (fun h => h2 p h (by omega))
 have hhas := has_at x xs ho p h1 h2
 have hg : Ev (fun k => cell_Group.f k [x]) [x] := by
  have := group_ev [x] (by simp) (fun y hy => by rw [List.mem_singleton.1 hy]; exact hx)
  rwa [group_one] at this
 unfold runsPut.f
 refine Ev.bind hb' ?_
 simp only [hhas]
 by_cases hh : hasK xs x = true
 ·rw [if_pos (Or.inl hh)]
  rw [hh] at hhas
  have hlt : p < xs.length := Decidable.byContradiction (fun hlt => by rw [dif_neg hlt] at hhas; cases hhas)
  rw [dif_pos hlt] at hput hhas
  have c : lexC (xs[p]).f0 x.f0 = 0 := by simpa using hhas
  rw [if_pos c] at hput
  have hj := Ev.bind (f := fun (_ : Nat) (j : List Int × Int × List Int × List Int × List Int) => some (true, xs.set p (⟨j.1, j.2.1, j.2.2.1, j.2.2.2.1, j.2.2.2.2⟩ : S41))) (join_ev (xs[p]) x (hs _ (List.getElem_mem hlt))) (Ev.now _)
  rw [hput]
  exact Ev.congr (fun k => by rw [if_pos hh, if_pos (by omega), rdC_get hlt, Int.toNat_natCast]) hj
 ·have hput' : putL x xs = xs.take p ++ [x] ++ xs.drop p := by
   rw [hput]
   by_cases hlt : p < xs.length
   ·rw [dif_pos hlt] at hhas ⊢
    have c : ¬ lexC (xs[p]).f0 x.f0 = 0 := fun c => by rw [c] at hhas; simp at hhas; first | exact hh hhas | exact hh hhas.symm
    rw [if_neg c]; simp
   ·rw [dif_neg hlt]; simp
  by_cases hm : xs.length < most
  ·rw [if_pos (Or.inr hm), hput']
   refine Ev.congr (fun k => by rw [if_neg hh, if_neg (by omega)]) (Ev.bind hg ?_)
   exact Ev.congr (f := fun _ => some (true, xs.take p ++ [x] ++ xs.drop p)) (fun k => by rw [if_pos ⟨by omega, by omega, by omega, rfl⟩, Int.toNat_natCast]) (Ev.now _)
  ·rw [if_neg (by simp [hh]; omega)]
   exact Ev.congr (f := fun _ => some (false, xs)) (fun k => by rw [if_neg hh, if_pos (by omega)]) (Ev.now _)
def runsR (most : Nat) : List S41 → List S41 → List (List S41)
 | held, [] => if 0 < held.length then [held] else []
 | held, c :: cs => if hasK held c = true ∨ held.length < most then runsR most (putL c held) cs else held :: runsR most [c] cs
theorem putL_le {most : Nat} {held : List S41} {c : S41} (ho : SortedC held) (hm : held.length ≤ most) (h : hasK held c = true ∨ held.length < most) : (putL c held).length ≤ most := by
 by_cases hh : hasK held c = true
 ·rw [putL_old c held ho hh]; exact hm
 ·have := putL_length c held
  have := h.resolve_left hh
  omega
theorem mx_one (most : Nat) (h : 1 ≤ most) : mx (most : Int) 1 = (most : Int) := by unfold mx; split <;> omega
theorem sorted_one (c : S41) : SortedC [c] := List.pairwise_singleton _ _
theorem put_nil_f (most : Nat) (h1 : 1 ≤ most) (c : S41) (hc : SmallC c) : Ev (fun k => runsPut.f k [] c (most : Int)) (true, [c]) := by
 have := runsPut_ev [] c most (by simp) (fun y h => by simp at h) hc List.Pairwise.nil
 rwa [if_pos (Or.inr (by simp; omega))] at this
theorem runsGo_ev (most : Nat) (h1 : 1 ≤ most) : ∀ (cs : List S41) (out : List (List S41)) (held : List S41), (∀ y ∈ cs, SmallC y) → (∀ y ∈ held, SmallC y) → SortedC held → held.length + cs.length ≤ 1000000 → out.length + cs.length ≤ 1000000 →
  ∃ o h, Ev (fun k => runsGo k (most : Int) out held cs) (o, h) ∧ h.length ≤ 1000000 ∧ o.length ≤ 1000000 ∧ (if 0 < h.length then o ++ [h] else o) = out ++ runsR most held cs
 | [], out, held, _, _, _, hb, hb2 => ⟨out, held, Ev.now _, by simpa using hb, by simpa using hb2, by unfold runsR; split <;> simp⟩
 | c :: cs, out, held, hcs, hh, ho, hb, hb2 => by
  have hc := hcs c (by simp)
  have hcs' := fun y h => hcs y (List.mem_cons_of_mem _ h)
  simp only [List.length_cons] at hb hb2
  have hp := runsPut_ev held c most (by omega) hh hc ho
  by_cases h : hasK held c = true ∨ held.length < most
  ·rw [if_pos h] at hp
   have := putL_length c held
   obtain ⟨o, h', e1, e2, e3, e4⟩ := runsGo_ev most h1 cs out (putL c held) hcs' (putL_small c hc held hh) (putL_sorted c held ho) (by omega) (by omega)
   refine ⟨o, h', ?_, e2, e3, by rw [e4]; simp only [runsR]; rw [if_pos h]⟩
   refine Ev.congr (fun k => by unfold runsGo; rfl) (Ev.bind hp ?_)
   exact Ev.congr (fun k => by rw [if_pos rfl]) e1
  ·rw [if_neg h] at hp
   obtain ⟨o, h', e1, e2, e3, e4⟩ := runsGo_ev most h1 cs (out ++ [held]) [c] hcs' (fun y hy => by rw [List.mem_singleton.1 hy]; exact hc) (sorted_one c) (by simp; omega) (by simp; omega)
   refine ⟨o, h', ?_, e2, e3, by rw [e4]; simp only [runsR]; rw [if_neg h]; simp⟩
   refine Ev.congr (fun k => by unfold runsGo; rfl) (Ev.bind hp ?_)
   refine Ev.congr (fun k => by rw [if_neg (by simp)]; dsimp only; rw [if_pos ⟨by omega, by omega⟩, mx_one most h1]) (Ev.bind (put_nil_f most h1 c hc) ?_)
   exact e1
theorem runs_ev (most : Nat) (h1 : 1 ≤ most) (cs : List S41) (hcs : ∀ y ∈ cs, SmallC y) (hl : cs.length ≤ 1000000) : Ev (fun k => runs_Runs.f k cs (most : Int)) (runsR most [] cs) := by
 obtain ⟨o, h, e1, e2, e3, e4⟩ := runsGo_ev most h1 cs [] [] hcs (fun y h => by simp at h) List.Pairwise.nil (by simpa using hl) (by simpa using hl)
 rw [List.nil_append] at e4
 rw [← e4]
 refine Ev.bind e1 ?_
 refine Ev.congr (f := fun _ => some (if 0 < h.length then o ++ [h] else o)) (fun k => ?_) (Ev.now _)
 dsimp only
 by_cases c : 0 < h.length
 ·simp only [if_pos c]
  rw [if_pos ⟨by omega, by omega⟩, Option.bind_some, if_pos (by simp; omega)]
 ·simp only [if_neg c]
  rw [Option.bind_some, if_pos (by omega)]
theorem rdL_get {l : List (List S41)} {i : Nat} (h : i < l.length) : rd_L3 l (i : Int) = l[i] := by simp [rd_L3, List.getD_eq_getElem?_getD, h]
theorem runsR_bounds (most : Nat) (h1 : 1 ≤ most) : ∀ (cs held : List S41), SortedC held → held.length ≤ most → (held = [] ∨ 0 < held.length) →
  ∀ (i : Nat) (h : i < (runsR most held cs).length), 1 ≤ ((runsR most held cs)[i]).length ∧ ((runsR most held cs)[i]).length ≤ most ∧ (i + 1 < (runsR most held cs).length → ((runsR most held cs)[i]).length = most) ∧ SortedC ((runsR most held cs)[i])
 | [], held, ho, hm, _, i, h => by
  unfold runsR at h ⊢
  by_cases c : 0 < held.length
  ·simp only [if_pos c] at h ⊢
   have : i = 0 := by simpa using h
   subst this
   exact ⟨c, hm, fun h => by simp at h, ho⟩
  ·simp only [if_neg c] at h; simp at h
 | c :: cs, held, ho, hm, hne, i, h => by
  by_cases hc : hasK held c = true ∨ held.length < most
  ·have e : runsR most held (c :: cs) = runsR most (putL c held) cs := by simp only [runsR]; rw [if_pos hc]
   have ih := runsR_bounds most h1 cs (putL c held) (putL_sorted c held ho) (putL_le ho hm hc) (by cases h : putL c held <;> simp)
   simp only [e] at h ⊢
   exact ih i h
  ·have e : runsR most held (c :: cs) = held :: runsR most [c] cs := by simp only [runsR]; rw [if_neg hc]
   have ih := runsR_bounds most h1 cs [c] (sorted_one c) (by simpa using h1) (.inr (by simp))
   have hfull : held.length = most := by
    have : ¬ held.length < most := fun h => hc (.inr h)
    omega
   simp only [e] at h ⊢
   cases i with
   | zero => simp only [List.getElem_cons_zero]; exact ⟨by omega, hm, fun _ => hfull, ho⟩
   | succ i =>
    simp only [List.getElem_cons_succ, List.length_cons] at h ⊢
    have := ih i (by omega)
    exact ⟨this.1, this.2.1, fun h => this.2.2.1 (by omega), this.2.2.2⟩
theorem runsR_total (most : Nat) : ∀ (cs held : List S41), (runsR most held cs).flatten.length ≤ held.length + cs.length
 | [], held => by unfold runsR; split <;> simp
 | c :: cs, held => by
  simp only [runsR]
  split
  ·have := runsR_total most cs (putL c held)
   have := putL_length c held
   simp only [List.length_cons]; omega
  ·have := runsR_total most cs [c]
   have e1 : ([c] : List S41).length = 1 := rfl
   rw [List.flatten_cons, List.length_append, List.length_cons]
   omega
theorem runsR_len (most : Nat) (h1 : 1 ≤ most) (cs : List S41) : (runsR most [] cs).length ≤ cs.length ∧ ∀ r ∈ runsR most [] cs, r.length ≤ cs.length := by
 have ht := runsR_total most cs []
 simp only [List.length_nil, Nat.zero_add] at ht
 have hb := runsR_bounds most h1 cs [] List.Pairwise.nil (by simp) (.inl rfl)
 generalize runsR most [] cs = rs at ht hb
 have hsum : ∀ l : List (List S41), (∀ r ∈ l, 1 ≤ r.length) → l.length ≤ l.flatten.length ∧ ∀ r ∈ l, r.length ≤ l.flatten.length := by
  intro l
  induction l with
  | nil => intro _; exact ⟨by simp, fun r h => by simp at h⟩
  | cons x l ih =>
   intro h
   obtain ⟨i1, i2⟩ := ih (fun r hr => h r (List.mem_cons_of_mem _ hr))
   have := h x (by simp)
   refine ⟨by simp only [List.length_cons, List.flatten_cons, List.length_append]; omega, fun r hr => ?_⟩
   rcases List.mem_cons.1 hr with e | e
   ·rw [e]; simp
   ·have := i2 r e; simp only [List.flatten_cons, List.length_append]; omega
 obtain ⟨s1, s2⟩ := hsum rs (fun r hr => by
  obtain ⟨i, hi, rfl⟩ := List.getElem_of_mem hr
  exact (hb i hi).1)
 exact ⟨by omega, fun r hr => by have := s2 r hr; omega⟩
theorem runsR_one (most : Nat) : ∀ (cs held : List S41), (putAll held cs).length ≤ most → runsR most held cs = if 0 < (putAll held cs).length then [putAll held cs] else []
 | [], held, _ => rfl
 | c :: cs, held, h => by
  have hc : hasK held c = true ∨ held.length < most := by
   by_cases e : hasK held c = true
   ·exact .inl e
   ·have h2 := putL_new c held (by simpa using e)
    have h3 := putAll_ge cs (putL c held)
    rw [putAll_cons] at h
    exact .inr (by omega)
  have e : runsR most held (c :: cs) = runsR most (putL c held) cs := by simp only [runsR]; rw [if_pos hc]
  rw [e, putAll_cons]
  rw [putAll_cons] at h
  exact runsR_one most cs (putL c held) h
theorem within5_eq (a n : Int) (h0 : 0 < n) (h1 : n ≤ 4611686018427387904) : hypercubelaw5_within.f a n = some (a % n) := by
 have := within2_eq a n h0 h1
 unfold hypercubelaw2_within.f at this
 unfold hypercubelaw5_within.f
 exact this
theorem most_eq (a : Int) (m : Nat) (h0 : 0 < m) (h1 : m ≤ 1000) : ∃ k : Nat, 1 ≤ k ∧ k ≤ m ∧ hypercubelaw5_within.f a (m : Int) = some (a % m) ∧ wrap64 (1 + a % (m : Int)) = (k : Int) := by
 have b0 := Int.emod_nonneg a (show (m : Int) ≠ 0 by omega)
 have b1 := Int.emod_lt_of_pos a (show (0 : Int) < m by omega)
 refine ⟨(1 + a % (m : Int)).toNat, by omega, by omega, within5_eq _ _ (by omega) (by omega), ?_⟩
 rw [w64 (by omega) (by omega)]; omega
end Go.Proofs.Ytmnepkbmcnpjlaa.Q
namespace Go.Proofs.Ytmnepkbmcnpjlaa.Q
open Go.RowKit Go.Proofs.YtmnepkbmcnpjlaaW.PrintWords Go.Proofs.YtmnepkbmcnpjlaaW.PrintLast Go.Proofs.YtmnepkbmcnpjlaaW.PrintMore
set_option linter.unusedVariables false
set_option linter.unusedSimpArgs false
theorem known_runs : runs_Runs.f 9 [⟨[2], 1, [], [], []⟩, ⟨[1], 1, [], [], []⟩] 2 = some [[⟨[1], 1, [], [], []⟩, ⟨[2], 1, [], [], []⟩]] := by kernel_rfl
theorem known_runs0 : runs_Runs.f 9 [] 1 = some [] := by kernel_rfl
theorem known_sorted : runs_Sorted.f 9 [⟨[1], 1, [], [], []⟩, ⟨[2], 1, [], [], []⟩] = some true := by kernel_rfl
theorem known_not : runs_Sorted.f 9 [⟨[2], 1, [], [], []⟩, ⟨[1], 1, [], [], []⟩] = some false := by kernel_rfl
theorem rC_of_blk {w : World} {g : Nat} {xs : List Int} (h : w.heap[g]? = some (.cells (encs (Value.int .i64) xs).toArray 3 (0, 0))) (hl : xs.length ≤ maxLen) : Kd.C (Kd.int .i64) w (some ⟨g, 0, none⟩) xs.length xs := by
 have hR : Kd.R (Kd.int .i64) 3 w 0 (fun _ => True) (.slice (some ⟨g, 0, none⟩) xs.length xs.length) xs := by
  refine Kd.R_of_own (h1 := fun _ => rfl) ⟨by rw [encs_length, Nat.mul_one], .inr ⟨g, xs.length, _, rfl, Nat.zero_le _, h, Nat.le_refl _, hl, ?_, ?_⟩⟩ (fun _ _ => trivial)
  ·rw [List.size_toArray, encs_length, Nat.mul_one]
  ·rw [Nat.mul_one, ← encs_length (enc := Value.int .i64) xs]
   exact List.take_length
 exact (Kd.R_reads' hR).2.2
theorem rC_two {w : World} {g : Nat} {x y : S41} {cs ds : List Value} (h : w.heap[g]? = some (.cells (cs ++ ds).toArray 41 (0, 0))) (hx : k41.K w x cs) (hy : k41.K w y ds) : Kd.C k41 w (some ⟨g, 0, none⟩) [x, y].length [x, y] := by
 have hl : cs.length = 5 := k41.K_len hx
 have hl2 : ds.length = 5 := k41.K_len hy
 refine ⟨rfl, by simp, fun _ => ⟨_, rfl, fun j p hj => ?_⟩⟩
 have hj2 : j < 2 := (List.getElem?_eq_some_iff.1 hj).1
 match j, hj2, hj with
 | 0, _, hj =>
  have hm : p = x := by simpa using hj.symm
  refine ⟨cs, hl, by rw [hm]; exact hx, fun i u hu => ?_⟩
  have hi : i < cs.length := (List.getElem?_eq_some_iff.1 hu).1
  rw [Addr.add_lit, cell_of_row w g _ _ _ _ h, List.getElem?_toArray, Nat.zero_add, show 0 * k41.sz + i = i by omega, List.getElem?_append_left hi]
  exact hu
 | 1, _, hj =>
  have hm : p = y := by simpa using hj.symm
  refine ⟨ds, hl2, by rw [hm]; exact hy, fun i u hu => ?_⟩
  rw [Addr.add_lit, cell_of_row w g _ _ _ _ h, List.getElem?_toArray, Nat.zero_add, show 1 * k41.sz + i = cs.length + i by rw [hl]; rfl, List.getElem?_append_right (by omega), Nat.add_sub_cancel_left]
  exact hu
theorem new_at {w : World} {n : Nat} (o : Obj) (h : w.heap.size = n) : (w.alloc o).heap[n]? = some o := by rw [← h]; exact heap_alloc_new w o
def hypercubelaw5_known.f : Option Bool := some true
set_option maxHeartbeats 8000000 in
set_option maxRecDepth 100000 in
theorem hypercubelaw5_known.calls (r : Bool) (w : World) (h : hypercubelaw5_known.f = some r) :
    Calls Try.prog 12 #[] w fun e w' => e = .returned (.bool r) ∧ Below w.heap.size w w' := by
 have e : true = r := Option.some.inj h
 subst e
 clear h
 have HB := am (Below.refl w.heap.size w)
 have hu41 := Try.underlying41
 have hkk : ∀ (W : World) (g1 : Nat) (x : Int), W.heap[g1]? = some (.cells #[.int .i64 x] 3 (0, 0)) → k41.K W (⟨[x], 1, [], [], []⟩ : S41) [.slice (some ⟨g1, 0, none⟩) 1 1, .int .i64 1, .slice none 0 0, .slice none 0 0, .slice none 0 0] := fun W g1 x h1 =>
  k41_mk W (⟨[x], 1, [], [], []⟩ : S41) (c0 := 1) (c2 := 0) (c3 := 0) (c4 := 0) (Nat.le_refl 1) (rC_of_blk (xs := [x]) h1 (by show 1 ≤ maxLen; decide)) (Nat.le_refl 0) (Kd.C_nil _ _) (Nat.le_refl 0) (Kd.C_nil _ _) (Nat.le_refl 0) (Kd.C_nil _ _)
 go_enter Try.func12, Try.ntmps12
 go_wp2_with (first
  | ((with_reducible refine gate_callee (f := 18) rfl ?_)
     refine goesL_ (some 11) rfl rfl Try.func18 (by kernel_rfl) rfl #[.slice (some ⟨w.heap.size + 1 + 1 + 1 + 1, 0, none⟩) 2 2, .int .i64 2] rfl (by (try simp only [List.map_toArray, List.map_cons, List.map_nil]); first | done | rfl) ?_
     refine name_calls ?_
     intro w2 hw2
     have b0 : w2.heap[w.heap.size]? = some (.cells #[.int .i64 2] 3 (0, 0)) := by rw [hw2]; exact blk_alloc (blk_alloc (blk_alloc (blk_alloc (new_at _ (by simp only [World.size_alloc])) _) _) _) _
     have b1 : w2.heap[w.heap.size + 1]? = some (.cells #[.int .i64 1] 3 (0, 0)) := by rw [hw2]; exact blk_alloc (blk_alloc (blk_alloc (new_at _ (by simp only [World.size_alloc])) _) _) _
     have b2 : w2.heap[w.heap.size + 1 + 1]? = some (.cells #[.slice (some ⟨w.heap.size, 0, none⟩) 1 1, .int .i64 1, .slice none 0 0, .slice none 0 0, .slice none 0 0] 41 (0, 0)) := by rw [hw2]; exact blk_alloc (blk_alloc (new_at _ (by simp only [World.size_alloc])) _) _
     have b3 : w2.heap[w.heap.size + 1 + 1 + 1]? = some (.cells #[.slice (some ⟨w.heap.size + 1, 0, none⟩) 1 1, .int .i64 1, .slice none 0 0, .slice none 0 0, .slice none 0 0] 41 (0, 0)) := by rw [hw2]; exact blk_alloc (new_at _ (by simp only [World.size_alloc])) _
     have b4 : w2.heap[w.heap.size + 1 + 1 + 1 + 1]? = some (.cells (([.slice (some ⟨w.heap.size, 0, none⟩) 1 1, .int .i64 1, .slice none 0 0, .slice none 0 0, .slice none 0 0] : List Value) ++ ([.slice (some ⟨w.heap.size + 1, 0, none⟩) 1 1, .int .i64 1, .slice none 0 0, .slice none 0 0, .slice none 0 0] : List Value)).toArray 41 (0, 0)) := by rw [hw2]; exact new_at _ (by simp only [World.size_alloc])
     have n0_ : Aside0 (Below w.heap.size w w2) := am (by rw [hw2]; exact below_alloc (below_alloc (below_alloc (below_alloc (below_alloc HB.out _) _) _) _) _)
     clear HB
     have HB := n0_
     clear n0_ hw2
     refine (runs_Runs.calls 9 (some ⟨w.heap.size + 1 + 1 + 1 + 1, 0, none⟩) 2 [(⟨[2], 1, [], [], []⟩ : S41), (⟨[1], 1, [], [], []⟩ : S41)] 2 _ w2 (rC_two b4 (hkk w2 _ 2 b0) (hkk w2 _ 1 b1)) (by decide) known_runs).mono ?_
     rintro e w3 ⟨v, rfl, hR, hb⟩
     refine ⟨_, rfl, ?_⟩
     obtain ⟨A, c, rfl⟩ := Kd.R_slice hR
     have hC := (Kd.R_reads' hR).2.2
     obtain ⟨ad, rfl, hcell⟩ := hC.2.2 (by decide)
     obtain ⟨g, rfl⟩ := Kd.R_head hR
     obtain ⟨cs, hcl, ⟨A1, c1, rfl, hc1, hK1⟩, hcc⟩ := hcell 0 _ rfl
     have x0 := hcc 0 _ rfl
     have x0' : w3.cell? ⟨g, 0, none⟩ = some (.slice A1 2 c1) := x0
     have HK1 := am hK1
     have HLc := am hc1
     have n0_ := am (below_step HB.out hb)
     have m0_ := am (blk_below b0 hb)
     have m1_ := am (blk_below b1 hb)
     have m2_ := am (blk_below b2 hb)
     have m3_ := am (blk_below b3 hb)
     clear HB b0 b1 b2 b3 b4 hC hR hcell hcc x0 hc1 hK1 hb
     have HB := n0_
     clear n0_)
  | ((with_reducible refine gate_callee (f := 18) rfl ?_)
     refine goesL_ (some 12) rfl rfl Try.func18 (by kernel_rfl) rfl #[.slice none 0 0, .int .i64 1] rfl (by (try simp only [List.map_toArray, List.map_cons, List.map_nil]); first | done | rfl) ?_
     refine (runs_Runs.calls 9 none 0 [] 1 _ w3 (Kd.C_nil _ _) (by decide) known_runs0).mono ?_
     rintro e w4 ⟨v, rfl, hR, hb⟩
     refine ⟨_, rfl, ?_⟩
     obtain ⟨A2, c2, rfl⟩ := Kd.R_slice hR
     have x0 : w4.cell? ⟨g, 0, none⟩ = some (.slice A1 2 c1) := (hb.cell (World.block_lt_of_cell? _ _ x0')).trans x0'
     have k_ := am (Kd.C_below HK1.out hb)
     have n0_ := am (below_step HB.out hb)
     have p0_ := am (blk_below m0_.out hb)
     have p1_ := am (blk_below m1_.out hb)
     have p2_ := am (blk_below m2_.out hb)
     have p3_ := am (blk_below m3_.out hb)
     clear HB x0' HK1 m0_ m1_ m2_ m3_ hR hb
     have HB := n0_
     clear n0_)
  | ((with_reducible refine gate_callee (f := 20) rfl ?_)
     (try (refine gate_guard (by rfl) ?_; dsimp only))
     refine goesL_ (some 31) rfl rfl Try.func20 (by kernel_rfl) rfl #[.slice A1 2 c1] rfl (by (try simp only [List.map_toArray, List.map_cons, List.map_nil]); first | done | rfl) ?_
     refine (runs_Sorted.calls 9 A1 c1 [(⟨[1], 1, [], [], []⟩ : S41), (⟨[2], 1, [], [], []⟩ : S41)] _ w4 k_.out HLc.out known_sorted).mono ?_
     rintro e w5 ⟨rfl, hb⟩
     refine ⟨_, rfl, ?_⟩
     have n0_ := am (below_step HB.out hb)
     have q0_ := am (blk_below p0_.out hb)
     have q1_ := am (blk_below p1_.out hb)
     have b2 := blk_below p2_.out hb
     have b3 := blk_below p3_.out hb
     have y20 := (blk_cell b2 0).trans rfl
     have y21 := (blk_cell b2 1).trans rfl
     have y22 := (blk_cell b2 2).trans rfl
     have y23 := (blk_cell b2 3).trans rfl
     have y24 := (blk_cell b2 4).trans rfl
     have y30 := (blk_cell b3 0).trans rfl
     have y31 := (blk_cell b3 1).trans rfl
     have y32 := (blk_cell b3 2).trans rfl
     have y33 := (blk_cell b3 3).trans rfl
     have y34 := (blk_cell b3 4).trans rfl
     clear HB p0_ p1_ p2_ p3_ k_ x0 b2 b3 hb
     have HB := n0_
     clear n0_)
  | ((with_reducible refine gate_callee (f := 20) rfl ?_)
     (try (refine gate_guard (by rfl) ?_; dsimp only))
     refine goesL_ (some 37) rfl rfl Try.func20 (by kernel_rfl) rfl #[.slice (some ⟨w5.heap.size, 0, none⟩) 2 2] rfl (by (try simp only [List.map_toArray, List.map_cons, List.map_nil]); first | done | rfl) ?_
     refine name_calls ?_
     intro w6 hw6
     have b4 : w6.heap[w5.heap.size]? = some (.cells (([.slice (some ⟨w.heap.size, 0, none⟩) 1 1, .int .i64 1, .slice none 0 0, .slice none 0 0, .slice none 0 0] : List Value) ++ ([.slice (some ⟨w.heap.size + 1, 0, none⟩) 1 1, .int .i64 1, .slice none 0 0, .slice none 0 0, .slice none 0 0] : List Value)).toArray 41 (0, 0)) := by rw [hw6]; exact heap_alloc_new _ _
     have r0 : w6.heap[w.heap.size]? = some (.cells #[.int .i64 2] 3 (0, 0)) := by rw [hw6]; exact blk_alloc q0_.out _
     have r1 : w6.heap[w.heap.size + 1]? = some (.cells #[.int .i64 1] 3 (0, 0)) := by rw [hw6]; exact blk_alloc q1_.out _
     have n0_ : Aside0 (Below w.heap.size w w6) := am (by rw [hw6]; exact below_alloc HB.out _)
     clear HB
     have HB := n0_
     clear n0_ hw6
     refine (runs_Sorted.calls 9 (some ⟨w5.heap.size, 0, none⟩) 2 [(⟨[2], 1, [], [], []⟩ : S41), (⟨[1], 1, [], [], []⟩ : S41)] _ w6 (rC_two b4 (hkk w6 _ 2 r0) (hkk w6 _ 1 r1)) (by decide) known_not).mono ?_
     rintro e w7 ⟨rfl, hb⟩
     refine ⟨_, rfl, ?_⟩
     have n0_ := am (below_step HB.out hb)
     clear HB r0 r1 b4 hb
     have HB := n0_
     clear n0_))
 go_ret
 exact ⟨rfl, HB.out⟩
end Go.Proofs.Ytmnepkbmcnpjlaa.Q
namespace Go.Proofs.Ytmnepkbmcnpjlaa.Q
open Go.RowKit Go.Proofs.YtmnepkbmcnpjlaaW.PrintWords Go.Proofs.YtmnepkbmcnpjlaaW.PrintLast Go.Proofs.YtmnepkbmcnpjlaaW.PrintMore
attribute [local go_sem] max2_int min2_int max_two min_two max_three min_three max_four min_four
set_option linter.unusedVariables false
set_option linter.unusedSimpArgs false
def hypercuberef2_Facts.l0 : Nat → List (S45) → Int → List (S41) → Int → Option ((List (S41)))
 | 0, _, _, _, _ => none
 | k + 1, x0, x1, x5, x6 => if x6 < (x0.length : Int) then (if 0 ≤ x6 then ((hypercuberef2_Of.f k ((rd_T45 x0 x6).f0) ((rd_T45 x0 x6).f1) x1).bind fun bt467 => ((hypercuberef2_Put.f k x5 bt467.1 bt467.2.1 bt467.2.2.1 bt467.2.2.2.1 bt467.2.2.2.2).bind fun t480 => (hypercuberef2_Facts.l0 k x0 x1 t480 (wrap64 (x6 + 1))))) else (none)) else (some x5)
def hypercuberef2_Facts.f (k : Nat) (l0 : List (S45)) (a1 : Int) : Option ((List (S41))) := hypercuberef2_Facts.l0 k l0 a1 ([] : List (S41)) 0
set_option maxHeartbeats 8000000 in
set_option maxRecDepth 100000 in
theorem hypercuberef2_Facts.calls (k : Nat) (A0 : Option Addr) (c0 : Nat) (l0 : List (S45)) (a1 : Int) (r : List (S41)) (w : World) (hr0 : Kd.C k45 w A0 l0.length l0) (hc0 : l0.length ≤ c0) (h : hypercuberef2_Facts.f k l0 a1 = some r) :
  Calls Try.prog 24 #[.slice A0 l0.length c0, .int .i64 a1] w fun e w' => ∃ v0_ : Value, e = .returned (v0_) ∧ Kd.N k41 41 w' w.heap.size (fun k_ => (w.heap.size ≤ k_)) v0_ r ∧ Below w.heap.size w w' := by
 have hu45 := Try.underlying45
 have HR0 := am hr0
 have HC0 := am hc0
 clear hr0 hc0
 have HB := am (Below.refl w.heap.size w)
 have H : (hypercuberef2_Facts.l0 k l0 a1 ([] : List (S41)) 0) = some r := h
 clear h
 have H' := am H
 clear H
 go_enter Try.func24, Try.ntmps24
 go_wp2
 go_loopg [5, 6] k (fun kq v5 v6 w' => ∃ (x5_1 : List (S41)) (x6_1 : Int), v6 = .int .i64 x6_1 ∧ Aside0 (hypercuberef2_Facts.l0 kq l0 a1 x5_1 x6_1 = some r) ∧ Aside0 (kq ≤ k) ∧ Aside0 (Kd.N k41 41 w' w.heap.size (fun k_ => (w.heap.size ≤ k_)) v5 x5_1) ∧ Aside0 (Below w.heap.size w w'))
 case atStart => exact ⟨(([] : List (S41))), (0), (by first | rfl | (simp; done) | (simp [*]; done)), H', ⟨Nat.le_refl _⟩, ⟨by first | exact Kd.S_nil _ _ _ _ _ | exact Kd.N_nil _ _ _ _ _ | exact Kd.V_nil _ _ _ _ _ | exact Kd.Q_nil _ _ _ _ _ | exact Kd.R_nil _ _ _ _ _⟩, ⟨by repeat (first | (with_reducible first | exact HB.out | apply below_alloc | apply pw_below_drewN | apply below_drew1) | exact HB.out)⟩⟩
 case round =>
  clear H'
  try clear c2
  try clear p2
  obtain ⟨x5_1, x6_1, rfl, HA, HK1, HO_5, HB⟩ := hrel
  cases gk with
  | zero => exact absurd HA.out (by simp [hypercuberef2_Facts.l0])
  | succ k1 =>
   have H := HA.out
   clear HA
   simp only [hypercuberef2_Facts.l0] at H
   by_cases c3 : x6_1 < (l0.length : Int)
   ·rw [if_pos c3] at H
    have c3b0 : decide (x6_1 < (l0.length : Int)) = true := decide_eq_true c3
    clear c3
    by_cases c4 : 0 ≤ x6_1
    ·rw [if_pos c4] at H
     have c4b0 : decide (0 ≤ x6_1) = true := decide_eq_true c4
     clear c4
     replace H := Option.bind_eq_some_iff.mp H
     obtain ⟨⟨t467, t470, t471, t474, t477⟩, A50, H⟩ := H
     replace H : ((hypercuberef2_Put.f k1 x5_1 t467 t470 t471 t474 t477).bind fun t480 => (hypercuberef2_Facts.l0 k1 l0 a1 t480 (wrap64 (x6_1 + 1)))) = some r := H
     have A5 := am A50
     clear A50
     replace H := Option.bind_eq_some_iff.mp H
     obtain ⟨t480, A60, H⟩ := H
     replace H : (hypercuberef2_Facts.l0 k1 l0 a1 t480 (wrap64 (x6_1 + 1))) = some r := H
     have A6 := am A60
     clear A60
     have H' := am H
     clear H
     have p466 : 0 ≤ (x6_1 : Int) := of_decide_eq_true (by first | (with_reducible assumption) | assumption)
     have q466 : x6_1 < (l0.length : Int) := of_decide_eq_true (by first | (with_reducible assumption) | assumption)
     obtain ⟨ad466, A466_0, c466_0, A466_1, c466_1, e466, hx466_0, hx466_1, hl466_0, hi466_0, hl466_1, hi466_1⟩ := at_T45 HR0.out x6_1 p466 q466
     cases e466
     replace hx466_0 := (HB.out.cell (World.block_lt_of_cell? w _ hx466_0)).trans hx466_0
     replace hx466_1 := (HB.out.cell (World.block_lt_of_cell? w _ hx466_1)).trans hx466_1
     have HR466_0 := am hi466_0
     have HC466_0 := am hl466_0
     clear hi466_0 hl466_0
     have HR466_1 := am hi466_1
     have HC466_1 := am hl466_1
     clear hi466_1 hl466_1
     replace p466 := eq_true p466
     replace q466 := eq_true q466
     go_wp2_with (first | ((with_reducible refine gate_callee (f := 26) rfl ?_); refine goesL_ (some 19) rfl rfl Try.func26 (by kernel_rfl) rfl #[.agg #[.slice A466_0 ((rd_T45 l0 x6_1).f0).length c466_0, .slice A466_1 ((rd_T45 l0 x6_1).f1).length c466_1], .int .i64 a1] rfl (by (try simp only [List.map_toArray, List.map_cons, List.map_nil]); first | done | rfl | (simp only [List.length_drop, List.length_take]; rfl)) ?_; (with_reducible refine (hypercuberef2_Of.calls k1 _ _ ((rd_T45 l0 x6_1).f0) _ _ ((rd_T45 l0 x6_1).f1) a1 t467 t470 t471 t474 t477 _ ?side1 ?side2 ?side3 ?side4 A5.out).mono ?_); (case side1 => repeat (first | exact (Kd.C_below HR466_0.out HB.out) | (with_reducible refine Kd.C_alloc ?_ _) | (with_reducible refine Kd.C_drewN ?_ _) | (with_reducible refine Kd.C_drew ?_))); (case side2 => exact HC466_0.out); (case side3 => repeat (first | exact (Kd.C_below HR466_1.out HB.out) | (with_reducible refine Kd.C_alloc ?_ _) | (with_reducible refine Kd.C_drewN ?_ _) | (with_reducible refine Kd.C_drew ?_))); (case side4 => exact HC466_1.out); rintro e w7 ⟨v468, v472, v475, v478, rfl, ho0, ho1, ho2, ho3, hb⟩; refine ⟨_, rfl, ?_⟩; have n0_ := am (Kd.N_mono (Kd.N_told (Kd.N_told (Kd.N_told (Kd.N_told (Kd.N_old (by (with_reducible repeat (first | apply Kd.N_alloc | apply Kd.N_drewN | apply Kd.N_drew)); exact HO_5.out) hb) (Kd.R_base ho0)) (Kd.R_base ho1)) (Kd.R_base ho2)) (Kd.R_base ho3)) (fun _ h_ => h_.1)); have n1_ := am (Kd.R_lower (Kd.R_newM (M := fun k_ => (w.heap.size ≤ k_)) ho0 (below_size (by repeat (first | (with_reducible first | exact HB.out | apply below_alloc | apply pw_below_drewN | apply below_drew1) | exact HB.out))) (fun k_ h_ => h_)) (below_size (by repeat (first | (with_reducible first | exact HB.out | apply below_alloc | apply pw_below_drewN | apply below_drew1) | exact HB.out)))); have n2_ := am (Kd.R_lower (Kd.R_newM (M := fun k_ => (w.heap.size ≤ k_)) ho1 (below_size (by repeat (first | (with_reducible first | exact HB.out | apply below_alloc | apply pw_below_drewN | apply below_drew1) | exact HB.out))) (fun k_ h_ => h_)) (below_size (by repeat (first | (with_reducible first | exact HB.out | apply below_alloc | apply pw_below_drewN | apply below_drew1) | exact HB.out)))); have n3_ := am (Kd.R_lower (Kd.R_newM (M := fun k_ => (w.heap.size ≤ k_)) ho2 (below_size (by repeat (first | (with_reducible first | exact HB.out | apply below_alloc | apply pw_below_drewN | apply below_drew1) | exact HB.out))) (fun k_ h_ => h_)) (below_size (by repeat (first | (with_reducible first | exact HB.out | apply below_alloc | apply pw_below_drewN | apply below_drew1) | exact HB.out)))); have n4_ := am (Kd.R_lower (Kd.R_newM (M := fun k_ => (w.heap.size ≤ k_)) ho3 (below_size (by repeat (first | (with_reducible first | exact HB.out | apply below_alloc | apply pw_below_drewN | apply below_drew1) | exact HB.out))) (fun k_ h_ => h_)) (below_size (by repeat (first | (with_reducible first | exact HB.out | apply below_alloc | apply pw_below_drewN | apply below_drew1) | exact HB.out)))); have n5_ := am (below_step (by repeat (first | (with_reducible first | exact HB.out | apply below_alloc | apply pw_below_drewN | apply below_drew1) | exact HB.out)) hb); clear HO_5 HB; revert n0_ n1_ n2_ n3_ n4_ n5_; intro HO_5 HO469 HO473 HO476 HO479 HB; (try clear hb); (try clear hb2); (try clear hk); (try clear hi); (try clear ho0); (try clear ho1); (try clear ho2); (try clear ho3); obtain ⟨Ao8, co8, eo8⟩ := Kd.N_slice HO_5.out; subst eo8; obtain ⟨Ao9, co9, eo9⟩ := Kd.R_slice HO469.out; subst eo9; obtain ⟨Ao10, co10, eo10⟩ := Kd.R_slice HO473.out; subst eo10; obtain ⟨Ao11, co11, eo11⟩ := Kd.R_slice HO476.out; subst eo11; obtain ⟨Ao12, co12, eo12⟩ := Kd.R_slice HO479.out; subst eo12) | ((with_reducible refine gate_callee (f := 32) rfl ?_); refine goesL_ (some 20) rfl rfl Try.func32 (by kernel_rfl) rfl #[.slice Ao8 x5_1.length co8, .agg #[.slice Ao9 t467.length co9, .int .i64 t470, .slice Ao10 t471.length co10, .slice Ao11 t474.length co11, .slice Ao12 t477.length co12]] rfl (by (try simp only [List.map_toArray, List.map_cons, List.map_nil]); first | done | rfl | (simp only [List.length_drop, List.length_take]; rfl)) ?_; (with_reducible refine (hypercuberef2_Put.calls k1 (fun k_ => (((((w.heap.size ≤ k_) ∧ some k_ ≠ (.slice Ao9 t467.length co9 : Value).ownBlock) ∧ some k_ ≠ (.slice Ao10 t471.length co10 : Value).ownBlock) ∧ some k_ ≠ (.slice Ao11 t474.length co11 : Value).ownBlock) ∧ some k_ ≠ (.slice Ao12 t477.length co12 : Value).ownBlock)) _ _ x5_1 _ _ t467 t470 _ _ t471 _ _ t474 _ _ t477 t480 _ ?side1 ?side2 ?side3 ?side4 ?side5 ?side6 ?side7 ?side8 ?side9 A6.out).mono ?_); (case side1 => exact Kd.N_V (HO_5.out)); (case side2 => repeat (first | exact (Kd.R_reads' HO469.out).2.2 | (with_reducible refine Kd.C_alloc ?_ _) | (with_reducible refine Kd.C_drewN ?_ _) | (with_reducible refine Kd.C_drew ?_))); (case side3 => exact (Kd.R_reads' HO469.out).2.1); (case side4 => repeat (first | exact (Kd.R_reads' HO473.out).2.2 | (with_reducible refine Kd.C_alloc ?_ _) | (with_reducible refine Kd.C_drewN ?_ _) | (with_reducible refine Kd.C_drew ?_))); (case side5 => exact (Kd.R_reads' HO473.out).2.1); (case side6 => repeat (first | exact (Kd.R_reads' HO476.out).2.2 | (with_reducible refine Kd.C_alloc ?_ _) | (with_reducible refine Kd.C_drewN ?_ _) | (with_reducible refine Kd.C_drew ?_))); (case side7 => exact (Kd.R_reads' HO476.out).2.1); (case side8 => repeat (first | exact (Kd.R_reads' HO479.out).2.2 | (with_reducible refine Kd.C_alloc ?_ _) | (with_reducible refine Kd.C_drewN ?_ _) | (with_reducible refine Kd.C_drew ?_))); (case side9 => exact (Kd.R_reads' HO479.out).2.1); rintro e w13 ⟨v481, rfl, ho0, hb⟩; refine ⟨_, rfl, ?_⟩; have n0_ := am (Kd.N_elder' (by (with_reducible repeat (first | apply Kd.N_alloc | apply Kd.N_drewN | apply Kd.N_drew)); exact HO_5.out) (by first | exact Kd.N_base ho0 | exact Kd.S_base ho0 | exact Kd.R_base ho0) hb); have n1_ := am (Kd.R_below (by (with_reducible repeat (first | apply Kd.R_alloc | apply Kd.R_drewN | apply Kd.R_drew)); exact HO469.out) hb); have n2_ := am (Kd.R_below (by (with_reducible repeat (first | apply Kd.R_alloc | apply Kd.R_drewN | apply Kd.R_drew)); exact HO473.out) hb); have n3_ := am (Kd.R_below (by (with_reducible repeat (first | apply Kd.R_alloc | apply Kd.R_drewN | apply Kd.R_drew)); exact HO476.out) hb); have n4_ := am (Kd.R_below (by (with_reducible repeat (first | apply Kd.R_alloc | apply Kd.R_drewN | apply Kd.R_drew)); exact HO479.out) hb); have n5_ := am (Kd.N_lower (Kd.N_mono (ok' := fun k_ => (w.heap.size ≤ k_) ∧ some k_ ≠ (.slice Ao9 t467.length co9 : Value).ownBlock ∧ some k_ ≠ (.slice Ao10 t471.length co10 : Value).ownBlock ∧ some k_ ≠ (.slice Ao11 t474.length co11 : Value).ownBlock ∧ some k_ ≠ (.slice Ao12 t477.length co12 : Value).ownBlock) ho0 (fun k_ hk_ => ⟨Or.elim hk_ (fun hs_ => hs_.1.1.1.1) (fun hn_ => (Nat.le_trans (below_size (by repeat (first | (with_reducible first | exact HB.out | apply below_alloc | apply pw_below_drewN | apply below_drew1) | exact HB.out))) hn_)), Or.elim hk_ (fun hs_ => hs_.1.1.1.2) (fun hn_ => (Kd.fresh' (Kd.R_lt (by (with_reducible repeat (first | apply Kd.R_alloc | apply Kd.R_drewN | apply Kd.R_drew)); exact HO469.out)) k_ hn_)), Or.elim hk_ (fun hs_ => hs_.1.1.2) (fun hn_ => (Kd.fresh' (Kd.R_lt (by (with_reducible repeat (first | apply Kd.R_alloc | apply Kd.R_drewN | apply Kd.R_drew)); exact HO473.out)) k_ hn_)), Or.elim hk_ (fun hs_ => hs_.1.2) (fun hn_ => (Kd.fresh' (Kd.R_lt (by (with_reducible repeat (first | apply Kd.R_alloc | apply Kd.R_drewN | apply Kd.R_drew)); exact HO476.out)) k_ hn_)), Or.elim hk_ (fun hs_ => hs_.2) (fun hn_ => (Kd.fresh' (Kd.R_lt (by (with_reducible repeat (first | apply Kd.R_alloc | apply Kd.R_drewN | apply Kd.R_drew)); exact HO479.out)) k_ hn_))⟩)) (below_size (by repeat (first | (with_reducible first | exact HB.out | apply below_alloc | apply pw_below_drewN | apply below_drew1) | exact HB.out)))); have n6_ := am (below_step (by repeat (first | (with_reducible first | exact HB.out | apply below_alloc | apply pw_below_drewN | apply below_drew1) | exact HB.out)) hb); clear HO_5 HO469 HO473 HO476 HO479 HB; revert n0_ n1_ n2_ n3_ n4_ n5_ n6_; intro HO_5 HO469 HO473 HO476 HO479 HO482 HB; (try clear hb); (try clear hb2); (try clear hk); (try clear hi); (try clear ho0)))
     go_roundg k1
     case measure => have := HK1.out; omega
     case rel => exact ⟨(t480), (wrap64 (x6_1 + 1)), (by first | rfl | (simp; done) | (simp [*]; done)), H', ⟨by have := HK1.out; omega⟩, ⟨by (with_reducible repeat (first | apply Kd.N_alloc | apply Kd.N_drewN | apply Kd.N_drew)); exact Kd.N_mono HO482.out (fun _ hk => hk.1)⟩, ⟨by repeat (first | (with_reducible first | exact HB.out | apply below_alloc | apply pw_below_drewN | apply below_drew1) | exact HB.out)⟩⟩
    ·rw [if_neg c4] at H
     exact absurd H (by simp)
   ·rw [if_neg c3] at H
    have c3b0 : decide (x6_1 < (l0.length : Int)) = false := decide_eq_false c3
    clear c3
    obtain rfl := Option.some.inj H
    go_wp2
    go_ret
    exact ⟨_, by first | rfl | (simp [errW_none, errW_some] <;> rfl) | (simp [*, errW_none, errW_some] <;> rfl), by (with_reducible repeat (first | apply Kd.N_alloc | apply Kd.N_drewN | apply Kd.N_drew)); exact HO_5.out, by repeat (first | (with_reducible first | exact HB.out | apply below_alloc | apply pw_below_drewN | apply below_drew1) | exact HB.out)⟩
end Go.Proofs.Ytmnepkbmcnpjlaa.Q
namespace Go.Proofs.Ytmnepkbmcnpjlaa.Q
open Go.RowKit Go.Proofs.YtmnepkbmcnpjlaaW.PrintWords Go.Proofs.YtmnepkbmcnpjlaaW.PrintLast Go.Proofs.YtmnepkbmcnpjlaaW.PrintMore
attribute [local go_sem] max2_int min2_int max_two min_two max_three min_three max_four min_four
set_option linter.unusedVariables false
set_option linter.unusedSimpArgs false
mutual
def hypercubelaw5_RunsOne.j0 : Nat → List (S41) → Int → List (List (S41)) → Bool → Option (Bool)
 | 0, _, _, _, _ => none
 | k + 1, x16, x18, x19, x80 => if x80 = true then (none) else (hypercubelaw5_RunsOne.l0 k x16 x18 x19 0)
def hypercubelaw5_RunsOne.l0 : Nat → List (S41) → Int → List (List (S41)) → Int → Option (Bool)
 | 0, _, _, _, _ => none
 | k + 1, x16, x18, x19, x20 => if x20 < (x19.length : Int) then (if 0 ≤ x20 then (if 0 ≤ (wrap64 (x20 * x18)) then (if (wrap64 (x20 * x18)) ≤ (mn (x16.length : Int) (wrap64 ((wrap64 (x20 + 1)) * x18))) then (if (mn (x16.length : Int) (wrap64 ((wrap64 (x20 + 1)) * x18))) ≤ (x16.length : Int) then ((hypercuberef2_Same.f k (rd_L3 x19 x20) ((x16.take ((mn (x16.length : Int) (wrap64 ((wrap64 (x20 + 1)) * x18))) : Int).toNat).drop ((wrap64 (x20 * x18)) : Int).toNat)).bind fun t542 => (if t542 = true then (hypercubelaw5_RunsOne.l0 k x16 x18 x19 (wrap64 (x20 + 1))) else (none))) else (none)) else (none)) else (none)) else (none)) else (some true)
end
def hypercubelaw5_RunsOne.f (k : Nat) (a0 : Int) (l1 : List Int) (a2 : Int) (l3 : List Int) (a4 : Int) (a5 : Int) : Option (Bool) := (hypercubelaw5_known.f).bind fun t511 => (if t511 = true then ((hypercubelaw1_Facts.f k a0 l1 a2 l3).bind fun bt512 => ((hypercubelaw2_Set.f bt512.1 bt512.2.1 a4).bind fun t520 => ((hypercuberef2_Facts.f k bt512.2.2 t520).bind fun t521 => ((hypercubelaw2_Make.f k bt512.2.2 t520).bind fun t524 => ((runs_Runs.f k t524 1000).bind fun t527 => ((hypercubelaw5_within.f a5 12).bind fun t530 => ((runs_Runs.f k t521 (wrap64 (1 + t530))).bind fun t531 => (if (t521.length : Int) = 0 then (if (t527.length : Int) = 0 then (some ((t531.length : Int) == 0)) else (none)) else (if (t527.length : Int) = 1 then (if 0 < (t527.length : Int) then ((hypercuberef2_Same.f k (rd_L3 t527 0) t521).bind fun t535 => (if t535 = true then (if (wrap64 (1 + t530)) = 0 then (none) else (hypercubelaw5_RunsOne.j0 k t521 (wrap64 (1 + t530)) t531 ((t531.length : Int) != (wrap64 (Int.tdiv (wrap64 ((wrap64 ((t521.length : Int) + (wrap64 (1 + t530)))) - 1)) (wrap64 (1 + t530))))))) else (hypercubelaw5_RunsOne.j0 k t521 (wrap64 (1 + t530)) t531 true))) else (none)) else (hypercubelaw5_RunsOne.j0 k t521 (wrap64 (1 + t530)) t531 true)))))))))) else (none))
def hypercubelaw5_RunsOne.T16 : Bool × List (List Nat × List Nat) := (true, [([], []), ([], []), ([0, 1], [0, 1]), ([2], [2]), ([], []), ([], []), ([], []), ([5, 6], [5, 6]), ([], []), ([8], [8]), ([], []), ([10], [10]), ([], []), ([11, 12], [11, 12]), ([9, 13], [9, 13]), ([4, 7, 14], [4, 7, 14]), ([3, 15], [3, 15]), ([16], [16])])
def hypercubelaw5_RunsOne.B16 : List Nat := [0, 0, 3, 7, 0, 0, 0, 96, 0, 256, 0, 1024, 0, 7168, 16128, 32752, 65535, 131071]
theorem hypercubelaw5_RunsOne.tab16 : rtab .any (opsOf Try.f6 16) = hypercubelaw5_RunsOne.T16 := by kernel_rfl
theorem hypercubelaw5_RunsOne.bits16 : waitsOk hypercubelaw5_RunsOne.T16.2 hypercubelaw5_RunsOne.B16 = true := by kernel_rfl
set_option maxHeartbeats 8000000 in
set_option maxRecDepth 100000 in
theorem hypercubelaw5_RunsOne.calls (k : Nat) (a0 : Int) (A1 : Option Addr) (c1 : Nat) (l1 : List Int) (a2 : Int) (A3 : Option Addr) (c3 : Nat) (l3 : List Int) (a4 : Int) (a5 : Int) (r : Bool) (w : World) (hr1 : Kd.C (Kd.int .i64) w A1 l1.length l1) (hc1 : l1.length ≤ c1) (hr3 : Kd.C (Kd.int .i64) w A3 l3.length l3) (hc3 : l3.length ≤ c3) (h : hypercubelaw5_RunsOne.f k a0 l1 a2 l3 a4 a5 = some r) :
  Calls Try.prog 6 #[.int .i64 a0, .slice A1 l1.length c1, .int .i64 a2, .slice A3 l3.length c3, .int .i64 a4, .int .i64 a5] w fun e w' => e = .returned (.bool r) ∧ Below w.heap.size w w' := by
 have hu25 := Try.underlying25
 have HR1 := am hr1
 have HC1 := am hc1
 clear hr1 hc1
 have HR3 := am hr3
 have HC3 := am hc3
 clear hr3 hc3
 have HB := am (Below.refl w.heap.size w)
 have H : ((hypercubelaw5_known.f).bind fun t511 => (if t511 = true then ((hypercubelaw1_Facts.f k a0 l1 a2 l3).bind fun bt512 => ((hypercubelaw2_Set.f bt512.1 bt512.2.1 a4).bind fun t520 => ((hypercuberef2_Facts.f k bt512.2.2 t520).bind fun t521 => ((hypercubelaw2_Make.f k bt512.2.2 t520).bind fun t524 => ((runs_Runs.f k t524 1000).bind fun t527 => ((hypercubelaw5_within.f a5 12).bind fun t530 => ((runs_Runs.f k t521 (wrap64 (1 + t530))).bind fun t531 => (if (t521.length : Int) = 0 then (if (t527.length : Int) = 0 then (some ((t531.length : Int) == 0)) else (none)) else (if (t527.length : Int) = 1 then (if 0 < (t527.length : Int) then ((hypercuberef2_Same.f k (rd_L3 t527 0) t521).bind fun t535 => (if t535 = true then (if (wrap64 (1 + t530)) = 0 then (none) else (hypercubelaw5_RunsOne.j0 k t521 (wrap64 (1 + t530)) t531 ((t531.length : Int) != (wrap64 (Int.tdiv (wrap64 ((wrap64 ((t521.length : Int) + (wrap64 (1 + t530)))) - 1)) (wrap64 (1 + t530))))))) else (hypercubelaw5_RunsOne.j0 k t521 (wrap64 (1 + t530)) t531 true))) else (none)) else (hypercubelaw5_RunsOne.j0 k t521 (wrap64 (1 + t530)) t531 true)))))))))) else (none))) = some r := h
 clear h
 replace H := Option.bind_eq_some_iff.mp H
 obtain ⟨t511, A70, H⟩ := H
 replace H : (if t511 = true then ((hypercubelaw1_Facts.f k a0 l1 a2 l3).bind fun bt512 => ((hypercubelaw2_Set.f bt512.1 bt512.2.1 a4).bind fun t520 => ((hypercuberef2_Facts.f k bt512.2.2 t520).bind fun t521 => ((hypercubelaw2_Make.f k bt512.2.2 t520).bind fun t524 => ((runs_Runs.f k t524 1000).bind fun t527 => ((hypercubelaw5_within.f a5 12).bind fun t530 => ((runs_Runs.f k t521 (wrap64 (1 + t530))).bind fun t531 => (if (t521.length : Int) = 0 then (if (t527.length : Int) = 0 then (some ((t531.length : Int) == 0)) else (none)) else (if (t527.length : Int) = 1 then (if 0 < (t527.length : Int) then ((hypercuberef2_Same.f k (rd_L3 t527 0) t521).bind fun t535 => (if t535 = true then (if (wrap64 (1 + t530)) = 0 then (none) else (hypercubelaw5_RunsOne.j0 k t521 (wrap64 (1 + t530)) t531 ((t531.length : Int) != (wrap64 (Int.tdiv (wrap64 ((wrap64 ((t521.length : Int) + (wrap64 (1 + t530)))) - 1)) (wrap64 (1 + t530))))))) else (hypercubelaw5_RunsOne.j0 k t521 (wrap64 (1 + t530)) t531 true))) else (none)) else (hypercubelaw5_RunsOne.j0 k t521 (wrap64 (1 + t530)) t531 true)))))))))) else (none)) = some r := H
 have A7 := am A70
 clear A70
 by_cases c8 : t511 = true
 ·subst c8
  have H1 : ((hypercubelaw1_Facts.f k a0 l1 a2 l3).bind fun bt512 => ((hypercubelaw2_Set.f bt512.1 bt512.2.1 a4).bind fun t520 => ((hypercuberef2_Facts.f k bt512.2.2 t520).bind fun t521 => ((hypercubelaw2_Make.f k bt512.2.2 t520).bind fun t524 => ((runs_Runs.f k t524 1000).bind fun t527 => ((hypercubelaw5_within.f a5 12).bind fun t530 => ((runs_Runs.f k t521 (wrap64 (1 + t530))).bind fun t531 => (if (t521.length : Int) = 0 then (if (t527.length : Int) = 0 then (some ((t531.length : Int) == 0)) else (none)) else (if (t527.length : Int) = 1 then (if 0 < (t527.length : Int) then ((hypercuberef2_Same.f k (rd_L3 t527 0) t521).bind fun t535 => (if t535 = true then (if (wrap64 (1 + t530)) = 0 then (none) else (hypercubelaw5_RunsOne.j0 k t521 (wrap64 (1 + t530)) t531 ((t531.length : Int) != (wrap64 (Int.tdiv (wrap64 ((wrap64 ((t521.length : Int) + (wrap64 (1 + t530)))) - 1)) (wrap64 (1 + t530))))))) else (hypercubelaw5_RunsOne.j0 k t521 (wrap64 (1 + t530)) t531 true))) else (none)) else (hypercubelaw5_RunsOne.j0 k t521 (wrap64 (1 + t530)) t531 true)))))))))) = some r := by rw [if_pos rfl] at H; exact H
  clear H
  have H := H1
  clear H1
  replace H := Option.bind_eq_some_iff.mp H
  obtain ⟨⟨t512, t515, t516⟩, A90, H⟩ := H
  replace H : ((hypercubelaw2_Set.f t512 t515 a4).bind fun t520 => ((hypercuberef2_Facts.f k t516 t520).bind fun t521 => ((hypercubelaw2_Make.f k t516 t520).bind fun t524 => ((runs_Runs.f k t524 1000).bind fun t527 => ((hypercubelaw5_within.f a5 12).bind fun t530 => ((runs_Runs.f k t521 (wrap64 (1 + t530))).bind fun t531 => (if (t521.length : Int) = 0 then (if (t527.length : Int) = 0 then (some ((t531.length : Int) == 0)) else (none)) else (if (t527.length : Int) = 1 then (if 0 < (t527.length : Int) then ((hypercuberef2_Same.f k (rd_L3 t527 0) t521).bind fun t535 => (if t535 = true then (if (wrap64 (1 + t530)) = 0 then (none) else (hypercubelaw5_RunsOne.j0 k t521 (wrap64 (1 + t530)) t531 ((t531.length : Int) != (wrap64 (Int.tdiv (wrap64 ((wrap64 ((t521.length : Int) + (wrap64 (1 + t530)))) - 1)) (wrap64 (1 + t530))))))) else (hypercubelaw5_RunsOne.j0 k t521 (wrap64 (1 + t530)) t531 true))) else (none)) else (hypercubelaw5_RunsOne.j0 k t521 (wrap64 (1 + t530)) t531 true))))))))) = some r := H
  have A9 := am A90
  clear A90
  replace H := Option.bind_eq_some_iff.mp H
  obtain ⟨t520, A100, H⟩ := H
  replace H : ((hypercuberef2_Facts.f k t516 t520).bind fun t521 => ((hypercubelaw2_Make.f k t516 t520).bind fun t524 => ((runs_Runs.f k t524 1000).bind fun t527 => ((hypercubelaw5_within.f a5 12).bind fun t530 => ((runs_Runs.f k t521 (wrap64 (1 + t530))).bind fun t531 => (if (t521.length : Int) = 0 then (if (t527.length : Int) = 0 then (some ((t531.length : Int) == 0)) else (none)) else (if (t527.length : Int) = 1 then (if 0 < (t527.length : Int) then ((hypercuberef2_Same.f k (rd_L3 t527 0) t521).bind fun t535 => (if t535 = true then (if (wrap64 (1 + t530)) = 0 then (none) else (hypercubelaw5_RunsOne.j0 k t521 (wrap64 (1 + t530)) t531 ((t531.length : Int) != (wrap64 (Int.tdiv (wrap64 ((wrap64 ((t521.length : Int) + (wrap64 (1 + t530)))) - 1)) (wrap64 (1 + t530))))))) else (hypercubelaw5_RunsOne.j0 k t521 (wrap64 (1 + t530)) t531 true))) else (none)) else (hypercubelaw5_RunsOne.j0 k t521 (wrap64 (1 + t530)) t531 true)))))))) = some r := H
  have A10 := am A100
  clear A100
  replace H := Option.bind_eq_some_iff.mp H
  obtain ⟨t521, A110, H⟩ := H
  replace H : ((hypercubelaw2_Make.f k t516 t520).bind fun t524 => ((runs_Runs.f k t524 1000).bind fun t527 => ((hypercubelaw5_within.f a5 12).bind fun t530 => ((runs_Runs.f k t521 (wrap64 (1 + t530))).bind fun t531 => (if (t521.length : Int) = 0 then (if (t527.length : Int) = 0 then (some ((t531.length : Int) == 0)) else (none)) else (if (t527.length : Int) = 1 then (if 0 < (t527.length : Int) then ((hypercuberef2_Same.f k (rd_L3 t527 0) t521).bind fun t535 => (if t535 = true then (if (wrap64 (1 + t530)) = 0 then (none) else (hypercubelaw5_RunsOne.j0 k t521 (wrap64 (1 + t530)) t531 ((t531.length : Int) != (wrap64 (Int.tdiv (wrap64 ((wrap64 ((t521.length : Int) + (wrap64 (1 + t530)))) - 1)) (wrap64 (1 + t530))))))) else (hypercubelaw5_RunsOne.j0 k t521 (wrap64 (1 + t530)) t531 true))) else (none)) else (hypercubelaw5_RunsOne.j0 k t521 (wrap64 (1 + t530)) t531 true))))))) = some r := H
  have A11 := am A110
  clear A110
  replace H := Option.bind_eq_some_iff.mp H
  obtain ⟨t524, A120, H⟩ := H
  replace H : ((runs_Runs.f k t524 1000).bind fun t527 => ((hypercubelaw5_within.f a5 12).bind fun t530 => ((runs_Runs.f k t521 (wrap64 (1 + t530))).bind fun t531 => (if (t521.length : Int) = 0 then (if (t527.length : Int) = 0 then (some ((t531.length : Int) == 0)) else (none)) else (if (t527.length : Int) = 1 then (if 0 < (t527.length : Int) then ((hypercuberef2_Same.f k (rd_L3 t527 0) t521).bind fun t535 => (if t535 = true then (if (wrap64 (1 + t530)) = 0 then (none) else (hypercubelaw5_RunsOne.j0 k t521 (wrap64 (1 + t530)) t531 ((t531.length : Int) != (wrap64 (Int.tdiv (wrap64 ((wrap64 ((t521.length : Int) + (wrap64 (1 + t530)))) - 1)) (wrap64 (1 + t530))))))) else (hypercubelaw5_RunsOne.j0 k t521 (wrap64 (1 + t530)) t531 true))) else (none)) else (hypercubelaw5_RunsOne.j0 k t521 (wrap64 (1 + t530)) t531 true)))))) = some r := H
  have A12 := am A120
  clear A120
  replace H := Option.bind_eq_some_iff.mp H
  obtain ⟨t527, A130, H⟩ := H
  replace H : ((hypercubelaw5_within.f a5 12).bind fun t530 => ((runs_Runs.f k t521 (wrap64 (1 + t530))).bind fun t531 => (if (t521.length : Int) = 0 then (if (t527.length : Int) = 0 then (some ((t531.length : Int) == 0)) else (none)) else (if (t527.length : Int) = 1 then (if 0 < (t527.length : Int) then ((hypercuberef2_Same.f k (rd_L3 t527 0) t521).bind fun t535 => (if t535 = true then (if (wrap64 (1 + t530)) = 0 then (none) else (hypercubelaw5_RunsOne.j0 k t521 (wrap64 (1 + t530)) t531 ((t531.length : Int) != (wrap64 (Int.tdiv (wrap64 ((wrap64 ((t521.length : Int) + (wrap64 (1 + t530)))) - 1)) (wrap64 (1 + t530))))))) else (hypercubelaw5_RunsOne.j0 k t521 (wrap64 (1 + t530)) t531 true))) else (none)) else (hypercubelaw5_RunsOne.j0 k t521 (wrap64 (1 + t530)) t531 true))))) = some r := H
  have A13 := am A130
  clear A130
  replace H := Option.bind_eq_some_iff.mp H
  obtain ⟨t530, A140, H⟩ := H
  replace H : ((runs_Runs.f k t521 (wrap64 (1 + t530))).bind fun t531 => (if (t521.length : Int) = 0 then (if (t527.length : Int) = 0 then (some ((t531.length : Int) == 0)) else (none)) else (if (t527.length : Int) = 1 then (if 0 < (t527.length : Int) then ((hypercuberef2_Same.f k (rd_L3 t527 0) t521).bind fun t535 => (if t535 = true then (if (wrap64 (1 + t530)) = 0 then (none) else (hypercubelaw5_RunsOne.j0 k t521 (wrap64 (1 + t530)) t531 ((t531.length : Int) != (wrap64 (Int.tdiv (wrap64 ((wrap64 ((t521.length : Int) + (wrap64 (1 + t530)))) - 1)) (wrap64 (1 + t530))))))) else (hypercubelaw5_RunsOne.j0 k t521 (wrap64 (1 + t530)) t531 true))) else (none)) else (hypercubelaw5_RunsOne.j0 k t521 (wrap64 (1 + t530)) t531 true)))) = some r := H
  have A14 := am A140
  clear A140
  replace H := Option.bind_eq_some_iff.mp H
  obtain ⟨t531, A150, H⟩ := H
  replace H : (if (t521.length : Int) = 0 then (if (t527.length : Int) = 0 then (some ((t531.length : Int) == 0)) else (none)) else (if (t527.length : Int) = 1 then (if 0 < (t527.length : Int) then ((hypercuberef2_Same.f k (rd_L3 t527 0) t521).bind fun t535 => (if t535 = true then (if (wrap64 (1 + t530)) = 0 then (none) else (hypercubelaw5_RunsOne.j0 k t521 (wrap64 (1 + t530)) t531 ((t531.length : Int) != (wrap64 (Int.tdiv (wrap64 ((wrap64 ((t521.length : Int) + (wrap64 (1 + t530)))) - 1)) (wrap64 (1 + t530))))))) else (hypercubelaw5_RunsOne.j0 k t521 (wrap64 (1 + t530)) t531 true))) else (none)) else (hypercubelaw5_RunsOne.j0 k t521 (wrap64 (1 + t530)) t531 true))) = some r := H
  have A15 := am A150
  clear A150
  by_cases c16 : (t521.length : Int) = 0
  ·rw [if_pos c16] at H
   have c16b0 : ((t521.length : Int) == 0) = true := beq_iff_eq.mpr c16
   have c16b1 : ((t521.length : Int) != 0) = false := bne_eq_false_iff_eq.mpr c16
   clear c16
   by_cases c17 : (t527.length : Int) = 0
   ·rw [if_pos c17] at H
    have c17b0 : ((t527.length : Int) == 0) = true := beq_iff_eq.mpr c17
    have c17b1 : ((t527.length : Int) != 0) = false := bne_eq_false_iff_eq.mpr c17
    clear c17
    obtain rfl := Option.some.inj H
    go_enter Try.func6, Try.ntmps6
    go_wp2_with (first | ((with_reducible refine gate_callee (f := 12) rfl ?_); refine goesL_ (some 21) rfl rfl Try.func12 (by kernel_rfl) rfl #[] rfl (by (try simp only [List.map_toArray, List.map_cons, List.map_nil]); first | done | rfl | (simp only [List.length_drop, List.length_take]; rfl)) ?_; (with_reducible refine (hypercubelaw5_known.calls  true _ A7.out).mono ?_); rintro e w18 ⟨rfl, hb⟩; refine ⟨_, rfl, ?_⟩; have n0_ := am (below_step (by repeat (first | (with_reducible first | exact HB.out | apply below_alloc | apply pw_below_drewN | apply below_drew1) | exact HB.out)) hb); clear HB; revert n0_; intro HB; (try clear hb); (try clear hb2); (try clear hk); (try clear hi)) | ((with_reducible refine gate_callee (f := 13) rfl ?_); refine goesL_ (some 28) rfl rfl Try.func13 (by kernel_rfl) rfl #[.int .i64 a0, .slice A1 l1.length c1, .int .i64 a2, .slice A3 l3.length c3] rfl (by (try simp only [List.map_toArray, List.map_cons, List.map_nil]); first | done | rfl | (simp only [List.length_drop, List.length_take]; rfl)) ?_; (with_reducible refine (hypercubelaw1_Facts.calls k a0 _ _ l1 a2 _ _ l3 t512 t515 t516 _ ?side1 ?side2 ?side3 ?side4 A9.out).mono ?_); (case side1 => repeat (first | exact (Kd.C_below HR1.out HB.out) | (with_reducible refine Kd.C_alloc ?_ _) | (with_reducible refine Kd.C_drewN ?_ _) | (with_reducible refine Kd.C_drew ?_))); (case side2 => exact HC1.out); (case side3 => repeat (first | exact (Kd.C_below HR3.out HB.out) | (with_reducible refine Kd.C_alloc ?_ _) | (with_reducible refine Kd.C_drewN ?_ _) | (with_reducible refine Kd.C_drew ?_))); (case side4 => exact HC3.out); rintro e w19 ⟨v513, v517, rfl, ho0, ho1, hb⟩; refine ⟨_, rfl, ?_⟩; have n0_ := am (Kd.R_lower ho0 (below_size (by repeat (first | (with_reducible first | exact HB.out | apply below_alloc | apply pw_below_drewN | apply below_drew1) | exact HB.out)))); have n1_ := am (Kd.N_lower (Kd.N_mono (ok' := fun k_ => some k_ ≠ (v513 : Value).ownBlock) (Kd.S_N (Kd.S_bound ho1)) (fun k_ hk_ => hk_.1)) (below_size (by repeat (first | (with_reducible first | exact HB.out | apply below_alloc | apply pw_below_drewN | apply below_drew1) | exact HB.out)))); have n2_ := am (below_step (by repeat (first | (with_reducible first | exact HB.out | apply below_alloc | apply pw_below_drewN | apply below_drew1) | exact HB.out)) hb); clear HB; revert n0_ n1_ n2_; intro HO514 HO518 HB; (try clear hb); (try clear hb2); (try clear hk); (try clear hi); (try clear ho0); (try clear ho1)) | ((with_reducible refine gate_dst (N := 13) rfl ?_); (try (refine gate_guard (by rfl) ?_; dsimp only)); refine box_event ?hg (N := 13) ?hd (cs := #[.slice none 0 0, .int .i64 0]) (t := 25) ?hr ?_; (case hd => rfl); (case hg => rfl); (case hr => first | (go_simp; done) | (go_simp; rfl)); intro gb519 hg w20 hbox hb; have n0_ := am (Kd.R_below (by (with_reducible repeat (first | apply Kd.R_alloc | apply Kd.R_drewN | apply Kd.R_drew)); exact HO514.out) hb); have n1_ := am (Kd.N_below (Kd.N_elderB (by (with_reducible repeat (first | apply Kd.N_alloc | apply Kd.N_drewN | apply Kd.N_drew)); exact HO518.out) gb519 (Nat.le_of_eq hg.symm)) hb); have n2_ := am (below_step (by repeat (first | (with_reducible first | exact HB.out | apply below_alloc | apply pw_below_drewN | apply below_drew1) | exact HB.out)) hb); have n3_ := am (hbox); have n4_ := am ((by rw [hg]; exact (below_size (by repeat (first | (with_reducible first | exact HB.out | apply below_alloc | apply pw_below_drewN | apply below_drew1) | exact HB.out))) : w.heap.size ≤ gb519)); have n5_ := am ((by rw [hg]; exact (below_size (by repeat (first | (with_reducible first | exact HB.out | apply below_alloc | apply pw_below_drewN | apply below_drew1) | exact HB.out))) : w.heap.size ≤ gb519)); clear HO514 HO518 HB; revert n0_ n1_ n2_ n3_ n4_ n5_; intro HO514 HO518 HB BK519 GW519 GE519; clear hb hbox hg; obtain ⟨Ao21, co21, eo21⟩ := Kd.R_slice HO514.out; subst eo21; have hcz22_0 : w20.cell? ⟨gb519, 0, none⟩ = some (.slice none 0 0) := (blk_cell BK519.out 0).trans rfl; have hcz22_1 : w20.cell? ⟨gb519, 1, none⟩ = some (.int .i64 0) := (blk_cell BK519.out 1).trans rfl; have hfz22_0 := blk_frozen BK519.out 0; have hfz22_1 := blk_frozen BK519.out 1) | ((with_reducible refine gate_callee (f := 15) rfl ?_); refine goesL_ (some 33) rfl rfl Try.func15 (by kernel_rfl) rfl #[.agg #[.slice Ao21 t512.length co21, .int .i64 t515], .int .i64 a4] rfl (by (try simp only [List.map_toArray, List.map_cons, List.map_nil]); first | done | rfl | (simp only [List.length_drop, List.length_take]; rfl)) ?_; (with_reducible refine (hypercubelaw2_Set.calls _ _ t512 t515 a4 t520 _ ?side1 ?side2 A10.out).mono ?_); (case side1 => refine (Kd.R_reads' (e := 3) (base := w.heap.size) (ok := fun k_ => True) (n := t512.length) (c := co21) ?_).2.2; exact (by (with_reducible repeat (first | apply Kd.R_alloc | apply Kd.R_drewN | apply Kd.R_drew)); exact (Kd.R_mono (Kd.R_far (p := ⟨gb519, 1, none⟩) (Kd.R_far (p := ⟨gb519, 0, none⟩) (Kd.R_types HO514.out BK519.out (by decide)) (fun _ hk => hk.2) (.slice Ao21 t512.length co21)) (fun _ hk => hk.2) (.int .i64 t515)) (fun _ h_ => h_.1)))); (case side2 => exact (Kd.R_reads' HO514.out).2.1); rintro e w23 ⟨rfl, hb⟩; refine ⟨_, rfl, ?_⟩; have n0_ := am (Kd.R_below (by (with_reducible repeat (first | apply Kd.R_alloc | apply Kd.R_drewN | apply Kd.R_drew)); exact (Kd.R_mono (Kd.R_far (p := ⟨gb519, 1, none⟩) (Kd.R_far (p := ⟨gb519, 0, none⟩) (Kd.R_types HO514.out BK519.out (by decide)) (fun _ hk => hk.2) (.slice Ao21 t512.length co21)) (fun _ hk => hk.2) (.int .i64 t515)) (fun _ h_ => h_.1))) hb); have n1_ := am (Kd.N_below (by (with_reducible repeat (first | apply Kd.N_alloc | apply Kd.N_drewN | apply Kd.N_drew)); exact (Kd.N_mono (Kd.N_far (p := ⟨gb519, 1, none⟩) (Kd.N_far (p := ⟨gb519, 0, none⟩) (Kd.N_mono HO518.out (fun k_ hk => (⟨hk, hk.2⟩ : _ ∧ k_ ≠ gb519))) (fun _ hk => hk.2) (.slice Ao21 t512.length co21)) (fun _ hk => hk.2) (.int .i64 t515)) (fun _ h_ => h_.1))) hb); have n2_ := am (blk_below (g := gb519) (o := .cells #[.slice Ao21 t512.length co21, .int .i64 t515] 25 (0, 0)) (by (with_reducible repeat (first | refine blk_drewN ?_ _ | refine blk_drew ?_ | refine blk_alloc ?_ _)); refine blk_put (cs := #[.slice Ao21 t512.length co21, .int .i64 0]) ?_ 1 _ rfl; (with_reducible repeat (first | refine blk_drewN ?_ _ | refine blk_drew ?_ | refine blk_alloc ?_ _)); refine blk_put (cs := #[.slice none 0 0, .int .i64 0]) ?_ 0 _ rfl; (with_reducible repeat (first | refine blk_drewN ?_ _ | refine blk_drew ?_ | refine blk_alloc ?_ _)); exact BK519.out) hb); have n3_ := am (below_step (by repeat (first | (with_reducible first | exact HB.out | apply below_alloc | apply pw_below_drewN | apply below_drew1 | refine below_set ?_ GE519.out) | exact HB.out)) hb); clear HO514 HO518 BK519 HB; revert n0_ n1_ n2_ n3_; intro HO514 HO518 BK519 HB; (try clear hb); (try clear hb2); (try clear hk); (try clear hi); obtain ⟨Ao24, co24, eo24⟩ := Kd.N_slice HO518.out; subst eo24) | ((with_reducible refine gate_callee (f := 24) rfl ?_); refine goesL_ (some 36) rfl rfl Try.func24 (by kernel_rfl) rfl #[.slice Ao24 t516.length co24, .int .i64 t520] rfl (by (try simp only [List.map_toArray, List.map_cons, List.map_nil]); first | done | rfl | (simp only [List.length_drop, List.length_take]; rfl)) ?_; (with_reducible refine (hypercuberef2_Facts.calls k _ _ t516 t520 t521 _ ?side1 ?side2 A11.out).mono ?_); (case side1 => repeat (first | exact (Kd.N_reads' HO518.out).2.2 | (with_reducible refine Kd.C_alloc ?_ _) | (with_reducible refine Kd.C_drewN ?_ _) | (with_reducible refine Kd.C_drew ?_))); (case side2 => exact (Kd.N_reads' HO518.out).2.1); rintro e w25 ⟨v522, rfl, ho0, hb⟩; refine ⟨_, rfl, ?_⟩; have n0_ := am (Kd.R_below (by (with_reducible repeat (first | apply Kd.R_alloc | apply Kd.R_drewN | apply Kd.R_drew)); exact HO514.out) hb); have n1_ := am (Kd.N_elder' (by (with_reducible repeat (first | apply Kd.N_alloc | apply Kd.N_drewN | apply Kd.N_drew)); exact HO518.out) (by first | exact Kd.N_base ho0 | exact Kd.S_base ho0 | exact Kd.R_base ho0) hb); have n2_ := am (Kd.N_lower (Kd.N_mono (ok' := fun k_ => some k_ ≠ (.slice Ao21 t512.length co21 : Value).ownBlock ∧ some k_ ≠ (.slice Ao24 t516.length co24 : Value).ownBlock ∧ k_ ≠ gb519) ho0 (fun k_ hk_ => ⟨(Kd.fresh' (Kd.R_lt (by (with_reducible repeat (first | apply Kd.R_alloc | apply Kd.R_drewN | apply Kd.R_drew)); exact HO514.out)) k_ hk_), (Kd.fresh' (Kd.N_lt (by (with_reducible repeat (first | apply Kd.N_alloc | apply Kd.N_drewN | apply Kd.N_drew)); exact HO518.out)) k_ hk_), (Kd.freshB (g := gb519) (o := .cells #[.slice Ao21 t512.length co21, .int .i64 t515] 25 (0, 0)) (by (with_reducible repeat (first | refine blk_drewN ?_ _ | refine blk_drew ?_ | refine blk_alloc ?_ _)); exact BK519.out) k_ hk_)⟩)) (below_size (by repeat (first | (with_reducible first | exact HB.out | apply below_alloc | apply pw_below_drewN | apply below_drew1 | refine below_set ?_ GE519.out) | exact HB.out)))); have n3_ := am (blk_below (g := gb519) (o := .cells #[.slice Ao21 t512.length co21, .int .i64 t515] 25 (0, 0)) (by (with_reducible repeat (first | refine blk_drewN ?_ _ | refine blk_drew ?_ | refine blk_alloc ?_ _)); exact BK519.out) hb); have n4_ := am (below_step (by repeat (first | (with_reducible first | exact HB.out | apply below_alloc | apply pw_below_drewN | apply below_drew1 | refine below_set ?_ GE519.out) | exact HB.out)) hb); clear HO514 HO518 BK519 HB; revert n0_ n1_ n2_ n3_ n4_; intro HO514 HO518 HO523 BK519 HB; (try clear hb); (try clear hb2); (try clear hk); (try clear hi); (try clear ho0)) | ((with_reducible refine gate_callee (f := 14) rfl ?_); refine goesL_ (some 39) rfl rfl Try.func14 (by kernel_rfl) rfl #[.slice Ao24 t516.length co24, .int .i64 t520] rfl (by (try simp only [List.map_toArray, List.map_cons, List.map_nil]); first | done | rfl | (simp only [List.length_drop, List.length_take]; rfl)) ?_; (with_reducible refine (hypercubelaw2_Make.calls k _ _ t516 t520 t524 _ ?side1 ?side2 A12.out).mono ?_); (case side1 => repeat (first | exact (Kd.N_reads' HO518.out).2.2 | (with_reducible refine Kd.C_alloc ?_ _) | (with_reducible refine Kd.C_drewN ?_ _) | (with_reducible refine Kd.C_drew ?_))); (case side2 => exact (Kd.N_reads' HO518.out).2.1); rintro e w26 ⟨v525, rfl, ho0, hb⟩; refine ⟨_, rfl, ?_⟩; have n0_ := am (Kd.R_below (by (with_reducible repeat (first | apply Kd.R_alloc | apply Kd.R_drewN | apply Kd.R_drew)); exact HO514.out) hb); have n1_ := am (Kd.N_elder' (by (with_reducible repeat (first | apply Kd.N_alloc | apply Kd.N_drewN | apply Kd.N_drew)); exact HO518.out) (by first | exact Kd.N_base ho0 | exact Kd.S_base ho0 | exact Kd.R_base ho0) hb); have n2_ := am (Kd.N_elder' (by (with_reducible repeat (first | apply Kd.N_alloc | apply Kd.N_drewN | apply Kd.N_drew)); exact HO523.out) (by first | exact Kd.N_base ho0 | exact Kd.S_base ho0 | exact Kd.R_base ho0) hb); have n3_ := am (Kd.N_lower (Kd.N_mono (ok' := fun k_ => some k_ ≠ (.slice Ao21 t512.length co21 : Value).ownBlock ∧ some k_ ≠ (.slice Ao24 t516.length co24 : Value).ownBlock ∧ some k_ ≠ (v522 : Value).ownBlock ∧ k_ ≠ gb519) (Kd.S_N (Kd.S_bound ho0)) (fun k_ hk_ => ⟨(Kd.fresh' (Kd.R_lt (by (with_reducible repeat (first | apply Kd.R_alloc | apply Kd.R_drewN | apply Kd.R_drew)); exact HO514.out)) k_ hk_.2.1), (Kd.fresh' (Kd.N_lt (by (with_reducible repeat (first | apply Kd.N_alloc | apply Kd.N_drewN | apply Kd.N_drew)); exact HO518.out)) k_ hk_.2.1), (Kd.fresh' (Kd.N_lt (by (with_reducible repeat (first | apply Kd.N_alloc | apply Kd.N_drewN | apply Kd.N_drew)); exact HO523.out)) k_ hk_.2.1), (Kd.freshB (g := gb519) (o := .cells #[.slice Ao21 t512.length co21, .int .i64 t515] 25 (0, 0)) (by (with_reducible repeat (first | refine blk_drewN ?_ _ | refine blk_drew ?_ | refine blk_alloc ?_ _)); exact BK519.out) k_ hk_.2.1)⟩)) (below_size (by repeat (first | (with_reducible first | exact HB.out | apply below_alloc | apply pw_below_drewN | apply below_drew1 | refine below_set ?_ GE519.out) | exact HB.out)))); have n4_ := am (blk_below (g := gb519) (o := .cells #[.slice Ao21 t512.length co21, .int .i64 t515] 25 (0, 0)) (by (with_reducible repeat (first | refine blk_drewN ?_ _ | refine blk_drew ?_ | refine blk_alloc ?_ _)); exact BK519.out) hb); have n5_ := am (below_step (by repeat (first | (with_reducible first | exact HB.out | apply below_alloc | apply pw_below_drewN | apply below_drew1 | refine below_set ?_ GE519.out) | exact HB.out)) hb); clear HO514 HO518 HO523 BK519 HB; revert n0_ n1_ n2_ n3_ n4_ n5_; intro HO514 HO518 HO523 HO526 BK519 HB; (try clear hb); (try clear hb2); (try clear hk); (try clear hi); (try clear ho0); obtain ⟨Ao27, co27, eo27⟩ := Kd.N_slice HO526.out; subst eo27) | ((with_reducible refine gate_callee (f := 18) rfl ?_); refine goesL_ (some 40) rfl rfl Try.func18 (by kernel_rfl) rfl #[.slice Ao27 t524.length co27, .int .i64 1000] rfl (by (try simp only [List.map_toArray, List.map_cons, List.map_nil]); first | done | rfl | (simp only [List.length_drop, List.length_take]; rfl)) ?_; (with_reducible refine (runs_Runs.calls k _ _ t524 1000 t527 _ ?side1 ?side2 A13.out).mono ?_); (case side1 => repeat (first | exact (Kd.N_reads' HO526.out).2.2 | (with_reducible refine Kd.C_alloc ?_ _) | (with_reducible refine Kd.C_drewN ?_ _) | (with_reducible refine Kd.C_drew ?_))); (case side2 => exact (Kd.N_reads' HO526.out).2.1); rintro e w28 ⟨v528, rfl, ho0, hb⟩; refine ⟨_, rfl, ?_⟩; have n0_ := am (Kd.R_below (by (with_reducible repeat (first | apply Kd.R_alloc | apply Kd.R_drewN | apply Kd.R_drew)); exact HO514.out) hb); have n1_ := am (Kd.N_elder' (by (with_reducible repeat (first | apply Kd.N_alloc | apply Kd.N_drewN | apply Kd.N_drew)); exact HO518.out) (by first | exact Kd.N_base ho0 | exact Kd.S_base ho0 | exact Kd.R_base ho0) hb); have n2_ := am (Kd.N_elder' (by (with_reducible repeat (first | apply Kd.N_alloc | apply Kd.N_drewN | apply Kd.N_drew)); exact HO523.out) (by first | exact Kd.N_base ho0 | exact Kd.S_base ho0 | exact Kd.R_base ho0) hb); have n3_ := am (Kd.N_elder' (by (with_reducible repeat (first | apply Kd.N_alloc | apply Kd.N_drewN | apply Kd.N_drew)); exact HO526.out) (by first | exact Kd.N_base ho0 | exact Kd.S_base ho0 | exact Kd.R_base ho0) hb); have n4_ := am (Kd.N_lower (Kd.N_mono (ok' := fun k_ => some k_ ≠ (.slice Ao21 t512.length co21 : Value).ownBlock ∧ some k_ ≠ (.slice Ao24 t516.length co24 : Value).ownBlock ∧ some k_ ≠ (v522 : Value).ownBlock ∧ some k_ ≠ (.slice Ao27 t524.length co27 : Value).ownBlock ∧ k_ ≠ gb519) (Kd.R_N (Kd.R_bound ho0)) (fun k_ hk_ => ⟨(Kd.fresh' (Kd.R_lt (by (with_reducible repeat (first | apply Kd.R_alloc | apply Kd.R_drewN | apply Kd.R_drew)); exact HO514.out)) k_ hk_.2.1), (Kd.fresh' (Kd.N_lt (by (with_reducible repeat (first | apply Kd.N_alloc | apply Kd.N_drewN | apply Kd.N_drew)); exact HO518.out)) k_ hk_.2.1), (Kd.fresh' (Kd.N_lt (by (with_reducible repeat (first | apply Kd.N_alloc | apply Kd.N_drewN | apply Kd.N_drew)); exact HO523.out)) k_ hk_.2.1), (Kd.fresh' (Kd.N_lt (by (with_reducible repeat (first | apply Kd.N_alloc | apply Kd.N_drewN | apply Kd.N_drew)); exact HO526.out)) k_ hk_.2.1), (Kd.freshB (g := gb519) (o := .cells #[.slice Ao21 t512.length co21, .int .i64 t515] 25 (0, 0)) (by (with_reducible repeat (first | refine blk_drewN ?_ _ | refine blk_drew ?_ | refine blk_alloc ?_ _)); exact BK519.out) k_ hk_.2.1)⟩)) (below_size (by repeat (first | (with_reducible first | exact HB.out | apply below_alloc | apply pw_below_drewN | apply below_drew1 | refine below_set ?_ GE519.out) | exact HB.out)))); have n5_ := am (blk_below (g := gb519) (o := .cells #[.slice Ao21 t512.length co21, .int .i64 t515] 25 (0, 0)) (by (with_reducible repeat (first | refine blk_drewN ?_ _ | refine blk_drew ?_ | refine blk_alloc ?_ _)); exact BK519.out) hb); have n6_ := am (below_step (by repeat (first | (with_reducible first | exact HB.out | apply below_alloc | apply pw_below_drewN | apply below_drew1 | refine below_set ?_ GE519.out) | exact HB.out)) hb); clear HO514 HO518 HO523 HO526 BK519 HB; revert n0_ n1_ n2_ n3_ n4_ n5_ n6_; intro HO514 HO518 HO523 HO526 HO529 BK519 HB; (try clear hb); (try clear hb2); (try clear hk); (try clear hi); (try clear ho0)) | ((with_reducible refine gate_callee (f := 16) rfl ?_); refine goesL_ (some 42) rfl rfl Try.func16 (by kernel_rfl) rfl #[.int .i64 a5, .int .i64 12] rfl (by (try simp only [List.map_toArray, List.map_cons, List.map_nil]); first | done | rfl | (simp only [List.length_drop, List.length_take]; rfl)) ?_; (with_reducible refine (hypercubelaw5_within.calls a5 12 t530 _ A14.out).mono ?_); rintro e w' ⟨rfl, ⟨nd, rfl⟩⟩; refine ⟨_, rfl, ?_⟩; obtain ⟨Ao29, co29, eo29⟩ := Kd.N_slice HO523.out; subst eo29) | ((with_reducible refine gate_callee (f := 18) rfl ?_); refine goesL_ (some 46) rfl rfl Try.func18 (by kernel_rfl) rfl #[.slice Ao29 t521.length co29, .int .i64 (wrap64 (1 + t530))] rfl (by (try simp only [List.map_toArray, List.map_cons, List.map_nil]); first | done | rfl | (simp only [List.length_drop, List.length_take]; rfl)) ?_; (with_reducible refine (runs_Runs.calls k _ _ t521 (wrap64 (1 + t530)) t531 _ ?side1 ?side2 A15.out).mono ?_); (case side1 => repeat (first | exact (Kd.N_reads' HO523.out).2.2 | (with_reducible refine Kd.C_alloc ?_ _) | (with_reducible refine Kd.C_drewN ?_ _) | (with_reducible refine Kd.C_drew ?_))); (case side2 => exact (Kd.N_reads' HO523.out).2.1); rintro e w30 ⟨v532, rfl, ho0, hb⟩; refine ⟨_, rfl, ?_⟩; have n0_ := am (Kd.R_below (by (with_reducible repeat (first | apply Kd.R_alloc | apply Kd.R_drewN | apply Kd.R_drew)); exact HO514.out) hb); have n1_ := am (Kd.N_elder' (by (with_reducible repeat (first | apply Kd.N_alloc | apply Kd.N_drewN | apply Kd.N_drew)); exact HO518.out) (by first | exact Kd.N_base ho0 | exact Kd.S_base ho0 | exact Kd.R_base ho0) hb); have n2_ := am (Kd.N_elder' (by (with_reducible repeat (first | apply Kd.N_alloc | apply Kd.N_drewN | apply Kd.N_drew)); exact HO523.out) (by first | exact Kd.N_base ho0 | exact Kd.S_base ho0 | exact Kd.R_base ho0) hb); have n3_ := am (Kd.N_elder' (by (with_reducible repeat (first | apply Kd.N_alloc | apply Kd.N_drewN | apply Kd.N_drew)); exact HO526.out) (by first | exact Kd.N_base ho0 | exact Kd.S_base ho0 | exact Kd.R_base ho0) hb); have n4_ := am (Kd.N_elder' (by (with_reducible repeat (first | apply Kd.N_alloc | apply Kd.N_drewN | apply Kd.N_drew)); exact HO529.out) (by first | exact Kd.N_base ho0 | exact Kd.S_base ho0 | exact Kd.R_base ho0) hb); have n5_ := am (Kd.N_lower (Kd.N_mono (ok' := fun k_ => some k_ ≠ (.slice Ao21 t512.length co21 : Value).ownBlock ∧ some k_ ≠ (.slice Ao24 t516.length co24 : Value).ownBlock ∧ some k_ ≠ (.slice Ao29 t521.length co29 : Value).ownBlock ∧ some k_ ≠ (.slice Ao27 t524.length co27 : Value).ownBlock ∧ some k_ ≠ (v528 : Value).ownBlock ∧ k_ ≠ gb519) (Kd.R_N (Kd.R_bound ho0)) (fun k_ hk_ => ⟨(Kd.fresh' (Kd.R_lt (by (with_reducible repeat (first | apply Kd.R_alloc | apply Kd.R_drewN | apply Kd.R_drew)); exact HO514.out)) k_ hk_.2.1), (Kd.fresh' (Kd.N_lt (by (with_reducible repeat (first | apply Kd.N_alloc | apply Kd.N_drewN | apply Kd.N_drew)); exact HO518.out)) k_ hk_.2.1), (Kd.fresh' (Kd.N_lt (by (with_reducible repeat (first | apply Kd.N_alloc | apply Kd.N_drewN | apply Kd.N_drew)); exact HO523.out)) k_ hk_.2.1), (Kd.fresh' (Kd.N_lt (by (with_reducible repeat (first | apply Kd.N_alloc | apply Kd.N_drewN | apply Kd.N_drew)); exact HO526.out)) k_ hk_.2.1), (Kd.fresh' (Kd.N_lt (by (with_reducible repeat (first | apply Kd.N_alloc | apply Kd.N_drewN | apply Kd.N_drew)); exact HO529.out)) k_ hk_.2.1), (Kd.freshB (g := gb519) (o := .cells #[.slice Ao21 t512.length co21, .int .i64 t515] 25 (0, 0)) (by (with_reducible repeat (first | refine blk_drewN ?_ _ | refine blk_drew ?_ | refine blk_alloc ?_ _)); exact BK519.out) k_ hk_.2.1)⟩)) (below_size (by repeat (first | (with_reducible first | exact HB.out | apply below_alloc | apply pw_below_drewN | apply below_drew1 | refine below_set ?_ GE519.out) | exact HB.out)))); have n6_ := am (blk_below (g := gb519) (o := .cells #[.slice Ao21 t512.length co21, .int .i64 t515] 25 (0, 0)) (by (with_reducible repeat (first | refine blk_drewN ?_ _ | refine blk_drew ?_ | refine blk_alloc ?_ _)); exact BK519.out) hb); have n7_ := am (below_step (by repeat (first | (with_reducible first | exact HB.out | apply below_alloc | apply pw_below_drewN | apply below_drew1 | refine below_set ?_ GE519.out) | exact HB.out)) hb); clear HO514 HO518 HO523 HO526 HO529 BK519 HB; revert n0_ n1_ n2_ n3_ n4_ n5_ n6_ n7_; intro HO514 HO518 HO523 HO526 HO529 HO533 BK519 HB; (try clear hb); (try clear hb2); (try clear hk); (try clear hi); (try clear ho0); obtain ⟨Ao31, co31, eo31⟩ := Kd.N_slice HO529.out; subst eo31; obtain ⟨Ao32, co32, eo32⟩ := Kd.N_slice HO533.out; subst eo32))
    go_ret
    exact ⟨by first | rfl | (simp [errW_none, errW_some] <;> rfl) | (simp [*, errW_none, errW_some] <;> rfl), by repeat (first | (with_reducible first | exact HB.out | apply below_alloc | apply pw_below_drewN | apply below_drew1 | refine below_set ?_ GE519.out) | exact HB.out)⟩
   ·rw [if_neg c17] at H
    exact absurd H (by simp)
  ·rw [if_neg c16] at H
   have c16b0 : ((t521.length : Int) == 0) = false := beq_eq_false_iff_ne.mpr c16
   have c16b1 : ((t521.length : Int) != 0) = true := bne_iff_ne.mpr c16
   have c16b2 : ¬ (t521 = []) := fun h_ => c16 (by rw [h_]; rfl)
   have HC33 := am H
   clear H
   go_enter Try.func6, Try.ntmps6
   go_upto_region 11 with (first | ((with_reducible refine gate_callee (f := 12) rfl ?_); refine goesL_ (some 21) rfl rfl Try.func12 (by kernel_rfl) rfl #[] rfl (by (try simp only [List.map_toArray, List.map_cons, List.map_nil]); first | done | rfl | (simp only [List.length_drop, List.length_take]; rfl)) ?_; (with_reducible refine (hypercubelaw5_known.calls  true _ A7.out).mono ?_); rintro e w34 ⟨rfl, hb⟩; refine ⟨_, rfl, ?_⟩; have n0_ := am (below_step (by repeat (first | (with_reducible first | exact HB.out | apply below_alloc | apply pw_below_drewN | apply below_drew1) | exact HB.out)) hb); clear HB; revert n0_; intro HB; (try clear hb); (try clear hb2); (try clear hk); (try clear hi)) | ((with_reducible refine gate_callee (f := 13) rfl ?_); refine goesL_ (some 28) rfl rfl Try.func13 (by kernel_rfl) rfl #[.int .i64 a0, .slice A1 l1.length c1, .int .i64 a2, .slice A3 l3.length c3] rfl (by (try simp only [List.map_toArray, List.map_cons, List.map_nil]); first | done | rfl | (simp only [List.length_drop, List.length_take]; rfl)) ?_; (with_reducible refine (hypercubelaw1_Facts.calls k a0 _ _ l1 a2 _ _ l3 t512 t515 t516 _ ?side1 ?side2 ?side3 ?side4 A9.out).mono ?_); (case side1 => repeat (first | exact (Kd.C_below HR1.out HB.out) | (with_reducible refine Kd.C_alloc ?_ _) | (with_reducible refine Kd.C_drewN ?_ _) | (with_reducible refine Kd.C_drew ?_))); (case side2 => exact HC1.out); (case side3 => repeat (first | exact (Kd.C_below HR3.out HB.out) | (with_reducible refine Kd.C_alloc ?_ _) | (with_reducible refine Kd.C_drewN ?_ _) | (with_reducible refine Kd.C_drew ?_))); (case side4 => exact HC3.out); rintro e w35 ⟨v513, v517, rfl, ho0, ho1, hb⟩; refine ⟨_, rfl, ?_⟩; have n0_ := am (Kd.R_lower ho0 (below_size (by repeat (first | (with_reducible first | exact HB.out | apply below_alloc | apply pw_below_drewN | apply below_drew1) | exact HB.out)))); have n1_ := am (Kd.N_lower (Kd.N_mono (ok' := fun k_ => some k_ ≠ (v513 : Value).ownBlock) (Kd.S_N (Kd.S_bound ho1)) (fun k_ hk_ => hk_.1)) (below_size (by repeat (first | (with_reducible first | exact HB.out | apply below_alloc | apply pw_below_drewN | apply below_drew1) | exact HB.out)))); have n2_ := am (below_step (by repeat (first | (with_reducible first | exact HB.out | apply below_alloc | apply pw_below_drewN | apply below_drew1) | exact HB.out)) hb); clear HB; revert n0_ n1_ n2_; intro HO514 HO518 HB; (try clear hb); (try clear hb2); (try clear hk); (try clear hi); (try clear ho0); (try clear ho1)) | ((with_reducible refine gate_dst (N := 13) rfl ?_); (try (refine gate_guard (by rfl) ?_; dsimp only)); refine box_event ?hg (N := 13) ?hd (cs := #[.slice none 0 0, .int .i64 0]) (t := 25) ?hr ?_; (case hd => rfl); (case hg => rfl); (case hr => first | (go_simp; done) | (go_simp; rfl)); intro gb519 hg w36 hbox hb; have n0_ := am (Kd.R_below (by (with_reducible repeat (first | apply Kd.R_alloc | apply Kd.R_drewN | apply Kd.R_drew)); exact HO514.out) hb); have n1_ := am (Kd.N_below (Kd.N_elderB (by (with_reducible repeat (first | apply Kd.N_alloc | apply Kd.N_drewN | apply Kd.N_drew)); exact HO518.out) gb519 (Nat.le_of_eq hg.symm)) hb); have n2_ := am (below_step (by repeat (first | (with_reducible first | exact HB.out | apply below_alloc | apply pw_below_drewN | apply below_drew1) | exact HB.out)) hb); have n3_ := am (hbox); have n4_ := am ((by rw [hg]; exact (below_size (by repeat (first | (with_reducible first | exact HB.out | apply below_alloc | apply pw_below_drewN | apply below_drew1) | exact HB.out))) : w.heap.size ≤ gb519)); have n5_ := am ((by rw [hg]; exact (below_size (by repeat (first | (with_reducible first | exact HB.out | apply below_alloc | apply pw_below_drewN | apply below_drew1) | exact HB.out))) : w.heap.size ≤ gb519)); clear HO514 HO518 HB; revert n0_ n1_ n2_ n3_ n4_ n5_; intro HO514 HO518 HB BK519 GW519 GE519; clear hb hbox hg; obtain ⟨Ao37, co37, eo37⟩ := Kd.R_slice HO514.out; subst eo37; have hcz38_0 : w36.cell? ⟨gb519, 0, none⟩ = some (.slice none 0 0) := (blk_cell BK519.out 0).trans rfl; have hcz38_1 : w36.cell? ⟨gb519, 1, none⟩ = some (.int .i64 0) := (blk_cell BK519.out 1).trans rfl; have hfz38_0 := blk_frozen BK519.out 0; have hfz38_1 := blk_frozen BK519.out 1) | ((with_reducible refine gate_callee (f := 15) rfl ?_); refine goesL_ (some 33) rfl rfl Try.func15 (by kernel_rfl) rfl #[.agg #[.slice Ao37 t512.length co37, .int .i64 t515], .int .i64 a4] rfl (by (try simp only [List.map_toArray, List.map_cons, List.map_nil]); first | done | rfl | (simp only [List.length_drop, List.length_take]; rfl)) ?_; (with_reducible refine (hypercubelaw2_Set.calls _ _ t512 t515 a4 t520 _ ?side1 ?side2 A10.out).mono ?_); (case side1 => refine (Kd.R_reads' (e := 3) (base := w.heap.size) (ok := fun k_ => True) (n := t512.length) (c := co37) ?_).2.2; exact (by (with_reducible repeat (first | apply Kd.R_alloc | apply Kd.R_drewN | apply Kd.R_drew)); exact (Kd.R_mono (Kd.R_far (p := ⟨gb519, 1, none⟩) (Kd.R_far (p := ⟨gb519, 0, none⟩) (Kd.R_types HO514.out BK519.out (by decide)) (fun _ hk => hk.2) (.slice Ao37 t512.length co37)) (fun _ hk => hk.2) (.int .i64 t515)) (fun _ h_ => h_.1)))); (case side2 => exact (Kd.R_reads' HO514.out).2.1); rintro e w39 ⟨rfl, hb⟩; refine ⟨_, rfl, ?_⟩; have n0_ := am (Kd.R_below (by (with_reducible repeat (first | apply Kd.R_alloc | apply Kd.R_drewN | apply Kd.R_drew)); exact (Kd.R_mono (Kd.R_far (p := ⟨gb519, 1, none⟩) (Kd.R_far (p := ⟨gb519, 0, none⟩) (Kd.R_types HO514.out BK519.out (by decide)) (fun _ hk => hk.2) (.slice Ao37 t512.length co37)) (fun _ hk => hk.2) (.int .i64 t515)) (fun _ h_ => h_.1))) hb); have n1_ := am (Kd.N_below (by (with_reducible repeat (first | apply Kd.N_alloc | apply Kd.N_drewN | apply Kd.N_drew)); exact (Kd.N_mono (Kd.N_far (p := ⟨gb519, 1, none⟩) (Kd.N_far (p := ⟨gb519, 0, none⟩) (Kd.N_mono HO518.out (fun k_ hk => (⟨hk, hk.2⟩ : _ ∧ k_ ≠ gb519))) (fun _ hk => hk.2) (.slice Ao37 t512.length co37)) (fun _ hk => hk.2) (.int .i64 t515)) (fun _ h_ => h_.1))) hb); have n2_ := am (blk_below (g := gb519) (o := .cells #[.slice Ao37 t512.length co37, .int .i64 t515] 25 (0, 0)) (by (with_reducible repeat (first | refine blk_drewN ?_ _ | refine blk_drew ?_ | refine blk_alloc ?_ _)); refine blk_put (cs := #[.slice Ao37 t512.length co37, .int .i64 0]) ?_ 1 _ rfl; (with_reducible repeat (first | refine blk_drewN ?_ _ | refine blk_drew ?_ | refine blk_alloc ?_ _)); refine blk_put (cs := #[.slice none 0 0, .int .i64 0]) ?_ 0 _ rfl; (with_reducible repeat (first | refine blk_drewN ?_ _ | refine blk_drew ?_ | refine blk_alloc ?_ _)); exact BK519.out) hb); have n3_ := am (below_step (by repeat (first | (with_reducible first | exact HB.out | apply below_alloc | apply pw_below_drewN | apply below_drew1 | refine below_set ?_ GE519.out) | exact HB.out)) hb); clear HO514 HO518 BK519 HB; revert n0_ n1_ n2_ n3_; intro HO514 HO518 BK519 HB; (try clear hb); (try clear hb2); (try clear hk); (try clear hi); obtain ⟨Ao40, co40, eo40⟩ := Kd.N_slice HO518.out; subst eo40) | ((with_reducible refine gate_callee (f := 24) rfl ?_); refine goesL_ (some 36) rfl rfl Try.func24 (by kernel_rfl) rfl #[.slice Ao40 t516.length co40, .int .i64 t520] rfl (by (try simp only [List.map_toArray, List.map_cons, List.map_nil]); first | done | rfl | (simp only [List.length_drop, List.length_take]; rfl)) ?_; (with_reducible refine (hypercuberef2_Facts.calls k _ _ t516 t520 t521 _ ?side1 ?side2 A11.out).mono ?_); (case side1 => repeat (first | exact (Kd.N_reads' HO518.out).2.2 | (with_reducible refine Kd.C_alloc ?_ _) | (with_reducible refine Kd.C_drewN ?_ _) | (with_reducible refine Kd.C_drew ?_))); (case side2 => exact (Kd.N_reads' HO518.out).2.1); rintro e w41 ⟨v522, rfl, ho0, hb⟩; refine ⟨_, rfl, ?_⟩; have n0_ := am (Kd.R_below (by (with_reducible repeat (first | apply Kd.R_alloc | apply Kd.R_drewN | apply Kd.R_drew)); exact HO514.out) hb); have n1_ := am (Kd.N_elder' (by (with_reducible repeat (first | apply Kd.N_alloc | apply Kd.N_drewN | apply Kd.N_drew)); exact HO518.out) (by first | exact Kd.N_base ho0 | exact Kd.S_base ho0 | exact Kd.R_base ho0) hb); have n2_ := am (Kd.N_lower (Kd.N_mono (ok' := fun k_ => some k_ ≠ (.slice Ao37 t512.length co37 : Value).ownBlock ∧ some k_ ≠ (.slice Ao40 t516.length co40 : Value).ownBlock ∧ k_ ≠ gb519) ho0 (fun k_ hk_ => ⟨(Kd.fresh' (Kd.R_lt (by (with_reducible repeat (first | apply Kd.R_alloc | apply Kd.R_drewN | apply Kd.R_drew)); exact HO514.out)) k_ hk_), (Kd.fresh' (Kd.N_lt (by (with_reducible repeat (first | apply Kd.N_alloc | apply Kd.N_drewN | apply Kd.N_drew)); exact HO518.out)) k_ hk_), (Kd.freshB (g := gb519) (o := .cells #[.slice Ao37 t512.length co37, .int .i64 t515] 25 (0, 0)) (by (with_reducible repeat (first | refine blk_drewN ?_ _ | refine blk_drew ?_ | refine blk_alloc ?_ _)); exact BK519.out) k_ hk_)⟩)) (below_size (by repeat (first | (with_reducible first | exact HB.out | apply below_alloc | apply pw_below_drewN | apply below_drew1 | refine below_set ?_ GE519.out) | exact HB.out)))); have n3_ := am (blk_below (g := gb519) (o := .cells #[.slice Ao37 t512.length co37, .int .i64 t515] 25 (0, 0)) (by (with_reducible repeat (first | refine blk_drewN ?_ _ | refine blk_drew ?_ | refine blk_alloc ?_ _)); exact BK519.out) hb); have n4_ := am (below_step (by repeat (first | (with_reducible first | exact HB.out | apply below_alloc | apply pw_below_drewN | apply below_drew1 | refine below_set ?_ GE519.out) | exact HB.out)) hb); clear HO514 HO518 BK519 HB; revert n0_ n1_ n2_ n3_ n4_; intro HO514 HO518 HO523 BK519 HB; (try clear hb); (try clear hb2); (try clear hk); (try clear hi); (try clear ho0)) | ((with_reducible refine gate_callee (f := 14) rfl ?_); refine goesL_ (some 39) rfl rfl Try.func14 (by kernel_rfl) rfl #[.slice Ao40 t516.length co40, .int .i64 t520] rfl (by (try simp only [List.map_toArray, List.map_cons, List.map_nil]); first | done | rfl | (simp only [List.length_drop, List.length_take]; rfl)) ?_; (with_reducible refine (hypercubelaw2_Make.calls k _ _ t516 t520 t524 _ ?side1 ?side2 A12.out).mono ?_); (case side1 => repeat (first | exact (Kd.N_reads' HO518.out).2.2 | (with_reducible refine Kd.C_alloc ?_ _) | (with_reducible refine Kd.C_drewN ?_ _) | (with_reducible refine Kd.C_drew ?_))); (case side2 => exact (Kd.N_reads' HO518.out).2.1); rintro e w42 ⟨v525, rfl, ho0, hb⟩; refine ⟨_, rfl, ?_⟩; have n0_ := am (Kd.R_below (by (with_reducible repeat (first | apply Kd.R_alloc | apply Kd.R_drewN | apply Kd.R_drew)); exact HO514.out) hb); have n1_ := am (Kd.N_elder' (by (with_reducible repeat (first | apply Kd.N_alloc | apply Kd.N_drewN | apply Kd.N_drew)); exact HO518.out) (by first | exact Kd.N_base ho0 | exact Kd.S_base ho0 | exact Kd.R_base ho0) hb); have n2_ := am (Kd.N_elder' (by (with_reducible repeat (first | apply Kd.N_alloc | apply Kd.N_drewN | apply Kd.N_drew)); exact HO523.out) (by first | exact Kd.N_base ho0 | exact Kd.S_base ho0 | exact Kd.R_base ho0) hb); have n3_ := am (Kd.N_lower (Kd.N_mono (ok' := fun k_ => some k_ ≠ (.slice Ao37 t512.length co37 : Value).ownBlock ∧ some k_ ≠ (.slice Ao40 t516.length co40 : Value).ownBlock ∧ some k_ ≠ (v522 : Value).ownBlock ∧ k_ ≠ gb519) (Kd.S_N (Kd.S_bound ho0)) (fun k_ hk_ => ⟨(Kd.fresh' (Kd.R_lt (by (with_reducible repeat (first | apply Kd.R_alloc | apply Kd.R_drewN | apply Kd.R_drew)); exact HO514.out)) k_ hk_.2.1), (Kd.fresh' (Kd.N_lt (by (with_reducible repeat (first | apply Kd.N_alloc | apply Kd.N_drewN | apply Kd.N_drew)); exact HO518.out)) k_ hk_.2.1), (Kd.fresh' (Kd.N_lt (by (with_reducible repeat (first | apply Kd.N_alloc | apply Kd.N_drewN | apply Kd.N_drew)); exact HO523.out)) k_ hk_.2.1), (Kd.freshB (g := gb519) (o := .cells #[.slice Ao37 t512.length co37, .int .i64 t515] 25 (0, 0)) (by (with_reducible repeat (first | refine blk_drewN ?_ _ | refine blk_drew ?_ | refine blk_alloc ?_ _)); exact BK519.out) k_ hk_.2.1)⟩)) (below_size (by repeat (first | (with_reducible first | exact HB.out | apply below_alloc | apply pw_below_drewN | apply below_drew1 | refine below_set ?_ GE519.out) | exact HB.out)))); have n4_ := am (blk_below (g := gb519) (o := .cells #[.slice Ao37 t512.length co37, .int .i64 t515] 25 (0, 0)) (by (with_reducible repeat (first | refine blk_drewN ?_ _ | refine blk_drew ?_ | refine blk_alloc ?_ _)); exact BK519.out) hb); have n5_ := am (below_step (by repeat (first | (with_reducible first | exact HB.out | apply below_alloc | apply pw_below_drewN | apply below_drew1 | refine below_set ?_ GE519.out) | exact HB.out)) hb); clear HO514 HO518 HO523 BK519 HB; revert n0_ n1_ n2_ n3_ n4_ n5_; intro HO514 HO518 HO523 HO526 BK519 HB; (try clear hb); (try clear hb2); (try clear hk); (try clear hi); (try clear ho0); obtain ⟨Ao43, co43, eo43⟩ := Kd.N_slice HO526.out; subst eo43) | ((with_reducible refine gate_callee (f := 18) rfl ?_); refine goesL_ (some 40) rfl rfl Try.func18 (by kernel_rfl) rfl #[.slice Ao43 t524.length co43, .int .i64 1000] rfl (by (try simp only [List.map_toArray, List.map_cons, List.map_nil]); first | done | rfl | (simp only [List.length_drop, List.length_take]; rfl)) ?_; (with_reducible refine (runs_Runs.calls k _ _ t524 1000 t527 _ ?side1 ?side2 A13.out).mono ?_); (case side1 => repeat (first | exact (Kd.N_reads' HO526.out).2.2 | (with_reducible refine Kd.C_alloc ?_ _) | (with_reducible refine Kd.C_drewN ?_ _) | (with_reducible refine Kd.C_drew ?_))); (case side2 => exact (Kd.N_reads' HO526.out).2.1); rintro e w44 ⟨v528, rfl, ho0, hb⟩; refine ⟨_, rfl, ?_⟩; have n0_ := am (Kd.R_below (by (with_reducible repeat (first | apply Kd.R_alloc | apply Kd.R_drewN | apply Kd.R_drew)); exact HO514.out) hb); have n1_ := am (Kd.N_elder' (by (with_reducible repeat (first | apply Kd.N_alloc | apply Kd.N_drewN | apply Kd.N_drew)); exact HO518.out) (by first | exact Kd.N_base ho0 | exact Kd.S_base ho0 | exact Kd.R_base ho0) hb); have n2_ := am (Kd.N_elder' (by (with_reducible repeat (first | apply Kd.N_alloc | apply Kd.N_drewN | apply Kd.N_drew)); exact HO523.out) (by first | exact Kd.N_base ho0 | exact Kd.S_base ho0 | exact Kd.R_base ho0) hb); have n3_ := am (Kd.N_elder' (by (with_reducible repeat (first | apply Kd.N_alloc | apply Kd.N_drewN | apply Kd.N_drew)); exact HO526.out) (by first | exact Kd.N_base ho0 | exact Kd.S_base ho0 | exact Kd.R_base ho0) hb); have n4_ := am (Kd.N_lower (Kd.N_mono (ok' := fun k_ => some k_ ≠ (.slice Ao37 t512.length co37 : Value).ownBlock ∧ some k_ ≠ (.slice Ao40 t516.length co40 : Value).ownBlock ∧ some k_ ≠ (v522 : Value).ownBlock ∧ some k_ ≠ (.slice Ao43 t524.length co43 : Value).ownBlock ∧ k_ ≠ gb519) (Kd.R_N (Kd.R_bound ho0)) (fun k_ hk_ => ⟨(Kd.fresh' (Kd.R_lt (by (with_reducible repeat (first | apply Kd.R_alloc | apply Kd.R_drewN | apply Kd.R_drew)); exact HO514.out)) k_ hk_.2.1), (Kd.fresh' (Kd.N_lt (by (with_reducible repeat (first | apply Kd.N_alloc | apply Kd.N_drewN | apply Kd.N_drew)); exact HO518.out)) k_ hk_.2.1), (Kd.fresh' (Kd.N_lt (by (with_reducible repeat (first | apply Kd.N_alloc | apply Kd.N_drewN | apply Kd.N_drew)); exact HO523.out)) k_ hk_.2.1), (Kd.fresh' (Kd.N_lt (by (with_reducible repeat (first | apply Kd.N_alloc | apply Kd.N_drewN | apply Kd.N_drew)); exact HO526.out)) k_ hk_.2.1), (Kd.freshB (g := gb519) (o := .cells #[.slice Ao37 t512.length co37, .int .i64 t515] 25 (0, 0)) (by (with_reducible repeat (first | refine blk_drewN ?_ _ | refine blk_drew ?_ | refine blk_alloc ?_ _)); exact BK519.out) k_ hk_.2.1)⟩)) (below_size (by repeat (first | (with_reducible first | exact HB.out | apply below_alloc | apply pw_below_drewN | apply below_drew1 | refine below_set ?_ GE519.out) | exact HB.out)))); have n5_ := am (blk_below (g := gb519) (o := .cells #[.slice Ao37 t512.length co37, .int .i64 t515] 25 (0, 0)) (by (with_reducible repeat (first | refine blk_drewN ?_ _ | refine blk_drew ?_ | refine blk_alloc ?_ _)); exact BK519.out) hb); have n6_ := am (below_step (by repeat (first | (with_reducible first | exact HB.out | apply below_alloc | apply pw_below_drewN | apply below_drew1 | refine below_set ?_ GE519.out) | exact HB.out)) hb); clear HO514 HO518 HO523 HO526 BK519 HB; revert n0_ n1_ n2_ n3_ n4_ n5_ n6_; intro HO514 HO518 HO523 HO526 HO529 BK519 HB; (try clear hb); (try clear hb2); (try clear hk); (try clear hi); (try clear ho0)) | ((with_reducible refine gate_callee (f := 16) rfl ?_); refine goesL_ (some 42) rfl rfl Try.func16 (by kernel_rfl) rfl #[.int .i64 a5, .int .i64 12] rfl (by (try simp only [List.map_toArray, List.map_cons, List.map_nil]); first | done | rfl | (simp only [List.length_drop, List.length_take]; rfl)) ?_; (with_reducible refine (hypercubelaw5_within.calls a5 12 t530 _ A14.out).mono ?_); rintro e w' ⟨rfl, ⟨nd, rfl⟩⟩; refine ⟨_, rfl, ?_⟩; obtain ⟨Ao45, co45, eo45⟩ := Kd.N_slice HO523.out; subst eo45) | ((with_reducible refine gate_callee (f := 18) rfl ?_); refine goesL_ (some 46) rfl rfl Try.func18 (by kernel_rfl) rfl #[.slice Ao45 t521.length co45, .int .i64 (wrap64 (1 + t530))] rfl (by (try simp only [List.map_toArray, List.map_cons, List.map_nil]); first | done | rfl | (simp only [List.length_drop, List.length_take]; rfl)) ?_; (with_reducible refine (runs_Runs.calls k _ _ t521 (wrap64 (1 + t530)) t531 _ ?side1 ?side2 A15.out).mono ?_); (case side1 => repeat (first | exact (Kd.N_reads' HO523.out).2.2 | (with_reducible refine Kd.C_alloc ?_ _) | (with_reducible refine Kd.C_drewN ?_ _) | (with_reducible refine Kd.C_drew ?_))); (case side2 => exact (Kd.N_reads' HO523.out).2.1); rintro e w46 ⟨v532, rfl, ho0, hb⟩; refine ⟨_, rfl, ?_⟩; have n0_ := am (Kd.R_below (by (with_reducible repeat (first | apply Kd.R_alloc | apply Kd.R_drewN | apply Kd.R_drew)); exact HO514.out) hb); have n1_ := am (Kd.N_elder' (by (with_reducible repeat (first | apply Kd.N_alloc | apply Kd.N_drewN | apply Kd.N_drew)); exact HO518.out) (by first | exact Kd.N_base ho0 | exact Kd.S_base ho0 | exact Kd.R_base ho0) hb); have n2_ := am (Kd.N_elder' (by (with_reducible repeat (first | apply Kd.N_alloc | apply Kd.N_drewN | apply Kd.N_drew)); exact HO523.out) (by first | exact Kd.N_base ho0 | exact Kd.S_base ho0 | exact Kd.R_base ho0) hb); have n3_ := am (Kd.N_elder' (by (with_reducible repeat (first | apply Kd.N_alloc | apply Kd.N_drewN | apply Kd.N_drew)); exact HO526.out) (by first | exact Kd.N_base ho0 | exact Kd.S_base ho0 | exact Kd.R_base ho0) hb); have n4_ := am (Kd.N_elder' (by (with_reducible repeat (first | apply Kd.N_alloc | apply Kd.N_drewN | apply Kd.N_drew)); exact HO529.out) (by first | exact Kd.N_base ho0 | exact Kd.S_base ho0 | exact Kd.R_base ho0) hb); have n5_ := am (Kd.N_lower (Kd.N_mono (ok' := fun k_ => some k_ ≠ (.slice Ao37 t512.length co37 : Value).ownBlock ∧ some k_ ≠ (.slice Ao40 t516.length co40 : Value).ownBlock ∧ some k_ ≠ (.slice Ao45 t521.length co45 : Value).ownBlock ∧ some k_ ≠ (.slice Ao43 t524.length co43 : Value).ownBlock ∧ some k_ ≠ (v528 : Value).ownBlock ∧ k_ ≠ gb519) (Kd.R_N (Kd.R_bound ho0)) (fun k_ hk_ => ⟨(Kd.fresh' (Kd.R_lt (by (with_reducible repeat (first | apply Kd.R_alloc | apply Kd.R_drewN | apply Kd.R_drew)); exact HO514.out)) k_ hk_.2.1), (Kd.fresh' (Kd.N_lt (by (with_reducible repeat (first | apply Kd.N_alloc | apply Kd.N_drewN | apply Kd.N_drew)); exact HO518.out)) k_ hk_.2.1), (Kd.fresh' (Kd.N_lt (by (with_reducible repeat (first | apply Kd.N_alloc | apply Kd.N_drewN | apply Kd.N_drew)); exact HO523.out)) k_ hk_.2.1), (Kd.fresh' (Kd.N_lt (by (with_reducible repeat (first | apply Kd.N_alloc | apply Kd.N_drewN | apply Kd.N_drew)); exact HO526.out)) k_ hk_.2.1), (Kd.fresh' (Kd.N_lt (by (with_reducible repeat (first | apply Kd.N_alloc | apply Kd.N_drewN | apply Kd.N_drew)); exact HO529.out)) k_ hk_.2.1), (Kd.freshB (g := gb519) (o := .cells #[.slice Ao37 t512.length co37, .int .i64 t515] 25 (0, 0)) (by (with_reducible repeat (first | refine blk_drewN ?_ _ | refine blk_drew ?_ | refine blk_alloc ?_ _)); exact BK519.out) k_ hk_.2.1)⟩)) (below_size (by repeat (first | (with_reducible first | exact HB.out | apply below_alloc | apply pw_below_drewN | apply below_drew1 | refine below_set ?_ GE519.out) | exact HB.out)))); have n6_ := am (blk_below (g := gb519) (o := .cells #[.slice Ao37 t512.length co37, .int .i64 t515] 25 (0, 0)) (by (with_reducible repeat (first | refine blk_drewN ?_ _ | refine blk_drew ?_ | refine blk_alloc ?_ _)); exact BK519.out) hb); have n7_ := am (below_step (by repeat (first | (with_reducible first | exact HB.out | apply below_alloc | apply pw_below_drewN | apply below_drew1 | refine below_set ?_ GE519.out) | exact HB.out)) hb); clear HO514 HO518 HO523 HO526 HO529 BK519 HB; revert n0_ n1_ n2_ n3_ n4_ n5_ n6_ n7_; intro HO514 HO518 HO523 HO526 HO529 HO533 BK519 HB; (try clear hb); (try clear hb2); (try clear hk); (try clear hi); (try clear ho0)))
   (try simp only [Act.put, List.setIfInBounds_toArray, List.set_cons_zero, List.set_cons_succ])
   go_cut [80] (fun v80 wc => ∃ (kq : Nat) (x80_32 : Bool), v80 = .bool x80_32 ∧ Aside0 (hypercubelaw5_RunsOne.j0 kq t521 (wrap64 (1 + t530)) t531 x80_32 = some r) ∧ Aside0 (kq ≤ k) ∧ Aside0 (Kd.N k41 41 wc w.heap.size (fun k_ => some k_ ≠ (v532 : Value).ownBlock ∧ some k_ ≠ ((.slice Ao37 t512.length co37) : Value).ownBlock ∧ k_ ≠ gb519) (.slice Ao45 t521.length co45) t521) ∧ Aside0 (Kd.N (Kd.slice 41 k41) 29 wc w.heap.size (fun k_ => some k_ ≠ ((.slice Ao45 t521.length co45) : Value).ownBlock ∧ some k_ ≠ ((.slice Ao37 t512.length co37) : Value).ownBlock ∧ k_ ≠ gb519) v532 t531) ∧ Aside0 (Kd.R (Kd.int .i64) 3 wc w.heap.size (fun _ => True) (.slice Ao37 t512.length co37) t512) ∧ Aside0 (wc.heap[gb519]? = some (.cells #[(.slice Ao37 t512.length co37), .int .i64 t515] 25 (0, 0))) ∧ Aside0 (Below w.heap.size w wc))
   case first =>
    have H := HC33.out
    clear HC33
    by_cases c47 : (t527.length : Int) = 1
    ·rw [if_pos c47] at H
     have c47b0 : ((t527.length : Int) == 1) = true := beq_iff_eq.mpr c47
     have c47b1 : ((t527.length : Int) != 1) = false := bne_eq_false_iff_eq.mpr c47
     clear c47
     (first | rw [c47b0] | (simp only [i64_w, i32_w]; rw [c47b0]) | skip)
     by_cases c48 : 0 < (t527.length : Int)
     ·rw [if_pos c48] at H
      have c48b0 : decide (0 < (t527.length : Int)) = true := decide_eq_true c48
      have c48b1 : decide (0 < t527.length) = true := decide_eq_true (by omega)
      clear c48
      replace H := Option.bind_eq_some_iff.mp H
      obtain ⟨t535, A490, H⟩ := H
      replace H : (if t535 = true then (if (wrap64 (1 + t530)) = 0 then (none) else (hypercubelaw5_RunsOne.j0 k t521 (wrap64 (1 + t530)) t531 ((t531.length : Int) != (wrap64 (Int.tdiv (wrap64 ((wrap64 ((t521.length : Int) + (wrap64 (1 + t530)))) - 1)) (wrap64 (1 + t530))))))) else (hypercubelaw5_RunsOne.j0 k t521 (wrap64 (1 + t530)) t531 true)) = some r := H
      have A49 := am A490
      clear A490
      by_cases c50 : t535 = true
      ·subst c50
       have H1 : (if (wrap64 (1 + t530)) = 0 then (none) else (hypercubelaw5_RunsOne.j0 k t521 (wrap64 (1 + t530)) t531 ((t531.length : Int) != (wrap64 (Int.tdiv (wrap64 ((wrap64 ((t521.length : Int) + (wrap64 (1 + t530)))) - 1)) (wrap64 (1 + t530))))))) = some r := by rw [if_pos rfl] at H; exact H
       clear H
       have H := H1
       clear H1
       by_cases c51 : (wrap64 (1 + t530)) = 0
       ·rw [if_pos c51] at H
        exact absurd H (by simp)
       ·rw [if_neg c51] at H
        have c51b0 : ((wrap64 (1 + t530)) == 0) = false := beq_eq_false_iff_ne.mpr c51
        have c51b1 : ((wrap64 (1 + t530)) != 0) = true := bne_iff_ne.mpr c51
        have H' := am H
        clear H
        obtain ⟨Ao52, co52, eo52⟩ := Kd.N_slice HO529.out
        subst eo52
        have p534 : 0 ≤ (0 : Int) := (by omega)
        have q534 : 0 < (t527.length : Int) := of_decide_eq_true (by first | (with_reducible assumption) | assumption)
        obtain ⟨ad534, A534_0, c534_0, e534, hx534_0, hl534_0, hi534_0⟩ := at_L3 (Kd.N_reads' HO529.out).2.2 0 p534 q534
        cases e534
        obtain ⟨ce534, hce534, hMe534, hcc534⟩ := Kd.N_get HO529.out [] 0 p534 (by first | exact q534 | exact of_decide_eq_true (by first | (with_reducible assumption) | assumption) | (have e_ := (Kd.N_reads' HO529.out).1; omega))
        obtain ⟨ua534_0, uc534_0, rfl, ul534_0, ge534_0⟩ := Kd.FK_slice_open hMe534
        have hv534_0 := hcc534 0 _ rfl
        rw [Nat.add_zero, show ((Kd.slice 41 k41)).sz = 1 from rfl, Nat.mul_one] at hv534_0
        replace hv534_0 := Option.some.inj (hv534_0.symm.trans hx534_0)
        injection hv534_0 with hva_ hvn_ hvc_
        rw [hva_] at ge534_0
        rw [hvc_] at ul534_0
        have HL534_0 := am (show Kd.V k41 41 _ w.heap.size _ _ (rd_L3 t527 0) from Kd.V_mk ul534_0 ge534_0)
        clear hva_ hvn_ hvc_ ge534_0 ul534_0
        clear hcc534 hce534
        have qi534 : (0 < t527.length) = True := eq_true (by omega)
        (try rw [show ((0 : Int)).toNat = 0 from rfl] at hx534_0)
        (try rw [Addr.add_zero'] at hx534_0)
        have HR534_0 := am hi534_0
        have HC534_0 := am hl534_0
        clear hi534_0 hl534_0
        replace p534 := eq_true p534
        replace q534 := eq_true q534
        go_wp2_with (first | (go_at_call 22; (with_reducible refine (hypercuberef2_Same.calls k _ _ (rd_L3 t527 0) _ _ t521 true _ ?side1 ?side2 ?side3 ?side4 A49.out).mono ?_); (case side1 => repeat (first | exact (by repeat (first | (with_reducible exact HR534_0.out) | (with_reducible refine Kd.C_alloc ?_ _) | (with_reducible refine Kd.C_drewN ?_ _) | (with_reducible refine Kd.C_drew ?_) | exact HR534_0.out)) | (with_reducible refine Kd.C_alloc ?_ _) | (with_reducible refine Kd.C_drewN ?_ _) | (with_reducible refine Kd.C_drew ?_))); (case side2 => exact HC534_0.out); (case side3 => exact Kd.C_mv ((Kd.N_reads' HO523.out).2.2)); (case side4 => exact (Kd.N_reads' HO523.out).2.1); rintro e w53 ⟨rfl, hb⟩; have n0_ := am (Kd.R_below (Kd.R_mv HO514.out) hb); have n1_ := am (Kd.N_below (Kd.N_mv HO518.out) hb); have n2_ := am (Kd.N_below (Kd.N_mv HO523.out) hb); have n3_ := am (Kd.N_below (Kd.N_mv HO526.out) hb); have n4_ := am (Kd.N_below (Kd.N_mv HO529.out) hb); have n5_ := am (Kd.N_below (Kd.N_mv HO533.out) hb); have n6_ := am (Kd.V_below (Kd.V_mv HL534_0.out) hb); have n7_ := am (blk_below (bmv BK519.out) hb); have n8_ := am (Kd.C_below (by repeat (first | (with_reducible exact HR534_0.out) | (with_reducible refine Kd.C_alloc ?_ _) | (with_reducible refine Kd.C_drewN ?_ _) | (with_reducible refine Kd.C_drew ?_) | exact HR534_0.out)) hb); have n9_ := am (below_step (wmv HB.out) hb); clear HO514 HO518 HO523 HO526 HO529 HO533 HL534_0 BK519 HR534_0 HB; revert n0_ n1_ n2_ n3_ n4_ n5_ n6_ n7_ n8_ n9_; intro HO514 HO518 HO523 HO526 HO529 HO533 HL534_0 BK519 HR534_0 HB; (try clear hb); (try clear hb2); (try clear hk); (try clear hi); obtain ⟨Ao54, co54, eo54⟩ := Kd.N_slice HO533.out; subst eo54))
        go_meet
        case rel => exact ⟨_, (((t531.length : Int) != (wrap64 (Int.tdiv (wrap64 ((wrap64 ((t521.length : Int) + (wrap64 (1 + t530)))) - 1)) (wrap64 (1 + t530)))))), (by first | rfl | (simp; done) | (simp [*]; done)), H', ⟨by first | omega | exact Nat.le_refl _⟩, ⟨by (with_reducible repeat (first | apply Kd.N_alloc | apply Kd.N_drewN | apply Kd.N_drew)); exact Kd.N_mono HO523.out (fun _ hk => ⟨hk.2, ⟨hk.1.1.1.1, hk.1.1.1.2.2⟩⟩)⟩, ⟨by (with_reducible repeat (first | apply Kd.N_alloc | apply Kd.N_drewN | apply Kd.N_drew)); exact Kd.N_mono HO533.out (fun _ hk => ⟨hk.2.2.1, ⟨hk.1, hk.2.2.2.2.2⟩⟩)⟩, ⟨by (with_reducible repeat (first | apply Kd.R_alloc | apply Kd.R_drewN | apply Kd.R_drew)); exact HO514.out⟩, ⟨by (with_reducible repeat (first | refine blk_drewN ?_ _ | refine blk_drew ?_ | refine blk_alloc ?_ _)); exact BK519.out⟩, ⟨by repeat (first | (with_reducible first | exact HB.out | apply below_alloc | apply pw_below_drewN | apply below_drew1 | refine below_set ?_ GE519.out) | exact HB.out)⟩⟩
      ·replace c50 := Bool.eq_false_iff.mpr c50
       subst c50
       have H1 : (hypercubelaw5_RunsOne.j0 k t521 (wrap64 (1 + t530)) t531 true) = some r := by rw [if_neg (show ¬ (false = true) by decide)] at H; exact H
       clear H
       have H := H1
       clear H1
       have H' := am H
       clear H
       obtain ⟨Ao55, co55, eo55⟩ := Kd.N_slice HO529.out
       subst eo55
       have p534 : 0 ≤ (0 : Int) := (by omega)
       have q534 : 0 < (t527.length : Int) := of_decide_eq_true (by first | (with_reducible assumption) | assumption)
       obtain ⟨ad534, A534_0, c534_0, e534, hx534_0, hl534_0, hi534_0⟩ := at_L3 (Kd.N_reads' HO529.out).2.2 0 p534 q534
       cases e534
       obtain ⟨ce534, hce534, hMe534, hcc534⟩ := Kd.N_get HO529.out [] 0 p534 (by first | exact q534 | exact of_decide_eq_true (by first | (with_reducible assumption) | assumption) | (have e_ := (Kd.N_reads' HO529.out).1; omega))
       obtain ⟨ua534_0, uc534_0, rfl, ul534_0, ge534_0⟩ := Kd.FK_slice_open hMe534
       have hv534_0 := hcc534 0 _ rfl
       rw [Nat.add_zero, show ((Kd.slice 41 k41)).sz = 1 from rfl, Nat.mul_one] at hv534_0
       replace hv534_0 := Option.some.inj (hv534_0.symm.trans hx534_0)
       injection hv534_0 with hva_ hvn_ hvc_
       rw [hva_] at ge534_0
       rw [hvc_] at ul534_0
       have HL534_0 := am (show Kd.V k41 41 _ w.heap.size _ _ (rd_L3 t527 0) from Kd.V_mk ul534_0 ge534_0)
       clear hva_ hvn_ hvc_ ge534_0 ul534_0
       clear hcc534 hce534
       have qi534 : (0 < t527.length) = True := eq_true (by omega)
       (try rw [show ((0 : Int)).toNat = 0 from rfl] at hx534_0)
       (try rw [Addr.add_zero'] at hx534_0)
       have HR534_0 := am hi534_0
       have HC534_0 := am hl534_0
       clear hi534_0 hl534_0
       replace p534 := eq_true p534
       replace q534 := eq_true q534
       go_wp2_with (first | (go_at_call 22; (with_reducible refine (hypercuberef2_Same.calls k _ _ (rd_L3 t527 0) _ _ t521 false _ ?side1 ?side2 ?side3 ?side4 A49.out).mono ?_); (case side1 => repeat (first | exact (by repeat (first | (with_reducible exact HR534_0.out) | (with_reducible refine Kd.C_alloc ?_ _) | (with_reducible refine Kd.C_drewN ?_ _) | (with_reducible refine Kd.C_drew ?_) | exact HR534_0.out)) | (with_reducible refine Kd.C_alloc ?_ _) | (with_reducible refine Kd.C_drewN ?_ _) | (with_reducible refine Kd.C_drew ?_))); (case side2 => exact HC534_0.out); (case side3 => exact Kd.C_mv ((Kd.N_reads' HO523.out).2.2)); (case side4 => exact (Kd.N_reads' HO523.out).2.1); rintro e w56 ⟨rfl, hb⟩; have n0_ := am (Kd.R_below (Kd.R_mv HO514.out) hb); have n1_ := am (Kd.N_below (Kd.N_mv HO518.out) hb); have n2_ := am (Kd.N_below (Kd.N_mv HO523.out) hb); have n3_ := am (Kd.N_below (Kd.N_mv HO526.out) hb); have n4_ := am (Kd.N_below (Kd.N_mv HO529.out) hb); have n5_ := am (Kd.N_below (Kd.N_mv HO533.out) hb); have n6_ := am (Kd.V_below (Kd.V_mv HL534_0.out) hb); have n7_ := am (blk_below (bmv BK519.out) hb); have n8_ := am (Kd.C_below (by repeat (first | (with_reducible exact HR534_0.out) | (with_reducible refine Kd.C_alloc ?_ _) | (with_reducible refine Kd.C_drewN ?_ _) | (with_reducible refine Kd.C_drew ?_) | exact HR534_0.out)) hb); have n9_ := am (below_step (wmv HB.out) hb); clear HO514 HO518 HO523 HO526 HO529 HO533 HL534_0 BK519 HR534_0 HB; revert n0_ n1_ n2_ n3_ n4_ n5_ n6_ n7_ n8_ n9_; intro HO514 HO518 HO523 HO526 HO529 HO533 HL534_0 BK519 HR534_0 HB; (try clear hb); (try clear hb2); (try clear hk); (try clear hi)))
       go_meet
       case rel => exact ⟨_, (true), (by first | rfl | (simp; done) | (simp [*]; done)), H', ⟨by first | omega | exact Nat.le_refl _⟩, ⟨by (with_reducible repeat (first | apply Kd.N_alloc | apply Kd.N_drewN | apply Kd.N_drew)); exact Kd.N_mono HO523.out (fun _ hk => ⟨hk.2, ⟨hk.1.1.1.1, hk.1.1.1.2.2⟩⟩)⟩, ⟨by (with_reducible repeat (first | apply Kd.N_alloc | apply Kd.N_drewN | apply Kd.N_drew)); exact Kd.N_mono HO533.out (fun _ hk => ⟨hk.2.2.1, ⟨hk.1, hk.2.2.2.2.2⟩⟩)⟩, ⟨by (with_reducible repeat (first | apply Kd.R_alloc | apply Kd.R_drewN | apply Kd.R_drew)); exact HO514.out⟩, ⟨by (with_reducible repeat (first | refine blk_drewN ?_ _ | refine blk_drew ?_ | refine blk_alloc ?_ _)); exact BK519.out⟩, ⟨by repeat (first | (with_reducible first | exact HB.out | apply below_alloc | apply pw_below_drewN | apply below_drew1 | refine below_set ?_ GE519.out) | exact HB.out)⟩⟩
     ·rw [if_neg c48] at H
      exact absurd H (by simp)
    ·rw [if_neg c47] at H
     have c47b0 : ((t527.length : Int) == 1) = false := beq_eq_false_iff_ne.mpr c47
     have c47b1 : ((t527.length : Int) != 1) = true := bne_iff_ne.mpr c47
     (first | rw [c47b0] | (simp only [i64_w, i32_w]; rw [c47b0]) | skip)
     have H' := am H
     clear H
     obtain ⟨Ao57, co57, eo57⟩ := Kd.N_slice HO529.out
     subst eo57
     go_wp2
     go_meet
     case rel => exact ⟨_, (true), (by first | rfl | (simp; done) | (simp [*]; done)), H', ⟨by first | omega | exact Nat.le_refl _⟩, ⟨by (with_reducible repeat (first | apply Kd.N_alloc | apply Kd.N_drewN | apply Kd.N_drew)); exact Kd.N_mono HO523.out (fun _ hk => ⟨hk.2, ⟨hk.1.1.1.1, hk.1.1.1.2.2⟩⟩)⟩, ⟨by (with_reducible repeat (first | apply Kd.N_alloc | apply Kd.N_drewN | apply Kd.N_drew)); exact Kd.N_mono HO533.out (fun _ hk => ⟨hk.2.2.1, ⟨hk.1, hk.2.2.2.2.2⟩⟩)⟩, ⟨by (with_reducible repeat (first | apply Kd.R_alloc | apply Kd.R_drewN | apply Kd.R_drew)); exact HO514.out⟩, ⟨by (with_reducible repeat (first | refine blk_drewN ?_ _ | refine blk_drew ?_ | refine blk_alloc ?_ _)); exact BK519.out⟩, ⟨by repeat (first | (with_reducible first | exact HB.out | apply below_alloc | apply pw_below_drewN | apply below_drew1 | refine below_set ?_ GE519.out) | exact HB.out)⟩⟩
   case rest =>
    clear HC33
    try clear c1
    try clear c2
    try clear p2
    try clear c3
    try clear c4
    try clear c5
    try clear p5
    try clear q5
    try clear hx5
    try clear qi5
    try clear c6
    try clear p6
    try clear c8
    try clear c12
    try clear c13
    try clear c14
    try clear c15
    try clear c16
    try clear c16b0
    try clear c16b1
    try clear c16b2
    try clear c17
    try clear c17b0
    try clear c17b1
    try clear c18
    try clear c24
    try clear c47
    try clear c47b0
    try clear c47b1
    try clear c48
    try clear c48b0
    try clear c48b1
    try clear c50
    try clear c51
    try clear c51b0
    try clear c51b1
    try clear c53
    try clear p53
    try clear q53
    try clear hx53
    try clear qi53
    try clear hcz22_0
    try clear hcz22_1
    try clear hcz38_0
    try clear hcz38_1
    try clear hfz22_0
    try clear hfz22_1
    try clear hfz38_0
    try clear hfz38_1
    try clear hx534_0
    try clear p534
    try clear q534
    obtain ⟨kq, x80_32, rfl, HA, HJ32, HO_16, HO_19, HO_520000, BK519, HB⟩ := hcut
    cases kq with
    | zero => exact absurd HA.out (by simp [hypercubelaw5_RunsOne.j0])
    | succ kj32 =>
     have H := HA.out
     clear HA
     simp only [hypercubelaw5_RunsOne.j0] at H
     by_cases c58 : x80_32 = true
     ·subst c58
      have H1 : (none) = some r := by rw [if_pos rfl] at H; exact H
      clear H
      have H := H1
      clear H1
      exact absurd H (by simp)
     ·replace c58 := Bool.eq_false_iff.mpr c58
      subst c58
      have H1 : (hypercubelaw5_RunsOne.l0 kj32 t521 (wrap64 (1 + t530)) t531 0) = some r := by rw [if_neg (show ¬ (false = true) by decide)] at H; exact H
      clear H
      have H := H1
      clear H1
      have H' := am H
      clear H
      go_wp2
      go_loopg [20] kj32 (fun kq v20 w' => ∃ (x20_2 : Int), v20 = .int .i64 x20_2 ∧ Aside0 (hypercubelaw5_RunsOne.l0 kq t521 (wrap64 (1 + t530)) t531 x20_2 = some r) ∧ Aside0 (kq ≤ kj32) ∧ Aside0 (Kd.N k41 41 w' w.heap.size (fun k_ => some k_ ≠ (v532 : Value).ownBlock ∧ some k_ ≠ ((.slice Ao37 t512.length co37) : Value).ownBlock ∧ k_ ≠ gb519) (.slice Ao45 t521.length co45) t521) ∧ Aside0 (Kd.N (Kd.slice 41 k41) 29 w' w.heap.size (fun k_ => some k_ ≠ ((.slice Ao45 t521.length co45) : Value).ownBlock ∧ some k_ ≠ ((.slice Ao37 t512.length co37) : Value).ownBlock ∧ k_ ≠ gb519) v532 t531) ∧ Aside0 (Kd.R (Kd.int .i64) 3 w' w.heap.size (fun _ => True) (.slice Ao37 t512.length co37) t512) ∧ Aside0 (w'.heap[gb519]? = some (.cells #[(.slice Ao37 t512.length co37), .int .i64 t515] 25 (0, 0))) ∧ Aside0 (Below w.heap.size w w'))
      case atStart => exact ⟨(0), (by first | rfl | (simp; done) | (simp [*]; done)), H', ⟨Nat.le_refl _⟩, ⟨by (with_reducible repeat (first | apply Kd.N_alloc | apply Kd.N_drewN | apply Kd.N_drew)); exact HO_16.out⟩, ⟨by (with_reducible repeat (first | apply Kd.N_alloc | apply Kd.N_drewN | apply Kd.N_drew)); exact HO_19.out⟩, ⟨by (with_reducible repeat (first | apply Kd.R_alloc | apply Kd.R_drewN | apply Kd.R_drew)); exact HO_520000.out⟩, ⟨by (with_reducible repeat (first | refine blk_drewN ?_ _ | refine blk_drew ?_ | refine blk_alloc ?_ _)); exact BK519.out⟩, ⟨by repeat (first | (with_reducible first | exact HB.out | apply below_alloc | apply pw_below_drewN | apply below_drew1 | refine below_set ?_ GE519.out) | exact HB.out)⟩⟩
      case round =>
       clear H'
       try clear c1
       try clear c2
       try clear p2
       try clear c3
       try clear c4
       try clear c5
       try clear p5
       try clear q5
       try clear hx5
       try clear qi5
       try clear c6
       try clear p6
       try clear c8
       try clear c12
       try clear c13
       try clear c14
       try clear c15
       try clear c16
       try clear c16b0
       try clear c16b1
       try clear c16b2
       try clear c17
       try clear c17b0
       try clear c17b1
       try clear c18
       try clear c24
       try clear c47
       try clear c47b0
       try clear c47b1
       try clear c48
       try clear c48b0
       try clear c48b1
       try clear c50
       try clear c51
       try clear c51b0
       try clear c51b1
       try clear c53
       try clear p53
       try clear q53
       try clear hx53
       try clear qi53
       try clear c58
       try clear hcz22_0
       try clear hcz22_1
       try clear hcz38_0
       try clear hcz38_1
       try clear hfz22_0
       try clear hfz22_1
       try clear hfz38_0
       try clear hfz38_1
       try clear hx534_0
       try clear p2
       try clear p5
       try clear p53
       try clear p534
       try clear p6
       try clear q5
       try clear q53
       try clear q534
       obtain ⟨x20_2, rfl, HA, HK2, HO_16, HO_19, HO_520000, BK519, HB⟩ := hrel
       cases gk with
       | zero => exact absurd HA.out (by simp [hypercubelaw5_RunsOne.l0])
       | succ k2 =>
        have H := HA.out
        clear HA
        simp only [hypercubelaw5_RunsOne.l0] at H
        by_cases c59 : x20_2 < (t531.length : Int)
        ·rw [if_pos c59] at H
         have c59b0 : decide (x20_2 < (t531.length : Int)) = true := decide_eq_true c59
         clear c59
         by_cases c60 : 0 ≤ x20_2
         ·rw [if_pos c60] at H
          have c60b0 : decide (0 ≤ x20_2) = true := decide_eq_true c60
          clear c60
          obtain ⟨ji61, hji61⟩ : ∃ j_ : Int, (mn (t521.length : Int) (wrap64 ((wrap64 (x20_2 + 1)) * (wrap64 (1 + t530))))) = j_ := ⟨_, rfl⟩
          replace H : (if 0 ≤ (wrap64 (x20_2 * (wrap64 (1 + t530)))) then (if (wrap64 (x20_2 * (wrap64 (1 + t530)))) ≤ (ji61) then (if (ji61) ≤ (t521.length : Int) then ((hypercuberef2_Same.f k2 (rd_L3 t531 x20_2) ((t521.take ((ji61) : Int).toNat).drop ((wrap64 (x20_2 * (wrap64 (1 + t530)))) : Int).toNat)).bind fun t542 => (if t542 = true then (hypercubelaw5_RunsOne.l0 k2 t521 (wrap64 (1 + t530)) t531 (wrap64 (x20_2 + 1))) else (none))) else (none)) else (none)) else (none)) = some r := by first | (rw [hji61] at H; exact H) | (simp only [hji61] at H ⊢; exact H)
          have hji61_ : (if (wrap64 ((wrap64 (x20_2 + 1)) * (wrap64 (1 + t530)))) < (t521.length : Int) then (wrap64 ((wrap64 (x20_2 + 1)) * (wrap64 (1 + t530)))) else (t521.length : Int)) = ji61 := hji61
          obtain ⟨ji62, hji62⟩ : ∃ j_ : Int, (wrap64 (x20_2 * (wrap64 (1 + t530)))) = j_ := ⟨_, rfl⟩
          replace H : (if 0 ≤ (ji62) then (if (ji62) ≤ (ji61) then (if (ji61) ≤ (t521.length : Int) then ((hypercuberef2_Same.f k2 (rd_L3 t531 x20_2) ((t521.take ((ji61) : Int).toNat).drop ((ji62) : Int).toNat)).bind fun t542 => (if t542 = true then (hypercubelaw5_RunsOne.l0 k2 t521 (wrap64 (1 + t530)) t531 (wrap64 (x20_2 + 1))) else (none))) else (none)) else (none)) else (none)) = some r := by first | (rw [hji62] at H; exact H) | (simp only [hji62] at H ⊢; exact H)
          have hji62w : (IntKind.i64.wrap (x20_2 * (wrap64 (1 + t530)))) = ji62 := (i64_w _).trans hji62
          by_cases c63 : 0 ≤ (ji62)
          ·rw [if_pos c63] at H
           have c63b0 := eq_true c63
           have c63b1 : decide (0 ≤ (ji62)) = true := decide_eq_true c63
           clear c63
           by_cases c64 : (ji62) ≤ (ji61)
           ·rw [if_pos c64] at H
            have c64b0 := eq_true c64
            have c64b1 : decide ((ji62) ≤ (ji61)) = true := decide_eq_true c64
            clear c64
            by_cases c65 : (ji61) ≤ (t521.length : Int)
            ·rw [if_pos c65] at H
             have c65b0 := eq_true c65
             have c65b1 : decide ((ji61) ≤ (t521.length : Int)) = true := decide_eq_true c65
             clear c65
             obtain ⟨y537, hy537⟩ : ∃ y_ : List (S41), y_ = ((t521.take ((ji61) : Int).toNat).drop ((ji62) : Int).toNat) := ⟨_, rfl⟩
             replace H : ((hypercuberef2_Same.f k2 (rd_L3 t531 x20_2) y537).bind fun t542 => (if t542 = true then (hypercubelaw5_RunsOne.l0 k2 t521 (wrap64 (1 + t530)) t531 (wrap64 (x20_2 + 1))) else (none))) = some r := by rw [hy537]; with_reducible exact H
             have Ny537 := am hy537
             clear hy537
             replace H := Option.bind_eq_some_iff.mp H
             obtain ⟨t542, A660, H⟩ := H
             replace H : (if t542 = true then (hypercubelaw5_RunsOne.l0 k2 t521 (wrap64 (1 + t530)) t531 (wrap64 (x20_2 + 1))) else (none)) = some r := H
             have A66 := am A660
             clear A660
             by_cases c67 : t542 = true
             ·subst c67
              have H1 : (hypercubelaw5_RunsOne.l0 k2 t521 (wrap64 (1 + t530)) t531 (wrap64 (x20_2 + 1))) = some r := by rw [if_pos rfl] at H; exact H
              clear H
              have H := H1
              clear H1
              have H' := am H
              clear H
              obtain ⟨Ao68, co68, eo68⟩ := Kd.N_slice HO_19.out
              subst eo68
              try go_wp2
              have n0_ := am (Kd.N_drew HO_16.out)
              have n1_ := am (Kd.N_drew HO_19.out)
              have n2_ := am (Kd.R_drew HO_520000.out)
              have n3_ := am (blk_drew BK519.out)
              have n4_ := am (below_drew1 HB.out)
              clear HO_16 HO_19 HO_520000 BK519 HB
              revert n0_ n1_ n2_ n3_ n4_
              intro HO_16 HO_19 HO_520000 BK519 HB
              have p536 : 0 ≤ (x20_2 : Int) := of_decide_eq_true (by first | (with_reducible assumption) | assumption)
              have q536 : x20_2 < (t531.length : Int) := of_decide_eq_true (by first | (with_reducible assumption) | assumption)
              obtain ⟨ad536, A536_0, c536_0, e536, hx536_0, hl536_0, hi536_0⟩ := at_L3 (Kd.N_reads' HO_19.out).2.2 x20_2 p536 q536
              cases e536
              obtain ⟨ce536, hce536, hMe536, hcc536⟩ := Kd.N_get HO_19.out [] x20_2 p536 (by first | exact q536 | exact of_decide_eq_true (by first | (with_reducible assumption) | assumption) | (have e_ := (Kd.N_reads' HO_19.out).1; omega))
              obtain ⟨ua536_0, uc536_0, rfl, ul536_0, ge536_0⟩ := Kd.FK_slice_open hMe536
              have hv536_0 := hcc536 0 _ rfl
              rw [Nat.add_zero, show ((Kd.slice 41 k41)).sz = 1 from rfl, Nat.mul_one] at hv536_0
              replace hv536_0 := Option.some.inj (hv536_0.symm.trans hx536_0)
              injection hv536_0 with hva_ hvn_ hvc_
              rw [hva_] at ge536_0
              rw [hvc_] at ul536_0
              have HL536_0 := am (show Kd.V k41 41 _ w.heap.size _ _ (rd_L3 t531 x20_2) from Kd.V_mk ul536_0 ge536_0)
              clear hva_ hvn_ hvc_ ge536_0 ul536_0
              clear hcc536 hce536
              have HR536_0 := am hi536_0
              have HC536_0 := am hl536_0
              clear hi536_0 hl536_0
              replace p536 := eq_true p536
              replace q536 := eq_true q536
              have q70 : ((ji61) : Int) ≤ ((t521.length : Int) : Int) := of_decide_eq_true (by first | (with_reducible assumption) | assumption)
              obtain ⟨i070, hi070, _, hsz70, _⟩ := info_parts info41
              have hroom70 : t521.length ≤ co45 := (Kd.N_reads' HO_16.out).2.1
              have hC70 : Kd.F k41 _ _ Ao45 t521.length t521 := (Kd.V_at (base := w.heap.size) (Kd.N_V HO_16.out)).2.2
              have ql70 : ((ji62) : Int) ≤ ((ji61) : Int) := of_decide_eq_true (by first | (with_reducible assumption) | assumption)
              have q070 : (0 : Int) ≤ ((ji62) : Int) := of_decide_eq_true (by first | (with_reducible assumption) | assumption)
              have hcut70 := cut_mid (P := Try.prog) 29 41 .i64 .i64 Try.underlying29 hi070 5 hsz70 Ao45 t521.length co45 (ji62) (ji61) q070 ql70 q70 hroom70
              have hr70 := Kd.F_mid (lo := ((ji62) : Int).toNat) (hi := ((ji61) : Int).toNat) (c := co45) hC70 (by omega) (by omega) hroom70
              obtain ⟨A70, hA70⟩ : ∃ A1, A1 = (if co45 = ((ji62) : Int).toNat then Ao45 else (Ao45 : Option Addr).map (·.add (((ji62) : Int).toNat * 5))) := ⟨_, rfl⟩
              obtain ⟨c70, hc70⟩ : ∃ c1, c1 = co45 - ((ji62) : Int).toNat := ⟨_, rfl⟩
              have hy70 : y537.length = ((ji61) : Int).toNat - ((ji62) : Int).toNat := (by rw [Ny537.out, List.length_drop, List.length_take] <;> omega)
              rw [show ((t521).take ((ji61) : Int).toNat).drop ((ji62) : Int).toNat = y537 from Ny537.out.symm] at hr70
              replace hr70 : Kd.F k41 _ _ A70 y537.length y537 := (by rw [hA70]; exact hr70)
              rw [← hy70, ← hA70, ← hc70] at hcut70
              have HO541 := am (show Kd.V k41 41 _ w.heap.size _ (.slice A70 y537.length c70) y537 from Kd.V_mk (by rw [hy70, hc70]; exact Nat.sub_le_sub_right (Nat.le_trans (by omega) hroom70) _) hr70)
              have HC541 := am (show y537.length ≤ c70 from by rw [hy70, hc70]; exact Nat.sub_le_sub_right (Nat.le_trans (by omega) hroom70) _)
              clear hr70 hC70 hroom70 hi070 hsz70 hc70
              have KY70 := am hy70
              have KA70 := am hA70
              clear hy70 hA70
              replace q70 := eq_true q70
              refine start_ (n := 18) (S := fun w' => w'.cell? (ad536.add (x20_2).toNat) = some (.slice A536_0 (rd_L3 t531 x20_2).length c536_0)) (ds := []) (bb 18 0) (by kernel_rfl) rfl rfl (hx536_0) (fun hHeld => ?_); refine with_tabW hypercubelaw5_RunsOne.tab16 hypercubelaw5_RunsOne.bits16 (fun HT_ HW_ => ?_)
              generalize wr.drew = w69 at HO_16 HO_19 HO_520000 BK519 HB HL536_0 HO541 HR536_0 hx536_0 hHeld ⊢
              refine pure_ (i := 0) (N := some 87) (v := ?_) (a' := ?_) (bb 18 1) rfl rfl (any_of HT_.out (by kernel_rfl)) (fun _ _ _ h => h) (Or.inl ⟨by rfl, ?_⟩) ?_ ?_
              rotate_left
              ·intro w'
               go_simp
               with_reducible rfl
              rotate_left
              ·simp only [ps]
               rfl
              refine pure_ (i := 1) (N := some 88) (v := ?_) (a' := ?_) (bb 18 3) rfl rfl (any_of HT_.out (by kernel_rfl)) (fun _ _ _ h => h) (Or.inl ⟨by rfl, ?_⟩) ?_ ?_
              rotate_left
              ·intro w'
               go_simp
               with_reducible rfl
              rotate_left
              ·simp only [ps]
               rfl
              refine pure_ (i := 2) (N := some 89) (v := ?_) (a' := ?_) (bb 18 7) rfl rfl (any_of HT_.out (by kernel_rfl)) (fun _ _ _ h => h) (Or.inl ⟨by rfl, ?_⟩) ?_ ?_
              rotate_left
              ·intro w'
               go_simp
               with_reducible rfl
              rotate_left
              ·simp only [ps]
               rfl
              refine pure_ (i := 4) (N := some 91) (v := ?_) (a' := ?_) (bb 18 23) rfl rfl (any_of HT_.out (by kernel_rfl)) (fun _ _ _ h => h) (Or.inl ⟨by rfl, ?_⟩) ?_ ?_
              rotate_left
              ·intro w'
               go_simp
               with_reducible rfl
              rotate_left
              ·simp only [ps]
               rfl
              refine pure_ (i := 5) (N := some 92) (v := ?_) (a' := ?_) (bb 18 55) rfl rfl (any_of HT_.out (by kernel_rfl)) (fun _ _ _ h => h) (Or.inl ⟨by rfl, ?_⟩) ?_ ?_
              rotate_left
              ·intro w'
               go_simp
               with_reducible rfl
              rotate_left
              ·simp only [ps]
               rfl
              refine pure_ (i := 6) (N := some 93) (v := ?_) (a' := ?_) (bb 18 119) rfl rfl (any_of HT_.out (by kernel_rfl)) (fun _ _ _ h => h) (Or.inl ⟨by rfl, ?_⟩) ?_ ?_
              rotate_left
              ·intro w'
               go_simp
               with_reducible rfl
              rotate_left
              ·simp only [ps]
               rfl
              refine pure_ (i := 7) (N := some 94) (v := ?_) (a' := ?_) (bb 18 247) rfl rfl (any_of HT_.out (by kernel_rfl)) (fun _ _ _ h => h) (Or.inl ⟨by rfl, ?_⟩) ?_ ?_
              rotate_left
              ·intro w'
               go_simp
               with_reducible rfl
              rotate_left
              ·simp only [ps]
               rfl
              refine pure_ (i := 8) (N := some 95) (v := ?_) (a' := ?_) (bb 18 503) rfl rfl (any_of HT_.out (by kernel_rfl)) (fun _ _ _ h => h) (Or.inl ⟨by rfl, ?_⟩) ?_ ?_
              rotate_left
              ·intro w'
               go_simp
               with_reducible rfl
              rotate_left
              ·simp only [ps]
               rfl
              refine pure_ (i := 9) (N := some 96) (v := ?_) (a' := ?_) (bb 18 1015) rfl rfl (any_of HT_.out (by kernel_rfl)) (fun _ _ _ h => h) (Or.inl ⟨by rfl, ?_⟩) ?_ ?_
              rotate_left
              ·intro w'
               go_simp
               with_reducible rfl
              rotate_left
              ·simp only [ps]
               rfl
              refine pure_ (i := 10) (N := some 97) (v := ?_) (a' := ?_) (bb 18 2039) rfl rfl (any_of HT_.out (by kernel_rfl)) (fun _ _ _ h => h) (Or.inl ⟨by rfl, ?_⟩) ?_ ?_
              rotate_left
              ·intro w'
               go_simp
               with_reducible rfl
              rotate_left
              ·simp only [ps]
               rfl
              refine pure_ (i := 11) (N := some 98) (v := ?_) (a' := ?_) (bb 18 4087) rfl rfl (any_of HT_.out (by kernel_rfl)) (fun _ _ _ h => h) (Or.inl ⟨by rfl, ?_⟩) ?_ ?_
              rotate_left
              ·intro w'
               go_simp
               with_reducible rfl
              rotate_left
              ·simp only [ps]
               rfl
              refine pure_ (i := 12) (N := some 99) (v := ?_) (a' := ?_) (bb 18 8183) rfl rfl (any_of HT_.out (by kernel_rfl)) (fun _ _ _ h => h) (Or.inl ⟨by rfl, ?_⟩) ?_ ?_
              rotate_left
              ·intro w'
               go_simp
               with_reducible rfl
              rotate_left
              ·simp only [ps]
               rfl
              refine pure_ (i := 13) (N := some 100) (v := ?_) (a' := ?_) (bb 18 16375) rfl rfl (any_of HT_.out (by kernel_rfl)) (fun _ _ _ h => h) (Or.inl ⟨by rfl, ?_⟩) ?_ ?_
              rotate_left
              ·intro w'
               go_simp
               with_reducible rfl
              rotate_left
              ·simp only [ps]
               rfl
              refine pure_ (i := 14) (N := some 101) (v := ?_) (a' := ?_) (bb 18 32759) rfl rfl (any_of HT_.out (by kernel_rfl)) (fun _ _ _ h => h) (Or.inl ⟨by rfl, ?_⟩) ?_ ?_
              rotate_left
              ·intro w'
               go_simp
               with_reducible rfl
              rotate_left
              ·simp only [ps]
               rfl
              refine pure_ (i := 15) (N := some 102) (v := ?_) (a' := ?_) (bb 18 65527) rfl rfl (any_of HT_.out (by kernel_rfl)) (fun _ _ _ h => h) (Or.inl ⟨by rfl, ?_⟩) ?_ ?_
              rotate_left
              ·intro w'
               go_simp
               with_reducible rfl
              rotate_left
              ·simp only [ps]
               rfl
              refine take_ (i := 3) (N := some 90) (v := ?_) (a' := ?_) (bb 18 65535) rfl rfl (take_ofW HT_.out HW_.out (by kernel_rfl)) (fun _ _ _ h => h) (Or.inl ⟨by rfl, ?_⟩) hHeld ?_ ?_
              rotate_left
              ·intro w' s0
               go_simp
               with_reducible rfl
              rotate_left
              ·simp only [ps]
               rfl
              refine one_ (i := 16) (N := some 103) (bb 18 131071) rfl rfl (one_of HT_.out (by kernel_rfl)) (by decide) (fun K hK => ?_)
              refine goes_ Try.func22 (by kernel_rfl) rfl #[.slice A536_0 (rd_L3 t531 x20_2).length c536_0, .slice A70 y537.length c70] (by rfl) rfl rfl (by (try simp only [List.map_toArray, List.map_cons, List.map_nil]); first | done | rfl | (simp only [List.length_drop, List.length_take]; rfl)) ?_
              with_reducible refine (hypercuberef2_Same.calls k2 _ _ (rd_L3 t531 x20_2) _ _ y537 true _ ?side1 ?side2 ?side3 ?side4 A66.out).mono ?_
              (case side1 => repeat (first | exact (by repeat (first | (with_reducible exact HR536_0.out) | (with_reducible refine Kd.C_alloc ?_ _) | (with_reducible refine Kd.C_drewN ?_ _) | (with_reducible refine Kd.C_drew ?_) | exact HR536_0.out)) | (with_reducible refine Kd.C_alloc ?_ _) | (with_reducible refine Kd.C_drewN ?_ _) | (with_reducible refine Kd.C_drew ?_)))
              (case side2 => exact HC536_0.out)
              (case side3 => exact Kd.C_mv ((Kd.V_reads' HO541.out).2.2))
              (case side4 => exact (Kd.V_reads' HO541.out).2.1)
              rintro e w71 ⟨rfl, hb⟩
              have HS0_ := (hb.cell (World.block_lt_of_cell? _ _ (hHeld))).trans (hHeld)
              refine ⟨_, rfl, ?_⟩
              have n0_ := am (Kd.N_below (Kd.N_mv HO_16.out) hb)
              have n1_ := am (Kd.N_below (Kd.N_mv HO_19.out) hb)
              have n2_ := am (Kd.R_below (Kd.R_mv HO_520000.out) hb)
              have n3_ := am (Kd.V_below (Kd.V_mv HL536_0.out) hb)
              have n4_ := am (Kd.V_below (Kd.V_mv HO541.out) hb)
              have n5_ := am (blk_below (bmv BK519.out) hb)
              have n6_ := am (Kd.C_below (by repeat (first | (with_reducible exact HR536_0.out) | (with_reducible refine Kd.C_alloc ?_ _) | (with_reducible refine Kd.C_drewN ?_ _) | (with_reducible refine Kd.C_drew ?_) | exact HR536_0.out)) hb)
              have n7_ := am (below_step (wmv HB.out) hb)
              clear HO_16 HO_19 HO_520000 HL536_0 HO541 BK519 HR536_0 HB
              revert n0_ n1_ n2_ n3_ n4_ n5_ n6_ n7_
              intro HO_16 HO_19 HO_520000 HL536_0 HO541 BK519 HR536_0 HB
              (try clear hb)
              (try clear hb2)
              (try clear hk)
              (try clear hi)
              refine hK.out _ _ (HS0_) (fun hHeld => ?_)
              clear hK K
              refine norm_ (a' := ?_) ?_ ?_
              rotate_left
              ·show Act.put _ (some 103) _ = _
               simp only [ps]
               rfl
              refine pure_ (i := 17) (N := some 104) (v := ?_) (a' := ?_) (bb 18 262143) rfl rfl (any_of HT_.out (by kernel_rfl)) (fun _ _ _ h => h) (Or.inl ⟨by rfl, ?_⟩) ?_ ?_
              rotate_left
              ·intro w'
               go_simp
               with_reducible rfl
              rotate_left
              ·simp only [ps]
               rfl
              refine done_ (done_of HT_.out (by kernel_rfl)) ?_
              try go_wp2
              go_roundg k2
              case measure => have := HJ32.out; have := HK2.out; omega
              case rel => exact ⟨(wrap64 (x20_2 + 1)), (by first | rfl | (simp; done) | (simp [*]; done)), H', ⟨by have := HJ32.out; have := HK2.out; omega⟩, ⟨by (with_reducible repeat (first | apply Kd.N_alloc | apply Kd.N_drewN | apply Kd.N_drew)); exact HO_16.out⟩, ⟨by (with_reducible repeat (first | apply Kd.N_alloc | apply Kd.N_drewN | apply Kd.N_drew)); exact HO_19.out⟩, ⟨by (with_reducible repeat (first | apply Kd.R_alloc | apply Kd.R_drewN | apply Kd.R_drew)); exact HO_520000.out⟩, ⟨by (with_reducible repeat (first | refine blk_drewN ?_ _ | refine blk_drew ?_ | refine blk_alloc ?_ _)); exact BK519.out⟩, ⟨by repeat (first | (with_reducible first | exact HB.out | apply below_alloc | apply pw_below_drewN | apply below_drew1 | refine below_set ?_ GE519.out) | exact HB.out)⟩⟩
             ·replace c67 := Bool.eq_false_iff.mpr c67
              subst c67
              have H1 : (none) = some r := by rw [if_neg (show ¬ (false = true) by decide)] at H; exact H
              clear H
              have H := H1
              clear H1
              exact absurd H (by simp)
            ·rw [if_neg c65] at H
             exact absurd H (by simp)
           ·rw [if_neg c64] at H
            exact absurd H (by simp)
          ·rw [if_neg c63] at H
           exact absurd H (by simp)
         ·rw [if_neg c60] at H
          exact absurd H (by simp)
        ·rw [if_neg c59] at H
         have c59b0 : decide (x20_2 < (t531.length : Int)) = false := decide_eq_false c59
         clear c59
         obtain rfl := Option.some.inj H
         obtain ⟨Ao72, co72, eo72⟩ := Kd.N_slice HO_19.out
         subst eo72
         go_wp2
         go_ret
         exact ⟨by first | rfl | (simp [errW_none, errW_some] <;> rfl) | (simp [*, errW_none, errW_some] <;> rfl), by repeat (first | (with_reducible first | exact HB.out | apply below_alloc | apply pw_below_drewN | apply below_drew1 | refine below_set ?_ GE519.out) | exact HB.out)⟩
 ·replace c8 := Bool.eq_false_iff.mpr c8
  subst c8
  have H1 : (none) = some r := by rw [if_neg (show ¬ (false = true) by decide)] at H; exact H
  clear H
  have H := H1
  clear H1
  exact absurd H (by simp)
def hypercubelaw5_RunsOne.Pure : Prop := ∀ (a0 : Int) (l1 : List Int) (a2 : Int) (l3 : List Int) (a4 : Int) (a5 : Int), (Lit.int .i64 a0).wf = true → l1.length ≤ maxLen → l1.length * 8 ≤ 140737488351232 → (∀ x ∈ l1, (Lit.int .i64 x).wf = true) → (Lit.int .i64 a2).wf = true → l3.length ≤ maxLen → l3.length * 8 ≤ 140737488351232 → (∀ x ∈ l3, (Lit.int .i64 x).wf = true) → (Lit.int .i64 a4).wf = true → (Lit.int .i64 a5).wf = true → ∃ k, hypercubelaw5_RunsOne.f k a0 l1 a2 l3 a4 a5 = some true
theorem hypercubelaw5_RunsOne.walk (P : hypercubelaw5_RunsOne.Pure) (a0 : Int) (a1 : Option Addr) (len1 cap1 : Nat) (z1 : List Int) (a2 : Int) (a3 : Option Addr) (len3 cap3 : Nat) (z3 : List Int) (a4 : Int) (a5 : Int) (w : World) (w0 : (Lit.int .i64 a0).wf = true) (w1 : (a1 = none ∧ len1 = 0 ∧ cap1 = 0 ∧ z1 = []) ∨ ∃ x, a1 = some x ∧ len1 ≤ cap1 ∧ cap1 ≤ maxLen ∧ z1.length = cap1 ∧ (∀ i, i < z1.length → w.cell? (x.add i) = some (.int .i64 (z1.getD i 0))) ∧ ∀ n ∈ z1, (Lit.int .i64 n).wf = true) (y1 : len1 * 8 ≤ 140737488351232) (w2 : (Lit.int .i64 a2).wf = true) (w3 : (a3 = none ∧ len3 = 0 ∧ cap3 = 0 ∧ z3 = []) ∨ ∃ x, a3 = some x ∧ len3 ≤ cap3 ∧ cap3 ≤ maxLen ∧ z3.length = cap3 ∧ (∀ i, i < z3.length → w.cell? (x.add i) = some (.int .i64 (z3.getD i 0))) ∧ ∀ n ∈ z3, (Lit.int .i64 n).wf = true) (y3 : len3 * 8 ≤ 140737488351232) (w4 : (Lit.int .i64 a4).wf = true) (w5 : (Lit.int .i64 a5).wf = true) :
  Calls Try.prog 6 #[.int .i64 a0, .slice a1 len1 cap1, .int .i64 a2, .slice a3 len3 cap3, .int .i64 a4, .int .i64 a5] w fun e w' => e = .returned (.bool true) ∧ Below w.heap.size w w' := by
 obtain ⟨l1, rfl, hr1, hm1, hw1, hc1⟩ := ReadsInt.ofRowC w1
 obtain ⟨l3, rfl, hr3, hm3, hw3, hc3⟩ := ReadsInt.ofRowC w3
 obtain ⟨k, h⟩ := P a0 l1 a2 l3 a4 a5 w0 hm1 y1 hw1 w2 hm3 y3 hw3 w4 w5
 refine (hypercubelaw5_RunsOne.calls k a0 _ _ l1 a2 _ _ l3 a4 a5 true w (Kd.C_of_reads (d := (0 : Int)) (h1 := fun _ => rfl) hr1) hc1 (Kd.C_of_reads (d := (0 : Int)) (h1 := fun _ => rfl) hr3) hc3 h).mono ?_
 rintro e w' ⟨rfl, hd⟩
 exact ⟨rfl, hd⟩
end Go.Proofs.Ytmnepkbmcnpjlaa.Q
namespace Go.Proofs.Ytmnepkbmcnpjlaa.Q
open Go.RowKit Go.Proofs.YtmnepkbmcnpjlaaW.PrintWords Go.Proofs.YtmnepkbmcnpjlaaW.PrintLast Go.Proofs.YtmnepkbmcnpjlaaW.PrintMore
set_option linter.unusedVariables false
set_option linter.unusedSimpArgs false
theorem ref_facts_l0 {n : Nat} (hn : n ≤ 100) (s : Int) (rows : List S45) (hr : ∀ r ∈ rows, RegR n r) (d : Nat) : ∀ (i : Nat) (acc : List S41), rows.length - i = d → i ≤ rows.length → RegL n acc → acc.length + (rows.length - i) ≤ 1000000 → rows.length ≤ 1000000 →
  Ev (fun k => hypercuberef2_Facts.l0 k rows s acc (i : Int)) (putAll acc (makeL s (rows.drop i))) := by
 induction d with
 | zero =>
  intro i acc hd hi ha hb hl
  have e : rows.drop i = [] := List.drop_eq_nil_of_le (by omega)
  rw [e]
  exact Ev.step (f := fun _ => some acc) (fun k => by simp only [hypercuberef2_Facts.l0]; rw [if_neg (by omega)]) (Ev.now _)
 | succ d ih =>
  intro i acc hd hi ha hb hl
  have hlt : i < rows.length := by omega
  have hx := hr _ (List.getElem_mem hlt)
  have hc := ofR_reg hx s
  have := putL_length (ofR s rows[i]) acc
  rw [drop_cons hlt]
  show Ev _ (putAll acc (ofR s rows[i] :: makeL s (rows.drop (i + 1))))
  rw [putAll_cons]
  have hp : Ev (fun k => hypercuberef2_Put.f k acc (tupC (ofR s rows[i])).1 (tupC (ofR s rows[i])).2.1 (tupC (ofR s rows[i])).2.2.1 (tupC (ofR s rows[i])).2.2.2.1 (tupC (ofR s rows[i])).2.2.2.2) (putL (ofR s rows[i]) acc) := ref_put_ev hn (by omega) ha hc
  refine Ev.step (f := fun k => (hypercuberef2_Of.f k (rows[i]).f0 (rows[i]).f1 s).bind fun bt => (hypercuberef2_Put.f k acc bt.1 bt.2.1 bt.2.2.1 bt.2.2.2.1 bt.2.2.2.2).bind fun t => hypercuberef2_Facts.l0 k rows s t ((i + 1 : Nat) : Int)) (fun k => ?_) (Ev.bind (of_ev hn hx s) (Ev.bind hp (ih (i + 1) _ (by omega) (by omega) (regL_put hc ha) (by omega) hl)))
  simp only [hypercuberef2_Facts.l0]
  rw [if_pos (by omega), if_pos (by omega), rdR_get hlt, w64s hlt (by omega)]
theorem ref_facts_ev {n : Nat} (hn : n ≤ 100) {rows : List S45} (hr : ∀ r ∈ rows, RegR n r) (hl : rows.length ≤ 1000000) (s : Int) : Ev (fun k => hypercuberef2_Facts.f k rows s) (groupL (makeL s rows)) := by
 have h := ref_facts_l0 hn s rows hr rows.length 0 [] (by omega) (by omega) (regL_nil n) (by simpa using hl) hl
 simp only [List.drop_zero] at h
 exact Ev.congr (fun k => by unfold hypercuberef2_Facts.f; rfl) h
end Go.Proofs.Ytmnepkbmcnpjlaa.Q
