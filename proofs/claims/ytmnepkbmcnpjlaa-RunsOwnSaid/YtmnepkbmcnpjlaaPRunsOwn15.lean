-- packed by wip/tools/pack.py (a program of this session) out of its own texts
import Derived.Test.YtmnepkbmcnpjlaaPRunsOwn0
import Derived.ArgAppend
import Derived.Below
import Derived.BigQuiet
import Derived.Deep.AppendLies
import Derived.Deep.CutBlock
import Derived.Deep.DeepCutAuto
import Derived.Deep.Draws
import Derived.Deep.LoopGhost
import Derived.Deep.OwnRows
import Derived.Deep.QuietTactic
import Derived.Deep.RegionHeld3
import Derived.KernelRfl
import Derived.Laws.BitsLemmas
import Derived.Laws.BytesArg
import Derived.Laws.EntriesVeiled
import Derived.Laws.Externs
import Derived.Laws.IdiomCopy
import Derived.Laws.MakeOwn
import Derived.Laws.OwnMore
import Derived.Laws.Rows
import Derived.Laws.Slices
import Derived.Lib.AppendStr
import Derived.Lib.AppendZeros
import Derived.Lib.AppendZerosOnto
import Derived.Lib.ConvBytes
import Derived.Lib.JoinLaws
import Derived.Lib.Overlaps
import Derived.Lib.SliceRun
import Derived.Lib.Walk
import Derived.LoopIn
import Derived.LoopNIn
import Derived.Maps.AppendAt
import Derived.OrdersHeld
import Derived.OrdersIn
import Derived.OwnWalk
import Derived.OwnWalkIn
import Derived.RangeFuncBound
import Derived.RangeFuncBox
import Derived.RangeFuncCalls
import Derived.RangeFuncLeaves
import Derived.RangeFuncNested
import Derived.RangeFuncOwn
import Derived.RowKit
import Derived.RowKit3
import Derived.Shelf.Abstract
import Derived.Shelf.RegionOpen
import Derived.Shelf.RegionOpenPlain
import Derived.Tactics
import Derived.TacticsInMore
import Derived.Test.YtmnepkbmcnpjlaaProg
import Derived.WalkKit
import Derived.WalkSpells
import Derived.WideLaws
import Derived.Test.YtmnepkbmcnpjlaaPRunsOwn1
import Derived.Test.YtmnepkbmcnpjlaaPRunsOwn3
import Derived.Test.YtmnepkbmcnpjlaaPRunsOwn4
import Derived.Test.YtmnepkbmcnpjlaaPRunsOwn5
import Derived.Test.YtmnepkbmcnpjlaaPRunsOwn6
import Derived.Test.YtmnepkbmcnpjlaaPRunsOwn7
import Derived.Test.YtmnepkbmcnpjlaaPRunsOwn8
import Derived.Test.YtmnepkbmcnpjlaaPRunsOwn9
import Derived.Test.YtmnepkbmcnpjlaaPRunsOwn10
import Derived.Test.YtmnepkbmcnpjlaaPRunsOwn11
import Derived.Test.YtmnepkbmcnpjlaaPRunsOwn12
import Derived.Test.YtmnepkbmcnpjlaaPRunsOwn13
import Derived.Test.YtmnepkbmcnpjlaaPRunsOwn14
namespace Go.Proofs.Ytmnepkbmcnpjlaa.Q
open Go.RowKit Go.Proofs.YtmnepkbmcnpjlaaW.PrintWords Go.Proofs.YtmnepkbmcnpjlaaW.PrintLast Go.Proofs.YtmnepkbmcnpjlaaW.PrintMore
set_option linter.unusedVariables false
set_option linter.unusedSimpArgs false
theorem bsfR_l0 (xs : List S41) (x : S41) (hn : xs.length ≤ 1000000) (hs : ∀ y ∈ xs, SmallC y) (p : Nat) (hp : p ≤ xs.length) (h1 : ∀ m (h : m < xs.length), m < p → lexC (xs[m]).f0 x.f0 < 0) (h2 : ∀ m (h : m < xs.length), p ≤ m → 0 ≤ lexC (xs[m]).f0 x.f0) (d : Nat) :
  ∀ i j : Nat, j - i ≤ d → i ≤ p → p ≤ j → j ≤ xs.length → Ev (fun k => bsf_R1.l0 k xs (xs.length : Int) (i : Int) (j : Int) x.f0 x.f1 x.f2 x.f3 x.f4) ((p : Int), if h : p < xs.length then lexC (xs[p]).f0 x.f0 == 0 else false) := by
 have hcmp : ∀ m (h : m < xs.length), Ev (fun k => runs_by.f k (xs[m]).f0 (xs[m]).f1 (xs[m]).f2 (xs[m]).f3 (xs[m]).f4 x.f0 x.f1 x.f2 x.f3 x.f4) (lexC (xs[m]).f0 x.f0) := fun m h => by
  refine Ev.congr (f := fun k => (cell_Less.f k (xs[m]).f0 x.f0).bind fun t => some t) (fun k => rfl) ?_
  exact Ev.bind (cell_less_ev _ _ (by have := (hs _ (List.getElem_mem h)).1; omega)) (Ev.now _)
 induction d with
 | zero =>
  intro i j hd hip hpj hjn
  have e1 : i = p := by omega
  have e2 : j = p := by omega
  rw [e1, e2]
  by_cases hlt : p < xs.length
  ·rw [dif_pos hlt]
   refine Ev.step (f := fun k => (runs_by.f k (xs[p]).f0 (xs[p]).f1 (xs[p]).f2 (xs[p]).f3 (xs[p]).f4 x.f0 x.f1 x.f2 x.f3 x.f4).bind fun t => some ((p : Int), t == 0)) (fun k => by simp only [bsf_R1.l0]; rw [if_neg (by omega), if_pos (by omega), if_pos (by omega), if_pos (by omega), rdC_get hlt]) (Ev.bind (hcmp p hlt) (Ev.now _))
  ·rw [dif_neg hlt]
   exact Ev.step (f := fun _ => some ((p : Int), false)) (fun k => by simp only [bsf_R1.l0]; rw [if_neg (by omega), if_neg (by omega)]) (Ev.now _)
 | succ d ih =>
  intro i j hd hip hpj hjn
  by_cases hij : i < j
  ·have hh : (i + j) / 2 < xs.length := by omega
   have hstep : ∀ k, bsf_R1.l0 (k + 1) xs (xs.length : Int) (i : Int) (j : Int) x.f0 x.f1 x.f2 x.f3 x.f4 = (runs_by.f k (xs[(i + j) / 2]).f0 (xs[(i + j) / 2]).f1 (xs[(i + j) / 2]).f2 (xs[(i + j) / 2]).f3 (xs[(i + j) / 2]).f4 x.f0 x.f1 x.f2 x.f3 x.f4).bind fun t => if t < 0 then bsf_R1.l0 k xs (xs.length : Int) (((i + j) / 2 + 1 : Nat) : Int) (j : Int) x.f0 x.f1 x.f2 x.f3 x.f4 else bsf_R1.l0 k xs (xs.length : Int) (i : Int) (((i + j) / 2 : Nat) : Int) x.f0 x.f1 x.f2 x.f3 x.f4 := fun k => by
    simp only [bsf_R1.l0]
    rw [if_pos (by omega), wrap_mid i j (by omega), if_pos (by omega), if_pos (by omega), rdC_get hh, w64s hh (by omega)]
   refine Ev.step hstep ?_
   by_cases hlt : (i + j) / 2 < p
   ·have c := h1 _ hh hlt
    exact Ev.bind (hcmp _ hh) (Ev.congr (fun k => by rw [if_pos c]) (ih ((i + j) / 2 + 1) j (by omega) (by omega) hpj hjn))
   ·have c := h2 _ hh (by omega)
    exact Ev.bind (hcmp _ hh) (Ev.congr (fun k => by rw [if_neg (by omega)]) (ih i ((i + j) / 2) (by omega) hip (by omega) (by omega)))
  ·exact ih i j (by omega) hip hpj hjn
theorem has_at (x : S41) (xs : List S41) (hs : SortedC xs) (p : Nat) (h1 : ∀ m (h : m < xs.length), m < p → lexC (xs[m]).f0 x.f0 < 0) (h2 : ∀ m (h : m < xs.length), p ≤ m → 0 ≤ lexC (xs[m]).f0 x.f0) :
  (if h : p < xs.length then lexC (xs[p]).f0 x.f0 == 0 else false) = hasK xs x := by
 rw [Bool.eq_iff_iff]
 constructor
 ·intro h
  by_cases hlt : p < xs.length
  ·rw [dif_pos hlt] at h
   exact List.any_eq_true.2 ⟨xs[p], List.getElem_mem hlt, h⟩
  ·rw [dif_neg hlt] at h; cases h
 ·intro h
  obtain ⟨y, hy, he⟩ := List.any_eq_true.1 h
  obtain ⟨m, hm, rfl⟩ := List.getElem_of_mem hy
  have he' : lexC (xs[m]).f0 x.f0 = 0 := by simpa using he
  rcases Nat.lt_trichotomy m p with c | c | c
  ·have := h1 m hm c; omega
  ·subst c; rw [dif_pos hm]; exact he
  ·have hlt : p < xs.length := by omega
   have hpm := (List.pairwise_iff_getElem.1 hs) p m hlt hm c
   rw [(lexC_key he').1] at hpm
   have := h2 p hlt (Nat.le_refl _)
   omega
theorem group_one (x : S41) : groupL [x] = [x] := rfl
theorem runsPut_ev (xs : List S41) (x : S41) (most : Nat) (hn : xs.length ≤ 1000000) (hs : ∀ y ∈ xs, SmallC y) (hx : SmallC x) (ho : SortedC xs) :
  Ev (fun k => runsPut.f k xs x (most : Int)) (if hasK xs x = true ∨ xs.length < most then (true, putL x xs) else (false, xs)) := by
 obtain ⟨p, hp, h1, h2⟩ := place x xs ho
 have hb := bsfR_l0 xs x hn hs p hp h1 h2 xs.length 0 xs.length (by omega) (by omega) hp (by omega)
 have hb' : Ev (fun k => bsf_R1.f k xs x.f0 x.f1 x.f2 x.f3 x.f4) ((p : Int), if h : p < xs.length then lexC (xs[p]).f0 x.f0 == 0 else false) := hb
 have hput := putL_at x p xs hp h1 (fun h => h2 p h (by omega))
 have hhas := has_at x xs ho p h1 h2
 have hg : Ev (fun k => cell_Group.f k [x]) [x] := by
  have := group_ev [x] (by simp) (fun y hy => by rw [List.mem_singleton.1 hy]; exact hx)
  rwa [group_one] at this
 unfold runsPut.f
 refine Ev.bind hb' ?_
 simp only [hhas]
 by_cases hh : hasK xs x = true
 ·rw [if_pos (Or.inl hh)]
  rw [hh] at hhas
  have hlt : p < xs.length := Decidable.byContradiction (fun hlt => by rw [dif_neg hlt] at hhas; cases hhas)
  rw [dif_pos hlt] at hput hhas
  have c : lexC (xs[p]).f0 x.f0 = 0 := by simpa using hhas
  rw [if_pos c] at hput
  have hj := Ev.bind (f := fun (_ : Nat) (j : List Int × Int × List Int × List Int × List Int) => some (true, xs.set p (⟨j.1, j.2.1, j.2.2.1, j.2.2.2.1, j.2.2.2.2⟩ : S41))) (join_ev (xs[p]) x (hs _ (List.getElem_mem hlt))) (Ev.now _)
  rw [hput]
  exact Ev.congr (fun k => by rw [if_pos hh, if_pos (by omega), rdC_get hlt, Int.toNat_natCast]) hj
 ·have hput' : putL x xs = xs.take p ++ [x] ++ xs.drop p := by
   rw [hput]
   by_cases hlt : p < xs.length
   ·rw [dif_pos hlt] at hhas ⊢
    have c : ¬ lexC (xs[p]).f0 x.f0 = 0 := fun c => by rw [c] at hhas; simp at hhas; first | exact hh hhas | exact hh hhas.symm
    rw [if_neg c]; simp
   ·rw [dif_neg hlt]; simp
  by_cases hm : xs.length < most
  ·rw [if_pos (Or.inr hm), hput']
   refine Ev.congr (fun k => by rw [if_neg hh, if_neg (by omega)]) (Ev.bind hg ?_)
   exact Ev.congr (f := fun _ => some (true, xs.take p ++ [x] ++ xs.drop p)) (fun k => by rw [if_pos ⟨by omega, by omega, by omega, rfl⟩, Int.toNat_natCast]) (Ev.now _)
  ·rw [if_neg (by simp [hh]; omega)]
   exact Ev.congr (f := fun _ => some (false, xs)) (fun k => by rw [if_neg hh, if_pos (by omega)]) (Ev.now _)
def runsR (most : Nat) : List S41 → List S41 → List (List S41)
 | held, [] => if 0 < held.length then [held] else []
 | held, c :: cs => if hasK held c = true ∨ held.length < most then runsR most (putL c held) cs else held :: runsR most [c] cs
theorem putL_le {most : Nat} {held : List S41} {c : S41} (ho : SortedC held) (hm : held.length ≤ most) (h : hasK held c = true ∨ held.length < most) : (putL c held).length ≤ most := by
 by_cases hh : hasK held c = true
 ·rw [putL_old c held ho hh]; exact hm
 ·have := putL_length c held
  have := h.resolve_left hh
  omega
theorem mx_one (most : Nat) (h : 1 ≤ most) : mx (most : Int) 1 = (most : Int) := by unfold mx; split <;> omega
theorem sorted_one (c : S41) : SortedC [c] := List.pairwise_singleton _ _
theorem put_nil_f (most : Nat) (h1 : 1 ≤ most) (c : S41) (hc : SmallC c) : Ev (fun k => runsPut.f k [] c (most : Int)) (true, [c]) := by
 have := runsPut_ev [] c most (by simp) (fun y h => by simp at h) hc List.Pairwise.nil
 rwa [if_pos (Or.inr (by simp; omega))] at this
theorem runsGo_ev (most : Nat) (h1 : 1 ≤ most) : ∀ (cs : List S41) (out : List (List S41)) (held : List S41), (∀ y ∈ cs, SmallC y) → (∀ y ∈ held, SmallC y) → SortedC held → held.length + cs.length ≤ 1000000 → out.length + cs.length ≤ 1000000 →
  ∃ o h, Ev (fun k => runsGo k (most : Int) out held cs) (o, h) ∧ h.length ≤ 1000000 ∧ o.length ≤ 1000000 ∧ (if 0 < h.length then o ++ [h] else o) = out ++ runsR most held cs
 | [], out, held, _, _, _, hb, hb2 => ⟨out, held, Ev.now _, by simpa using hb, by simpa using hb2, by unfold runsR; split <;> simp⟩
 | c :: cs, out, held, hcs, hh, ho, hb, hb2 => by
  have hc := hcs c (by simp)
  have hcs' := fun y h => hcs y (List.mem_cons_of_mem _ h)
  simp only [List.length_cons] at hb hb2
  have hp := runsPut_ev held c most (by omega) hh hc ho
  by_cases h : hasK held c = true ∨ held.length < most
  ·rw [if_pos h] at hp
   have := putL_length c held
   obtain ⟨o, h', e1, e2, e3, e4⟩ := runsGo_ev most h1 cs out (putL c held) hcs' (putL_small c hc held hh) (putL_sorted c held ho) (by omega) (by omega)
   refine ⟨o, h', ?_, e2, e3, by rw [e4]; simp only [runsR]; rw [if_pos h]⟩
   refine Ev.congr (fun k => by unfold runsGo; rfl) (Ev.bind hp ?_)
   exact Ev.congr (fun k => by rw [if_pos rfl]) e1
  ·rw [if_neg h] at hp
   obtain ⟨o, h', e1, e2, e3, e4⟩ := runsGo_ev most h1 cs (out ++ [held]) [c] hcs' (fun y hy => by rw [List.mem_singleton.1 hy]; exact hc) (sorted_one c) (by simp; omega) (by simp; omega)
   refine ⟨o, h', ?_, e2, e3, by rw [e4]; simp only [runsR]; rw [if_neg h]; simp⟩
   refine Ev.congr (fun k => by unfold runsGo; rfl) (Ev.bind hp ?_)
   refine Ev.congr (fun k => by rw [if_neg (by simp)]; dsimp only; rw [if_pos ⟨by omega, by omega⟩, mx_one most h1]) (Ev.bind (put_nil_f most h1 c hc) ?_)
   exact e1
theorem runs_ev (most : Nat) (h1 : 1 ≤ most) (cs : List S41) (hcs : ∀ y ∈ cs, SmallC y) (hl : cs.length ≤ 1000000) : Ev (fun k => runs_Runs.f k cs (most : Int)) (runsR most [] cs) := by
 obtain ⟨o, h, e1, e2, e3, e4⟩ := runsGo_ev most h1 cs [] [] hcs (fun y h => by simp at h) List.Pairwise.nil (by simpa using hl) (by simpa using hl)
 rw [List.nil_append] at e4
 rw [← e4]
 refine Ev.bind e1 ?_
 refine Ev.congr (f := fun _ => some (if 0 < h.length then o ++ [h] else o)) (fun k => ?_) (Ev.now _)
 dsimp only
 by_cases c : 0 < h.length
 ·simp only [if_pos c]
  rw [if_pos ⟨by omega, by omega⟩, Option.bind_some, if_pos (by simp; omega)]
 ·simp only [if_neg c]
  rw [Option.bind_some, if_pos (by omega)]
theorem has_l0 (l : List S41) (c : S41) (hs : ∀ y ∈ l, SmallC y) (hl : l.length ≤ 1000000) (d : Nat) : ∀ i : Nat, l.length - i = d → i ≤ l.length → Ev (fun k => hypercuberef5_has.l0 k l c.f0 (i : Int)) (hasK (l.drop i) c) := by
 induction d with
 | zero =>
  intro i hd hi
  have e : l.drop i = [] := List.drop_eq_nil_of_le (by omega)
  rw [e]
  exact Ev.step (f := fun _ => some false) (fun k => by simp only [hypercuberef5_has.l0]; rw [if_neg (by omega)]) (Ev.now _)
 | succ d ih =>
  intro i hd hi
  have hlt : i < l.length := by omega
  rw [drop_cons hlt, hasK_cons]
  refine Ev.step (f := fun k => (hypercuberef2_Less.f k (l[i]).f0 c.f0).bind fun t => if t = 0 then some true else hypercuberef5_has.l0 k l c.f0 ((i + 1 : Nat) : Int)) (fun k => ?_) (Ev.bind (ref_less_ev (l[i]).f0 c.f0 (by have := (hs _ (List.getElem_mem hlt)).1; omega)) ?_)
  ·simp only [hypercuberef5_has.l0]
   rw [if_pos (by omega), if_pos (by omega), rdC_get hlt, w64s hlt (by omega)]
  ·by_cases e : lexC (l[i]).f0 c.f0 = 0
   ·rw [show (lexC (l[i]).f0 c.f0 == 0) = true by simp [e], Bool.true_or]
    exact Ev.congr (fun k => by rw [if_pos e]) (Ev.now _)
   ·rw [show (lexC (l[i]).f0 c.f0 == 0) = false by simp [e], Bool.false_or]
    exact Ev.congr (fun k => by rw [if_neg e]) (ih (i + 1) (by omega) (by omega))
theorem has_ev (l : List S41) (c : S41) (hs : ∀ y ∈ l, SmallC y) (hl : l.length ≤ 1000000) : Ev (fun k => hypercuberef5_has.f k l c.f0) (hasK l c) := by
 have h := has_l0 l c hs hl l.length 0 (by omega) (by omega)
 simp only [List.drop_zero] at h
 exact Ev.congr (fun k => by unfold hypercuberef5_has.f; rfl) h
theorem ref_runs_l0 {n : Nat} (hn : n ≤ 100) (most : Nat) (h1 : 1 ≤ most) (l : List S41) (hr : RegL n l) (hl : l.length ≤ 100000) (d : Nat) : ∀ (i : Nat) (out : List (List S41)) (held : List S41), l.length - i = d → i ≤ l.length → RegL n held → SortedC held → held.length ≤ most → held.length ≤ i → out.length ≤ i →
  Ev (fun k => hypercuberef5_Runs.l0 k l (most : Int) out held (i : Int)) (out ++ runsR most held (l.drop i)) := by
 induction d with
 | zero =>
  intro i out held hd hi hh ho hm hb hb2
  have e : l.drop i = [] := List.drop_eq_nil_of_le (by omega)
  rw [e]
  refine Ev.step (f := fun _ => some (out ++ runsR most held [])) (fun k => ?_) (Ev.now _)
  simp only [hypercuberef5_Runs.l0, runsR]
  rw [if_neg (by omega)]
  by_cases c : 0 < held.length
  ·rw [if_pos (by omega), if_pos (by omega), if_pos c]
  ·rw [if_neg (by omega), if_neg c, List.append_nil]
 | succ d ih =>
  intro i out held hd hi hh ho hm hb hb2
  have hlt : i < l.length := by omega
  have hx := hr _ (List.getElem_mem hlt)
  rw [drop_cons hlt]
  have hput : ∀ held', RegL n held' → held'.length ≤ 100000 → Ev (fun k => hypercuberef2_Put.f k held' (l[i]).f0 (l[i]).f1 (l[i]).f2 (l[i]).f3 (l[i]).f4) (putL l[i] held') := fun held' hh' hb' => ref_put_ev hn (by omega) hh' hx
  refine Ev.step (f := fun k => (hypercuberef5_has.f k held (l[i]).f0).bind fun t389 => (if t389 = true then ((hypercuberef2_Put.f k held (l[i]).f0 (l[i]).f1 (l[i]).f2 (l[i]).f3 (l[i]).f4).bind fun t391 => (hypercuberef5_Runs.l0 k l (most : Int) out t391 ((i + 1 : Nat) : Int))) else (if (held.length : Int) = (most : Int) then (if out.length < 5864062014805 then ((hypercuberef2_Put.f k ([] : List S41) (l[i]).f0 (l[i]).f1 (l[i]).f2 (l[i]).f3 (l[i]).f4).bind fun t398 => (hypercuberef5_Runs.l0 k l (most : Int) (out ++ [held]) t398 ((i + 1 : Nat) : Int))) else (none)) else ((hypercuberef2_Put.f k held (l[i]).f0 (l[i]).f1 (l[i]).f2 (l[i]).f3 (l[i]).f4).bind fun t402 => (hypercuberef5_Runs.l0 k l (most : Int) out t402 ((i + 1 : Nat) : Int)))))) (fun k => ?_) (Ev.bind (has_ev held l[i] (hh.small hn) (by omega)) ?_)
  ·simp only [hypercuberef5_Runs.l0]
   rw [if_pos (by omega), if_pos (by omega), rdC_get hlt, w64s hlt (by omega)]
  ·have hgo := ih (i + 1) out (putL l[i] held) (by omega) (by omega) (regL_put hx hh) (putL_sorted _ _ ho)
   have := putL_length l[i] held
   by_cases e : hasK held l[i] = true
   ·simp only [runsR]
    rw [if_pos (Or.inl e)]
    exact Ev.congr (fun k => by rw [if_pos e]) (Ev.bind (hput held hh (by omega)) (hgo (putL_le ho hm (.inl e)) (by omega) (by omega)))
   ·by_cases hf : held.length < most
    ·simp only [runsR]
     rw [if_pos (Or.inr hf)]
     exact Ev.congr (fun k => by rw [if_neg e, if_neg (by omega)]) (Ev.bind (hput held hh (by omega)) (hgo (putL_le ho hm (.inr hf)) (by omega) (by omega)))
    ·simp only [runsR]
     rw [if_neg (by simp [e]; omega)]
     have hgo2 := ih (i + 1) (out ++ [held]) [l[i]] (by omega) (by omega) (fun c hc => by rw [List.mem_singleton.1 hc]; exact hx) (sorted_one _) (by simpa using h1) (by simp) (by simp; omega)
     rw [List.append_assoc, List.singleton_append] at hgo2
     refine Ev.congr (fun k => by rw [if_neg e, if_pos (by omega), if_pos (by omega)]) (Ev.bind (hput [] (regL_nil n) (by simp)) ?_)
     exact hgo2
theorem ref_runs_ev {n : Nat} (hn : n ≤ 100) (most : Nat) (h1 : 1 ≤ most) {l : List S41} (hr : RegL n l) (hl : l.length ≤ 100000) : Ev (fun k => hypercuberef5_Runs.f k l (most : Int)) (runsR most [] l) := by
 have h := ref_runs_l0 hn most h1 l hr hl l.length 0 [] [] (by omega) (by omega) (regL_nil n) List.Pairwise.nil (by simp) (by simp) (by simp)
 simp only [List.drop_zero, List.nil_append] at h
 exact Ev.congr (fun k => by unfold hypercuberef5_Runs.f; rfl) h
theorem rdL_get {l : List (List S41)} {i : Nat} (h : i < l.length) : rd_L3 l (i : Int) = l[i] := by simp [rd_L3, List.getD_eq_getElem?_getD, h]
theorem same5_l0 (l : List (List S41)) (hl : l.length ≤ 1000000) (hs : ∀ r ∈ l, r.length ≤ 1000000 ∧ ∀ c ∈ r, SmallC c) (d : Nat) : ∀ i : Nat, l.length - i = d → i ≤ l.length → Ev (fun k => hypercuberef5_Same.l0 k l l (i : Int)) true := by
 induction d with
 | zero =>
  intro i hd hi
  exact Ev.step (f := fun _ => some true) (fun k => by simp only [hypercuberef5_Same.l0]; rw [if_neg (by omega)]) (Ev.now _)
 | succ d ih =>
  intro i hd hi
  have hlt : i < l.length := by omega
  have hh := hs _ (List.getElem_mem hlt)
  refine Ev.step (f := fun k => (hypercuberef2_Same.f k l[i] l[i]).bind fun t => if t = true then hypercuberef5_Same.l0 k l l ((i + 1 : Nat) : Int) else some false) (fun k => ?_) (Ev.bind (same_true rfl hh.1 hh.2) ?_)
  ·simp only [hypercuberef5_Same.l0]
   rw [if_pos (by omega), if_pos (by omega), if_pos (by omega), rdL_get hlt, w64s hlt (by omega)]
  ·exact Ev.congr (fun k => by rw [if_pos rfl]) (ih (i + 1) (by omega) (by omega))
theorem same5_true {l l' : List (List S41)} (h : l = l') (hl : l.length ≤ 1000000) (hs : ∀ r ∈ l, r.length ≤ 1000000 ∧ ∀ c ∈ r, SmallC c) : Ev (fun k => hypercuberef5_Same.f k l l') true := by
 subst h
 exact Ev.congr (fun k => by unfold hypercuberef5_Same.f; rw [if_pos rfl]; rfl) (same5_l0 l hl hs l.length 0 (by omega) (by omega))
theorem runsR_bounds (most : Nat) (h1 : 1 ≤ most) : ∀ (cs held : List S41), SortedC held → held.length ≤ most → (held = [] ∨ 0 < held.length) →
  ∀ (i : Nat) (h : i < (runsR most held cs).length), 1 ≤ ((runsR most held cs)[i]).length ∧ ((runsR most held cs)[i]).length ≤ most ∧ (i + 1 < (runsR most held cs).length → ((runsR most held cs)[i]).length = most) ∧ SortedC ((runsR most held cs)[i])
 | [], held, ho, hm, _, i, h => by
  unfold runsR at h ⊢
  by_cases c : 0 < held.length
  ·simp only [if_pos c] at h ⊢
   have : i = 0 := by simpa using h
   subst this
   exact ⟨c, hm, fun h => by simp at h, ho⟩
  ·simp only [if_neg c] at h; simp at h
 | c :: cs, held, ho, hm, hne, i, h => by
  by_cases hc : hasK held c = true ∨ held.length < most
  ·have e : runsR most held (c :: cs) = runsR most (putL c held) cs := by simp only [runsR]; rw [if_pos hc]
   have ih := runsR_bounds most h1 cs (putL c held) (putL_sorted c held ho) (putL_le ho hm hc) (by cases h : putL c held <;> simp)
   simp only [e] at h ⊢
   exact ih i h
  ·have e : runsR most held (c :: cs) = held :: runsR most [c] cs := by simp only [runsR]; rw [if_neg hc]
   have ih := runsR_bounds most h1 cs [c] (sorted_one c) (by simpa using h1) (.inr (by simp))
   have hfull : held.length = most := by
    have : ¬ held.length < most := fun h => hc (.inr h)
    omega
   simp only [e] at h ⊢
   cases i with
   | zero => simp only [List.getElem_cons_zero]; exact ⟨by omega, hm, fun _ => hfull, ho⟩
   | succ i =>
    simp only [List.getElem_cons_succ, List.length_cons] at h ⊢
    have := ih i (by omega)
    exact ⟨this.1, this.2.1, fun h => this.2.2.1 (by omega), this.2.2.2⟩
theorem runsR_total (most : Nat) : ∀ (cs held : List S41), (runsR most held cs).flatten.length ≤ held.length + cs.length
 | [], held => by unfold runsR; split <;> simp
 | c :: cs, held => by
  simp only [runsR]
  split
  ·have := runsR_total most cs (putL c held)
   have := putL_length c held
   simp only [List.length_cons]; omega
  ·have := runsR_total most cs [c]
   have e1 : ([c] : List S41).length = 1 := rfl
   rw [List.flatten_cons, List.length_append, List.length_cons]
   omega
theorem runsR_reg {n : Nat} (most : Nat) : ∀ (cs held : List S41), RegL n cs → RegL n held → ∀ r ∈ runsR most held cs, RegL n r
 | [], held, _, hh, r, hr => by
  unfold runsR at hr
  split at hr
  ·rw [List.mem_singleton.1 hr]; exact hh
  ·simp at hr
 | c :: cs, held, hc, hh, r, hr => by
  have hcs : RegL n cs := fun x hx => hc x (List.mem_cons_of_mem _ hx)
  simp only [runsR] at hr
  split at hr
  ·exact runsR_reg most cs (putL c held) hcs (regL_put (hc c (by simp)) hh) r hr
  ·rcases List.mem_cons.1 hr with e | e
   ·rw [e]; exact hh
   ·exact runsR_reg most cs [c] hcs (fun x hx => by rw [List.mem_singleton.1 hx]; exact hc c (by simp)) r e
theorem runsR_len (most : Nat) (h1 : 1 ≤ most) (cs : List S41) : (runsR most [] cs).length ≤ cs.length ∧ ∀ r ∈ runsR most [] cs, r.length ≤ cs.length := by
 have ht := runsR_total most cs []
 simp only [List.length_nil, Nat.zero_add] at ht
 have hb := runsR_bounds most h1 cs [] List.Pairwise.nil (by simp) (.inl rfl)
 generalize runsR most [] cs = rs at ht hb
 have hsum : ∀ l : List (List S41), (∀ r ∈ l, 1 ≤ r.length) → l.length ≤ l.flatten.length ∧ ∀ r ∈ l, r.length ≤ l.flatten.length := by
  intro l
  induction l with
  | nil => intro _; exact ⟨by simp, fun r h => by simp at h⟩
  | cons x l ih =>
   intro h
   obtain ⟨i1, i2⟩ := ih (fun r hr => h r (List.mem_cons_of_mem _ hr))
   have := h x (by simp)
   refine ⟨by simp only [List.length_cons, List.flatten_cons, List.length_append]; omega, fun r hr => ?_⟩
   rcases List.mem_cons.1 hr with e | e
   ·rw [e]; simp
   ·have := i2 r e; simp only [List.flatten_cons, List.length_append]; omega
 obtain ⟨s1, s2⟩ := hsum rs (fun r hr => by
  obtain ⟨i, hi, rfl⟩ := List.getElem_of_mem hr
  exact (hb i hi).1)
 exact ⟨by omega, fun r hr => by have := s2 r hr; omega⟩
theorem known_runs : runs_Runs.f 9 [⟨[2], 1, [], [], []⟩, ⟨[1], 1, [], [], []⟩] 2 = some [[⟨[1], 1, [], [], []⟩, ⟨[2], 1, [], [], []⟩]] := by kernel_rfl
theorem known_runs0 : runs_Runs.f 9 [] 1 = some [] := by kernel_rfl
theorem known_sorted : runs_Sorted.f 9 [⟨[1], 1, [], [], []⟩, ⟨[2], 1, [], [], []⟩] = some true := by kernel_rfl
theorem known_not : runs_Sorted.f 9 [⟨[2], 1, [], [], []⟩, ⟨[1], 1, [], [], []⟩] = some false := by kernel_rfl
theorem rC_of_blk {w : World} {g : Nat} {xs : List Int} (h : w.heap[g]? = some (.cells (encs (Value.int .i64) xs).toArray 3 (0, 0))) (hl : xs.length ≤ maxLen) : Kd.C (Kd.int .i64) w (some ⟨g, 0, none⟩) xs.length xs := by
 have hR : Kd.R (Kd.int .i64) 3 w 0 (fun _ => True) (.slice (some ⟨g, 0, none⟩) xs.length xs.length) xs := by
  refine Kd.R_of_own (h1 := fun _ => rfl) ⟨by rw [encs_length, Nat.mul_one], .inr ⟨g, xs.length, _, rfl, Nat.zero_le _, h, Nat.le_refl _, hl, ?_, ?_⟩⟩ (fun _ _ => trivial)
  ·rw [List.size_toArray, encs_length, Nat.mul_one]
  ·rw [Nat.mul_one, ← encs_length (enc := Value.int .i64) xs]
   exact List.take_length
 exact (Kd.R_reads' hR).2.2
theorem rC_two {w : World} {g : Nat} {x y : S41} {cs ds : List Value} (h : w.heap[g]? = some (.cells (cs ++ ds).toArray 41 (0, 0))) (hx : k41.K w x cs) (hy : k41.K w y ds) : Kd.C k41 w (some ⟨g, 0, none⟩) [x, y].length [x, y] := by
 have hl : cs.length = 5 := k41.K_len hx
 have hl2 : ds.length = 5 := k41.K_len hy
 refine ⟨rfl, by simp, fun _ => ⟨_, rfl, fun j p hj => ?_⟩⟩
 have hj2 : j < 2 := (List.getElem?_eq_some_iff.1 hj).1
 match j, hj2, hj with
 | 0, _, hj =>
  have hm : p = x := by simpa using hj.symm
  refine ⟨cs, hl, by rw [hm]; exact hx, fun i u hu => ?_⟩
  have hi : i < cs.length := (List.getElem?_eq_some_iff.1 hu).1
  rw [Addr.add_lit, cell_of_row w g _ _ _ _ h, List.getElem?_toArray, Nat.zero_add, show 0 * k41.sz + i = i by omega, List.getElem?_append_left hi]
  exact hu
 | 1, _, hj =>
  have hm : p = y := by simpa using hj.symm
  refine ⟨ds, hl2, by rw [hm]; exact hy, fun i u hu => ?_⟩
  rw [Addr.add_lit, cell_of_row w g _ _ _ _ h, List.getElem?_toArray, Nat.zero_add, show 1 * k41.sz + i = cs.length + i by rw [hl]; rfl, List.getElem?_append_right (by omega), Nat.add_sub_cancel_left]
  exact hu
theorem new_at {w : World} {n : Nat} (o : Obj) (h : w.heap.size = n) : (w.alloc o).heap[n]? = some o := by rw [← h]; exact heap_alloc_new w o
def hypercubelaw5_known.f : Option Bool := some true
set_option maxHeartbeats 8000000 in
set_option maxRecDepth 100000 in
theorem hypercubelaw5_known.calls (r : Bool) (w : World) (h : hypercubelaw5_known.f = some r) :
    Calls Try.prog 12 #[] w fun e w' => e = .returned (.bool r) ∧ Below w.heap.size w w' := by
 have e : true = r := Option.some.inj h
 subst e
 clear h
 have HB := am (Below.refl w.heap.size w)
 have hu41 := Try.underlying41
 have hkk : ∀ (W : World) (g1 : Nat) (x : Int), W.heap[g1]? = some (.cells #[.int .i64 x] 3 (0, 0)) → k41.K W (⟨[x], 1, [], [], []⟩ : S41) [.slice (some ⟨g1, 0, none⟩) 1 1, .int .i64 1, .slice none 0 0, .slice none 0 0, .slice none 0 0] := fun W g1 x h1 =>
  k41_mk W (⟨[x], 1, [], [], []⟩ : S41) (c0 := 1) (c2 := 0) (c3 := 0) (c4 := 0) (Nat.le_refl 1) (rC_of_blk (xs := [x]) h1 (by show 1 ≤ maxLen; decide)) (Nat.le_refl 0) (Kd.C_nil _ _) (Nat.le_refl 0) (Kd.C_nil _ _) (Nat.le_refl 0) (Kd.C_nil _ _)
 go_enter Try.func12, Try.ntmps12
 go_wp2_with (first
  | ((with_reducible refine gate_callee (f := 18) rfl ?_)
     refine goesL_ (some 11) rfl rfl Try.func18 (by kernel_rfl) rfl #[.slice (some ⟨w.heap.size + 1 + 1 + 1 + 1, 0, none⟩) 2 2, .int .i64 2] rfl (by (try simp only [List.map_toArray, List.map_cons, List.map_nil]); first | done | rfl) ?_
     refine name_calls ?_
     intro w2 hw2
     have b0 : w2.heap[w.heap.size]? = some (.cells #[.int .i64 2] 3 (0, 0)) := by rw [hw2]; exact blk_alloc (blk_alloc (blk_alloc (blk_alloc (new_at _ (by simp only [World.size_alloc])) _) _) _) _
     have b1 : w2.heap[w.heap.size + 1]? = some (.cells #[.int .i64 1] 3 (0, 0)) := by rw [hw2]; exact blk_alloc (blk_alloc (blk_alloc (new_at _ (by simp only [World.size_alloc])) _) _) _
     have b2 : w2.heap[w.heap.size + 1 + 1]? = some (.cells #[.slice (some ⟨w.heap.size, 0, none⟩) 1 1, .int .i64 1, .slice none 0 0, .slice none 0 0, .slice none 0 0] 41 (0, 0)) := by rw [hw2]; exact blk_alloc (blk_alloc (new_at _ (by simp only [World.size_alloc])) _) _
     have b3 : w2.heap[w.heap.size + 1 + 1 + 1]? = some (.cells #[.slice (some ⟨w.heap.size + 1, 0, none⟩) 1 1, .int .i64 1, .slice none 0 0, .slice none 0 0, .slice none 0 0] 41 (0, 0)) := by rw [hw2]; exact blk_alloc (new_at _ (by simp only [World.size_alloc])) _
     have b4 : w2.heap[w.heap.size + 1 + 1 + 1 + 1]? = some (.cells (([.slice (some ⟨w.heap.size, 0, none⟩) 1 1, .int .i64 1, .slice none 0 0, .slice none 0 0, .slice none 0 0] : List Value) ++ ([.slice (some ⟨w.heap.size + 1, 0, none⟩) 1 1, .int .i64 1, .slice none 0 0, .slice none 0 0, .slice none 0 0] : List Value)).toArray 41 (0, 0)) := by rw [hw2]; exact new_at _ (by simp only [World.size_alloc])
     have n0_ : Aside0 (Below w.heap.size w w2) := am (by rw [hw2]; exact below_alloc (below_alloc (below_alloc (below_alloc (below_alloc HB.out _) _) _) _) _)
     clear HB
     have HB := n0_
     clear n0_ hw2
     refine (runs_Runs.calls 9 (some ⟨w.heap.size + 1 + 1 + 1 + 1, 0, none⟩) 2 [(⟨[2], 1, [], [], []⟩ : S41), (⟨[1], 1, [], [], []⟩ : S41)] 2 _ w2 (rC_two b4 (hkk w2 _ 2 b0) (hkk w2 _ 1 b1)) (by decide) known_runs).mono ?_
     rintro e w3 ⟨v, rfl, hR, hb⟩
     refine ⟨_, rfl, ?_⟩
     obtain ⟨A, c, rfl⟩ := Kd.R_slice hR
     have hC := (Kd.R_reads' hR).2.2
     obtain ⟨ad, rfl, hcell⟩ := hC.2.2 (by decide)
     obtain ⟨g, rfl⟩ := Kd.R_head hR
     obtain ⟨cs, hcl, ⟨A1, c1, rfl, hc1, hK1⟩, hcc⟩ := hcell 0 _ rfl
     have x0 := hcc 0 _ rfl
     have x0' : w3.cell? ⟨g, 0, none⟩ = some (.slice A1 2 c1) := x0
     have HK1 := am hK1
     have HLc := am hc1
     have n0_ := am (below_step HB.out hb)
     have m0_ := am (blk_below b0 hb)
     have m1_ := am (blk_below b1 hb)
     have m2_ := am (blk_below b2 hb)
     have m3_ := am (blk_below b3 hb)
     clear HB b0 b1 b2 b3 b4 hC hR hcell hcc x0 hc1 hK1 hb
     have HB := n0_
     clear n0_)
  | ((with_reducible refine gate_callee (f := 18) rfl ?_)
     refine goesL_ (some 12) rfl rfl Try.func18 (by kernel_rfl) rfl #[.slice none 0 0, .int .i64 1] rfl (by (try simp only [List.map_toArray, List.map_cons, List.map_nil]); first | done | rfl) ?_
     refine (runs_Runs.calls 9 none 0 [] 1 _ w3 (Kd.C_nil _ _) (by decide) known_runs0).mono ?_
     rintro e w4 ⟨v, rfl, hR, hb⟩
     refine ⟨_, rfl, ?_⟩
     obtain ⟨A2, c2, rfl⟩ := Kd.R_slice hR
     have x0 : w4.cell? ⟨g, 0, none⟩ = some (.slice A1 2 c1) := (hb.cell (World.block_lt_of_cell? _ _ x0')).trans x0'
     have k_ := am (Kd.C_below HK1.out hb)
     have n0_ := am (below_step HB.out hb)
     have p0_ := am (blk_below m0_.out hb)
     have p1_ := am (blk_below m1_.out hb)
     have p2_ := am (blk_below m2_.out hb)
     have p3_ := am (blk_below m3_.out hb)
     clear HB x0' HK1 m0_ m1_ m2_ m3_ hR hb
     have HB := n0_
     clear n0_)
  | ((with_reducible refine gate_callee (f := 20) rfl ?_)
     (try (refine gate_guard (by rfl) ?_; dsimp only))
     refine goesL_ (some 31) rfl rfl Try.func20 (by kernel_rfl) rfl #[.slice A1 2 c1] rfl (by (try simp only [List.map_toArray, List.map_cons, List.map_nil]); first | done | rfl) ?_
     refine (runs_Sorted.calls 9 A1 c1 [(⟨[1], 1, [], [], []⟩ : S41), (⟨[2], 1, [], [], []⟩ : S41)] _ w4 k_.out HLc.out known_sorted).mono ?_
     rintro e w5 ⟨rfl, hb⟩
     refine ⟨_, rfl, ?_⟩
     have n0_ := am (below_step HB.out hb)
     have q0_ := am (blk_below p0_.out hb)
     have q1_ := am (blk_below p1_.out hb)
     have b2 := blk_below p2_.out hb
     have b3 := blk_below p3_.out hb
     have y20 := (blk_cell b2 0).trans rfl
     have y21 := (blk_cell b2 1).trans rfl
     have y22 := (blk_cell b2 2).trans rfl
     have y23 := (blk_cell b2 3).trans rfl
     have y24 := (blk_cell b2 4).trans rfl
     have y30 := (blk_cell b3 0).trans rfl
     have y31 := (blk_cell b3 1).trans rfl
     have y32 := (blk_cell b3 2).trans rfl
     have y33 := (blk_cell b3 3).trans rfl
     have y34 := (blk_cell b3 4).trans rfl
     clear HB p0_ p1_ p2_ p3_ k_ x0 b2 b3 hb
     have HB := n0_
     clear n0_)
  | ((with_reducible refine gate_callee (f := 20) rfl ?_)
     (try (refine gate_guard (by rfl) ?_; dsimp only))
     refine goesL_ (some 37) rfl rfl Try.func20 (by kernel_rfl) rfl #[.slice (some ⟨w5.heap.size, 0, none⟩) 2 2] rfl (by (try simp only [List.map_toArray, List.map_cons, List.map_nil]); first | done | rfl) ?_
     refine name_calls ?_
     intro w6 hw6
     have b4 : w6.heap[w5.heap.size]? = some (.cells (([.slice (some ⟨w.heap.size, 0, none⟩) 1 1, .int .i64 1, .slice none 0 0, .slice none 0 0, .slice none 0 0] : List Value) ++ ([.slice (some ⟨w.heap.size + 1, 0, none⟩) 1 1, .int .i64 1, .slice none 0 0, .slice none 0 0, .slice none 0 0] : List Value)).toArray 41 (0, 0)) := by rw [hw6]; exact heap_alloc_new _ _
     have r0 : w6.heap[w.heap.size]? = some (.cells #[.int .i64 2] 3 (0, 0)) := by rw [hw6]; exact blk_alloc q0_.out _
     have r1 : w6.heap[w.heap.size + 1]? = some (.cells #[.int .i64 1] 3 (0, 0)) := by rw [hw6]; exact blk_alloc q1_.out _
     have n0_ : Aside0 (Below w.heap.size w w6) := am (by rw [hw6]; exact below_alloc HB.out _)
     clear HB
     have HB := n0_
     clear n0_ hw6
     refine (runs_Sorted.calls 9 (some ⟨w5.heap.size, 0, none⟩) 2 [(⟨[2], 1, [], [], []⟩ : S41), (⟨[1], 1, [], [], []⟩ : S41)] _ w6 (rC_two b4 (hkk w6 _ 2 r0) (hkk w6 _ 1 r1)) (by decide) known_not).mono ?_
     rintro e w7 ⟨rfl, hb⟩
     refine ⟨_, rfl, ?_⟩
     have n0_ := am (below_step HB.out hb)
     clear HB r0 r1 b4 hb
     have HB := n0_
     clear n0_))
 go_ret
 exact ⟨rfl, HB.out⟩
theorem scr_run {P : Program} {oi : Oper} {a : Act} {t : TypeId} {p x : Operand} {W0 W : World} {base : Nat} {q : Addr} {z : Int} (ho : oi.op = .store t p x) (h : Scr base W0 W) (hp : Wr W0 base q)
  (haddr : a.eval p = .pointer (some q)) (hx : a.eval x = .int .i64 z) (ht : (P.info? t).map (·.size) = some 1) : (execOp a.eval oi).run P W = .ok .skip (W.setCell q (.int .i64 z)) := by
 obtain ⟨b, o, t2, cells, rfl, hb, hh, z2, hz⟩ := hp
 obtain ⟨cells', h1, h2⟩ := h.shape _ _ _ hh
 rw [blk_cell hh] at hz
 have hlt : o < cells.size := (Array.getElem?_eq_some_iff.1 hz).1
 have hrun : (Instr.storeAt t (.pointer (some ⟨b, o, none⟩)) (.int .i64 z)).run P W = .ok () (W.setCells b o [.int .i64 z]) := run_store_run t (.int .i64 z) [.int .i64 z] h1 rfl ht (by show o + 1 ≤ _; omega) (by intro q_ hq_; rcases List.mem_singleton.1 hq_ with rfl; rfl)
 unfold execOp
 simp only [ho, haddr, hx, Sem.run_bind, Sem.run_pure, Result.andThen_ok, hrun]
 rfl
def IRowN (W : World) (base : Nat) (v : Value) (m : Nat) : Prop := ∃ A c, v = .slice A m c ∧ ∀ j, j < m → ∃ b, A = some b ∧ Wr W base (b.add j)
theorem iRowN_of {W : World} {base : Nat} {ok : Nat → Prop} {v : Value} {f : List Int} (h : (Kd.int .i64).R 3 W base ok v f) : IRowN W base v f.length := by
 obtain ⟨A, m, c, hv, _, hw⟩ := iRow_of h
 obtain ⟨A', c', e⟩ := Kd.R_slice h
 rw [e] at hv
 injection hv with e1 e2 e3
 subst e1 e2 e3
 exact ⟨A', c', e, hw⟩
theorem cells_scrR {W : World} {base : Nat} {ok : Nat → Prop} {ad : Addr} {n cap : Nat} {xs : List S41} (h : Kd.R k41 41 W base ok (.slice (some ad) n cap) xs) (i : Nat) (hi : i < n) :
  ∃ v2 v3, Wr W base ⟨(ad.add (i * 5)).block, (ad.add (i * 5)).off + 1, none⟩ ∧ W.cell? ⟨(ad.add (i * 5)).block, (ad.add (i * 5)).off + 2, none⟩ = some v2 ∧ W.cell? ⟨(ad.add (i * 5)).block, (ad.add (i * 5)).off + 3, none⟩ = some v3 ∧ IRowN W base v2 (xs.getD i z41).f2.length ∧ IRowN W base v3 (xs.getD i z41).f3.length := by
 have hn := (Kd.R_reads' h).1
 obtain ⟨g, cap', e, h1, h2, cells, h3⟩ := Kd.R_form h (by omega)
 injection e with e1 e2 e3
 cases e1
 obtain ⟨c, hc, hM, hcell⟩ := Kd.R_get h z41 (i : Int) (by omega) (by omega)
 obtain ⟨v0, v2, v3, v4, rfl, r0, r2, r3, r4⟩ := k41_openM hM
 have hcell' : ∀ (j : Nat) (u : Value), ([v0, .int .i64 (xs.getD (i : Int).toNat z41).f1, v2, v3, v4] : List Value)[j]? = some u → W.cell? ((⟨g, 0, none⟩ : Addr).add (i * 5 + j)) = some u := fun j u hu => hcell j u hu
 refine ⟨v2, v3, ?_, by rw [← add_field _ _ 2 (by omega)]; exact hcell' 2 _ rfl, by rw [← add_field _ _ 3 (by omega)]; exact hcell' 3 _ rfl, iRowN_of r2, iRowN_of r3⟩
 rw [← add_field _ _ 1 (by omega)]
 exact ⟨g, 0 + (i * 5 + 1), _, cells, rfl, h1, h3, _, hcell' 1 _ rfl⟩
theorem rows_scr {W : World} {base : Nat} {ok : Nat → Prop} {n cap : Nat} {A : Option Addr} {xs : List (List S41)} (h : Kd.R (Kd.slice 41 k41) 29 W base ok (.slice A n cap) xs) (i : Nat) (hi : i < n) :
  ∃ ad A2 c2, A = some ad ∧ W.cell? (ad.add i) = some (.slice A2 (xs.getD i []).length c2) ∧ Kd.R k41 41 W base (fun _ => True) (.slice A2 (xs.getD i []).length c2) (xs.getD i []) := by
 have hn := (Kd.R_reads' h).1
 obtain ⟨g, cap', e, h1, h2, cells, h3⟩ := Kd.R_form h (by omega)
 injection e with e1 e2 e3
 cases e1
 obtain ⟨c, hc, hM, hcell⟩ := Kd.R_get h [] (i : Int) (by omega) (by omega)
 obtain ⟨v, rfl, hr⟩ := hM
 obtain ⟨A2, c2, rfl⟩ := Kd.R_slice hr
 refine ⟨_, A2, c2, rfl, ?_, Kd.R_mono hr (fun _ _ => trivial)⟩
 have := hcell 0 _ rfl
 rw [Int.toNat_natCast] at this
 have e : i * (Kd.slice 41 k41).sz + 0 = i := Nat.mul_one i
 rw [e] at this
 exact this
def hypercubelaw5_RunsOwn.T17 : Bool × List (List Nat × List Nat) := (true, [([], []), ([], []), ([0, 1], [0, 1]), ([2], [2]), ([], []), ([3, 4], [3, 4]), ([5], [5]), ([6], [6]), ([], []), ([], []), ([], []), ([9, 10], [9, 10]), ([11], [11]), ([], []), ([12, 13], [12, 13]), ([14], [14]), ([15], [15]), ([], []), ([], []), ([], []), ([7, 8, 0, 1, 2, 3, 4, 5, 6, 7, 8, 12, 16, 18], [7, 8]), ([20, 18, 0, 1, 2, 3, 4, 5, 6, 7, 8, 12, 16, 18], [18, 20]), ([16, 17, 0, 1, 2, 3, 4, 5, 6, 7, 8, 9, 10, 11, 12, 13, 14, 15, 16, 17, 18, 19, 20, 21], [16, 17]), ([22, 19, 21, 0, 1, 2, 3, 4, 5, 6, 7, 8, 9, 10, 11, 12, 13, 14, 15, 16, 17, 18, 19, 20, 21], [19, 22])])
def hypercubelaw5_RunsOwn.B17 : List Nat := [0, 0, 3, 7, 0, 31, 63, 127, 0, 0, 0, 1536, 3584, 0, 15872, 32256, 65024, 0, 0, 0, 393215, 1441791, 4194303, 8388607]
theorem hypercubelaw5_RunsOwn.tab17 : rtab .any (opsOf Try.f8 17) = hypercubelaw5_RunsOwn.T17 := by kernel_rfl
theorem hypercubelaw5_RunsOwn.bits17 : waitsOk hypercubelaw5_RunsOwn.T17.2 hypercubelaw5_RunsOwn.B17 = true := by kernel_rfl
def hypercubelaw5_RunsOwn.Pure : Prop := ∀ (a0 : Int) (l1 : List Int) (a2 : Int) (l3 : List Int) (a4 : Int) (a5 : Int), (Lit.int .i64 a0).wf = true → l1.length ≤ maxLen → l1.length * 8 ≤ 140737488351232 → (∀ x ∈ l1, (Lit.int .i64 x).wf = true) → (Lit.int .i64 a2).wf = true → l3.length ≤ maxLen → l3.length * 8 ≤ 140737488351232 → (∀ x ∈ l3, (Lit.int .i64 x).wf = true) → (Lit.int .i64 a4).wf = true → (Lit.int .i64 a5).wf = true →
 ∃ k cards meas rows s l r r2, (hypercubelaw1_Facts.f k a0 l1 a2 l3 = some (cards, meas, rows)) ∧ (hypercubelaw2_Set.f cards meas a4 = some s) ∧ (hypercubelaw2_Make.f k rows s = some l) ∧ (runs_Runs.f k l 3 = some r) ∧ (∀ t ∈ r, ∀ c ∈ t, c.f2.length = c.f3.length ∧ c.f3.length ≤ 1000) ∧ (hypercuberef2_Same.f k l l = some true) ∧ (hypercuberef5_Runs.f k l 3 = some r2) ∧ (hypercuberef5_Same.f k r r2 = some true)
set_option maxHeartbeats 8000000 in
set_option maxRecDepth 100000 in
theorem hypercubelaw5_RunsOwn.calls (k : Nat) (a0 : Int) (A1 : Option Addr) (c1 : Nat) (l1 : List Int) (a2 : Int) (A3 : Option Addr) (c3 : Nat) (l3 : List Int) (a4 : Int) (a5 : Int) (w : World) (hr1 : Kd.C (Kd.int .i64) w A1 l1.length l1) (hc1 : l1.length ≤ c1) (hr3 : Kd.C (Kd.int .i64) w A3 l3.length l3) (hc3 : l3.length ≤ c3)
    {cards : List Int} {meas : Int} {rows : List S45} {s : Int} {l : List S41} {r r2 : List (List S41)} (h1 : hypercubelaw1_Facts.f k a0 l1 a2 l3 = some (cards, meas, rows)) (h2 : hypercubelaw2_Set.f cards meas a4 = some s) (h3 : hypercubelaw2_Make.f k rows s = some l) (h4 : runs_Runs.f k l 3 = some r) (h5 : ∀ t ∈ r, ∀ c ∈ t, c.f2.length = c.f3.length ∧ c.f3.length ≤ 1000) (h6 : hypercuberef2_Same.f k l l = some true) (h7 : hypercuberef5_Runs.f k l 3 = some r2) (h8 : hypercuberef5_Same.f k r r2 = some true) :
    Calls Try.prog 8 #[.int .i64 a0, .slice A1 l1.length c1, .int .i64 a2, .slice A3 l3.length c3, .int .i64 a4, .int .i64 a5] w fun e w' => e = .returned (.bool true) ∧ Below w.heap.size w w' := by
  have hu41 := Try.underlying41
  have hu25 := Try.underlying25
  have H1 := am h1
  have H2 := am h2
  have H3 := am h3
  have H4 := am h4
  have H5 := am h5
  have H6 := am h6
  have H7 := am h7
  have H8 := am h8
  have HR1 := am hr1
  have HC1 := am hc1
  have HR3 := am hr3
  have HC3 := am hc3
  clear h1 h2 h3 h4 h5 h6 h7 h8 hr1 hc1 hr3 hc3
  go_enter Try.func8, Try.ntmps8
  go_wp2_with (fail)
  refine (hypercubelaw5_known.calls true w rfl).mono ?_
  rintro e w1 ⟨rfl, hb1⟩
  have HB1 := am hb1
  clear hb1
  go_wp2_with (fail)
  refine (hypercubelaw1_Facts.calls k a0 A1 c1 l1 a2 A3 c3 l3 cards meas rows w1 (Kd.C_below HR1.out HB1.out) HC1.out (Kd.C_below HR3.out HB1.out) HC3.out H1.out).mono ?_
  rintro e w2 ⟨v1, v2, rfl, ho0, ho1, hb2⟩
  obtain ⟨A14, c14, rfl⟩ := Kd.R_slice ho0
  obtain ⟨A15, c15, rfl⟩ := Kd.S_slice ho1
  have HX := am (Kd.R_reads' ho0).2
  have HY := am (Kd.S_reads' ho1).2
  have HB2 := am (below_step HB1.out hb2)
  clear ho0 ho1 hb2
  go_wp2_with (first | ((with_reducible refine gate_dst (N := 13) rfl ?_); (try (refine gate_guard (by rfl) ?_; dsimp only)); refine box_event ?hg (N := 13) ?hd (cs := #[.slice none 0 0, .int .i64 0]) (t := 25) ?hr ?_; (case hd => rfl); (case hg => rfl); (case hr => first | (go_simp; done) | (go_simp; rfl)); intro gb hg w3 hbox hb; have hcz0 : w3.cell? ⟨gb, 0, none⟩ = some (.slice none 0 0) := (blk_cell hbox 0).trans rfl; have hcz1 : w3.cell? ⟨gb, 1, none⟩ = some (.int .i64 0) := (blk_cell hbox 1).trans rfl; have hfz0 := blk_frozen hbox 0; have hfz1 := blk_frozen hbox 1; have HBX := am hbox; have HG := am hg; have HB3 := am hb; clear hbox hg hb))
  refine name_calls ?_
  intro w4 hw4
  have hb4 : Below w2.heap.size w2 w4 := by rw [hw4]; exact below_set (below_set HB3.out (Nat.le_of_eq HG.out.symm)) (Nat.le_of_eq HG.out.symm)
  have HB4 := am (below_step HB2.out hb4)
  have HX4 := am (Kd.C_below HX.out.2 hb4)
  have HY4 := am (Kd.C_below HY.out.2 hb4)
  clear hw4 hb4 hcz0 hcz1 hfz0 hfz1
  refine (hypercubelaw2_Set.calls A14 c14 cards meas a4 s w4 HX4.out HX.out.1 H2.out).mono ?_
  rintro e w5 ⟨rfl, hb5⟩
  have HY5 := am (Kd.C_below HY4.out hb5)
  have HB5 := am (below_step HB4.out hb5)
  clear hb5 HX4 HB4 HB3 HBX HG HY4
  go_wp2_with (fail)
  refine (hypercubelaw2_Make.calls k A15 c15 rows s l w5 HY5.out HY.out.1 H3.out).mono ?_
  rintro e w6 ⟨v6, rfl, ho0, hb⟩
  obtain ⟨A16, c16, rfl⟩ := Kd.S_slice ho0
  have HL := am (Kd.S_reads' ho0).2
  have HY6 := am (Kd.C_below HY5.out hb)
  have HB6 := am (below_step HB5.out hb)
  clear ho0 hb HB5 HY5
  go_wp2_with (fail)
  refine (hypercubelaw2_Make.calls k A15 c15 rows s l w6 HY6.out HY.out.1 H3.out).mono ?_
  rintro e w7 ⟨v7, rfl, ho0, hb⟩
  obtain ⟨A17, c17, rfl⟩ := Kd.S_slice ho0
  have HM := am (Kd.S_reads' ho0).2
  have HL7 := am (Kd.C_below HL.out.2 hb)
  have HB7 := am (below_step HB6.out hb)
  clear ho0 hb HB6 HY6
  go_wp2_with (fail)
  refine (runs_Runs.calls k A16 c16 l 3 r w7 HL7.out HL.out.1 H4.out).mono ?_
  rintro e w8 ⟨v8, rfl, ho0, hb⟩
  obtain ⟨A18, c18, rfl⟩ := Kd.R_slice ho0
  have HR8 := am ho0
  have HRM := am (Kd.R_reads' ho0).2.2.2.1
  have HB78 := am hb
  clear ho0 hb
  go_wp2_with (fail)
  go_loopg [19, 20, 21] (r.length + 1) (fun kq v19 v20 v21 w' => ∃ i : Nat, v19 = .int .i64 (i : Int) ∧ Aside0 (i + kq = r.length + 1 ∧ i ≤ r.length) ∧ Aside0 (Scr w7.heap.size w8 w'))
  case atStart => exact ⟨0, rfl, ⟨by omega, by omega⟩, ⟨Scr.refl _ _⟩⟩
  case round =>
  obtain ⟨i, rfl, HI, HS⟩ := hrel
  cases gk with
  | zero => exact absurd HI.out (by omega)
  | succ k1 =>
  by_cases hi : i < r.length
  · have hd1 : decide ((i : Int) < (r.length : Int)) = true := decide_eq_true (by omega)
    have hd2 : decide (i < r.length) = true := decide_eq_true hi
    have pi := eq_true (show (0 : Int) ≤ (i : Int) by omega)
    have qi := eq_true (show (i : Int) < (r.length : Int) by omega)
    have qi2 := eq_true hi
    obtain ⟨ad, A2, c2, eA, x0, hR2⟩ := rows_scr HR8.out i hi
    subst eA
    have hmem : r.getD i [] ∈ r := by rw [List.getD_eq_getElem?_getD, List.getElem?_eq_getElem hi]; exact List.getElem_mem hi
    have HT := am (H5.out _ hmem)
    have hwi : wrap64 ((i : Int) + 1) = ((i + 1 : Nat) : Int) := by have := HRM.out; unfold wrap64; omega
    have HHI := am hi
    have HX0 := am x0
    have HR2 := am hR2
    have HTM := am (Kd.R_reads' hR2).2.2.2.1
    clear hi hmem x0 hR2
    generalize r.getD i [] = t at *
    go_wp2
    go_loopg [20, 21] (t.length + 1) (fun kq v20 v21 w' => ∃ q : Nat, v20 = .int .i64 (q : Int) ∧ Aside0 (q + kq = t.length + 1 ∧ q ≤ t.length) ∧ Aside0 (Scr w7.heap.size w8 w'))
    case atStart => exact ⟨0, rfl, ⟨by omega, by omega⟩, HS⟩
    case round =>
    clear HS
    obtain ⟨q, rfl, HQ, HS⟩ := hrel
    have x0 := HS.out.rest _ _ HX0.out (fun _ h => by cases h)
    cases gk with
    | zero => exact absurd HQ.out (by omega)
    | succ k2 =>
    by_cases hq : q < t.length
    · have he1 : decide ((q : Int) < (t.length : Int)) = true := decide_eq_true (by omega)
      have he2 : decide (q < t.length) = true := decide_eq_true hq
      have pq := eq_true (show (0 : Int) ≤ (q : Int) by omega)
      have qq := eq_true (show (q : Int) < (t.length : Int) by omega)
      have qq2 := eq_true hq
      obtain ⟨g2, cap2, eg, _⟩ := Kd.R_form HR2.out (by omega)
      injection eg with eg1 _ _
      obtain ⟨ae, eae⟩ : ∃ ae, A2 = some ae := ⟨_, eg1⟩
      subst eae
      obtain ⟨v2, v3, hw1, y2, y3, ⟨B2, d2, rfl, r2⟩, ⟨B3, d3, rfl, r3⟩⟩ := cells_scrR HR2.out q hq
      have hmem : t.getD q z41 ∈ t := by rw [List.getD_eq_getElem?_getD, List.getElem?_eq_getElem hq]; exact List.getElem_mem hq
      obtain ⟨hf2, hf3⟩ := HT.out _ hmem
      rw [hf2] at y2 r2
      have HF3 := am hf3
      have HY2 := am y2
      have HY3 := am y3
      have HW2 := am r2
      have HW3 := am r3
      have hwq : wrap64 ((q : Int) + 1) = ((q + 1 : Nat) : Int) := by have := HTM.out; unfold wrap64; omega
      obtain ⟨⟨u1, hu1⟩, hf1⟩ := HS.out.wr hw1
      have HS1 := am (HS.out.set hw1 (.int .i64 a5))
      have HHQ := am hq
      clear hq hmem hf2 hf3 y2 y3 r2 r3 HS eg1 hw1
      generalize (t.getD q z41).f3.length = m at *
      go_wp2
      have HS := HS1
      clear HS1 hu1 hf1
      go_loopg [21] (m + 1) (fun kq v21 w' => ∃ j : Nat, v21 = .int .i64 (j : Int) ∧ Aside0 (j + kq = m + 1 ∧ j ≤ m) ∧ Aside0 (Scr w7.heap.size w8 w'))
      case atStart => exact ⟨0, rfl, ⟨by omega, by omega⟩, HS⟩
      case round =>
      clear HS x0
      obtain ⟨j, rfl, HJ, HS⟩ := hrel
      have x0 := HS.out.rest _ _ HX0.out (fun _ h => by cases h)
      have y2 := HS.out.rest _ _ HY2.out (fun _ h => by cases h)
      have y3 := HS.out.rest _ _ HY3.out (fun _ h => by cases h)
      cases gk with
      | zero => exact absurd HJ.out (by omega)
      | succ k3 =>
      by_cases hj : j < m
      · have hg1 : decide ((j : Int) < (m : Int)) = true := decide_eq_true (by omega)
        have hg2 : decide (j < m) = true := decide_eq_true hj
        have pj := eq_true (show (0 : Int) ≤ (j : Int) by omega)
        have qj := eq_true (show (j : Int) < (m : Int) by omega)
        have qj2 := eq_true hj
        obtain ⟨b2, eb2, hw2⟩ := HW2.out j hj
        obtain ⟨b3, eb3, hw3⟩ := HW3.out j hj
        subst eb2 eb3
        have hwj : wrap64 ((j : Int) + 1) = ((j + 1 : Nat) : Int) := by have := HF3.out; unfold wrap64; omega
        have HHJ := am hj
        have HWW2 := am hw2
        have HWW3 := am hw3
        have X0 := am x0
        have Y2 := am y2
        have Y3 := am y3
        clear hj hw2 hw3
        go_wp2
        refine start_ (n := 24) (S := fun w' => w'.cell? (ad.add i) = some (.slice (some ae) t.length c2) ∧ w'.cell? ⟨(ae.add (q * 5)).block, (ae.add (q * 5)).off + 2, none⟩ = some (.slice (some b2) m d2) ∧ w'.cell? ⟨(ae.add (q * 5)).block, (ae.add (q * 5)).off + 3, none⟩ = some (.slice (some b3) m d3)) (ds := [21, 23]) (bb 24 0) (by kernel_rfl) rfl rfl ⟨X0.out, Y2.out, Y3.out⟩ (fun hHeld => ?_)
        refine with_tabW hypercubelaw5_RunsOwn.tab17 hypercubelaw5_RunsOwn.bits17 (fun HT_ HW_ => ?_)
        have HSD : Scr w7.heap.size w8 wr.drew := ⟨below_drew HS.out.below, HS.out.shape, HS.out.rest⟩
        refine pu (i := 0) (N := some 79) (bb 24 1) HT_ ?_
        refine pu (i := 1) (N := some 80) (bb 24 3) HT_ ?_
        refine pu (i := 2) (N := some 81) (bb 24 7) HT_ ?_
        refine pu (i := 4) (N := some 83) (bb 24 23) HT_ ?_
        refine pu (i := 8) (N := some 87) (bb 24 279) HT_ ?_
        refine pu (i := 9) (N := some 88) (bb 24 791) HT_ ?_
        refine pu (i := 10) (N := some 89) (bb 24 1815) HT_ ?_
        refine pu (i := 11) (N := some 90) (bb 24 3863) HT_ ?_
        refine pu (i := 13) (N := some 92) (bb 24 12055) HT_ ?_
        refine pu (i := 17) (N := some 96) (bb 24 143127) HT_ ?_
        refine pu (i := 18) (N := some 97) (bb 24 405271) HT_ ?_
        refine pu (i := 19) (N := some 98) (bb 24 929559) HT_ ?_
        refine tk (i := 3) (N := some 82) (bb 24 929567) HT_ HW_ hHeld ?_
        refine tk (i := 12) (N := some 91) (bb 24 933663) HT_ HW_ hHeld ?_
        refine pu (i := 5) (N := some 84) (bb 24 933695) HT_ ?_
        refine pu (i := 6) (N := some 85) (bb 24 933759) HT_ ?_
        refine pu (i := 14) (N := some 93) (bb 24 950143) HT_ ?_
        refine pu (i := 15) (N := some 94) (bb 24 982911) HT_ ?_
        refine tk (i := 7) (N := some 86) (bb 24 983039) HT_ HW_ hHeld ?_
        refine tk (i := 16) (N := some 95) (bb 24 1048575) HT_ HW_ hHeld ?_
        refine pu (i := 20) (N := some 99) (bb 24 2097151) HT_ ?_
        refine last_ (i := 21) (N := none) (bb 24 4194303) rfl rfl (one_of HT_.out (by kernel_rfl)) (by decide) (fun K hK => ?_)
        refine skip_ (w1 := wr.drew.setCell (b3.add j) (.int .i64 a5)) rfl rfl (scr_run (t := 3) (p := .tmp 99) (x := .tmp 97) rfl HSD HWW3.out rfl rfl (by rfl)) ?_
        have HSE := HSD.set HWW3.out (.int .i64 a5)
        refine hK.out _ _ ?_
        clear hK K
        refine pu (i := 22) (N := some 100) (bb 24 8388607) HT_ ?_
        refine last_ (i := 23) (N := none) (bb 24 16777215) rfl rfl (one_of HT_.out (by kernel_rfl)) (by decide) (fun K hK => ?_)
        refine skip_ (w1 := (wr.drew.setCell (b3.add j) (.int .i64 a5)).setCell (b2.add j) (.int .i64 a5)) rfl rfl (scr_run (t := 3) (p := .tmp 100) (x := .tmp 98) rfl HSE HWW2.out rfl rfl (by rfl)) ?_
        have HSF := am (HSE.set HWW2.out (.int .i64 a5))
        refine hK.out _ _ ?_
        clear hK K
        refine done_ (done_of HT_.out (by kernel_rfl)) ?_
        clear HSD HSE
        go_wp2
        go_roundg k3
        case measure => omega
        case rel => exact ⟨j + 1, by first | rfl | simp [hwj], ⟨by have := HJ.out; have := HHJ.out; omega, by have := HHJ.out; omega⟩, HSF⟩
      · have hg1 : decide ((j : Int) < (m : Int)) = false := decide_eq_false (by omega)
        have hg2 : decide (j < m) = false := decide_eq_false hj
        clear hj
        go_wp2
        go_roundg k2
        case measure => omega
        case rel => exact ⟨q + 1, by first | rfl | simp [hwq], ⟨by have := HQ.out; have := HHQ.out; omega, by have := HHQ.out; omega⟩, HS⟩
    · have he1 : decide ((q : Int) < (t.length : Int)) = false := decide_eq_false (by omega)
      have he2 : decide (q < t.length) = false := decide_eq_false hq
      clear hq
      go_wp2
      go_roundg k1
      case measure => omega
      case rel => exact ⟨i + 1, by first | rfl | simp [hwi], ⟨by have := HI.out; have := HHI.out; omega, by have := HHI.out; omega⟩, HS⟩
  · have hd1 : decide ((i : Int) < (r.length : Int)) = false := decide_eq_false (by omega)
    have hd2 : decide (i < r.length) = false := decide_eq_false hi
    have hbl := HS.out.below
    have hb9 : Below w7.heap.size w7 wr := ⟨hbl.os.trans HB78.out.os, hbl.tape.trans HB78.out.tape, hbl.output.trans HB78.out.output, Nat.le_trans HB78.out.size hbl.size, fun q hq => (hbl.block q hq).trans (HB78.out.block q hq)⟩
    have HL9 := am (Kd.C_below HL7.out hb9)
    have HM9 := am (Kd.C_below HM.out.2 hb9)
    have HB9 := am (below_step HB7.out hb9)
    clear hi hbl hb9
    go_wp2_with (first
    | (go_at_call 22
       (with_reducible refine (hypercuberef2_Same.calls k A16 c16 l A17 c17 l true wr HL9.out HL.out.1 HM9.out HM.out.1 H6.out).mono ?_)
       rintro e w10 ⟨rfl, hb⟩
       have HL10 := am (Kd.C_below HL9.out hb)
       have HM10 := am (Kd.C_below HM9.out hb)
       have HB10 := am (below_step HB9.out hb)
       clear hb)
    | (go_at_call 18
       (with_reducible refine (runs_Runs.calls k A16 c16 l 3 r w10 HL10.out HL.out.1 H4.out).mono ?_)
       rintro e w11 ⟨v11, rfl, ho0, hb⟩
       obtain ⟨A11, c11, rfl⟩ := Kd.R_slice ho0
       have HG11 := am (Kd.R_reads' ho0).2
       have HM11 := am (Kd.C_below HM10.out hb)
       have HB11 := am (below_step HB10.out hb)
       clear hb ho0)
    | (go_at_call 19
       (with_reducible refine (hypercuberef5_Runs.calls k A17 c17 l 3 r2 w11 HM11.out HM.out.1 H7.out).mono ?_)
       rintro e w12 ⟨v12, rfl, ho0, hb⟩
       obtain ⟨A12, c12, rfl⟩ := Kd.N_slice ho0
       have HF12 := am (Kd.N_reads' ho0).2
       have HG12 := am (Kd.C_below HG11.out.2 hb)
       have HB12 := am (below_step HB11.out hb)
       clear hb ho0)
    | (go_at_call 17
       (with_reducible refine (hypercuberef5_Same.calls k A11 c11 r A12 c12 r2 true w12 HG12.out HG11.out.1 HF12.out.2 HF12.out.1 H8.out).mono ?_)
       rintro e w13 ⟨rfl, hb⟩
       have HB13 := am (below_step HB12.out hb)
       clear hb))
    go_ret
    exact ⟨rfl, HB13.out⟩
theorem hypercubelaw5_RunsOwn.walk (P : hypercubelaw5_RunsOwn.Pure) (a0 : Int) (a1 : Option Addr) (len1 cap1 : Nat) (z1 : List Int) (a2 : Int) (a3 : Option Addr) (len3 cap3 : Nat) (z3 : List Int) (a4 : Int) (a5 : Int) (w : World) (w0 : (Lit.int .i64 a0).wf = true) (w1 : (a1 = none ∧ len1 = 0 ∧ cap1 = 0 ∧ z1 = []) ∨ ∃ x, a1 = some x ∧ len1 ≤ cap1 ∧ cap1 ≤ maxLen ∧ z1.length = cap1 ∧ (∀ i, i < z1.length → w.cell? (x.add i) = some (.int .i64 (z1.getD i 0))) ∧ ∀ n ∈ z1, (Lit.int .i64 n).wf = true) (y1 : len1 * 8 ≤ 140737488351232) (w2 : (Lit.int .i64 a2).wf = true) (w3 : (a3 = none ∧ len3 = 0 ∧ cap3 = 0 ∧ z3 = []) ∨ ∃ x, a3 = some x ∧ len3 ≤ cap3 ∧ cap3 ≤ maxLen ∧ z3.length = cap3 ∧ (∀ i, i < z3.length → w.cell? (x.add i) = some (.int .i64 (z3.getD i 0))) ∧ ∀ n ∈ z3, (Lit.int .i64 n).wf = true) (y3 : len3 * 8 ≤ 140737488351232) (w4 : (Lit.int .i64 a4).wf = true) (w5 : (Lit.int .i64 a5).wf = true) :
  Calls Try.prog 8 #[.int .i64 a0, .slice a1 len1 cap1, .int .i64 a2, .slice a3 len3 cap3, .int .i64 a4, .int .i64 a5] w fun e w' => e = .returned (.bool true) ∧ Below w.heap.size w w' := by
 obtain ⟨l1, rfl, hr1, hm1, hw1, hc1⟩ := ReadsInt.ofRowC w1
 obtain ⟨l3, rfl, hr3, hm3, hw3, hc3⟩ := ReadsInt.ofRowC w3
 obtain ⟨k, cards, meas, rows, s, l, r, r2, h1, h2, h3, h4, h5, h6, h7, h8⟩ := P a0 l1 a2 l3 a4 a5 w0 hm1 y1 hw1 w2 hm3 y3 hw3 w4 w5
 exact hypercubelaw5_RunsOwn.calls k a0 _ _ l1 a2 _ _ l3 a4 a5 w (Kd.C_of_reads (d := (0 : Int)) (h1 := fun _ => rfl) hr1) hc1 (Kd.C_of_reads (d := (0 : Int)) (h1 := fun _ => rfl) hr3) hc3 h1 h2 h3 h4 h5 h6 h7 h8
end Go.Proofs.Ytmnepkbmcnpjlaa.Q
