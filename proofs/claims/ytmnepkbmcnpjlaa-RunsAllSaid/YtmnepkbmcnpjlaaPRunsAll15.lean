-- packed by wip/tools/pack.py (a program of this session) out of its own texts
import Derived.Test.YtmnepkbmcnpjlaaPRunsAll0
import Derived.ArgAppend
import Derived.Below
import Derived.BigQuiet
import Derived.Deep.AppendLies
import Derived.Deep.CutBlock
import Derived.Deep.DeepCutAuto
import Derived.Deep.Draws
import Derived.Deep.LoopGhost
import Derived.Deep.OwnRows
import Derived.Deep.QuietTactic
import Derived.Deep.RegionHeld3
import Derived.KernelRfl
import Derived.Laws.BitsLemmas
import Derived.Laws.BytesArg
import Derived.Laws.EntriesVeiled
import Derived.Laws.Externs
import Derived.Laws.IdiomCopy
import Derived.Laws.MakeOwn
import Derived.Laws.OwnMore
import Derived.Laws.Rows
import Derived.Laws.Slices
import Derived.Lib.AppendStr
import Derived.Lib.AppendZeros
import Derived.Lib.AppendZerosOnto
import Derived.Lib.ConvBytes
import Derived.Lib.JoinLaws
import Derived.Lib.Overlaps
import Derived.Lib.SliceRun
import Derived.Lib.Walk
import Derived.LoopIn
import Derived.LoopNIn
import Derived.Maps.AppendAt
import Derived.OrdersHeld
import Derived.OrdersIn
import Derived.OwnWalk
import Derived.OwnWalkIn
import Derived.RangeFuncBound
import Derived.RangeFuncBox
import Derived.RangeFuncCalls
import Derived.RangeFuncLeaves
import Derived.RangeFuncNested
import Derived.RangeFuncOwn
import Derived.RowKit
import Derived.RowKit3
import Derived.Shelf.Abstract
import Derived.Shelf.RegionOpen
import Derived.Shelf.RegionOpenPlain
import Derived.Tactics
import Derived.TacticsInMore
import Derived.Test.YtmnepkbmcnpjlaaProg
import Derived.WalkKit
import Derived.WalkSpells
import Derived.WideLaws
import Derived.Test.YtmnepkbmcnpjlaaPRunsAll1
import Derived.Test.YtmnepkbmcnpjlaaPRunsAll3
import Derived.Test.YtmnepkbmcnpjlaaPRunsAll4
import Derived.Test.YtmnepkbmcnpjlaaPRunsAll5
import Derived.Test.YtmnepkbmcnpjlaaPRunsAll6
import Derived.Test.YtmnepkbmcnpjlaaPRunsAll7
import Derived.Test.YtmnepkbmcnpjlaaPRunsAll8
import Derived.Test.YtmnepkbmcnpjlaaPRunsAll9
import Derived.Test.YtmnepkbmcnpjlaaPRunsAll10
import Derived.Test.YtmnepkbmcnpjlaaPRunsAll11
import Derived.Test.YtmnepkbmcnpjlaaPRunsAll12
import Derived.Test.YtmnepkbmcnpjlaaPRunsAll13
import Derived.Test.YtmnepkbmcnpjlaaPRunsAll14
namespace Go.Proofs.Ytmnepkbmcnpjlaa.Q
open Go.RowKit Go.Proofs.YtmnepkbmcnpjlaaW.PrintWords Go.Proofs.YtmnepkbmcnpjlaaW.PrintLast Go.Proofs.YtmnepkbmcnpjlaaW.PrintMore
set_option linter.unusedVariables false
set_option linter.unusedSimpArgs false
theorem bsfR_l0 (xs : List S41) (x : S41) (hn : xs.length ≤ 1000000) (hs : ∀ y ∈ xs, SmallC y) (p : Nat) (hp : p ≤ xs.length) (h1 : ∀ m (h : m < xs.length), m < p → lexC (xs[m]).f0 x.f0 < 0) (h2 : ∀ m (h : m < xs.length), p ≤ m → 0 ≤ lexC (xs[m]).f0 x.f0) (d : Nat) :
  ∀ i j : Nat, j - i ≤ d → i ≤ p → p ≤ j → j ≤ xs.length → Ev (fun k => bsf_R1.l0 k xs (xs.length : Int) (i : Int) (j : Int) x.f0 x.f1 x.f2 x.f3 x.f4) ((p : Int), if h : p < xs.length then lexC (xs[p]).f0 x.f0 == 0 else false) := by
 have hcmp : ∀ m (h : m < xs.length), Ev (fun k => runs_by.f k (xs[m]).f0 (xs[m]).f1 (xs[m]).f2 (xs[m]).f3 (xs[m]).f4 x.f0 x.f1 x.f2 x.f3 x.f4) (lexC (xs[m]).f0 x.f0) := fun m h => by
  refine Ev.congr (f := fun k => (cell_Less.f k (xs[m]).f0 x.f0).bind fun t => some t) (fun k => rfl) ?_
  exact Ev.bind (cell_less_ev _ _ (by have := (hs _ (List.getElem_mem h)).1; omega)) (Ev.now _)
 induction d with
 | zero =>
  intro i j hd hip hpj hjn
  have e1 : i = p := by omega
  have e2 : j = p := by omega
  rw [e1, e2]
  by_cases hlt : p < xs.length
  ·rw [dif_pos hlt]
   refine Ev.step (f := fun k => (runs_by.f k (xs[p]).f0 (xs[p]).f1 (xs[p]).f2 (xs[p]).f3 (xs[p]).f4 x.f0 x.f1 x.f2 x.f3 x.f4).bind fun t => some ((p : Int), t == 0)) (fun k => by simp only [bsf_R1.l0]; rw [if_neg (by omega), if_pos (by omega), if_pos (by omega), if_pos (by omega), rdC_get hlt]) (Ev.bind (hcmp p hlt) (Ev.now _))
  ·rw [dif_neg hlt]
   exact Ev.step (f := fun _ => some ((p : Int), false)) (fun k => by simp only [bsf_R1.l0]; rw [if_neg (by omega), if_neg (by omega)]) (Ev.now _)
 | succ d ih =>
  intro i j hd hip hpj hjn
  by_cases hij : i < j
  ·have hh : (i + j) / 2 < xs.length := by omega
   have hstep : ∀ k, bsf_R1.l0 (k + 1) xs (xs.length : Int) (i : Int) (j : Int) x.f0 x.f1 x.f2 x.f3 x.f4 = (runs_by.f k (xs[(i + j) / 2]).f0 (xs[(i + j) / 2]).f1 (xs[(i + j) / 2]).f2 (xs[(i + j) / 2]).f3 (xs[(i + j) / 2]).f4 x.f0 x.f1 x.f2 x.f3 x.f4).bind fun t => if t < 0 then bsf_R1.l0 k xs (xs.length : Int) (((i + j) / 2 + 1 : Nat) : Int) (j : Int) x.f0 x.f1 x.f2 x.f3 x.f4 else bsf_R1.l0 k xs (xs.length : Int) (i : Int) (((i + j) / 2 : Nat) : Int) x.f0 x.f1 x.f2 x.f3 x.f4 := fun k => by
    simp only [bsf_R1.l0]
    rw [if_pos (by omega), wrap_mid i j (by omega), if_pos (by omega), if_pos (by omega), rdC_get hh, w64s hh (by omega)]
   refine Ev.step hstep ?_
   by_cases hlt : (i + j) / 2 < p
   ·have c := h1 _ hh hlt
    exact Ev.bind (hcmp _ hh) (Ev.congr (fun k => by rw [if_pos c]) (ih ((i + j) / 2 + 1) j (by omega) (by omega) hpj hjn))
   ·have c := h2 _ hh (by omega)
    exact Ev.bind (hcmp _ hh) (Ev.congr (fun k => by rw [if_neg (by omega)]) (ih i ((i + j) / 2) (by omega) hip (by omega) (by omega)))
  ·exact ih i j (by omega) hip hpj hjn
theorem has_at (x : S41) (xs : List S41) (hs : SortedC xs) (p : Nat) (h1 : ∀ m (h : m < xs.length), m < p → lexC (xs[m]).f0 x.f0 < 0) (h2 : ∀ m (h : m < xs.length), p ≤ m → 0 ≤ lexC (xs[m]).f0 x.f0) :
  (if h : p < xs.length then lexC (xs[p]).f0 x.f0 == 0 else false) = hasK xs x := by
 rw [Bool.eq_iff_iff]
 constructor
 ·intro h
  by_cases hlt : p < xs.length
  ·rw [dif_pos hlt] at h
   exact List.any_eq_true.2 ⟨xs[p], List.getElem_mem hlt, h⟩
  ·rw [dif_neg hlt] at h; cases h
 ·intro h
  obtain ⟨y, hy, he⟩ := List.any_eq_true.1 h
  obtain ⟨m, hm, rfl⟩ := List.getElem_of_mem hy
  have he' : lexC (xs[m]).f0 x.f0 = 0 := by simpa using he
  rcases Nat.lt_trichotomy m p with c | c | c
  ·have := h1 m hm c; omega
  ·subst c; rw [dif_pos hm]; exact he
  ·have hlt : p < xs.length := by omega
   have hpm := (List.pairwise_iff_getElem.1 hs) p m hlt hm c
   rw [(lexC_key he').1] at hpm
   have := h2 p hlt (Nat.le_refl _)
   omega
theorem group_one (x : S41) : groupL [x] = [x] := rfl
theorem runsPut_ev (xs : List S41) (x : S41) (most : Nat) (hn : xs.length ≤ 1000000) (hs : ∀ y ∈ xs, SmallC y) (hx : SmallC x) (ho : SortedC xs) :
  Ev (fun k => runsPut.f k xs x (most : Int)) (if hasK xs x = true ∨ xs.length < most then (true, putL x xs) else (false, xs)) := by
 obtain ⟨p, hp, h1, h2⟩ := place x xs ho
 have hb := bsfR_l0 xs x hn hs p hp h1 h2 xs.length 0 xs.length (by omega) (by omega) hp (by omega)
 have hb' : Ev (fun k => bsf_R1.f k xs x.f0 x.f1 x.f2 x.f3 x.f4) ((p : Int), if h : p < xs.length then lexC (xs[p]).f0 x.f0 == 0 else false) := hb
 have hput := putL_at x p xs hp h1 (fun h => h2 p h (by omega))
 have hhas := has_at x xs ho p h1 h2
 have hg : Ev (fun k => cell_Group.f k [x]) [x] := by
  have := group_ev [x] (by simp) (fun y hy => by rw [List.mem_singleton.1 hy]; exact hx)
  rwa [group_one] at this
 unfold runsPut.f
 refine Ev.bind hb' ?_
 simp only [hhas]
 by_cases hh : hasK xs x = true
 ·rw [if_pos (Or.inl hh)]
  rw [hh] at hhas
  have hlt : p < xs.length := Decidable.byContradiction (fun hlt => by rw [dif_neg hlt] at hhas; cases hhas)
  rw [dif_pos hlt] at hput hhas
  have c : lexC (xs[p]).f0 x.f0 = 0 := by simpa using hhas
  rw [if_pos c] at hput
  have hj := Ev.bind (f := fun (_ : Nat) (j : List Int × Int × List Int × List Int × List Int) => some (true, xs.set p (⟨j.1, j.2.1, j.2.2.1, j.2.2.2.1, j.2.2.2.2⟩ : S41))) (join_ev (xs[p]) x (hs _ (List.getElem_mem hlt))) (Ev.now _)
  rw [hput]
  exact Ev.congr (fun k => by rw [if_pos hh, if_pos (by omega), rdC_get hlt, Int.toNat_natCast]) hj
 ·have hput' : putL x xs = xs.take p ++ [x] ++ xs.drop p := by
   rw [hput]
   by_cases hlt : p < xs.length
   ·rw [dif_pos hlt] at hhas ⊢
    have c : ¬ lexC (xs[p]).f0 x.f0 = 0 := fun c => by rw [c] at hhas; simp at hhas; first | exact hh hhas | exact hh hhas.symm
    rw [if_neg c]; simp
   ·rw [dif_neg hlt]; simp
  by_cases hm : xs.length < most
  ·rw [if_pos (Or.inr hm), hput']
   refine Ev.congr (fun k => by rw [if_neg hh, if_neg (by omega)]) (Ev.bind hg ?_)
   exact Ev.congr (f := fun _ => some (true, xs.take p ++ [x] ++ xs.drop p)) (fun k => by rw [if_pos ⟨by omega, by omega, by omega, rfl⟩, Int.toNat_natCast]) (Ev.now _)
  ·rw [if_neg (by simp [hh]; omega)]
   exact Ev.congr (f := fun _ => some (false, xs)) (fun k => by rw [if_neg hh, if_pos (by omega)]) (Ev.now _)
def runsR (most : Nat) : List S41 → List S41 → List (List S41)
 | held, [] => if 0 < held.length then [held] else []
 | held, c :: cs => if hasK held c = true ∨ held.length < most then runsR most (putL c held) cs else held :: runsR most [c] cs
theorem putL_le {most : Nat} {held : List S41} {c : S41} (ho : SortedC held) (hm : held.length ≤ most) (h : hasK held c = true ∨ held.length < most) : (putL c held).length ≤ most := by
 by_cases hh : hasK held c = true
 ·rw [putL_old c held ho hh]; exact hm
 ·have := putL_length c held
  have := h.resolve_left hh
  omega
theorem mx_one (most : Nat) (h : 1 ≤ most) : mx (most : Int) 1 = (most : Int) := by unfold mx; split <;> omega
theorem sorted_one (c : S41) : SortedC [c] := List.pairwise_singleton _ _
theorem put_nil_f (most : Nat) (h1 : 1 ≤ most) (c : S41) (hc : SmallC c) : Ev (fun k => runsPut.f k [] c (most : Int)) (true, [c]) := by
 have := runsPut_ev [] c most (by simp) (fun y h => by simp at h) hc List.Pairwise.nil
 rwa [if_pos (Or.inr (by simp; omega))] at this
theorem runsGo_ev (most : Nat) (h1 : 1 ≤ most) : ∀ (cs : List S41) (out : List (List S41)) (held : List S41), (∀ y ∈ cs, SmallC y) → (∀ y ∈ held, SmallC y) → SortedC held → held.length + cs.length ≤ 1000000 → out.length + cs.length ≤ 1000000 →
  ∃ o h, Ev (fun k => runsGo k (most : Int) out held cs) (o, h) ∧ h.length ≤ 1000000 ∧ o.length ≤ 1000000 ∧ (if 0 < h.length then o ++ [h] else o) = out ++ runsR most held cs
 | [], out, held, _, _, _, hb, hb2 => ⟨out, held, Ev.now _, by simpa using hb, by simpa using hb2, by unfold runsR; split <;> simp⟩
 | c :: cs, out, held, hcs, hh, ho, hb, hb2 => by
  have hc := hcs c (by simp)
  have hcs' := fun y h => hcs y (List.mem_cons_of_mem _ h)
  simp only [List.length_cons] at hb hb2
  have hp := runsPut_ev held c most (by omega) hh hc ho
  by_cases h : hasK held c = true ∨ held.length < most
  ·rw [if_pos h] at hp
   have := putL_length c held
   obtain ⟨o, h', e1, e2, e3, e4⟩ := runsGo_ev most h1 cs out (putL c held) hcs' (putL_small c hc held hh) (putL_sorted c held ho) (by omega) (by omega)
   refine ⟨o, h', ?_, e2, e3, by rw [e4]; simp only [runsR]; rw [if_pos h]⟩
   refine Ev.congr (fun k => by unfold runsGo; rfl) (Ev.bind hp ?_)
   exact Ev.congr (fun k => by rw [if_pos rfl]) e1
  ·rw [if_neg h] at hp
   obtain ⟨o, h', e1, e2, e3, e4⟩ := runsGo_ev most h1 cs (out ++ [held]) [c] hcs' (fun y hy => by rw [List.mem_singleton.1 hy]; exact hc) (sorted_one c) (by simp; omega) (by simp; omega)
   refine ⟨o, h', ?_, e2, e3, by rw [e4]; simp only [runsR]; rw [if_neg h]; simp⟩
   refine Ev.congr (fun k => by unfold runsGo; rfl) (Ev.bind hp ?_)
   refine Ev.congr (fun k => by rw [if_neg (by simp)]; dsimp only; rw [if_pos ⟨by omega, by omega⟩, mx_one most h1]) (Ev.bind (put_nil_f most h1 c hc) ?_)
   exact e1
theorem runs_ev (most : Nat) (h1 : 1 ≤ most) (cs : List S41) (hcs : ∀ y ∈ cs, SmallC y) (hl : cs.length ≤ 1000000) : Ev (fun k => runs_Runs.f k cs (most : Int)) (runsR most [] cs) := by
 obtain ⟨o, h, e1, e2, e3, e4⟩ := runsGo_ev most h1 cs [] [] hcs (fun y h => by simp at h) List.Pairwise.nil (by simpa using hl) (by simpa using hl)
 rw [List.nil_append] at e4
 rw [← e4]
 refine Ev.bind e1 ?_
 refine Ev.congr (f := fun _ => some (if 0 < h.length then o ++ [h] else o)) (fun k => ?_) (Ev.now _)
 dsimp only
 by_cases c : 0 < h.length
 ·simp only [if_pos c]
  rw [if_pos ⟨by omega, by omega⟩, Option.bind_some, if_pos (by simp; omega)]
 ·simp only [if_neg c]
  rw [Option.bind_some, if_pos (by omega)]
theorem has_l0 (l : List S41) (c : S41) (hs : ∀ y ∈ l, SmallC y) (hl : l.length ≤ 1000000) (d : Nat) : ∀ i : Nat, l.length - i = d → i ≤ l.length → Ev (fun k => hypercuberef5_has.l0 k l c.f0 (i : Int)) (hasK (l.drop i) c) := by
 induction d with
 | zero =>
  intro i hd hi
  have e : l.drop i = [] := List.drop_eq_nil_of_le (by omega)
  rw [e]
  exact Ev.step (f := fun _ => some false) (fun k => by simp only [hypercuberef5_has.l0]; rw [if_neg (by omega)]) (Ev.now _)
 | succ d ih =>
  intro i hd hi
  have hlt : i < l.length := by omega
  rw [drop_cons hlt, hasK_cons]
  refine Ev.step (f := fun k => (hypercuberef2_Less.f k (l[i]).f0 c.f0).bind fun t => if t = 0 then some true else hypercuberef5_has.l0 k l c.f0 ((i + 1 : Nat) : Int)) (fun k => ?_) (Ev.bind (ref_less_ev (l[i]).f0 c.f0 (by have := (hs _ (List.getElem_mem hlt)).1; omega)) ?_)
  ·simp only [hypercuberef5_has.l0]
   rw [if_pos (by omega), if_pos (by omega), rdC_get hlt, w64s hlt (by omega)]
  ·by_cases e : lexC (l[i]).f0 c.f0 = 0
   ·rw [show (lexC (l[i]).f0 c.f0 == 0) = true by simp [e], Bool.true_or]
    exact Ev.congr (fun k => by rw [if_pos e]) (Ev.now _)
   ·rw [show (lexC (l[i]).f0 c.f0 == 0) = false by simp [e], Bool.false_or]
    exact Ev.congr (fun k => by rw [if_neg e]) (ih (i + 1) (by omega) (by omega))
theorem has_ev (l : List S41) (c : S41) (hs : ∀ y ∈ l, SmallC y) (hl : l.length ≤ 1000000) : Ev (fun k => hypercuberef5_has.f k l c.f0) (hasK l c) := by
 have h := has_l0 l c hs hl l.length 0 (by omega) (by omega)
 simp only [List.drop_zero] at h
 exact Ev.congr (fun k => by unfold hypercuberef5_has.f; rfl) h
theorem ref_runs_l0 {n : Nat} (hn : n ≤ 100) (most : Nat) (h1 : 1 ≤ most) (l : List S41) (hr : RegL n l) (hl : l.length ≤ 100000) (d : Nat) : ∀ (i : Nat) (out : List (List S41)) (held : List S41), l.length - i = d → i ≤ l.length → RegL n held → SortedC held → held.length ≤ most → held.length ≤ i → out.length ≤ i →
  Ev (fun k => hypercuberef5_Runs.l0 k l (most : Int) out held (i : Int)) (out ++ runsR most held (l.drop i)) := by
 induction d with
 | zero =>
  intro i out held hd hi hh ho hm hb hb2
  have e : l.drop i = [] := List.drop_eq_nil_of_le (by omega)
  rw [e]
  refine Ev.step (f := fun _ => some (out ++ runsR most held [])) (fun k => ?_) (Ev.now _)
  simp only [hypercuberef5_Runs.l0, runsR]
  rw [if_neg (by omega)]
  by_cases c : 0 < held.length
  ·rw [if_pos (by omega), if_pos (by omega), if_pos c]
  ·rw [if_neg (by omega), if_neg c, List.append_nil]
 | succ d ih =>
  intro i out held hd hi hh ho hm hb hb2
  have hlt : i < l.length := by omega
  have hx := hr _ (List.getElem_mem hlt)
  rw [drop_cons hlt]
  have hput : ∀ held', RegL n held' → held'.length ≤ 100000 → Ev (fun k => hypercuberef2_Put.f k held' (l[i]).f0 (l[i]).f1 (l[i]).f2 (l[i]).f3 (l[i]).f4) (putL l[i] held') := fun held' hh' hb' => ref_put_ev hn (by omega) hh' hx
  refine Ev.step (f := fun k => (hypercuberef5_has.f k held (l[i]).f0).bind fun t389 => (if t389 = true then ((hypercuberef2_Put.f k held (l[i]).f0 (l[i]).f1 (l[i]).f2 (l[i]).f3 (l[i]).f4).bind fun t391 => (hypercuberef5_Runs.l0 k l (most : Int) out t391 ((i + 1 : Nat) : Int))) else (if (held.length : Int) = (most : Int) then (if out.length < 5864062014805 then ((hypercuberef2_Put.f k ([] : List S41) (l[i]).f0 (l[i]).f1 (l[i]).f2 (l[i]).f3 (l[i]).f4).bind fun t398 => (hypercuberef5_Runs.l0 k l (most : Int) (out ++ [held]) t398 ((i + 1 : Nat) : Int))) else (none)) else ((hypercuberef2_Put.f k held (l[i]).f0 (l[i]).f1 (l[i]).f2 (l[i]).f3 (l[i]).f4).bind fun t402 => (hypercuberef5_Runs.l0 k l (most : Int) out t402 ((i + 1 : Nat) : Int)))))) (fun k => ?_) (Ev.bind (has_ev held l[i] (hh.small hn) (by omega)) ?_)
  ·simp only [hypercuberef5_Runs.l0]
   rw [if_pos (by omega), if_pos (by omega), rdC_get hlt, w64s hlt (by omega)]
  ·have hgo := ih (i + 1) out (putL l[i] held) (by omega) (by omega) (regL_put hx hh) (putL_sorted _ _ ho)
   have := putL_length l[i] held
   by_cases e : hasK held l[i] = true
   ·simp only [runsR]
    rw [if_pos (Or.inl e)]
    exact Ev.congr (fun k => by rw [if_pos e]) (Ev.bind (hput held hh (by omega)) (hgo (putL_le ho hm (.inl e)) (by omega) (by omega)))
   ·by_cases hf : held.length < most
    ·simp only [runsR]
     rw [if_pos (Or.inr hf)]
     exact Ev.congr (fun k => by rw [if_neg e, if_neg (by omega)]) (Ev.bind (hput held hh (by omega)) (hgo (putL_le ho hm (.inr hf)) (by omega) (by omega)))
    ·simp only [runsR]
     rw [if_neg (by simp [e]; omega)]
     have hgo2 := ih (i + 1) (out ++ [held]) [l[i]] (by omega) (by omega) (fun c hc => by rw [List.mem_singleton.1 hc]; exact hx) (sorted_one _) (by simpa using h1) (by simp) (by simp; omega)
     rw [List.append_assoc, List.singleton_append] at hgo2
     refine Ev.congr (fun k => by rw [if_neg e, if_pos (by omega), if_pos (by omega)]) (Ev.bind (hput [] (regL_nil n) (by simp)) ?_)
     exact hgo2
theorem ref_runs_ev {n : Nat} (hn : n ≤ 100) (most : Nat) (h1 : 1 ≤ most) {l : List S41} (hr : RegL n l) (hl : l.length ≤ 100000) : Ev (fun k => hypercuberef5_Runs.f k l (most : Int)) (runsR most [] l) := by
 have h := ref_runs_l0 hn most h1 l hr hl l.length 0 [] [] (by omega) (by omega) (regL_nil n) List.Pairwise.nil (by simp) (by simp) (by simp)
 simp only [List.drop_zero, List.nil_append] at h
 exact Ev.congr (fun k => by unfold hypercuberef5_Runs.f; rfl) h
def srtB : List S41 → Bool
 | a :: b :: t => decide (lexC a.f0 b.f0 < 0) && srtB (b :: t)
 | _ => true
theorem srtGo_ev : ∀ l : List S41, (∀ y ∈ l, SmallC y) → Ev (fun k => srtGo k l) (srtB l)
 | [], _ => Ev.congr (f := fun _ => some true) (fun k => by unfold srtGo; rfl) (Ev.now _)
 | [_], _ => Ev.congr (f := fun _ => some true) (fun k => by unfold srtGo; rfl) (Ev.now _)
 | a :: b :: t, h => by
  have ih := srtGo_ev (b :: t) (fun y hy => h y (List.mem_cons_of_mem _ hy))
  have hc : Ev (fun k => runs_by.f k a.f0 a.f1 a.f2 a.f3 a.f4 b.f0 b.f1 b.f2 b.f3 b.f4) (lexC a.f0 b.f0) := by
   refine Ev.congr (f := fun k => (cell_Less.f k a.f0 b.f0).bind fun t => some t) (fun k => rfl) ?_
   exact Ev.bind (cell_less_ev _ _ (by have := (h a (by simp)).1; omega)) (Ev.now _)
  refine Ev.congr (fun k => by unfold srtGo; rfl) (Ev.bind hc (Ev.bind ih ?_))
  exact Ev.now _
theorem sorted_ev {l : List S41} (h : ∀ y ∈ l, SmallC y) : Ev (fun k => runs_Sorted.f k l) (srtB l) := Ev.congr (fun k => by unfold runs_Sorted.f; rfl) (srtGo_ev l h)
theorem srtB_drop {l : List S41} {i : Nat} (h1 : 1 ≤ i) (h : i < l.length) : srtB (l.drop (i - 1)) = (decide (lexC (l[i - 1]).f0 (l[i]).f0 < 0) && srtB (l.drop i)) := by
 rw [drop_cons (i := i - 1) (by omega), show i - 1 + 1 = i by omega, drop_cons h]
 rfl
theorem ref_sorted_l0 (l : List S41) (hs : ∀ y ∈ l, SmallC y) (hl : l.length ≤ 1000000) (d : Nat) : ∀ i : Nat, l.length - i = d → 1 ≤ i → Ev (fun k => hypercuberef5_Sorted.l0 k l (i : Int)) (srtB (l.drop (i - 1))) := by
 have hend : ∀ i : Nat, l.length ≤ i → 1 ≤ i → Ev (fun k => hypercuberef5_Sorted.l0 k l (i : Int)) (srtB (l.drop (i - 1))) := fun i hi h1 => by
  have e : srtB (l.drop (i - 1)) = true := by
   by_cases c : i - 1 < l.length
   ·rw [drop_cons c, List.drop_eq_nil_of_le (by omega)]; rfl
   ·rw [List.drop_eq_nil_of_le (by omega)]; rfl
  rw [e]
  exact Ev.step (f := fun _ => some true) (fun k => by simp only [hypercuberef5_Sorted.l0]; rw [if_neg (by omega)]) (Ev.now _)
 induction d with
 | zero => exact fun i hd h1 => hend i (by omega) h1
 | succ d ih =>
  intro i hd h1
  have hlt : i < l.length := by omega
  have hlt' : i - 1 < l.length := by omega
  have hw : wrap64 ((i : Int) - 1) = ((i - 1 : Nat) : Int) := by rw [w64 (by omega) (by omega)]; omega
  rw [srtB_drop h1 hlt]
  refine Ev.step (f := fun k => (hypercuberef2_Less.f k (l[i - 1]).f0 (l[i]).f0).bind fun t => if t ≥ 0 then some false else hypercuberef5_Sorted.l0 k l ((i + 1 : Nat) : Int)) (fun k => ?_) (Ev.bind (ref_less_ev (l[i - 1]).f0 (l[i]).f0 (by have := (hs _ (List.getElem_mem hlt')).1; omega)) ?_)
  ·simp only [hypercuberef5_Sorted.l0]
   rw [if_pos (by omega), hw, if_pos (by omega), if_pos (by omega), if_pos (by omega), rdC_get hlt, rdC_get hlt', w64s hlt (by omega)]
  ·by_cases c : lexC (l[i - 1]).f0 (l[i]).f0 ≥ 0
   ·rw [decide_eq_false (by omega), Bool.false_and]
    exact Ev.congr (fun k => by rw [if_pos c]) (Ev.now _)
   ·rw [decide_eq_true (by omega), Bool.true_and]
    have := ih (i + 1) (by omega) (by omega)
    rw [Nat.add_sub_cancel] at this
    exact Ev.congr (fun k => by rw [if_neg c]) this
theorem ref_sorted_ev {l : List S41} (hs : ∀ y ∈ l, SmallC y) (hl : l.length ≤ 1000000) : Ev (fun k => hypercuberef5_Sorted.f k l) (srtB l) := by
 have h : Ev (fun k => hypercuberef5_Sorted.l0 k l 1) (srtB l) := ref_sorted_l0 l hs hl (l.length - 1) 1 rfl (Nat.le_refl 1)
 exact Ev.congr (fun k => by unfold hypercuberef5_Sorted.f; rfl) h
theorem rdL_get {l : List (List S41)} {i : Nat} (h : i < l.length) : rd_L3 l (i : Int) = l[i] := by simp [rd_L3, List.getD_eq_getElem?_getD, h]
theorem same5_l0 (l : List (List S41)) (hl : l.length ≤ 1000000) (hs : ∀ r ∈ l, r.length ≤ 1000000 ∧ ∀ c ∈ r, SmallC c) (d : Nat) : ∀ i : Nat, l.length - i = d → i ≤ l.length → Ev (fun k => hypercuberef5_Same.l0 k l l (i : Int)) true := by
 induction d with
 | zero =>
  intro i hd hi
  exact Ev.step (f := fun _ => some true) (fun k => by simp only [hypercuberef5_Same.l0]; rw [if_neg (by omega)]) (Ev.now _)
 | succ d ih =>
  intro i hd hi
  have hlt : i < l.length := by omega
  have hh := hs _ (List.getElem_mem hlt)
  refine Ev.step (f := fun k => (hypercuberef2_Same.f k l[i] l[i]).bind fun t => if t = true then hypercuberef5_Same.l0 k l l ((i + 1 : Nat) : Int) else some false) (fun k => ?_) (Ev.bind (same_true rfl hh.1 hh.2) ?_)
  ·simp only [hypercuberef5_Same.l0]
   rw [if_pos (by omega), if_pos (by omega), if_pos (by omega), rdL_get hlt, w64s hlt (by omega)]
  ·exact Ev.congr (fun k => by rw [if_pos rfl]) (ih (i + 1) (by omega) (by omega))
theorem same5_true {l l' : List (List S41)} (h : l = l') (hl : l.length ≤ 1000000) (hs : ∀ r ∈ l, r.length ≤ 1000000 ∧ ∀ c ∈ r, SmallC c) : Ev (fun k => hypercuberef5_Same.f k l l') true := by
 subst h
 exact Ev.congr (fun k => by unfold hypercuberef5_Same.f; rw [if_pos rfl]; rfl) (same5_l0 l hl hs l.length 0 (by omega) (by omega))
theorem runsR_bounds (most : Nat) (h1 : 1 ≤ most) : ∀ (cs held : List S41), SortedC held → held.length ≤ most → (held = [] ∨ 0 < held.length) →
  ∀ (i : Nat) (h : i < (runsR most held cs).length), 1 ≤ ((runsR most held cs)[i]).length ∧ ((runsR most held cs)[i]).length ≤ most ∧ (i + 1 < (runsR most held cs).length → ((runsR most held cs)[i]).length = most) ∧ SortedC ((runsR most held cs)[i])
 | [], held, ho, hm, _, i, h => by
  unfold runsR at h ⊢
  by_cases c : 0 < held.length
  ·simp only [if_pos c] at h ⊢
   have : i = 0 := by simpa using h
   subst this
   exact ⟨c, hm, fun h => by simp at h, ho⟩
  ·simp only [if_neg c] at h; simp at h
 | c :: cs, held, ho, hm, hne, i, h => by
  by_cases hc : hasK held c = true ∨ held.length < most
  ·have e : runsR most held (c :: cs) = runsR most (putL c held) cs := by simp only [runsR]; rw [if_pos hc]
   have ih := runsR_bounds most h1 cs (putL c held) (putL_sorted c held ho) (putL_le ho hm hc) (by cases h : putL c held <;> simp)
   simp only [e] at h ⊢
   exact ih i h
  ·have e : runsR most held (c :: cs) = held :: runsR most [c] cs := by simp only [runsR]; rw [if_neg hc]
   have ih := runsR_bounds most h1 cs [c] (sorted_one c) (by simpa using h1) (.inr (by simp))
   have hfull : held.length = most := by
    have : ¬ held.length < most := fun h => hc (.inr h)
    omega
   simp only [e] at h ⊢
   cases i with
   | zero => simp only [List.getElem_cons_zero]; exact ⟨by omega, hm, fun _ => hfull, ho⟩
   | succ i =>
    simp only [List.getElem_cons_succ, List.length_cons] at h ⊢
    have := ih i (by omega)
    exact ⟨this.1, this.2.1, fun h => this.2.2.1 (by omega), this.2.2.2⟩
theorem runsR_total (most : Nat) : ∀ (cs held : List S41), (runsR most held cs).flatten.length ≤ held.length + cs.length
 | [], held => by unfold runsR; split <;> simp
 | c :: cs, held => by
  simp only [runsR]
  split
  ·have := runsR_total most cs (putL c held)
   have := putL_length c held
   simp only [List.length_cons]; omega
  ·have := runsR_total most cs [c]
   have e1 : ([c] : List S41).length = 1 := rfl
   rw [List.flatten_cons, List.length_append, List.length_cons]
   omega
theorem runsR_reg {n : Nat} (most : Nat) : ∀ (cs held : List S41), RegL n cs → RegL n held → ∀ r ∈ runsR most held cs, RegL n r
 | [], held, _, hh, r, hr => by
  unfold runsR at hr
  split at hr
  ·rw [List.mem_singleton.1 hr]; exact hh
  ·simp at hr
 | c :: cs, held, hc, hh, r, hr => by
  have hcs : RegL n cs := fun x hx => hc x (List.mem_cons_of_mem _ hx)
  simp only [runsR] at hr
  split at hr
  ·exact runsR_reg most cs (putL c held) hcs (regL_put (hc c (by simp)) hh) r hr
  ·rcases List.mem_cons.1 hr with e | e
   ·rw [e]; exact hh
   ·exact runsR_reg most cs [c] hcs (fun x hx => by rw [List.mem_singleton.1 hx]; exact hc c (by simp)) r e
theorem runsR_len (most : Nat) (h1 : 1 ≤ most) (cs : List S41) : (runsR most [] cs).length ≤ cs.length ∧ ∀ r ∈ runsR most [] cs, r.length ≤ cs.length := by
 have ht := runsR_total most cs []
 simp only [List.length_nil, Nat.zero_add] at ht
 have hb := runsR_bounds most h1 cs [] List.Pairwise.nil (by simp) (.inl rfl)
 generalize runsR most [] cs = rs at ht hb
 have hsum : ∀ l : List (List S41), (∀ r ∈ l, 1 ≤ r.length) → l.length ≤ l.flatten.length ∧ ∀ r ∈ l, r.length ≤ l.flatten.length := by
  intro l
  induction l with
  | nil => intro _; exact ⟨by simp, fun r h => by simp at h⟩
  | cons x l ih =>
   intro h
   obtain ⟨i1, i2⟩ := ih (fun r hr => h r (List.mem_cons_of_mem _ hr))
   have := h x (by simp)
   refine ⟨by simp only [List.length_cons, List.flatten_cons, List.length_append]; omega, fun r hr => ?_⟩
   rcases List.mem_cons.1 hr with e | e
   ·rw [e]; simp
   ·have := i2 r e; simp only [List.flatten_cons, List.length_append]; omega
 obtain ⟨s1, s2⟩ := hsum rs (fun r hr => by
  obtain ⟨i, hi, rfl⟩ := List.getElem_of_mem hr
  exact (hb i hi).1)
 exact ⟨by omega, fun r hr => by have := s2 r hr; omega⟩
theorem within5_eq (a n : Int) (h0 : 0 < n) (h1 : n ≤ 4611686018427387904) : hypercubelaw5_within.f a n = some (a % n) := by
 have := within2_eq a n h0 h1
 unfold hypercubelaw2_within.f at this
 unfold hypercubelaw5_within.f
 exact this
theorem most_eq (a : Int) (m : Nat) (h0 : 0 < m) (h1 : m ≤ 1000) : ∃ k : Nat, 1 ≤ k ∧ k ≤ m ∧ hypercubelaw5_within.f a (m : Int) = some (a % m) ∧ wrap64 (1 + a % (m : Int)) = (k : Int) := by
 have b0 := Int.emod_nonneg a (show (m : Int) ≠ 0 by omega)
 have b1 := Int.emod_lt_of_pos a (show (0 : Int) < m by omega)
 refine ⟨(1 + a % (m : Int)).toNat, by omega, by omega, within5_eq _ _ (by omega) (by omega), ?_⟩
 rw [w64 (by omega) (by omega)]; omega
end Go.Proofs.Ytmnepkbmcnpjlaa.Q
namespace Go.Proofs.Ytmnepkbmcnpjlaa.Q
open Go.RowKit Go.Proofs.YtmnepkbmcnpjlaaW.PrintWords Go.Proofs.YtmnepkbmcnpjlaaW.PrintLast Go.Proofs.YtmnepkbmcnpjlaaW.PrintMore
set_option linter.unusedVariables false
set_option linter.unusedSimpArgs false
theorem known_runs : runs_Runs.f 9 [⟨[2], 1, [], [], []⟩, ⟨[1], 1, [], [], []⟩] 2 = some [[⟨[1], 1, [], [], []⟩, ⟨[2], 1, [], [], []⟩]] := by kernel_rfl
theorem known_runs0 : runs_Runs.f 9 [] 1 = some [] := by kernel_rfl
theorem known_sorted : runs_Sorted.f 9 [⟨[1], 1, [], [], []⟩, ⟨[2], 1, [], [], []⟩] = some true := by kernel_rfl
theorem known_not : runs_Sorted.f 9 [⟨[2], 1, [], [], []⟩, ⟨[1], 1, [], [], []⟩] = some false := by kernel_rfl
theorem rC_of_blk {w : World} {g : Nat} {xs : List Int} (h : w.heap[g]? = some (.cells (encs (Value.int .i64) xs).toArray 3 (0, 0))) (hl : xs.length ≤ maxLen) : Kd.C (Kd.int .i64) w (some ⟨g, 0, none⟩) xs.length xs := by
 have hR : Kd.R (Kd.int .i64) 3 w 0 (fun _ => True) (.slice (some ⟨g, 0, none⟩) xs.length xs.length) xs := by
  refine Kd.R_of_own (h1 := fun _ => rfl) ⟨by rw [encs_length, Nat.mul_one], .inr ⟨g, xs.length, _, rfl, Nat.zero_le _, h, Nat.le_refl _, hl, ?_, ?_⟩⟩ (fun _ _ => trivial)
  ·rw [List.size_toArray, encs_length, Nat.mul_one]
  ·rw [Nat.mul_one, ← encs_length (enc := Value.int .i64) xs]
   exact List.take_length
 exact (Kd.R_reads' hR).2.2
theorem rC_two {w : World} {g : Nat} {x y : S41} {cs ds : List Value} (h : w.heap[g]? = some (.cells (cs ++ ds).toArray 41 (0, 0))) (hx : k41.K w x cs) (hy : k41.K w y ds) : Kd.C k41 w (some ⟨g, 0, none⟩) [x, y].length [x, y] := by
 have hl : cs.length = 5 := k41.K_len hx
 have hl2 : ds.length = 5 := k41.K_len hy
 refine ⟨rfl, by simp, fun _ => ⟨_, rfl, fun j p hj => ?_⟩⟩
 have hj2 : j < 2 := (List.getElem?_eq_some_iff.1 hj).1
 match j, hj2, hj with
 | 0, _, hj =>
  have hm : p = x := by simpa using hj.symm
  refine ⟨cs, hl, by rw [hm]; exact hx, fun i u hu => ?_⟩
  have hi : i < cs.length := (List.getElem?_eq_some_iff.1 hu).1
  rw [Addr.add_lit, cell_of_row w g _ _ _ _ h, List.getElem?_toArray, Nat.zero_add, show 0 * k41.sz + i = i by omega, List.getElem?_append_left hi]
  exact hu
 | 1, _, hj =>
  have hm : p = y := by simpa using hj.symm
  refine ⟨ds, hl2, by rw [hm]; exact hy, fun i u hu => ?_⟩
  rw [Addr.add_lit, cell_of_row w g _ _ _ _ h, List.getElem?_toArray, Nat.zero_add, show 1 * k41.sz + i = cs.length + i by rw [hl]; rfl, List.getElem?_append_right (by omega), Nat.add_sub_cancel_left]
  exact hu
theorem new_at {w : World} {n : Nat} (o : Obj) (h : w.heap.size = n) : (w.alloc o).heap[n]? = some o := by rw [← h]; exact heap_alloc_new w o
def hypercubelaw5_known.f : Option Bool := some true
set_option maxHeartbeats 8000000 in
set_option maxRecDepth 100000 in
theorem hypercubelaw5_known.calls (r : Bool) (w : World) (h : hypercubelaw5_known.f = some r) :
    Calls Try.prog 12 #[] w fun e w' => e = .returned (.bool r) ∧ Below w.heap.size w w' := by
 have e : true = r := Option.some.inj h
 subst e
 clear h
 have HB := am (Below.refl w.heap.size w)
 have hu41 := Try.underlying41
 have hkk : ∀ (W : World) (g1 : Nat) (x : Int), W.heap[g1]? = some (.cells #[.int .i64 x] 3 (0, 0)) → k41.K W (⟨[x], 1, [], [], []⟩ : S41) [.slice (some ⟨g1, 0, none⟩) 1 1, .int .i64 1, .slice none 0 0, .slice none 0 0, .slice none 0 0] := fun W g1 x h1 =>
  k41_mk W (⟨[x], 1, [], [], []⟩ : S41) (c0 := 1) (c2 := 0) (c3 := 0) (c4 := 0) (Nat.le_refl 1) (rC_of_blk (xs := [x]) h1 (by show 1 ≤ maxLen; decide)) (Nat.le_refl 0) (Kd.C_nil _ _) (Nat.le_refl 0) (Kd.C_nil _ _) (Nat.le_refl 0) (Kd.C_nil _ _)
 go_enter Try.func12, Try.ntmps12
 go_wp2_with (first
  | ((with_reducible refine gate_callee (f := 18) rfl ?_)
     refine goesL_ (some 11) rfl rfl Try.func18 (by kernel_rfl) rfl #[.slice (some ⟨w.heap.size + 1 + 1 + 1 + 1, 0, none⟩) 2 2, .int .i64 2] rfl (by (try simp only [List.map_toArray, List.map_cons, List.map_nil]); first | done | rfl) ?_
     refine name_calls ?_
     intro w2 hw2
     have b0 : w2.heap[w.heap.size]? = some (.cells #[.int .i64 2] 3 (0, 0)) := by rw [hw2]; exact blk_alloc (blk_alloc (blk_alloc (blk_alloc (new_at _ (by simp only [World.size_alloc])) _) _) _) _
     have b1 : w2.heap[w.heap.size + 1]? = some (.cells #[.int .i64 1] 3 (0, 0)) := by rw [hw2]; exact blk_alloc (blk_alloc (blk_alloc (new_at _ (by simp only [World.size_alloc])) _) _) _
     have b2 : w2.heap[w.heap.size + 1 + 1]? = some (.cells #[.slice (some ⟨w.heap.size, 0, none⟩) 1 1, .int .i64 1, .slice none 0 0, .slice none 0 0, .slice none 0 0] 41 (0, 0)) := by rw [hw2]; exact blk_alloc (blk_alloc (new_at _ (by simp only [World.size_alloc])) _) _
     have b3 : w2.heap[w.heap.size + 1 + 1 + 1]? = some (.cells #[.slice (some ⟨w.heap.size + 1, 0, none⟩) 1 1, .int .i64 1, .slice none 0 0, .slice none 0 0, .slice none 0 0] 41 (0, 0)) := by rw [hw2]; exact blk_alloc (new_at _ (by simp only [World.size_alloc])) _
     have b4 : w2.heap[w.heap.size + 1 + 1 + 1 + 1]? = some (.cells (([.slice (some ⟨w.heap.size, 0, none⟩) 1 1, .int .i64 1, .slice none 0 0, .slice none 0 0, .slice none 0 0] : List Value) ++ ([.slice (some ⟨w.heap.size + 1, 0, none⟩) 1 1, .int .i64 1, .slice none 0 0, .slice none 0 0, .slice none 0 0] : List Value)).toArray 41 (0, 0)) := by rw [hw2]; exact new_at _ (by simp only [World.size_alloc])
     have n0_ : Aside0 (Below w.heap.size w w2) := am (by rw [hw2]; exact below_alloc (below_alloc (below_alloc (below_alloc (below_alloc HB.out _) _) _) _) _)
     clear HB
     have HB := n0_
     clear n0_ hw2
     refine (runs_Runs.calls 9 (some ⟨w.heap.size + 1 + 1 + 1 + 1, 0, none⟩) 2 [(⟨[2], 1, [], [], []⟩ : S41), (⟨[1], 1, [], [], []⟩ : S41)] 2 _ w2 (rC_two b4 (hkk w2 _ 2 b0) (hkk w2 _ 1 b1)) (by decide) known_runs).mono ?_
     rintro e w3 ⟨v, rfl, hR, hb⟩
     refine ⟨_, rfl, ?_⟩
     obtain ⟨A, c, rfl⟩ := Kd.R_slice hR
     have hC := (Kd.R_reads' hR).2.2
     obtain ⟨ad, rfl, hcell⟩ := hC.2.2 (by decide)
     obtain ⟨g, rfl⟩ := Kd.R_head hR
     obtain ⟨cs, hcl, ⟨A1, c1, rfl, hc1, hK1⟩, hcc⟩ := hcell 0 _ rfl
     have x0 := hcc 0 _ rfl
     have x0' : w3.cell? ⟨g, 0, none⟩ = some (.slice A1 2 c1) := x0
     have HK1 := am hK1
     have HLc := am hc1
     have n0_ := am (below_step HB.out hb)
     have m0_ := am (blk_below b0 hb)
     have m1_ := am (blk_below b1 hb)
     have m2_ := am (blk_below b2 hb)
     have m3_ := am (blk_below b3 hb)
     clear HB b0 b1 b2 b3 b4 hC hR hcell hcc x0 hc1 hK1 hb
     have HB := n0_
     clear n0_)
  | ((with_reducible refine gate_callee (f := 18) rfl ?_)
     refine goesL_ (some 12) rfl rfl Try.func18 (by kernel_rfl) rfl #[.slice none 0 0, .int .i64 1] rfl (by (try simp only [List.map_toArray, List.map_cons, List.map_nil]); first | done | rfl) ?_
     refine (runs_Runs.calls 9 none 0 [] 1 _ w3 (Kd.C_nil _ _) (by decide) known_runs0).mono ?_
     rintro e w4 ⟨v, rfl, hR, hb⟩
     refine ⟨_, rfl, ?_⟩
     obtain ⟨A2, c2, rfl⟩ := Kd.R_slice hR
     have x0 : w4.cell? ⟨g, 0, none⟩ = some (.slice A1 2 c1) := (hb.cell (World.block_lt_of_cell? _ _ x0')).trans x0'
     have k_ := am (Kd.C_below HK1.out hb)
     have n0_ := am (below_step HB.out hb)
     have p0_ := am (blk_below m0_.out hb)
     have p1_ := am (blk_below m1_.out hb)
     have p2_ := am (blk_below m2_.out hb)
     have p3_ := am (blk_below m3_.out hb)
     clear HB x0' HK1 m0_ m1_ m2_ m3_ hR hb
     have HB := n0_
     clear n0_)
  | ((with_reducible refine gate_callee (f := 20) rfl ?_)
     (try (refine gate_guard (by rfl) ?_; dsimp only))
     refine goesL_ (some 31) rfl rfl Try.func20 (by kernel_rfl) rfl #[.slice A1 2 c1] rfl (by (try simp only [List.map_toArray, List.map_cons, List.map_nil]); first | done | rfl) ?_
     refine (runs_Sorted.calls 9 A1 c1 [(⟨[1], 1, [], [], []⟩ : S41), (⟨[2], 1, [], [], []⟩ : S41)] _ w4 k_.out HLc.out known_sorted).mono ?_
     rintro e w5 ⟨rfl, hb⟩
     refine ⟨_, rfl, ?_⟩
     have n0_ := am (below_step HB.out hb)
     have q0_ := am (blk_below p0_.out hb)
     have q1_ := am (blk_below p1_.out hb)
     have b2 := blk_below p2_.out hb
     have b3 := blk_below p3_.out hb
     have y20 := (blk_cell b2 0).trans rfl
     have y21 := (blk_cell b2 1).trans rfl
     have y22 := (blk_cell b2 2).trans rfl
     have y23 := (blk_cell b2 3).trans rfl
     have y24 := (blk_cell b2 4).trans rfl
     have y30 := (blk_cell b3 0).trans rfl
     have y31 := (blk_cell b3 1).trans rfl
     have y32 := (blk_cell b3 2).trans rfl
     have y33 := (blk_cell b3 3).trans rfl
     have y34 := (blk_cell b3 4).trans rfl
     clear HB p0_ p1_ p2_ p3_ k_ x0 b2 b3 hb
     have HB := n0_
     clear n0_)
  | ((with_reducible refine gate_callee (f := 20) rfl ?_)
     (try (refine gate_guard (by rfl) ?_; dsimp only))
     refine goesL_ (some 37) rfl rfl Try.func20 (by kernel_rfl) rfl #[.slice (some ⟨w5.heap.size, 0, none⟩) 2 2] rfl (by (try simp only [List.map_toArray, List.map_cons, List.map_nil]); first | done | rfl) ?_
     refine name_calls ?_
     intro w6 hw6
     have b4 : w6.heap[w5.heap.size]? = some (.cells (([.slice (some ⟨w.heap.size, 0, none⟩) 1 1, .int .i64 1, .slice none 0 0, .slice none 0 0, .slice none 0 0] : List Value) ++ ([.slice (some ⟨w.heap.size + 1, 0, none⟩) 1 1, .int .i64 1, .slice none 0 0, .slice none 0 0, .slice none 0 0] : List Value)).toArray 41 (0, 0)) := by rw [hw6]; exact heap_alloc_new _ _
     have r0 : w6.heap[w.heap.size]? = some (.cells #[.int .i64 2] 3 (0, 0)) := by rw [hw6]; exact blk_alloc q0_.out _
     have r1 : w6.heap[w.heap.size + 1]? = some (.cells #[.int .i64 1] 3 (0, 0)) := by rw [hw6]; exact blk_alloc q1_.out _
     have n0_ : Aside0 (Below w.heap.size w w6) := am (by rw [hw6]; exact below_alloc HB.out _)
     clear HB
     have HB := n0_
     clear n0_ hw6
     refine (runs_Sorted.calls 9 (some ⟨w5.heap.size, 0, none⟩) 2 [(⟨[2], 1, [], [], []⟩ : S41), (⟨[1], 1, [], [], []⟩ : S41)] _ w6 (rC_two b4 (hkk w6 _ 2 r0) (hkk w6 _ 1 r1)) (by decide) known_not).mono ?_
     rintro e w7 ⟨rfl, hb⟩
     refine ⟨_, rfl, ?_⟩
     have n0_ := am (below_step HB.out hb)
     clear HB r0 r1 b4 hb
     have HB := n0_
     clear n0_))
 go_ret
 exact ⟨rfl, HB.out⟩
end Go.Proofs.Ytmnepkbmcnpjlaa.Q
namespace Go.Proofs.Ytmnepkbmcnpjlaa.Q
open Go.RowKit Go.Proofs.YtmnepkbmcnpjlaaW.PrintWords Go.Proofs.YtmnepkbmcnpjlaaW.PrintLast Go.Proofs.YtmnepkbmcnpjlaaW.PrintMore
attribute [local go_sem] max2_int min2_int max_two min_two max_three min_three max_four min_four
set_option linter.unusedVariables false
set_option linter.unusedSimpArgs false
def hypercubelaw5_RunsAll.f (k : Nat) (a0 : Int) (l1 : List Int) (a2 : Int) (l3 : List Int) (a4 : Int) (a5 : Int) : Option (Bool) := (hypercubelaw5_known.f).bind fun t408 => (if t408 = true then ((hypercubelaw1_Facts.f k a0 l1 a2 l3).bind fun bt409 => ((hypercubelaw2_Set.f bt409.1 bt409.2.1 a4).bind fun t417 => ((hypercubelaw2_Make.f k bt409.2.2 t417).bind fun t418 => ((hypercubelaw5_within.f a5 12).bind fun t421 => ((runs_Runs.f k t418 (wrap64 (1 + t421))).bind fun t422 => ((hypercuberef5_Runs.f k t418 (wrap64 (1 + t421))).bind fun t425 => ((hypercuberef5_Same.f k t422 t425).bind fun t428 => (if t428 = true then ((runs_Runs.f k t418 500).bind fun t429 => ((hypercuberef5_Runs.f k t418 500).bind fun t432 => ((hypercuberef5_Same.f k t429 t432).bind fun t435 => (if t435 = true then ((runs_Sorted.f k t418).bind fun t436 => ((hypercuberef5_Sorted.f k t418).bind fun t437 => (some (t436 == t437)))) else (none))))) else (none))))))))) else (none))
set_option maxHeartbeats 8000000 in
set_option maxRecDepth 100000 in
theorem hypercubelaw5_RunsAll.calls (k : Nat) (a0 : Int) (A1 : Option Addr) (c1 : Nat) (l1 : List Int) (a2 : Int) (A3 : Option Addr) (c3 : Nat) (l3 : List Int) (a4 : Int) (a5 : Int) (r : Bool) (w : World) (hr1 : Kd.C (Kd.int .i64) w A1 l1.length l1) (hc1 : l1.length ≤ c1) (hr3 : Kd.C (Kd.int .i64) w A3 l3.length l3) (hc3 : l3.length ≤ c3) (h : hypercubelaw5_RunsAll.f k a0 l1 a2 l3 a4 a5 = some r) :
  Calls Try.prog 3 #[.int .i64 a0, .slice A1 l1.length c1, .int .i64 a2, .slice A3 l3.length c3, .int .i64 a4, .int .i64 a5] w fun e w' => e = .returned (.bool r) ∧ Below w.heap.size w w' := by
 have hu25 := Try.underlying25
 have HR1 := am hr1
 have HC1 := am hc1
 clear hr1 hc1
 have HR3 := am hr3
 have HC3 := am hc3
 clear hr3 hc3
 have HB := am (Below.refl w.heap.size w)
 have H : ((hypercubelaw5_known.f).bind fun t408 => (if t408 = true then ((hypercubelaw1_Facts.f k a0 l1 a2 l3).bind fun bt409 => ((hypercubelaw2_Set.f bt409.1 bt409.2.1 a4).bind fun t417 => ((hypercubelaw2_Make.f k bt409.2.2 t417).bind fun t418 => ((hypercubelaw5_within.f a5 12).bind fun t421 => ((runs_Runs.f k t418 (wrap64 (1 + t421))).bind fun t422 => ((hypercuberef5_Runs.f k t418 (wrap64 (1 + t421))).bind fun t425 => ((hypercuberef5_Same.f k t422 t425).bind fun t428 => (if t428 = true then ((runs_Runs.f k t418 500).bind fun t429 => ((hypercuberef5_Runs.f k t418 500).bind fun t432 => ((hypercuberef5_Same.f k t429 t432).bind fun t435 => (if t435 = true then ((runs_Sorted.f k t418).bind fun t436 => ((hypercuberef5_Sorted.f k t418).bind fun t437 => (some (t436 == t437)))) else (none))))) else (none))))))))) else (none))) = some r := h
 clear h
 replace H := Option.bind_eq_some_iff.mp H
 obtain ⟨t408, A70, H⟩ := H
 replace H : (if t408 = true then ((hypercubelaw1_Facts.f k a0 l1 a2 l3).bind fun bt409 => ((hypercubelaw2_Set.f bt409.1 bt409.2.1 a4).bind fun t417 => ((hypercubelaw2_Make.f k bt409.2.2 t417).bind fun t418 => ((hypercubelaw5_within.f a5 12).bind fun t421 => ((runs_Runs.f k t418 (wrap64 (1 + t421))).bind fun t422 => ((hypercuberef5_Runs.f k t418 (wrap64 (1 + t421))).bind fun t425 => ((hypercuberef5_Same.f k t422 t425).bind fun t428 => (if t428 = true then ((runs_Runs.f k t418 500).bind fun t429 => ((hypercuberef5_Runs.f k t418 500).bind fun t432 => ((hypercuberef5_Same.f k t429 t432).bind fun t435 => (if t435 = true then ((runs_Sorted.f k t418).bind fun t436 => ((hypercuberef5_Sorted.f k t418).bind fun t437 => (some (t436 == t437)))) else (none))))) else (none))))))))) else (none)) = some r := H
 have A7 := am A70
 clear A70
 by_cases c8 : t408 = true
 ·subst c8
  have H1 : ((hypercubelaw1_Facts.f k a0 l1 a2 l3).bind fun bt409 => ((hypercubelaw2_Set.f bt409.1 bt409.2.1 a4).bind fun t417 => ((hypercubelaw2_Make.f k bt409.2.2 t417).bind fun t418 => ((hypercubelaw5_within.f a5 12).bind fun t421 => ((runs_Runs.f k t418 (wrap64 (1 + t421))).bind fun t422 => ((hypercuberef5_Runs.f k t418 (wrap64 (1 + t421))).bind fun t425 => ((hypercuberef5_Same.f k t422 t425).bind fun t428 => (if t428 = true then ((runs_Runs.f k t418 500).bind fun t429 => ((hypercuberef5_Runs.f k t418 500).bind fun t432 => ((hypercuberef5_Same.f k t429 t432).bind fun t435 => (if t435 = true then ((runs_Sorted.f k t418).bind fun t436 => ((hypercuberef5_Sorted.f k t418).bind fun t437 => (some (t436 == t437)))) else (none))))) else (none))))))))) = some r := by rw [if_pos rfl] at H; exact H
  clear H
  have H := H1
  clear H1
  replace H := Option.bind_eq_some_iff.mp H
  obtain ⟨⟨t409, t412, t413⟩, A90, H⟩ := H
  replace H : ((hypercubelaw2_Set.f t409 t412 a4).bind fun t417 => ((hypercubelaw2_Make.f k t413 t417).bind fun t418 => ((hypercubelaw5_within.f a5 12).bind fun t421 => ((runs_Runs.f k t418 (wrap64 (1 + t421))).bind fun t422 => ((hypercuberef5_Runs.f k t418 (wrap64 (1 + t421))).bind fun t425 => ((hypercuberef5_Same.f k t422 t425).bind fun t428 => (if t428 = true then ((runs_Runs.f k t418 500).bind fun t429 => ((hypercuberef5_Runs.f k t418 500).bind fun t432 => ((hypercuberef5_Same.f k t429 t432).bind fun t435 => (if t435 = true then ((runs_Sorted.f k t418).bind fun t436 => ((hypercuberef5_Sorted.f k t418).bind fun t437 => (some (t436 == t437)))) else (none))))) else (none)))))))) = some r := H
  have A9 := am A90
  clear A90
  replace H := Option.bind_eq_some_iff.mp H
  obtain ⟨t417, A100, H⟩ := H
  replace H : ((hypercubelaw2_Make.f k t413 t417).bind fun t418 => ((hypercubelaw5_within.f a5 12).bind fun t421 => ((runs_Runs.f k t418 (wrap64 (1 + t421))).bind fun t422 => ((hypercuberef5_Runs.f k t418 (wrap64 (1 + t421))).bind fun t425 => ((hypercuberef5_Same.f k t422 t425).bind fun t428 => (if t428 = true then ((runs_Runs.f k t418 500).bind fun t429 => ((hypercuberef5_Runs.f k t418 500).bind fun t432 => ((hypercuberef5_Same.f k t429 t432).bind fun t435 => (if t435 = true then ((runs_Sorted.f k t418).bind fun t436 => ((hypercuberef5_Sorted.f k t418).bind fun t437 => (some (t436 == t437)))) else (none))))) else (none))))))) = some r := H
  have A10 := am A100
  clear A100
  replace H := Option.bind_eq_some_iff.mp H
  obtain ⟨t418, A110, H⟩ := H
  replace H : ((hypercubelaw5_within.f a5 12).bind fun t421 => ((runs_Runs.f k t418 (wrap64 (1 + t421))).bind fun t422 => ((hypercuberef5_Runs.f k t418 (wrap64 (1 + t421))).bind fun t425 => ((hypercuberef5_Same.f k t422 t425).bind fun t428 => (if t428 = true then ((runs_Runs.f k t418 500).bind fun t429 => ((hypercuberef5_Runs.f k t418 500).bind fun t432 => ((hypercuberef5_Same.f k t429 t432).bind fun t435 => (if t435 = true then ((runs_Sorted.f k t418).bind fun t436 => ((hypercuberef5_Sorted.f k t418).bind fun t437 => (some (t436 == t437)))) else (none))))) else (none)))))) = some r := H
  have A11 := am A110
  clear A110
  replace H := Option.bind_eq_some_iff.mp H
  obtain ⟨t421, A120, H⟩ := H
  replace H : ((runs_Runs.f k t418 (wrap64 (1 + t421))).bind fun t422 => ((hypercuberef5_Runs.f k t418 (wrap64 (1 + t421))).bind fun t425 => ((hypercuberef5_Same.f k t422 t425).bind fun t428 => (if t428 = true then ((runs_Runs.f k t418 500).bind fun t429 => ((hypercuberef5_Runs.f k t418 500).bind fun t432 => ((hypercuberef5_Same.f k t429 t432).bind fun t435 => (if t435 = true then ((runs_Sorted.f k t418).bind fun t436 => ((hypercuberef5_Sorted.f k t418).bind fun t437 => (some (t436 == t437)))) else (none))))) else (none))))) = some r := H
  have A12 := am A120
  clear A120
  replace H := Option.bind_eq_some_iff.mp H
  obtain ⟨t422, A130, H⟩ := H
  replace H : ((hypercuberef5_Runs.f k t418 (wrap64 (1 + t421))).bind fun t425 => ((hypercuberef5_Same.f k t422 t425).bind fun t428 => (if t428 = true then ((runs_Runs.f k t418 500).bind fun t429 => ((hypercuberef5_Runs.f k t418 500).bind fun t432 => ((hypercuberef5_Same.f k t429 t432).bind fun t435 => (if t435 = true then ((runs_Sorted.f k t418).bind fun t436 => ((hypercuberef5_Sorted.f k t418).bind fun t437 => (some (t436 == t437)))) else (none))))) else (none)))) = some r := H
  have A13 := am A130
  clear A130
  replace H := Option.bind_eq_some_iff.mp H
  obtain ⟨t425, A140, H⟩ := H
  replace H : ((hypercuberef5_Same.f k t422 t425).bind fun t428 => (if t428 = true then ((runs_Runs.f k t418 500).bind fun t429 => ((hypercuberef5_Runs.f k t418 500).bind fun t432 => ((hypercuberef5_Same.f k t429 t432).bind fun t435 => (if t435 = true then ((runs_Sorted.f k t418).bind fun t436 => ((hypercuberef5_Sorted.f k t418).bind fun t437 => (some (t436 == t437)))) else (none))))) else (none))) = some r := H
  have A14 := am A140
  clear A140
  replace H := Option.bind_eq_some_iff.mp H
  obtain ⟨t428, A150, H⟩ := H
  replace H : (if t428 = true then ((runs_Runs.f k t418 500).bind fun t429 => ((hypercuberef5_Runs.f k t418 500).bind fun t432 => ((hypercuberef5_Same.f k t429 t432).bind fun t435 => (if t435 = true then ((runs_Sorted.f k t418).bind fun t436 => ((hypercuberef5_Sorted.f k t418).bind fun t437 => (some (t436 == t437)))) else (none))))) else (none)) = some r := H
  have A15 := am A150
  clear A150
  by_cases c16 : t428 = true
  ·subst c16
   have H1 : ((runs_Runs.f k t418 500).bind fun t429 => ((hypercuberef5_Runs.f k t418 500).bind fun t432 => ((hypercuberef5_Same.f k t429 t432).bind fun t435 => (if t435 = true then ((runs_Sorted.f k t418).bind fun t436 => ((hypercuberef5_Sorted.f k t418).bind fun t437 => (some (t436 == t437)))) else (none))))) = some r := by rw [if_pos rfl] at H; exact H
   clear H
   have H := H1
   clear H1
   replace H := Option.bind_eq_some_iff.mp H
   obtain ⟨t429, A170, H⟩ := H
   replace H : ((hypercuberef5_Runs.f k t418 500).bind fun t432 => ((hypercuberef5_Same.f k t429 t432).bind fun t435 => (if t435 = true then ((runs_Sorted.f k t418).bind fun t436 => ((hypercuberef5_Sorted.f k t418).bind fun t437 => (some (t436 == t437)))) else (none)))) = some r := H
   have A17 := am A170
   clear A170
   replace H := Option.bind_eq_some_iff.mp H
   obtain ⟨t432, A180, H⟩ := H
   replace H : ((hypercuberef5_Same.f k t429 t432).bind fun t435 => (if t435 = true then ((runs_Sorted.f k t418).bind fun t436 => ((hypercuberef5_Sorted.f k t418).bind fun t437 => (some (t436 == t437)))) else (none))) = some r := H
   have A18 := am A180
   clear A180
   replace H := Option.bind_eq_some_iff.mp H
   obtain ⟨t435, A190, H⟩ := H
   replace H : (if t435 = true then ((runs_Sorted.f k t418).bind fun t436 => ((hypercuberef5_Sorted.f k t418).bind fun t437 => (some (t436 == t437)))) else (none)) = some r := H
   have A19 := am A190
   clear A190
   by_cases c20 : t435 = true
   ·subst c20
    have H1 : ((runs_Sorted.f k t418).bind fun t436 => ((hypercuberef5_Sorted.f k t418).bind fun t437 => (some (t436 == t437)))) = some r := by rw [if_pos rfl] at H; exact H
    clear H
    have H := H1
    clear H1
    replace H := Option.bind_eq_some_iff.mp H
    obtain ⟨t436, A210, H⟩ := H
    replace H : ((hypercuberef5_Sorted.f k t418).bind fun t437 => (some (t436 == t437))) = some r := H
    have A21 := am A210
    clear A210
    replace H := Option.bind_eq_some_iff.mp H
    obtain ⟨t437, A220, H⟩ := H
    replace H : (some (t436 == t437)) = some r := H
    have A22 := am A220
    clear A220
    obtain rfl := Option.some.inj H
    go_enter Try.func3, Try.ntmps3
    go_wp2_with (first | ((with_reducible refine gate_callee (f := 12) rfl ?_); refine goesL_ (some 17) rfl rfl Try.func12 (by kernel_rfl) rfl #[] rfl (by (try simp only [List.map_toArray, List.map_cons, List.map_nil]); first | done | rfl | (simp only [List.length_drop, List.length_take]; rfl)) ?_; (with_reducible refine (hypercubelaw5_known.calls  true _ A7.out).mono ?_); rintro e w23 ⟨rfl, hb⟩; refine ⟨_, rfl, ?_⟩; have n0_ := am (below_step (by repeat (first | (with_reducible first | exact HB.out | apply below_alloc | apply pw_below_drewN | apply below_drew1) | exact HB.out)) hb); clear HB; revert n0_; intro HB; (try clear hb); (try clear hb2); (try clear hk); (try clear hi)) | ((with_reducible refine gate_callee (f := 13) rfl ?_); refine goesL_ (some 24) rfl rfl Try.func13 (by kernel_rfl) rfl #[.int .i64 a0, .slice A1 l1.length c1, .int .i64 a2, .slice A3 l3.length c3] rfl (by (try simp only [List.map_toArray, List.map_cons, List.map_nil]); first | done | rfl | (simp only [List.length_drop, List.length_take]; rfl)) ?_; (with_reducible refine (hypercubelaw1_Facts.calls k a0 _ _ l1 a2 _ _ l3 t409 t412 t413 _ ?side1 ?side2 ?side3 ?side4 A9.out).mono ?_); (case side1 => repeat (first | exact (Kd.C_below HR1.out HB.out) | (with_reducible refine Kd.C_alloc ?_ _) | (with_reducible refine Kd.C_drewN ?_ _) | (with_reducible refine Kd.C_drew ?_))); (case side2 => exact HC1.out); (case side3 => repeat (first | exact (Kd.C_below HR3.out HB.out) | (with_reducible refine Kd.C_alloc ?_ _) | (with_reducible refine Kd.C_drewN ?_ _) | (with_reducible refine Kd.C_drew ?_))); (case side4 => exact HC3.out); rintro e w24 ⟨v410, v414, rfl, ho0, ho1, hb⟩; refine ⟨_, rfl, ?_⟩; have n0_ := am (Kd.R_lower ho0 (below_size (by repeat (first | (with_reducible first | exact HB.out | apply below_alloc | apply pw_below_drewN | apply below_drew1) | exact HB.out)))); have n1_ := am (Kd.N_lower (Kd.N_mono (ok' := fun k_ => some k_ ≠ (v410 : Value).ownBlock) (Kd.S_N (Kd.S_bound ho1)) (fun k_ hk_ => hk_.1)) (below_size (by repeat (first | (with_reducible first | exact HB.out | apply below_alloc | apply pw_below_drewN | apply below_drew1) | exact HB.out)))); have n2_ := am (below_step (by repeat (first | (with_reducible first | exact HB.out | apply below_alloc | apply pw_below_drewN | apply below_drew1) | exact HB.out)) hb); clear HB; revert n0_ n1_ n2_; intro HO411 HO415 HB; (try clear hb); (try clear hb2); (try clear hk); (try clear hi); (try clear ho0); (try clear ho1)) | ((with_reducible refine gate_dst (N := 13) rfl ?_); refine box_event ?hg (N := 13) ?hd (cs := #[.slice none 0 0, .int .i64 0]) (t := 25) ?hr ?_; (case hd => rfl); (case hg => rfl); (case hr => first | (go_simp; done) | (go_simp; rfl)); intro gb416 hg w25 hbox hb; have n0_ := am (Kd.R_below (by (with_reducible repeat (first | apply Kd.R_alloc | apply Kd.R_drewN | apply Kd.R_drew)); exact HO411.out) hb); have n1_ := am (Kd.N_below (Kd.N_elderB (by (with_reducible repeat (first | apply Kd.N_alloc | apply Kd.N_drewN | apply Kd.N_drew)); exact HO415.out) gb416 (Nat.le_of_eq hg.symm)) hb); have n2_ := am (below_step (by repeat (first | (with_reducible first | exact HB.out | apply below_alloc | apply pw_below_drewN | apply below_drew1) | exact HB.out)) hb); have n3_ := am (hbox); have n4_ := am ((by rw [hg]; exact (below_size (by repeat (first | (with_reducible first | exact HB.out | apply below_alloc | apply pw_below_drewN | apply below_drew1) | exact HB.out))) : w.heap.size ≤ gb416)); have n5_ := am ((by rw [hg]; exact (below_size (by repeat (first | (with_reducible first | exact HB.out | apply below_alloc | apply pw_below_drewN | apply below_drew1) | exact HB.out))) : w.heap.size ≤ gb416)); clear HO411 HO415 HB; revert n0_ n1_ n2_ n3_ n4_ n5_; intro HO411 HO415 HB BK416 GW416 GE416; clear hb hbox hg; obtain ⟨Ao26, co26, eo26⟩ := Kd.R_slice HO411.out; subst eo26; have hcz27_0 : w25.cell? ⟨gb416, 0, none⟩ = some (.slice none 0 0) := (blk_cell BK416.out 0).trans rfl; have hcz27_1 : w25.cell? ⟨gb416, 1, none⟩ = some (.int .i64 0) := (blk_cell BK416.out 1).trans rfl; have hfz27_0 := blk_frozen BK416.out 0; have hfz27_1 := blk_frozen BK416.out 1) | ((with_reducible refine gate_callee (f := 15) rfl ?_); refine goesL_ (some 30) rfl rfl Try.func15 (by kernel_rfl) rfl #[.agg #[.slice Ao26 t409.length co26, .int .i64 t412], .int .i64 a4] rfl (by (try simp only [List.map_toArray, List.map_cons, List.map_nil]); first | done | rfl | (simp only [List.length_drop, List.length_take]; rfl)) ?_; (with_reducible refine (hypercubelaw2_Set.calls _ _ t409 t412 a4 t417 _ ?side1 ?side2 A10.out).mono ?_); (case side1 => refine (Kd.R_reads' (e := 3) (base := w.heap.size) (ok := fun k_ => True) (n := t409.length) (c := co26) ?_).2.2; exact (by (with_reducible repeat (first | apply Kd.R_alloc | apply Kd.R_drewN | apply Kd.R_drew)); exact (Kd.R_mono (Kd.R_far (p := ⟨gb416, 1, none⟩) (Kd.R_far (p := ⟨gb416, 0, none⟩) (Kd.R_types HO411.out BK416.out (by decide)) (fun _ hk => hk.2) (.slice Ao26 t409.length co26)) (fun _ hk => hk.2) (.int .i64 t412)) (fun _ h_ => h_.1)))); (case side2 => exact (Kd.R_reads' HO411.out).2.1); rintro e w28 ⟨rfl, hb⟩; refine ⟨_, rfl, ?_⟩; have n0_ := am (Kd.R_below (by (with_reducible repeat (first | apply Kd.R_alloc | apply Kd.R_drewN | apply Kd.R_drew)); exact (Kd.R_mono (Kd.R_far (p := ⟨gb416, 1, none⟩) (Kd.R_far (p := ⟨gb416, 0, none⟩) (Kd.R_types HO411.out BK416.out (by decide)) (fun _ hk => hk.2) (.slice Ao26 t409.length co26)) (fun _ hk => hk.2) (.int .i64 t412)) (fun _ h_ => h_.1))) hb); have n1_ := am (Kd.N_below (by (with_reducible repeat (first | apply Kd.N_alloc | apply Kd.N_drewN | apply Kd.N_drew)); exact (Kd.N_mono (Kd.N_far (p := ⟨gb416, 1, none⟩) (Kd.N_far (p := ⟨gb416, 0, none⟩) (Kd.N_mono HO415.out (fun k_ hk => (⟨hk, hk.2⟩ : _ ∧ k_ ≠ gb416))) (fun _ hk => hk.2) (.slice Ao26 t409.length co26)) (fun _ hk => hk.2) (.int .i64 t412)) (fun _ h_ => h_.1))) hb); have n2_ := am (blk_below (g := gb416) (o := .cells #[.slice Ao26 t409.length co26, .int .i64 t412] 25 (0, 0)) (by (with_reducible repeat (first | refine blk_drewN ?_ _ | refine blk_drew ?_ | refine blk_alloc ?_ _)); refine blk_put (cs := #[.slice Ao26 t409.length co26, .int .i64 0]) ?_ 1 _ rfl; (with_reducible repeat (first | refine blk_drewN ?_ _ | refine blk_drew ?_ | refine blk_alloc ?_ _)); refine blk_put (cs := #[.slice none 0 0, .int .i64 0]) ?_ 0 _ rfl; (with_reducible repeat (first | refine blk_drewN ?_ _ | refine blk_drew ?_ | refine blk_alloc ?_ _)); exact BK416.out) hb); have n3_ := am (below_step (by repeat (first | (with_reducible first | exact HB.out | apply below_alloc | apply pw_below_drewN | apply below_drew1 | refine below_set ?_ GE416.out) | exact HB.out)) hb); clear HO411 HO415 BK416 HB; revert n0_ n1_ n2_ n3_; intro HO411 HO415 BK416 HB; (try clear hb); (try clear hb2); (try clear hk); (try clear hi); obtain ⟨Ao29, co29, eo29⟩ := Kd.N_slice HO415.out; subst eo29) | ((with_reducible refine gate_callee (f := 14) rfl ?_); refine goesL_ (some 31) rfl rfl Try.func14 (by kernel_rfl) rfl #[.slice Ao29 t413.length co29, .int .i64 t417] rfl (by (try simp only [List.map_toArray, List.map_cons, List.map_nil]); first | done | rfl | (simp only [List.length_drop, List.length_take]; rfl)) ?_; (with_reducible refine (hypercubelaw2_Make.calls k _ _ t413 t417 t418 _ ?side1 ?side2 A11.out).mono ?_); (case side1 => repeat (first | exact (Kd.N_reads' HO415.out).2.2 | (with_reducible refine Kd.C_alloc ?_ _) | (with_reducible refine Kd.C_drewN ?_ _) | (with_reducible refine Kd.C_drew ?_))); (case side2 => exact (Kd.N_reads' HO415.out).2.1); rintro e w30 ⟨v419, rfl, ho0, hb⟩; refine ⟨_, rfl, ?_⟩; have n0_ := am (Kd.R_below (by (with_reducible repeat (first | apply Kd.R_alloc | apply Kd.R_drewN | apply Kd.R_drew)); exact HO411.out) hb); have n1_ := am (Kd.N_elder' (by (with_reducible repeat (first | apply Kd.N_alloc | apply Kd.N_drewN | apply Kd.N_drew)); exact HO415.out) (by first | exact Kd.N_base ho0 | exact Kd.S_base ho0 | exact Kd.R_base ho0) hb); have n2_ := am (Kd.N_lower (Kd.N_mono (ok' := fun k_ => some k_ ≠ (.slice Ao26 t409.length co26 : Value).ownBlock ∧ some k_ ≠ (.slice Ao29 t413.length co29 : Value).ownBlock ∧ k_ ≠ gb416) (Kd.S_N (Kd.S_bound ho0)) (fun k_ hk_ => ⟨(Kd.fresh' (Kd.R_lt (by (with_reducible repeat (first | apply Kd.R_alloc | apply Kd.R_drewN | apply Kd.R_drew)); exact HO411.out)) k_ hk_.2.1), (Kd.fresh' (Kd.N_lt (by (with_reducible repeat (first | apply Kd.N_alloc | apply Kd.N_drewN | apply Kd.N_drew)); exact HO415.out)) k_ hk_.2.1), (Kd.freshB (g := gb416) (o := .cells #[.slice Ao26 t409.length co26, .int .i64 t412] 25 (0, 0)) (by (with_reducible repeat (first | refine blk_drewN ?_ _ | refine blk_drew ?_ | refine blk_alloc ?_ _)); exact BK416.out) k_ hk_.2.1)⟩)) (below_size (by repeat (first | (with_reducible first | exact HB.out | apply below_alloc | apply pw_below_drewN | apply below_drew1 | refine below_set ?_ GE416.out) | exact HB.out)))); have n3_ := am (blk_below (g := gb416) (o := .cells #[.slice Ao26 t409.length co26, .int .i64 t412] 25 (0, 0)) (by (with_reducible repeat (first | refine blk_drewN ?_ _ | refine blk_drew ?_ | refine blk_alloc ?_ _)); exact BK416.out) hb); have n4_ := am (below_step (by repeat (first | (with_reducible first | exact HB.out | apply below_alloc | apply pw_below_drewN | apply below_drew1 | refine below_set ?_ GE416.out) | exact HB.out)) hb); clear HO411 HO415 BK416 HB; revert n0_ n1_ n2_ n3_ n4_; intro HO411 HO415 HO420 BK416 HB; (try clear hb); (try clear hb2); (try clear hk); (try clear hi); (try clear ho0)) | ((with_reducible refine gate_callee (f := 16) rfl ?_); refine goesL_ (some 33) rfl rfl Try.func16 (by kernel_rfl) rfl #[.int .i64 a5, .int .i64 12] rfl (by (try simp only [List.map_toArray, List.map_cons, List.map_nil]); first | done | rfl | (simp only [List.length_drop, List.length_take]; rfl)) ?_; (with_reducible refine (hypercubelaw5_within.calls a5 12 t421 _ A12.out).mono ?_); rintro e w' ⟨rfl, ⟨nd, rfl⟩⟩; refine ⟨_, rfl, ?_⟩; obtain ⟨Ao31, co31, eo31⟩ := Kd.N_slice HO420.out; subst eo31) | ((with_reducible refine gate_callee (f := 18) rfl ?_); refine goesL_ (some 37) rfl rfl Try.func18 (by kernel_rfl) rfl #[.slice Ao31 t418.length co31, .int .i64 (wrap64 (1 + t421))] rfl (by (try simp only [List.map_toArray, List.map_cons, List.map_nil]); first | done | rfl | (simp only [List.length_drop, List.length_take]; rfl)) ?_; (with_reducible refine (runs_Runs.calls k _ _ t418 (wrap64 (1 + t421)) t422 _ ?side1 ?side2 A13.out).mono ?_); (case side1 => repeat (first | exact (Kd.N_reads' HO420.out).2.2 | (with_reducible refine Kd.C_alloc ?_ _) | (with_reducible refine Kd.C_drewN ?_ _) | (with_reducible refine Kd.C_drew ?_))); (case side2 => exact (Kd.N_reads' HO420.out).2.1); rintro e w32 ⟨v423, rfl, ho0, hb⟩; refine ⟨_, rfl, ?_⟩; have n0_ := am (Kd.R_below (by (with_reducible repeat (first | apply Kd.R_alloc | apply Kd.R_drewN | apply Kd.R_drew)); exact HO411.out) hb); have n1_ := am (Kd.N_elder' (by (with_reducible repeat (first | apply Kd.N_alloc | apply Kd.N_drewN | apply Kd.N_drew)); exact HO415.out) (by first | exact Kd.N_base ho0 | exact Kd.S_base ho0 | exact Kd.R_base ho0) hb); have n2_ := am (Kd.N_elder' (by (with_reducible repeat (first | apply Kd.N_alloc | apply Kd.N_drewN | apply Kd.N_drew)); exact HO420.out) (by first | exact Kd.N_base ho0 | exact Kd.S_base ho0 | exact Kd.R_base ho0) hb); have n3_ := am (Kd.N_lower (Kd.N_mono (ok' := fun k_ => some k_ ≠ (.slice Ao26 t409.length co26 : Value).ownBlock ∧ some k_ ≠ (.slice Ao29 t413.length co29 : Value).ownBlock ∧ some k_ ≠ (.slice Ao31 t418.length co31 : Value).ownBlock ∧ k_ ≠ gb416) (Kd.R_N (Kd.R_bound ho0)) (fun k_ hk_ => ⟨(Kd.fresh' (Kd.R_lt (by (with_reducible repeat (first | apply Kd.R_alloc | apply Kd.R_drewN | apply Kd.R_drew)); exact HO411.out)) k_ hk_.2.1), (Kd.fresh' (Kd.N_lt (by (with_reducible repeat (first | apply Kd.N_alloc | apply Kd.N_drewN | apply Kd.N_drew)); exact HO415.out)) k_ hk_.2.1), (Kd.fresh' (Kd.N_lt (by (with_reducible repeat (first | apply Kd.N_alloc | apply Kd.N_drewN | apply Kd.N_drew)); exact HO420.out)) k_ hk_.2.1), (Kd.freshB (g := gb416) (o := .cells #[.slice Ao26 t409.length co26, .int .i64 t412] 25 (0, 0)) (by (with_reducible repeat (first | refine blk_drewN ?_ _ | refine blk_drew ?_ | refine blk_alloc ?_ _)); exact BK416.out) k_ hk_.2.1)⟩)) (below_size (by repeat (first | (with_reducible first | exact HB.out | apply below_alloc | apply pw_below_drewN | apply below_drew1 | refine below_set ?_ GE416.out) | exact HB.out)))); have n4_ := am (blk_below (g := gb416) (o := .cells #[.slice Ao26 t409.length co26, .int .i64 t412] 25 (0, 0)) (by (with_reducible repeat (first | refine blk_drewN ?_ _ | refine blk_drew ?_ | refine blk_alloc ?_ _)); exact BK416.out) hb); have n5_ := am (below_step (by repeat (first | (with_reducible first | exact HB.out | apply below_alloc | apply pw_below_drewN | apply below_drew1 | refine below_set ?_ GE416.out) | exact HB.out)) hb); clear HO411 HO415 HO420 BK416 HB; revert n0_ n1_ n2_ n3_ n4_ n5_; intro HO411 HO415 HO420 HO424 BK416 HB; (try clear hb); (try clear hb2); (try clear hk); (try clear hi); (try clear ho0)) | ((with_reducible refine gate_callee (f := 19) rfl ?_); refine goesL_ (some 40) rfl rfl Try.func19 (by kernel_rfl) rfl #[.slice Ao31 t418.length co31, .int .i64 (wrap64 (1 + t421))] rfl (by (try simp only [List.map_toArray, List.map_cons, List.map_nil]); first | done | rfl | (simp only [List.length_drop, List.length_take]; rfl)) ?_; (with_reducible refine (hypercuberef5_Runs.calls k _ _ t418 (wrap64 (1 + t421)) t425 _ ?side1 ?side2 A14.out).mono ?_); (case side1 => repeat (first | exact (Kd.N_reads' HO420.out).2.2 | (with_reducible refine Kd.C_alloc ?_ _) | (with_reducible refine Kd.C_drewN ?_ _) | (with_reducible refine Kd.C_drew ?_))); (case side2 => exact (Kd.N_reads' HO420.out).2.1); rintro e w33 ⟨v426, rfl, ho0, hb⟩; refine ⟨_, rfl, ?_⟩; have n0_ := am (Kd.R_below (by (with_reducible repeat (first | apply Kd.R_alloc | apply Kd.R_drewN | apply Kd.R_drew)); exact HO411.out) hb); have n1_ := am (Kd.N_elder' (by (with_reducible repeat (first | apply Kd.N_alloc | apply Kd.N_drewN | apply Kd.N_drew)); exact HO415.out) (by first | exact Kd.N_base ho0 | exact Kd.S_base ho0 | exact Kd.R_base ho0) hb); have n2_ := am (Kd.N_elder' (by (with_reducible repeat (first | apply Kd.N_alloc | apply Kd.N_drewN | apply Kd.N_drew)); exact HO420.out) (by first | exact Kd.N_base ho0 | exact Kd.S_base ho0 | exact Kd.R_base ho0) hb); have n3_ := am (Kd.N_elder' (by (with_reducible repeat (first | apply Kd.N_alloc | apply Kd.N_drewN | apply Kd.N_drew)); exact HO424.out) (by first | exact Kd.N_base ho0 | exact Kd.S_base ho0 | exact Kd.R_base ho0) hb); have n4_ := am (Kd.N_lower (Kd.N_mono (ok' := fun k_ => some k_ ≠ (.slice Ao26 t409.length co26 : Value).ownBlock ∧ some k_ ≠ (.slice Ao29 t413.length co29 : Value).ownBlock ∧ some k_ ≠ (.slice Ao31 t418.length co31 : Value).ownBlock ∧ some k_ ≠ (v423 : Value).ownBlock ∧ k_ ≠ gb416) ho0 (fun k_ hk_ => ⟨(Kd.fresh' (Kd.R_lt (by (with_reducible repeat (first | apply Kd.R_alloc | apply Kd.R_drewN | apply Kd.R_drew)); exact HO411.out)) k_ hk_), (Kd.fresh' (Kd.N_lt (by (with_reducible repeat (first | apply Kd.N_alloc | apply Kd.N_drewN | apply Kd.N_drew)); exact HO415.out)) k_ hk_), (Kd.fresh' (Kd.N_lt (by (with_reducible repeat (first | apply Kd.N_alloc | apply Kd.N_drewN | apply Kd.N_drew)); exact HO420.out)) k_ hk_), (Kd.fresh' (Kd.N_lt (by (with_reducible repeat (first | apply Kd.N_alloc | apply Kd.N_drewN | apply Kd.N_drew)); exact HO424.out)) k_ hk_), (Kd.freshB (g := gb416) (o := .cells #[.slice Ao26 t409.length co26, .int .i64 t412] 25 (0, 0)) (by (with_reducible repeat (first | refine blk_drewN ?_ _ | refine blk_drew ?_ | refine blk_alloc ?_ _)); exact BK416.out) k_ hk_)⟩)) (below_size (by repeat (first | (with_reducible first | exact HB.out | apply below_alloc | apply pw_below_drewN | apply below_drew1 | refine below_set ?_ GE416.out) | exact HB.out)))); have n5_ := am (blk_below (g := gb416) (o := .cells #[.slice Ao26 t409.length co26, .int .i64 t412] 25 (0, 0)) (by (with_reducible repeat (first | refine blk_drewN ?_ _ | refine blk_drew ?_ | refine blk_alloc ?_ _)); exact BK416.out) hb); have n6_ := am (below_step (by repeat (first | (with_reducible first | exact HB.out | apply below_alloc | apply pw_below_drewN | apply below_drew1 | refine below_set ?_ GE416.out) | exact HB.out)) hb); clear HO411 HO415 HO420 HO424 BK416 HB; revert n0_ n1_ n2_ n3_ n4_ n5_ n6_; intro HO411 HO415 HO420 HO424 HO427 BK416 HB; (try clear hb); (try clear hb2); (try clear hk); (try clear hi); (try clear ho0); obtain ⟨Ao34, co34, eo34⟩ := Kd.N_slice HO424.out; subst eo34; obtain ⟨Ao35, co35, eo35⟩ := Kd.N_slice HO427.out; subst eo35) | ((with_reducible refine gate_callee (f := 17) rfl ?_); refine goesL_ (some 41) rfl rfl Try.func17 (by kernel_rfl) rfl #[.slice Ao34 t422.length co34, .slice Ao35 t425.length co35] rfl (by (try simp only [List.map_toArray, List.map_cons, List.map_nil]); first | done | rfl | (simp only [List.length_drop, List.length_take]; rfl)) ?_; (with_reducible refine (hypercuberef5_Same.calls k _ _ t422 _ _ t425 true _ ?side1 ?side2 ?side3 ?side4 A15.out).mono ?_); (case side1 => repeat (first | exact (Kd.N_reads' HO424.out).2.2 | (with_reducible refine Kd.C_alloc ?_ _) | (with_reducible refine Kd.C_drewN ?_ _) | (with_reducible refine Kd.C_drew ?_))); (case side2 => exact (Kd.N_reads' HO424.out).2.1); (case side3 => repeat (first | exact (Kd.N_reads' HO427.out).2.2 | (with_reducible refine Kd.C_alloc ?_ _) | (with_reducible refine Kd.C_drewN ?_ _) | (with_reducible refine Kd.C_drew ?_))); (case side4 => exact (Kd.N_reads' HO427.out).2.1); rintro e w36 ⟨rfl, hb⟩; refine ⟨_, rfl, ?_⟩; have n0_ := am (Kd.R_below (by (with_reducible repeat (first | apply Kd.R_alloc | apply Kd.R_drewN | apply Kd.R_drew)); exact HO411.out) hb); have n1_ := am (Kd.N_below (by (with_reducible repeat (first | apply Kd.N_alloc | apply Kd.N_drewN | apply Kd.N_drew)); exact HO415.out) hb); have n2_ := am (Kd.N_below (by (with_reducible repeat (first | apply Kd.N_alloc | apply Kd.N_drewN | apply Kd.N_drew)); exact HO420.out) hb); have n3_ := am (Kd.N_below (by (with_reducible repeat (first | apply Kd.N_alloc | apply Kd.N_drewN | apply Kd.N_drew)); exact HO424.out) hb); have n4_ := am (Kd.N_below (by (with_reducible repeat (first | apply Kd.N_alloc | apply Kd.N_drewN | apply Kd.N_drew)); exact HO427.out) hb); have n5_ := am (blk_below (g := gb416) (o := .cells #[.slice Ao26 t409.length co26, .int .i64 t412] 25 (0, 0)) (by (with_reducible repeat (first | refine blk_drewN ?_ _ | refine blk_drew ?_ | refine blk_alloc ?_ _)); exact BK416.out) hb); have n6_ := am (below_step (by repeat (first | (with_reducible first | exact HB.out | apply below_alloc | apply pw_below_drewN | apply below_drew1 | refine below_set ?_ GE416.out) | exact HB.out)) hb); clear HO411 HO415 HO420 HO424 HO427 BK416 HB; revert n0_ n1_ n2_ n3_ n4_ n5_ n6_; intro HO411 HO415 HO420 HO424 HO427 BK416 HB; (try clear hb); (try clear hb2); (try clear hk); (try clear hi)) | (go_at_call 18; (with_reducible refine (runs_Runs.calls k _ _ t418 500 t429 _ ?side1 ?side2 A17.out).mono ?_); (case side1 => repeat (first | exact (Kd.N_reads' HO420.out).2.2 | (with_reducible refine Kd.C_alloc ?_ _) | (with_reducible refine Kd.C_drewN ?_ _) | (with_reducible refine Kd.C_drew ?_))); (case side2 => exact (Kd.N_reads' HO420.out).2.1); rintro e w37 ⟨v430, rfl, ho0, hb⟩; have n0_ := am (Kd.R_below (by (with_reducible repeat (first | apply Kd.R_alloc | apply Kd.R_drewN | apply Kd.R_drew)); exact HO411.out) hb); have n1_ := am (Kd.N_elder' (by (with_reducible repeat (first | apply Kd.N_alloc | apply Kd.N_drewN | apply Kd.N_drew)); exact HO415.out) (by first | exact Kd.N_base ho0 | exact Kd.S_base ho0 | exact Kd.R_base ho0) hb); have n2_ := am (Kd.N_elder' (by (with_reducible repeat (first | apply Kd.N_alloc | apply Kd.N_drewN | apply Kd.N_drew)); exact HO420.out) (by first | exact Kd.N_base ho0 | exact Kd.S_base ho0 | exact Kd.R_base ho0) hb); have n3_ := am (Kd.N_elder' (by (with_reducible repeat (first | apply Kd.N_alloc | apply Kd.N_drewN | apply Kd.N_drew)); exact HO424.out) (by first | exact Kd.N_base ho0 | exact Kd.S_base ho0 | exact Kd.R_base ho0) hb); have n4_ := am (Kd.N_elder' (by (with_reducible repeat (first | apply Kd.N_alloc | apply Kd.N_drewN | apply Kd.N_drew)); exact HO427.out) (by first | exact Kd.N_base ho0 | exact Kd.S_base ho0 | exact Kd.R_base ho0) hb); have n5_ := am (Kd.N_lower (Kd.N_mono (ok' := fun k_ => some k_ ≠ (.slice Ao26 t409.length co26 : Value).ownBlock ∧ some k_ ≠ (.slice Ao29 t413.length co29 : Value).ownBlock ∧ some k_ ≠ (.slice Ao31 t418.length co31 : Value).ownBlock ∧ some k_ ≠ (.slice Ao34 t422.length co34 : Value).ownBlock ∧ some k_ ≠ (.slice Ao35 t425.length co35 : Value).ownBlock ∧ k_ ≠ gb416) (Kd.R_N (Kd.R_bound ho0)) (fun k_ hk_ => ⟨(Kd.fresh' (Kd.R_lt (by (with_reducible repeat (first | apply Kd.R_alloc | apply Kd.R_drewN | apply Kd.R_drew)); exact HO411.out)) k_ hk_.2.1), (Kd.fresh' (Kd.N_lt (by (with_reducible repeat (first | apply Kd.N_alloc | apply Kd.N_drewN | apply Kd.N_drew)); exact HO415.out)) k_ hk_.2.1), (Kd.fresh' (Kd.N_lt (by (with_reducible repeat (first | apply Kd.N_alloc | apply Kd.N_drewN | apply Kd.N_drew)); exact HO420.out)) k_ hk_.2.1), (Kd.fresh' (Kd.N_lt (by (with_reducible repeat (first | apply Kd.N_alloc | apply Kd.N_drewN | apply Kd.N_drew)); exact HO424.out)) k_ hk_.2.1), (Kd.fresh' (Kd.N_lt (by (with_reducible repeat (first | apply Kd.N_alloc | apply Kd.N_drewN | apply Kd.N_drew)); exact HO427.out)) k_ hk_.2.1), (Kd.freshB (g := gb416) (o := .cells #[.slice Ao26 t409.length co26, .int .i64 t412] 25 (0, 0)) (by (with_reducible repeat (first | refine blk_drewN ?_ _ | refine blk_drew ?_ | refine blk_alloc ?_ _)); exact BK416.out) k_ hk_.2.1)⟩)) (below_size (by repeat (first | (with_reducible first | exact HB.out | apply below_alloc | apply pw_below_drewN | apply below_drew1 | refine below_set ?_ GE416.out) | exact HB.out)))); have n6_ := am (blk_below (g := gb416) (o := .cells #[.slice Ao26 t409.length co26, .int .i64 t412] 25 (0, 0)) (by (with_reducible repeat (first | refine blk_drewN ?_ _ | refine blk_drew ?_ | refine blk_alloc ?_ _)); exact BK416.out) hb); have n7_ := am (below_step (by repeat (first | (with_reducible first | exact HB.out | apply below_alloc | apply pw_below_drewN | apply below_drew1 | refine below_set ?_ GE416.out) | exact HB.out)) hb); clear HO411 HO415 HO420 HO424 HO427 BK416 HB; revert n0_ n1_ n2_ n3_ n4_ n5_ n6_ n7_; intro HO411 HO415 HO420 HO424 HO427 HO431 BK416 HB; (try clear hb); (try clear hb2); (try clear hk); (try clear hi); (try clear ho0)) | (go_at_call 19; (with_reducible refine (hypercuberef5_Runs.calls k _ _ t418 500 t432 _ ?side1 ?side2 A18.out).mono ?_); (case side1 => repeat (first | exact (Kd.N_reads' HO420.out).2.2 | (with_reducible refine Kd.C_alloc ?_ _) | (with_reducible refine Kd.C_drewN ?_ _) | (with_reducible refine Kd.C_drew ?_))); (case side2 => exact (Kd.N_reads' HO420.out).2.1); rintro e w38 ⟨v433, rfl, ho0, hb⟩; have n0_ := am (Kd.R_below (by (with_reducible repeat (first | apply Kd.R_alloc | apply Kd.R_drewN | apply Kd.R_drew)); exact HO411.out) hb); have n1_ := am (Kd.N_elder' (by (with_reducible repeat (first | apply Kd.N_alloc | apply Kd.N_drewN | apply Kd.N_drew)); exact HO415.out) (by first | exact Kd.N_base ho0 | exact Kd.S_base ho0 | exact Kd.R_base ho0) hb); have n2_ := am (Kd.N_elder' (by (with_reducible repeat (first | apply Kd.N_alloc | apply Kd.N_drewN | apply Kd.N_drew)); exact HO420.out) (by first | exact Kd.N_base ho0 | exact Kd.S_base ho0 | exact Kd.R_base ho0) hb); have n3_ := am (Kd.N_elder' (by (with_reducible repeat (first | apply Kd.N_alloc | apply Kd.N_drewN | apply Kd.N_drew)); exact HO424.out) (by first | exact Kd.N_base ho0 | exact Kd.S_base ho0 | exact Kd.R_base ho0) hb); have n4_ := am (Kd.N_elder' (by (with_reducible repeat (first | apply Kd.N_alloc | apply Kd.N_drewN | apply Kd.N_drew)); exact HO427.out) (by first | exact Kd.N_base ho0 | exact Kd.S_base ho0 | exact Kd.R_base ho0) hb); have n5_ := am (Kd.N_elder' (by (with_reducible repeat (first | apply Kd.N_alloc | apply Kd.N_drewN | apply Kd.N_drew)); exact HO431.out) (by first | exact Kd.N_base ho0 | exact Kd.S_base ho0 | exact Kd.R_base ho0) hb); have n6_ := am (Kd.N_lower (Kd.N_mono (ok' := fun k_ => some k_ ≠ (.slice Ao26 t409.length co26 : Value).ownBlock ∧ some k_ ≠ (.slice Ao29 t413.length co29 : Value).ownBlock ∧ some k_ ≠ (.slice Ao31 t418.length co31 : Value).ownBlock ∧ some k_ ≠ (.slice Ao34 t422.length co34 : Value).ownBlock ∧ some k_ ≠ (.slice Ao35 t425.length co35 : Value).ownBlock ∧ some k_ ≠ (v430 : Value).ownBlock ∧ k_ ≠ gb416) ho0 (fun k_ hk_ => ⟨(Kd.fresh' (Kd.R_lt (by (with_reducible repeat (first | apply Kd.R_alloc | apply Kd.R_drewN | apply Kd.R_drew)); exact HO411.out)) k_ hk_), (Kd.fresh' (Kd.N_lt (by (with_reducible repeat (first | apply Kd.N_alloc | apply Kd.N_drewN | apply Kd.N_drew)); exact HO415.out)) k_ hk_), (Kd.fresh' (Kd.N_lt (by (with_reducible repeat (first | apply Kd.N_alloc | apply Kd.N_drewN | apply Kd.N_drew)); exact HO420.out)) k_ hk_), (Kd.fresh' (Kd.N_lt (by (with_reducible repeat (first | apply Kd.N_alloc | apply Kd.N_drewN | apply Kd.N_drew)); exact HO424.out)) k_ hk_), (Kd.fresh' (Kd.N_lt (by (with_reducible repeat (first | apply Kd.N_alloc | apply Kd.N_drewN | apply Kd.N_drew)); exact HO427.out)) k_ hk_), (Kd.fresh' (Kd.N_lt (by (with_reducible repeat (first | apply Kd.N_alloc | apply Kd.N_drewN | apply Kd.N_drew)); exact HO431.out)) k_ hk_), (Kd.freshB (g := gb416) (o := .cells #[.slice Ao26 t409.length co26, .int .i64 t412] 25 (0, 0)) (by (with_reducible repeat (first | refine blk_drewN ?_ _ | refine blk_drew ?_ | refine blk_alloc ?_ _)); exact BK416.out) k_ hk_)⟩)) (below_size (by repeat (first | (with_reducible first | exact HB.out | apply below_alloc | apply pw_below_drewN | apply below_drew1 | refine below_set ?_ GE416.out) | exact HB.out)))); have n7_ := am (blk_below (g := gb416) (o := .cells #[.slice Ao26 t409.length co26, .int .i64 t412] 25 (0, 0)) (by (with_reducible repeat (first | refine blk_drewN ?_ _ | refine blk_drew ?_ | refine blk_alloc ?_ _)); exact BK416.out) hb); have n8_ := am (below_step (by repeat (first | (with_reducible first | exact HB.out | apply below_alloc | apply pw_below_drewN | apply below_drew1 | refine below_set ?_ GE416.out) | exact HB.out)) hb); clear HO411 HO415 HO420 HO424 HO427 HO431 BK416 HB; revert n0_ n1_ n2_ n3_ n4_ n5_ n6_ n7_ n8_; intro HO411 HO415 HO420 HO424 HO427 HO431 HO434 BK416 HB; (try clear hb); (try clear hb2); (try clear hk); (try clear hi); (try clear ho0); obtain ⟨Ao39, co39, eo39⟩ := Kd.N_slice HO431.out; subst eo39; obtain ⟨Ao40, co40, eo40⟩ := Kd.N_slice HO434.out; subst eo40) | (go_at_call 17; (with_reducible refine (hypercuberef5_Same.calls k _ _ t429 _ _ t432 true _ ?side1 ?side2 ?side3 ?side4 A19.out).mono ?_); (case side1 => repeat (first | exact (Kd.N_reads' HO431.out).2.2 | (with_reducible refine Kd.C_alloc ?_ _) | (with_reducible refine Kd.C_drewN ?_ _) | (with_reducible refine Kd.C_drew ?_))); (case side2 => exact (Kd.N_reads' HO431.out).2.1); (case side3 => repeat (first | exact (Kd.N_reads' HO434.out).2.2 | (with_reducible refine Kd.C_alloc ?_ _) | (with_reducible refine Kd.C_drewN ?_ _) | (with_reducible refine Kd.C_drew ?_))); (case side4 => exact (Kd.N_reads' HO434.out).2.1); rintro e w41 ⟨rfl, hb⟩; have n0_ := am (Kd.R_below (by (with_reducible repeat (first | apply Kd.R_alloc | apply Kd.R_drewN | apply Kd.R_drew)); exact HO411.out) hb); have n1_ := am (Kd.N_below (by (with_reducible repeat (first | apply Kd.N_alloc | apply Kd.N_drewN | apply Kd.N_drew)); exact HO415.out) hb); have n2_ := am (Kd.N_below (by (with_reducible repeat (first | apply Kd.N_alloc | apply Kd.N_drewN | apply Kd.N_drew)); exact HO420.out) hb); have n3_ := am (Kd.N_below (by (with_reducible repeat (first | apply Kd.N_alloc | apply Kd.N_drewN | apply Kd.N_drew)); exact HO424.out) hb); have n4_ := am (Kd.N_below (by (with_reducible repeat (first | apply Kd.N_alloc | apply Kd.N_drewN | apply Kd.N_drew)); exact HO427.out) hb); have n5_ := am (Kd.N_below (by (with_reducible repeat (first | apply Kd.N_alloc | apply Kd.N_drewN | apply Kd.N_drew)); exact HO431.out) hb); have n6_ := am (Kd.N_below (by (with_reducible repeat (first | apply Kd.N_alloc | apply Kd.N_drewN | apply Kd.N_drew)); exact HO434.out) hb); have n7_ := am (blk_below (g := gb416) (o := .cells #[.slice Ao26 t409.length co26, .int .i64 t412] 25 (0, 0)) (by (with_reducible repeat (first | refine blk_drewN ?_ _ | refine blk_drew ?_ | refine blk_alloc ?_ _)); exact BK416.out) hb); have n8_ := am (below_step (by repeat (first | (with_reducible first | exact HB.out | apply below_alloc | apply pw_below_drewN | apply below_drew1 | refine below_set ?_ GE416.out) | exact HB.out)) hb); clear HO411 HO415 HO420 HO424 HO427 HO431 HO434 BK416 HB; revert n0_ n1_ n2_ n3_ n4_ n5_ n6_ n7_ n8_; intro HO411 HO415 HO420 HO424 HO427 HO431 HO434 BK416 HB; (try clear hb); (try clear hb2); (try clear hk); (try clear hi)) | (go_at_call 20; (with_reducible refine (runs_Sorted.calls k _ _ t418 t436 _ ?side1 ?side2 A21.out).mono ?_); (case side1 => repeat (first | exact (Kd.N_reads' HO420.out).2.2 | (with_reducible refine Kd.C_alloc ?_ _) | (with_reducible refine Kd.C_drewN ?_ _) | (with_reducible refine Kd.C_drew ?_))); (case side2 => exact (Kd.N_reads' HO420.out).2.1); rintro e w42 ⟨rfl, hb⟩; have n0_ := am (Kd.R_below (by (with_reducible repeat (first | apply Kd.R_alloc | apply Kd.R_drewN | apply Kd.R_drew)); exact HO411.out) hb); have n1_ := am (Kd.N_below (by (with_reducible repeat (first | apply Kd.N_alloc | apply Kd.N_drewN | apply Kd.N_drew)); exact HO415.out) hb); have n2_ := am (Kd.N_below (by (with_reducible repeat (first | apply Kd.N_alloc | apply Kd.N_drewN | apply Kd.N_drew)); exact HO420.out) hb); have n3_ := am (Kd.N_below (by (with_reducible repeat (first | apply Kd.N_alloc | apply Kd.N_drewN | apply Kd.N_drew)); exact HO424.out) hb); have n4_ := am (Kd.N_below (by (with_reducible repeat (first | apply Kd.N_alloc | apply Kd.N_drewN | apply Kd.N_drew)); exact HO427.out) hb); have n5_ := am (Kd.N_below (by (with_reducible repeat (first | apply Kd.N_alloc | apply Kd.N_drewN | apply Kd.N_drew)); exact HO431.out) hb); have n6_ := am (Kd.N_below (by (with_reducible repeat (first | apply Kd.N_alloc | apply Kd.N_drewN | apply Kd.N_drew)); exact HO434.out) hb); have n7_ := am (blk_below (g := gb416) (o := .cells #[.slice Ao26 t409.length co26, .int .i64 t412] 25 (0, 0)) (by (with_reducible repeat (first | refine blk_drewN ?_ _ | refine blk_drew ?_ | refine blk_alloc ?_ _)); exact BK416.out) hb); have n8_ := am (below_step (by repeat (first | (with_reducible first | exact HB.out | apply below_alloc | apply pw_below_drewN | apply below_drew1 | refine below_set ?_ GE416.out) | exact HB.out)) hb); clear HO411 HO415 HO420 HO424 HO427 HO431 HO434 BK416 HB; revert n0_ n1_ n2_ n3_ n4_ n5_ n6_ n7_ n8_; intro HO411 HO415 HO420 HO424 HO427 HO431 HO434 BK416 HB; (try clear hb); (try clear hb2); (try clear hk); (try clear hi)) | (go_at_call 21; (with_reducible refine (hypercuberef5_Sorted.calls k _ _ t418 t437 _ ?side1 ?side2 A22.out).mono ?_); (case side1 => repeat (first | exact (Kd.N_reads' HO420.out).2.2 | (with_reducible refine Kd.C_alloc ?_ _) | (with_reducible refine Kd.C_drewN ?_ _) | (with_reducible refine Kd.C_drew ?_))); (case side2 => exact (Kd.N_reads' HO420.out).2.1); rintro e w' ⟨rfl, ⟨nd, rfl⟩⟩))
    go_ret
    exact ⟨by first | rfl | (simp [errW_none, errW_some] <;> rfl) | (simp [*, errW_none, errW_some] <;> rfl), by repeat (first | (with_reducible first | exact HB.out | apply below_alloc | apply pw_below_drewN | apply below_drew1 | refine below_set ?_ GE416.out) | exact HB.out)⟩
   ·replace c20 := Bool.eq_false_iff.mpr c20
    subst c20
    have H1 : (none) = some r := by rw [if_neg (show ¬ (false = true) by decide)] at H; exact H
    clear H
    have H := H1
    clear H1
    exact absurd H (by simp)
  ·replace c16 := Bool.eq_false_iff.mpr c16
   subst c16
   have H1 : (none) = some r := by rw [if_neg (show ¬ (false = true) by decide)] at H; exact H
   clear H
   have H := H1
   clear H1
   exact absurd H (by simp)
 ·replace c8 := Bool.eq_false_iff.mpr c8
  subst c8
  have H1 : (none) = some r := by rw [if_neg (show ¬ (false = true) by decide)] at H; exact H
  clear H
  have H := H1
  clear H1
  exact absurd H (by simp)
def hypercubelaw5_RunsAll.Pure : Prop := ∀ (a0 : Int) (l1 : List Int) (a2 : Int) (l3 : List Int) (a4 : Int) (a5 : Int), (Lit.int .i64 a0).wf = true → l1.length ≤ maxLen → l1.length * 8 ≤ 140737488351232 → (∀ x ∈ l1, (Lit.int .i64 x).wf = true) → (Lit.int .i64 a2).wf = true → l3.length ≤ maxLen → l3.length * 8 ≤ 140737488351232 → (∀ x ∈ l3, (Lit.int .i64 x).wf = true) → (Lit.int .i64 a4).wf = true → (Lit.int .i64 a5).wf = true → ∃ k, hypercubelaw5_RunsAll.f k a0 l1 a2 l3 a4 a5 = some true
theorem hypercubelaw5_RunsAll.walk (P : hypercubelaw5_RunsAll.Pure) (a0 : Int) (a1 : Option Addr) (len1 cap1 : Nat) (z1 : List Int) (a2 : Int) (a3 : Option Addr) (len3 cap3 : Nat) (z3 : List Int) (a4 : Int) (a5 : Int) (w : World) (w0 : (Lit.int .i64 a0).wf = true) (w1 : (a1 = none ∧ len1 = 0 ∧ cap1 = 0 ∧ z1 = []) ∨ ∃ x, a1 = some x ∧ len1 ≤ cap1 ∧ cap1 ≤ maxLen ∧ z1.length = cap1 ∧ (∀ i, i < z1.length → w.cell? (x.add i) = some (.int .i64 (z1.getD i 0))) ∧ ∀ n ∈ z1, (Lit.int .i64 n).wf = true) (y1 : len1 * 8 ≤ 140737488351232) (w2 : (Lit.int .i64 a2).wf = true) (w3 : (a3 = none ∧ len3 = 0 ∧ cap3 = 0 ∧ z3 = []) ∨ ∃ x, a3 = some x ∧ len3 ≤ cap3 ∧ cap3 ≤ maxLen ∧ z3.length = cap3 ∧ (∀ i, i < z3.length → w.cell? (x.add i) = some (.int .i64 (z3.getD i 0))) ∧ ∀ n ∈ z3, (Lit.int .i64 n).wf = true) (y3 : len3 * 8 ≤ 140737488351232) (w4 : (Lit.int .i64 a4).wf = true) (w5 : (Lit.int .i64 a5).wf = true) :
  Calls Try.prog 3 #[.int .i64 a0, .slice a1 len1 cap1, .int .i64 a2, .slice a3 len3 cap3, .int .i64 a4, .int .i64 a5] w fun e w' => e = .returned (.bool true) ∧ Below w.heap.size w w' := by
 obtain ⟨l1, rfl, hr1, hm1, hw1, hc1⟩ := ReadsInt.ofRowC w1
 obtain ⟨l3, rfl, hr3, hm3, hw3, hc3⟩ := ReadsInt.ofRowC w3
 obtain ⟨k, h⟩ := P a0 l1 a2 l3 a4 a5 w0 hm1 y1 hw1 w2 hm3 y3 hw3 w4 w5
 refine (hypercubelaw5_RunsAll.calls k a0 _ _ l1 a2 _ _ l3 a4 a5 true w (Kd.C_of_reads (d := (0 : Int)) (h1 := fun _ => rfl) hr1) hc1 (Kd.C_of_reads (d := (0 : Int)) (h1 := fun _ => rfl) hr3) hc3 h).mono ?_
 rintro e w' ⟨rfl, hd⟩
 exact ⟨rfl, hd⟩
end Go.Proofs.Ytmnepkbmcnpjlaa.Q
