-- packed by wip/tools/pack.py (a program of this session) out of its own texts
import Derived.Test.YtmnepkbmcnpjlaaPRunsSorted0
import Derived.ArgAppend
import Derived.Below
import Derived.BigQuiet
import Derived.Deep.AppendLies
import Derived.Deep.CutBlock
import Derived.Deep.DeepCutAuto
import Derived.Deep.Draws
import Derived.Deep.LoopGhost
import Derived.Deep.OwnRows
import Derived.Deep.QuietTactic
import Derived.Deep.RegionHeld3
import Derived.KernelRfl
import Derived.Laws.BitsLemmas
import Derived.Laws.BytesArg
import Derived.Laws.IdiomCopy
import Derived.Laws.MakeOwn
import Derived.Laws.OwnMore
import Derived.Laws.Rows
import Derived.Laws.Slices
import Derived.Lib.AppendStr
import Derived.Lib.ConvBytes
import Derived.Maps.AppendAt
import Derived.OrdersHeld
import Derived.OrdersIn
import Derived.OwnWalk
import Derived.RangeFuncBound
import Derived.RangeFuncCalls
import Derived.RangeFuncNested
import Derived.RangeFuncOwn
import Derived.RowKit
import Derived.RowKit3
import Derived.Tactics
import Derived.Test.YtmnepkbmcnpjlaaProg
import Derived.WalkKit
import Derived.WideLaws
import Derived.Test.YtmnepkbmcnpjlaaPRunsSorted1
import Derived.Test.YtmnepkbmcnpjlaaPRunsSorted3
import Derived.Test.YtmnepkbmcnpjlaaPRunsSorted4
import Derived.Test.YtmnepkbmcnpjlaaPRunsSorted5
namespace Go.Proofs.Ytmnepkbmcnpjlaa.Q
open Go.RowKit Go.Proofs.YtmnepkbmcnpjlaaW.PrintWords Go.Proofs.YtmnepkbmcnpjlaaW.PrintLast Go.Proofs.YtmnepkbmcnpjlaaW.PrintMore
set_option linter.unusedVariables false
set_option linter.unusedSimpArgs false
def noGuard (ops : Array Oper) : Bool := ops.toList.all fun o => o.guard.isNone
def childB (md : Region.Mode) (ops : Array Oper) (m : Nat) (ch : List Nat) : Bool :=
 (List.range m).all fun j => decide (j < ch.getD j 0) && decide (ch.getD j 0 ≤ m) && ((ops[ch.getD j 0]?).map (fun o => o.after.toList.any fun e => Region.binds md e && decide (e.on = j))).getD false
def ClosedL (md : Region.Mode) (ops : Array Oper) (l : Array Bool) : Prop := ∀ i o, ops[i]? = some o → l.getD i false = true → ∀ e ∈ o.after, Region.binds md e = true → l.getD e.on false = true
theorem ready_get {md : Region.Mode} {ops : Array Oper} {l : Array Bool} {i : Nat} (h : i ∈ Region.ready md ops l) : i < ops.size ∧ l.getD i true = false ∧ ∃ o, ops[i]? = some o ∧ ∀ e ∈ o.after, Region.binds md e = true → l.getD e.on false = true := by
 unfold Region.ready at h
 rw [List.mem_filter, List.mem_range, Bool.and_eq_true] at h
 obtain ⟨h1, h2, h3⟩ := h
 rw [Array.getElem?_eq_getElem h1] at h3
 refine ⟨h1, by simpa using h2, _, Array.getElem?_eq_getElem h1, fun e he hb => ?_⟩
 simp only [Option.map_some, Option.getD_some] at h3
 obtain ⟨j, hj, rfl⟩ := Array.mem_iff_getElem.1 he
 have := (Array.all_eq_true.1 h3) j hj
 rw [Bool.or_eq_true, hb] at this
 rcases this with h | h
 ·cases h
 ·exact h
theorem ready_mk {md : Region.Mode} {ops : Array Oper} {l : Array Bool} {i : Nat} {o : Oper} (ho : ops[i]? = some o) (hl : l.getD i true = false) (h : ∀ e ∈ o.after, Region.binds md e = true → l.getD e.on false = true) : i ∈ Region.ready md ops l := by
 unfold Region.ready
 have hi := (Array.getElem?_eq_some_iff.1 ho).1
 rw [List.mem_filter, List.mem_range, Bool.and_eq_true, ho]
 refine ⟨hi, by rw [hl]; rfl, ?_⟩
 simp only [Option.map_some, Option.getD_some]
 rw [Array.all_eq_true]
 intro j hj
 have := h _ (Array.getElem_mem hj)
 cases hb : Region.binds md o.after[j]
 ·rfl
 ·simp [this hb]
theorem closed_set {md : Region.Mode} {ops : Array Oper} {l : Array Bool} {i : Nat} (h : ClosedL md ops l) (hi : i ∈ Region.ready md ops l) : ClosedL md ops (l.setIfInBounds i true) := by
 obtain ⟨h1, h2, o, ho, h3⟩ := ready_get hi
 have hlt : i < l.size := by
  rcases Nat.lt_or_ge i l.size with h | h
  ·exact h
  ·simp [Array.getD_eq_getD_getElem?, Array.getElem?_eq_none h] at h2
 intro k ok hok hk e he hb
 rw [getD_set hlt] at hk ⊢
 split
 ·rfl
 ·by_cases c : i = k
  ·subst c
   rw [hok] at ho
   cases ho
   exact h3 e he hb
  ·rw [if_neg c] at hk
   exact h k ok hok hk e he hb
theorem wpOpIn_mono' {F : Fence} {n : Nat} {P : Program} {ops : Array Oper} {Q : Exit → Act → World → Prop} {i : Nat} {K K' : Act → World → Prop} {a : Act} {w : World} (h : ∀ a w, K a w → K' a w) (hh : wpOpIn F n P ops Q i K a w) : wpOpIn F n P ops Q i K' a w := by
 unfold wpOpIn at hh ⊢
 cases ho : ops[i]? with
 | none => simp only [ho] at hh ⊢; exact h _ _ hh
 | some o =>
  simp only [ho] at hh ⊢
  split
  ·rename_i hw
   rw [if_pos hw] at hh
   exact Oper.wpIn_mono h hh
  ·rename_i hw
   rw [if_neg hw] at hh
   exact ⟨hh.1, h _ _ hh.2⟩
def splitQ (F : Fence) (n : Nat) (P : Program) (ops : Array Oper) (Q : Exit → Act → World → Prop) (m : Nat) : Exit → Act → World → Prop
 | .normal, a, w => wpOpIn F n P ops Q m (fun a w => wpOpIn F n P ops Q (m + 1) (fun a w => Q .normal a w) a w) a w
 | e, a, w => Q e a w
theorem wanted_none {o : Oper} (h : o.guard.isNone = true) (f : Nat → Option Bool) : Region.wanted o f = true := by
 unfold Region.wanted
 cases hg : o.guard with
 | none => rfl
 | some g => rw [hg] at h; cases h
theorem op_split {F : Fence} {n : Nat} {P : Program} {ops : Array Oper} {Q : Exit → Act → World → Prop} {m i : Nat} {K : Act → World → Prop} {a : Act} {w : World} (hi : i < m) (hm : m ≤ ops.size) (hg : noGuard ops = true) (h : wpOpIn F n P (ops.extract 0 m) (splitQ F n P ops Q m) i K a w) : wpOpIn F n P ops Q i K a w := by
 have he : (ops.extract 0 m)[i]? = ops[i]? := by
  rw [Array.getElem?_extract]
  simp only [Nat.zero_add]
  rw [if_pos (by omega)]
 unfold wpOpIn at h ⊢
 rw [he] at h
 cases ho : ops[i]? with
 | none => simp only [ho] at h ⊢; exact h
 | some o =>
  have hgo : o.guard.isNone = true := by
   have hmem : o ∈ ops.toList := Array.mem_toList_iff.mpr (Array.mem_of_getElem? ho)
   exact List.all_eq_true.1 hg o hmem
  simp only [ho, wanted_none hgo, if_true] at h ⊢
  refine ⟨h.1, ?_⟩
  have h2 := h.2
  generalize ((o.semAt F.round a.eval).run P w) = r at h2 ⊢
  cases r with
  | ok x w' => cases x <;> exact h2
  | halt x w' => cases x <;> exact h2
theorem any_split {F : Fence} {n : Nat} {P : Program} {md : Region.Mode} {ops : Array Oper} {Q : Exit → Act → World → Prop} {m : Nat} (ch : List Nat) (hs : ops.size = m + 2) (hg : noGuard ops = true) (hlow : lowB ops = true) (hch : childB md ops m ch = true)
  (hlast : ((ops[m + 1]?).map (fun o => o.after.toList.any fun e => Region.binds md e && decide (e.on = m))).getD false = true) :
  ∀ (fuel : Nat) (l : Array Bool) (a : Act) (w : World), l.size = m + 2 → ClosedL md ops l → l.getD m true = false → l.getD (m + 1) true = false →
   wpAnyIn F n P md (ops.extract 0 m) (splitQ F n P ops Q m) fuel (l.extract 0 m) a w → wpAnyIn F n P md ops Q (fuel + 2) l a w := by
 have low := low_of hlow
 have dt : ∀ (l : Array Bool) (j : Nat), j < l.size → l.getD j true = l.getD j false := fun l j hj => by simp [Array.getD_eq_getD_getElem?, hj]
 have hex : ∀ (l : Array Bool) (j : Nat) (d : Bool), l.size = m + 2 → j < m → (l.extract 0 m).getD j d = l.getD j d := fun l j d hl hj => by
  simp only [Array.getD_eq_getD_getElem?]
  rw [Array.getElem?_extract]
  simp only [Nat.zero_add]
  rw [if_pos (by omega)]
 have hox : ∀ i, i < m → (ops.extract 0 m)[i]? = ops[i]? := fun i hi => by
  rw [Array.getElem?_extract]
  simp only [Nat.zero_add]
  rw [if_pos (by omega)]
 have hxs : (ops.extract 0 m).size = m := by simp [hs]
 -- ready of the others
 have rdy : ∀ (l : Array Bool) (i : Nat), l.size = m + 2 → i < m → (i ∈ Region.ready md ops l ↔ i ∈ Region.ready md (ops.extract 0 m) (l.extract 0 m)) := fun l i hl hi => by
  constructor
  ·intro h
   obtain ⟨_, h2, o, ho, h3⟩ := ready_get h
   exact ready_mk ((hox i hi).trans ho) ((hex l i true hl hi).trans h2) (fun e he hb => (hex l e.on false hl (by have := low i o ho e he; omega)).trans (h3 e he hb))
  ·intro h
   obtain ⟨_, h2, o, ho, h3⟩ := ready_get h
   rw [hox i hi] at ho
   exact ready_mk ho ((hex l i true hl hi).symm.trans h2) (fun e he hb => (hex l e.on false hl (by have := low i o ho e he; omega)).symm.trans (h3 e he hb))
 -- when m comes up all others have been
 have allB : ∀ (l : Array Bool), ClosedL md ops l → m ∈ Region.ready md ops l → ∀ d j, m - j ≤ d → j < m → l.getD j false = true := fun l hc hm d => by
  induction d with
  | zero => intro j h1 h2; omega
  | succ d ih =>
   intro j h1 h2
   have hj := List.all_eq_true.1 hch j (List.mem_range.2 h2)
   rw [Bool.and_eq_true, Bool.and_eq_true, decide_eq_true_eq, decide_eq_true_eq] at hj
   obtain ⟨⟨c1, c2⟩, c3⟩ := hj
   obtain ⟨o, ho⟩ : ∃ o, ops[ch.getD j 0]? = some o := ⟨_, Array.getElem?_eq_getElem (by omega)⟩
   rw [ho] at c3
   simp only [Option.map_some, Option.getD_some] at c3
   obtain ⟨e, he, hb⟩ := List.any_eq_true.1 c3
   rw [Bool.and_eq_true, decide_eq_true_eq] at hb
   have hea : e ∈ o.after := by simpa using he
   rcases Nat.lt_or_ge (ch.getD j 0) m with hlt | hge
   ·have := hc _ o ho (ih _ (by omega) hlt) e hea hb.1
    rwa [hb.2] at this
   ·have hcm : ch.getD j 0 = m := by omega
    obtain ⟨_, _, o', ho', h3⟩ := ready_get hm
    rw [hcm, ho'] at ho
    cases ho
    have := h3 e hea hb.1
    rwa [hb.2] at this
 -- the last two
 have fin : ∀ (l : Array Bool) (a : Act) (w : World) (fuel : Nat), l.size = m + 2 → ClosedL md ops l → m ∈ Region.ready md ops l → l.getD (m + 1) true = false → splitQ F n P ops Q m .normal a w → wpOpIn F n P ops Q m (wpAnyIn F n P md ops Q (fuel + 1) (l.setIfInBounds m true)) a w := fun l a w fuel hl hc hm h11 hq => by
  have hall := allB l hc hm m
  have hgs : ∀ j d, (l.setIfInBounds m true).getD j d = if m = j then true else l.getD j d := fun j d => getD_set (by omega)
  have hr1 : ∀ i, i ∈ Region.ready md ops (l.setIfInBounds m true) → i = m + 1 := fun i hi => by
   obtain ⟨h1, h2, _⟩ := ready_get hi
   rw [hgs] at h2
   split at h2
   ·cases h2
   ·rcases Nat.lt_or_ge i m with hlt | hge
    ·rw [dt l i (by omega), hall i (by omega) hlt] at h2; cases h2
    ·omega
  have hin : m + 1 ∈ Region.ready md ops (l.setIfInBounds m true) := by
   refine ready_mk (Array.getElem?_eq_getElem (by omega)) (by rw [hgs, if_neg (by omega)]; exact h11) (fun e he hb => ?_)
   have := low (m + 1) _ (Array.getElem?_eq_getElem (by omega)) e he
   rw [hgs]
   split
   ·rfl
   ·exact hall e.on (by omega) (by omega)
  have hr2 : Region.ready md ops ((l.setIfInBounds m true).setIfInBounds (m + 1) true) = [] := by
   cases hr : Region.ready md ops ((l.setIfInBounds m true).setIfInBounds (m + 1) true) with
   | nil => rfl
   | cons i rs =>
    exfalso
    have hi : i ∈ Region.ready md ops ((l.setIfInBounds m true).setIfInBounds (m + 1) true) := by rw [hr]; simp
    obtain ⟨h1, h2, _⟩ := ready_get hi
    rw [getD_set (by rw [Array.size_setIfInBounds]; omega), hgs] at h2
    split at h2
    ·cases h2
    ·split at h2
     ·cases h2
     ·rcases Nat.lt_or_ge i m with hlt | hge
      ·rw [dt l i (by omega), hall i (by omega) hlt] at h2; cases h2
      ·omega
  refine wpOpIn_mono' (fun a1 w1 h1 => ?_) hq
  refine ⟨fun h => (by rw [h] at hin; cases hin), fun i hi => ?_⟩
  have := hr1 i hi
  subst this
  refine wpOpIn_mono' (fun a2 w2 h2 => ?_) h1
  cases fuel with
  | zero => exact ⟨hr2, h2⟩
  | succ f => exact ⟨fun _ => h2, fun i hi => by rw [hr2] at hi; cases hi⟩
 have no11 : ∀ (l : Array Bool), l.size = m + 2 → l.getD m true = false → ¬ (m + 1 ∈ Region.ready md ops l) := fun l hl hm h => by
  obtain ⟨_, _, o, ho, h3⟩ := ready_get h
  rw [ho] at hlast
  simp only [Option.map_some, Option.getD_some] at hlast
  obtain ⟨e, he, hb⟩ := List.any_eq_true.1 hlast
  rw [Bool.and_eq_true, decide_eq_true_eq] at hb
  have := h3 e (by simpa using he) hb.1
  rw [hb.2, ← dt l m (by omega), hm] at this
  cases this
 have some_ready : ∀ (l : Array Bool), l.size = m + 2 → l.getD m true = false → Region.ready md (ops.extract 0 m) (l.extract 0 m) = [] → m ∈ Region.ready md ops l := fun l hl hm hr => by
  have hn := none_left (ops := ops.extract 0 m) (md := md) (l := l.extract 0 m) (by simp [hl, hs]) (fun i o ho e he => by
   have hi : i < m := by have := (Array.getElem?_eq_some_iff.1 ho).1; rw [hxs] at this; exact this
   rw [hox i hi] at ho
   exact low i o ho e he) hr
  refine ready_mk (Array.getElem?_eq_getElem (by omega)) hm (fun e he hb => ?_)
  have hlt := low m _ (Array.getElem?_eq_getElem (by omega)) e he
  have := hn e.on (by rw [hxs]; exact hlt)
  rw [hex l e.on true hl hlt, dt l e.on (by omega)] at this
  exact this
 intro fuel
 induction fuel with
 | zero =>
  intro l a w hl hc h1 h2 h
  refine ⟨fun hr => ?_, fun i hi => ?_⟩
  ·have := some_ready l hl h1 h.1
   rw [hr] at this; cases this
  ·have hlt := (ready_get hi).1
   rcases Nat.lt_or_ge i m with c | c
   ·have := (rdy l i hl c).1 hi
    rw [h.1] at this; cases this
   ·by_cases c2 : i = m
    ·subst c2; exact fin l a w 0 hl hc hi h2 h.2
    ·have : i = m + 1 := by omega
     subst this
     exact absurd hi (no11 l hl h1)
 | succ fuel ih =>
  intro l a w hl hc h1 h2 h
  refine ⟨fun hr => ?_, fun i hi => ?_⟩
  ·by_cases hr2 : Region.ready md (ops.extract 0 m) (l.extract 0 m) = []
   ·have := some_ready l hl h1 hr2
    rw [hr] at this; cases this
   ·obtain ⟨i, hi⟩ := List.exists_mem_of_ne_nil _ hr2
    have hlt : i < m := by have := (ready_get hi).1; rw [hxs] at this; exact this
    have := (rdy l i hl hlt).2 hi
    rw [hr] at this; cases this
  ·have hlt := (ready_get hi).1
   rcases Nat.lt_or_ge i m with c | c
   ·refine op_split c (by omega) hg (wpOpIn_mono' (fun a1 w1 hh => ?_) (h.2 i ((rdy l i hl c).1 hi)))
    have hgs : ∀ j d, (l.setIfInBounds i true).getD j d = if i = j then true else l.getD j d := fun j d => getD_set (by omega)
    refine ih _ a1 w1 (by rw [Array.size_setIfInBounds]; exact hl) (closed_set hc hi) (by rw [hgs, if_neg (by omega)]; exact h1) (by rw [hgs, if_neg (by omega)]; exact h2) ?_
    have e : (l.setIfInBounds i true).extract 0 m = (l.extract 0 m).setIfInBounds i true := by
     apply Array.ext_getElem?
     intro k
     rw [Array.getElem?_extract, Array.getElem?_setIfInBounds, Array.getElem?_setIfInBounds, Array.getElem?_extract]
     simp only [Nat.zero_add, Array.size_extract]
     by_cases k1 : k < m
     ·simp [k1, hl]
      split <;> simp_all <;> omega
     ·by_cases k2 : i = k
      ·omega
      ·simp [k1, k2]
    rw [e]
    exact hh
   ·by_cases c2 : i = m
    ·subst c2
     refine fin l a w (fuel + 1) hl hc hi h2 (h.1 ?_)
     cases hr : Region.ready md (ops.extract 0 i) (l.extract 0 i) with
     | nil => rfl
     | cons q rs =>
      exfalso
      have hq : q ∈ Region.ready md (ops.extract 0 i) (l.extract 0 i) := by rw [hr]; simp
      have hqm : q < i := by have := (ready_get hq).1; rw [hxs] at this; exact this
      have hq2 := (ready_get hq).2.1
      rw [hex l q true hl hqm, dt l q (by omega), allB l hc hi i q (by omega) hqm] at hq2
      cases hq2
    ·have : i = m + 1 := by omega
     subst this
     exact absurd hi (no11 l hl h1)
theorem oper_wide {n : Nat} {P : Program} {o : Oper} {a : Act} {w : World} {K : Act → World → Prop} {Q : Exit → Act → World → Prop} (h : o.wp P a w K Q) : o.wpIn Fence.wide n P a w K Q := by
 unfold Oper.wpIn
 refine ⟨fun _ _ => trivial, ?_⟩
 show o.uponIn Fence.wide n P a K Q ((o.semAt none a.eval).run P w)
 rw [Oper.semAt_none]
 unfold Oper.wp at h
 generalize (execOp a.eval o).run P w = r at h ⊢
 cases r with
 | ok x w' =>
  cases x with
  | value v => exact h
  | skip => exact h
  | defer d => exact h
  | enter f args => exact ⟨fun hd => by simp [Fence.wide] at hd, callsIn_wide.2 h⟩
  | row row args => exact ⟨fun hd => by simp [Fence.wide] at hd, fun c cs _ => let ⟨v, w', r, s⟩ := h c cs; ⟨v, w', r, stepsIn_wide.2 s⟩⟩
  | _ => exact h.elim
 | halt x w' => cases x <;> first | exact h | exact h.elim
theorem any_wide {n : Nat} {P : Program} {md : Region.Mode} {ops : Array Oper} {Q : Exit → Act → World → Prop} (hQ : ¬ LetsOut Q) :
  ∀ (fuel : Nat) (listed : Array Bool) (a : Act) (w : World), wpAny P md ops Q fuel listed a w → wpAnyIn Fence.wide n P md ops Q fuel listed a w := by
 intro fuel
 induction fuel with
 | zero => exact fun _ _ _ h => h
 | succ fuel ih =>
  intro listed a w h
  refine ⟨h.1, fun i hi => ?_⟩
  have h1 := h.2 i hi
  unfold wpOp at h1
  unfold wpOpIn
  cases ho : ops[i]? with
  | none => simp only [ho] at h1 ⊢; exact ih _ _ _ h1
  | some o =>
   simp only [ho] at h1 ⊢
   split
   ·rename_i hw
    simp only [hw, if_true] at h1
    exact Oper.wpIn_mono (fun a w hh => ih _ a w hh) (oper_wide (h1.resolve_right fun q => hQ q.2))
   ·rename_i hw
    simp only [hw] at h1
    exact ⟨fun _ _ => trivial, ih _ _ _ h1⟩
end Go.Proofs.Ytmnepkbmcnpjlaa.Q
