-- packed by wip/tools/pack.py (a program of this session) out of its own texts
import Derived.Test.YtndkimjmbpbcmaaPMergePasses0
import Derived.ArgAppend
import Derived.Below
import Derived.BigQuiet
import Derived.Deep.AppendLies
import Derived.Deep.CutBlock
import Derived.Deep.DeepCutAuto
import Derived.Deep.Draws
import Derived.Deep.LoopGhost
import Derived.Deep.OwnRows
import Derived.Deep.QuietTactic
import Derived.Deep.RegionHeld3
import Derived.KernelRfl
import Derived.Laws.BitsLemmas
import Derived.Laws.BytesArg
import Derived.Laws.EntriesVeiled
import Derived.Laws.Externs
import Derived.Laws.IdiomCopy
import Derived.Laws.MakeOwn
import Derived.Laws.OwnMore
import Derived.Laws.Rows
import Derived.Laws.Slices
import Derived.Lib.AppendStr
import Derived.Lib.AppendZeros
import Derived.Lib.AppendZerosOnto
import Derived.Lib.ConvBytes
import Derived.Lib.JoinLaws
import Derived.Lib.Overlaps
import Derived.Lib.SliceRun
import Derived.Lib.Walk
import Derived.LoopIn
import Derived.LoopNIn
import Derived.Maps.AppendAt
import Derived.OrdersHeld
import Derived.OrdersIn
import Derived.OwnWalk
import Derived.OwnWalkIn
import Derived.RangeFuncBound
import Derived.RangeFuncBox
import Derived.RangeFuncCalls
import Derived.RangeFuncLeaves
import Derived.RangeFuncNested
import Derived.RangeFuncOwn
import Derived.RowKit
import Derived.RowKit3
import Derived.Shelf.Abstract
import Derived.Shelf.RegionOpen
import Derived.Shelf.RegionOpenPlain
import Derived.Tactics
import Derived.TacticsInMore
import Derived.Test.YtndkimjmbpbcmaaProg
import Derived.WalkKit
import Derived.WalkSpells
import Derived.WideLaws
import Derived.Test.YtndkimjmbpbcmaaPMergePasses1
import Derived.Test.YtndkimjmbpbcmaaPMergePasses2
import Derived.Test.YtndkimjmbpbcmaaPMergePasses3
import Derived.Test.YtndkimjmbpbcmaaPMergePasses4
import Derived.Test.YtndkimjmbpbcmaaPMergePasses5
import Derived.Test.YtndkimjmbpbcmaaPMergePasses6
import Derived.Test.YtndkimjmbpbcmaaPMergePasses7
import Derived.Test.YtndkimjmbpbcmaaPMergePasses8
import Derived.Test.YtndkimjmbpbcmaaPMergePasses9
import Derived.Test.YtndkimjmbpbcmaaPMergePasses10
import Derived.Test.YtndkimjmbpbcmaaPMergePasses11
import Derived.Test.YtndkimjmbpbcmaaPMergePasses12
namespace Go.Proofs.Ytndkimjmbpbcmaa.Q
open Go.RowKit Go.Proofs.YtndkimjmbpbcmaaW.PrintWords Go.Proofs.YtndkimjmbpbcmaaW.PrintLast Go.Proofs.YtndkimjmbpbcmaaW.PrintMore
set_option linter.unusedVariables false
set_option linter.unusedSimpArgs false
def EvB (f : Nat → Bool) : Prop := ∃ K, ∀ k, K ≤ k → f k = true
theorem EvB.all {α : Type} (l : List α) (f : Nat → α → Bool) (h : ∀ x ∈ l, EvB (fun k => f k x)) : EvB (fun k => l.all (f k)) := by
 induction l with
 | nil => exact ⟨0, fun _ _ => rfl⟩
 | cons x t ih =>
  obtain ⟨K1, h1⟩ := h x (List.mem_cons_self ..)
  obtain ⟨K2, h2⟩ := ih (fun y hy => h y (List.mem_cons_of_mem _ hy))
  exact ⟨max K1 K2, fun k hk => by
   have a1 : f k x = true := h1 k (by omega)
   have a2 : t.all (f k) = true := h2 k (by omega)
   show (f k x && t.all (f k)) = true
   rw [a1, a2]; rfl⟩
theorem EvB.and {f g : Nat → Bool} (h1 : EvB f) (h2 : EvB g) : EvB (fun k => f k && g k) := by
 obtain ⟨K1, h1⟩ := h1
 obtain ⟨K2, h2⟩ := h2
 exact ⟨max K1 K2, fun k hk => by
  have a1 : f k = true := h1 k (by omega)
  have a2 : g k = true := h2 k (by omega)
  show (f k && g k) = true
  rw [a1, a2]; rfl⟩
theorem EvB.some_ {α : Type} {g : Nat → Option α} {r : α} (h : Ev g r) : EvB (fun k => (g k).isSome) := by
 obtain ⟨K, h⟩ := h
 exact ⟨K, fun k hk => by
  show (g k).isSome = true
  rw [h k hk]; rfl⟩
theorem EvB.if_ {α : Type} {c : Nat → Bool} {g f : Nat → Option α} {r : α} (h : EvB c) (hg : Ev g r) : Ev (fun k => if c k = true then g k else f k) r := by
 obtain ⟨K1, h1⟩ := h
 obtain ⟨K2, h2⟩ := hg
 exact ⟨max K1 K2, fun k hk => by
  show (if c k = true then g k else f k) = some r
  rw [if_pos (h1 k (by omega)), h2 k (by omega)]⟩
theorem ownM_ev {x : S44} (h : SmallC x) : Ev (fun k => ownM.f k x) x :=
 Ev.congr (fun k => by unfold ownM.f; rfl) (Ev.bind (f := fun _ g => match g with
  | [y] => some y
  | _ => none) (group_ev [x] (by simp) (fun y hy => by rw [List.mem_singleton.1 hy]; exact h)) (Ev.now x))
theorem less_small {e x : S44} (he : SmallC e) : Ev (fun k => cell_Less.f k e.f0 x.f0) (lexC e.f0 x.f0) := cell_less_ev e.f0 x.f0 (by have := he.1; omega)
theorem twoSkip_ev {x : S44} : ∀ (l out : List S44), (∀ e ∈ l, SmallC e) → out.length + l.length ≤ 1000000000 → ∃ s r, l = s ++ r ∧ (∀ e ∈ s, lexC e.f0 x.f0 < 0) ∧ (∀ e t, r = e :: t → 0 ≤ lexC e.f0 x.f0) ∧ Ev (fun k => twoSkip k x l out) (out ++ s, r)
 | [], out, _, _ => ⟨[], [], rfl, by simp, by simp, Ev.congr (f := fun _ => some (out ++ [], [])) (fun k => by simp [twoSkip]) (Ev.now _)⟩
 | e :: t, out, h, hl => by
  have he := h e (List.mem_cons_self ..)
  have h1 := less_small (x := x) he
  simp only [List.length_cons] at hl
  by_cases c : lexC e.f0 x.f0 < 0
  ·obtain ⟨s, r, h2, h3, h4, h5⟩ := twoSkip_ev (x := x) t (out ++ [e]) (fun y hy => h y (List.mem_cons_of_mem _ hy)) (by rw [List.length_append, List.length_singleton]; omega)
   refine ⟨e :: s, r, by rw [h2]; rfl, ?_, h4, ?_⟩
   ·intro y hy
    rcases List.mem_cons.1 hy with rfl | hy
    ·exact c
    ·exact h3 y hy
   ·rw [List.append_assoc] at h5
    refine Ev.congr (fun k => by simp only [twoSkip]) (Ev.bind (f := fun k r => if r < 0 then (ownM.f k e).bind fun y => (addC out y).bind fun o => twoSkip k x t o else some (out, e :: t)) h1 ?_)
    refine Ev.congr (f := fun k => (ownM.f k e).bind fun y => (addC out y).bind fun o => twoSkip k x t o) (fun k => if_pos c) (Ev.bind (ownM_ev he) ?_)
    exact Ev.congr (f := fun k => twoSkip k x t (out ++ [e])) (fun k => by rw [addC_ok (by omega)]; try rfl) h5
  ·refine ⟨[], e :: t, rfl, by simp, fun a b hab => by injection hab with h _; rw [← h]; omega, ?_⟩
   rw [List.append_nil]
   refine Ev.congr (fun k => by simp only [twoSkip]) (Ev.bind (f := fun k r => if r < 0 then (ownM.f k e).bind fun y => (addC out y).bind fun o => twoSkip k x t o else some (out, e :: t)) h1 ?_)
   exact Ev.congr (f := fun _ => some (out, e :: t)) (fun k => if_neg c) (Ev.now _)
theorem putL_app (x : S44) : ∀ (p a : List S44), (∀ y ∈ p, lexC y.f0 x.f0 < 0) → putL x (p ++ a) = p ++ putL x a
 | [], _, _ => rfl
 | y :: p, a, h => by
  rw [List.cons_append, putL_lt _ (h y (by simp)), putL_app x p a (fun z hz => h z (List.mem_cons_of_mem _ hz))]
  rfl
theorem putAll_app (p : List S44) : ∀ (b a : List S44), (∀ y ∈ p, ∀ x ∈ b, lexC y.f0 x.f0 < 0) → putAll (p ++ a) b = p ++ putAll a b
 | [], _, _ => rfl
 | x :: b, a, h => by
  rw [putAll_cons, putAll_cons, putL_app x p a (fun y hy => h y hy x (by simp)), putAll_app p b _ (fun y hy z hz => h y hy z (List.mem_cons_of_mem _ hz))]
theorem lexC_trans_lt {a b c : List Int} (h1 : lexC a b < 0) (h2 : lexC b c < 0) : lexC a c < 0 := lexC_lt_trans (b := b) h1 h2
theorem front {x : S44} {t s : List S44} (ha : SortedC (x :: t)) (hs : SortedC s) (h : ∀ e ∈ s, lexC e.f0 x.f0 < 0) : putAll (x :: t) s = s ++ x :: t := by
 have hx := (List.pairwise_cons.1 ha).1
 have hsort : SortedC (s ++ x :: t) := List.pairwise_append.2 ⟨hs, ha, fun e he y hy => by
  rcases List.mem_cons.1 hy with rfl | hy
  ·exact h e he
  ·exact lexC_trans_lt (h e he) (hx y hy)⟩
 have h1 : putAll (x :: t) s = groupL (x :: t ++ s) := by rw [group_append, group_rising ha]
 rw [h1, group_perm (List.perm_append_comm : (x :: t ++ s).Perm (s ++ x :: t)), group_rising hsort]
theorem two_gt {x : S44} {t s r : List S44} (ha : SortedC (x :: t)) (hb : SortedC (s ++ r)) (h : ∀ e ∈ s, lexC e.f0 x.f0 < 0) (hr : ∀ e u, r = e :: u → 0 < lexC e.f0 x.f0) : putAll (x :: t) (s ++ r) = (s ++ [x]) ++ putAll t r := by
 obtain ⟨hs, hr2, hsr⟩ := List.pairwise_append.1 hb
 rw [putAll_append, front ha hs h, show s ++ x :: t = (s ++ [x]) ++ t by simp]
 refine putAll_app _ _ _ (fun y hy z hz => ?_)
 rcases List.mem_append.1 hy with hy | hy
 ·exact hsr y hy z hz
 ·rw [List.mem_singleton.1 hy]
  cases r with
  | nil => cases hz
  | cons e u =>
   have h1 := hr e u rfl
   have h2 := lexC_swap e.f0 x.f0
   have h3 : lexC x.f0 e.f0 < 0 := by omega
   rcases List.mem_cons.1 hz with rfl | hz
   ·exact h3
   ·exact lexC_trans_lt h3 ((List.pairwise_cons.1 hr2).1 z hz)
theorem two_eq {x e : S44} {t s r : List S44} (ha : SortedC (x :: t)) (hb : SortedC (s ++ e :: r)) (h : ∀ e ∈ s, lexC e.f0 x.f0 < 0) (he : lexC e.f0 x.f0 = 0) : putAll (x :: t) (s ++ e :: r) = (s ++ [joinC x e]) ++ putAll t r := by
 obtain ⟨hs, hr2, hsr⟩ := List.pairwise_append.1 hb
 have e1 := (lexC_zero _ _).1 he
 have h0 : lexC x.f0 e.f0 = 0 := by rw [e1]; exact lexC_self _
 rw [putAll_append, front ha hs h, putAll_cons, putL_app e s _ (fun y hy => by rw [e1]; exact h y hy), putL_eq _ h0, show s ++ joinC x e :: t = (s ++ [joinC x e]) ++ t by simp]
 refine putAll_app _ _ _ (fun y hy z hz => ?_)
 rcases List.mem_append.1 hy with hy | hy
 ·exact hsr y hy z (List.mem_cons_of_mem _ hz)
 ·rw [List.mem_singleton.1 hy]
  show lexC x.f0 z.f0 < 0
  rw [← e1]
  exact (List.pairwise_cons.1 hr2).1 z hz
theorem twoGo_ev : ∀ (a b out : List S44), SortedC a → SortedC b → (∀ e ∈ a, SmallC e) → (∀ e ∈ b, SmallC e) → out.length + a.length + b.length ≤ 1000000000 →
  ∃ o t, Ev (fun k => twoGo k a (out, b)) (o, t) ∧ o ++ t = out ++ putAll a b ∧ (∀ e ∈ t, e ∈ b)
 | [], b, out, _, hb, _, _, _ => ⟨out, b, Ev.now _, by rw [← groupL_all, group_rising hb], fun _ h => h⟩
 | x :: a, b, out, ha, hb, sa, sb, hl => by
  have hx := sa x (List.mem_cons_self ..)
  have ha' := (List.pairwise_cons.1 ha).2
  have sa' : ∀ e ∈ a, SmallC e := fun e he => sa e (List.mem_cons_of_mem _ he)
  simp only [List.length_cons] at hl
  obtain ⟨s, r, h1, h2, h3, h4⟩ := twoSkip_ev (x := x) b out sb (by omega)
  subst h1
  rw [List.length_append] at hl
  have hr := (List.pairwise_append.1 hb).2.1
  have hmem : ∀ e ∈ r, e ∈ s ++ r := fun e he => List.mem_append_right _ he
  have hlo : (out ++ s).length = out.length + s.length := List.length_append
  have own_case : (∀ e u, r = e :: u → 0 < lexC e.f0 x.f0) → ∃ o t, Ev (fun k => twoGo k (x :: a) (out, s ++ r)) (o, t) ∧ o ++ t = out ++ putAll (x :: a) (s ++ r) ∧ (∀ e ∈ t, e ∈ s ++ r) := fun hgt => by
   obtain ⟨o, t, h5, h6, h7⟩ := twoGo_ev a r (out ++ s ++ [x]) ha' hr sa' (fun e he => sb e (hmem e he)) (by rw [List.length_append, List.length_singleton]; omega)
   refine ⟨o, t, ?_, by rw [h6, two_gt ha hb h2 hgt]; simp, fun e he => hmem e (h7 e he)⟩
   refine Ev.bind (f := fun k s => twoGo k a s) (Ev.congr (fun k => by unfold twoStep; rfl) (Ev.bind (f := fun k s => twoPut k x s.2 s.1) h4 ?_)) h5
   cases r with
   | nil =>
    refine Ev.congr (fun k => by simp only [twoPut]) (Ev.bind (f := fun _ y => (addC (out ++ s) y).bind fun o => some (o, [])) (ownM_ev hx) ?_)
    exact Ev.congr (f := fun _ => some (out ++ s ++ [x], [])) (fun k => by rw [addC_ok (by omega)]; try rfl) (Ev.now _)
   | cons e u =>
    have hg := hgt e u rfl
    have he := sb e (hmem e (by simp))
    refine Ev.congr (fun k => by simp only [twoPut]) (Ev.bind (f := fun k r => if r = 0 then (cell_Join.f k x.f0 x.f1 x.f2 x.f3 x.f4 e.f0 e.f1 e.f2 e.f3 e.f4).bind fun j => (addC (out ++ s) ⟨j.1, j.2.1, j.2.2.1, j.2.2.2.1, j.2.2.2.2⟩).bind fun o => some (o, u) else (ownM.f k x).bind fun y => (addC (out ++ s) y).bind fun o => some (o, e :: u)) (less_small (x := x) he) ?_)
    refine Ev.congr (f := fun k => (ownM.f k x).bind fun y => (addC (out ++ s) y).bind fun o => some (o, e :: u)) (fun k => if_neg (by omega)) (Ev.bind (ownM_ev hx) ?_)
    exact Ev.congr (f := fun _ => some (out ++ s ++ [x], e :: u)) (fun k => by rw [addC_ok (by omega)]; try rfl) (Ev.now _)
  cases hrr : r with
  | nil => exact hrr ▸ own_case (fun e u h => by rw [hrr] at h; cases h)
  | cons e u =>
   subst hrr
   have h0 := h3 e u rfl
   by_cases c : lexC e.f0 x.f0 = 0
   ·have he := sb e (hmem e (by simp))
    simp only [List.length_cons] at hl
    obtain ⟨o, t, h5, h6, h7⟩ := twoGo_ev a u (out ++ s ++ [joinC x e]) ha' (List.pairwise_cons.1 hr).2 sa' (fun y hy => sb y (hmem y (List.mem_cons_of_mem _ hy))) (by rw [List.length_append, List.length_singleton]; omega)
    refine ⟨o, t, ?_, by rw [h6, two_eq ha hb h2 c]; simp, fun y hy => hmem y (List.mem_cons_of_mem _ (h7 y hy))⟩
    refine Ev.bind (f := fun k s => twoGo k a s) (Ev.congr (fun k => by unfold twoStep; rfl) (Ev.bind (f := fun k s => twoPut k x s.2 s.1) h4 ?_)) h5
    refine Ev.congr (fun k => by simp only [twoPut]) (Ev.bind (f := fun k r => if r = 0 then (cell_Join.f k x.f0 x.f1 x.f2 x.f3 x.f4 e.f0 e.f1 e.f2 e.f3 e.f4).bind fun j => (addC (out ++ s) ⟨j.1, j.2.1, j.2.2.1, j.2.2.2.1, j.2.2.2.2⟩).bind fun o => some (o, u) else (ownM.f k x).bind fun y => (addC (out ++ s) y).bind fun o => some (o, e :: u)) (less_small (x := x) he) ?_)
    refine Ev.congr (f := fun k => (cell_Join.f k x.f0 x.f1 x.f2 x.f3 x.f4 e.f0 e.f1 e.f2 e.f3 e.f4).bind fun j => (addC (out ++ s) ⟨j.1, j.2.1, j.2.2.1, j.2.2.2.1, j.2.2.2.2⟩).bind fun o => some (o, u)) (fun k => if_pos c) (Ev.bind (join_ev x e hx) ?_)
    exact Ev.congr (f := fun _ => some (out ++ s ++ [joinC x e], u)) (fun k => by rw [addC_ok (by omega)]; try rfl) (Ev.now _)
   ·exact own_case (fun e' u' h => by injection h with h _; rw [← h]; omega)
theorem twoRest_ev : ∀ (l out : List S44), (∀ e ∈ l, SmallC e) → out.length + l.length ≤ 1000000000 → Ev (fun k => twoRest k l out) (out ++ l)
 | [], out, _, _ => by rw [List.append_nil]; exact Ev.now _
 | x :: t, out, h, hl => by
  simp only [List.length_cons] at hl
  have h1 := twoRest_ev t (out ++ [x]) (fun e he => h e (List.mem_cons_of_mem _ he)) (by rw [List.length_append, List.length_singleton]; omega)
  rw [List.append_assoc] at h1
  refine Ev.congr (fun k => by simp only [twoRest]) (Ev.bind (f := fun k y => (addC out y).bind fun o => twoRest k t o) (ownM_ev (h x (List.mem_cons_self ..))) ?_)
  exact Ev.congr (f := fun k => twoRest k t (out ++ [x])) (fun k => by rw [addC_ok (by omega)]; try rfl) h1
theorem two_small {a b : List S44} (sa : ∀ e ∈ a, SmallC e) (sb : ∀ e ∈ b, SmallC e) (ha : SortedC a) (hb : SortedC b) (hl : a.length + b.length ≤ 1000000000) : Ev (fun k => Two.f k a b) (putAll a b) := by
 have hok : EvB (fun k => twoOk k a b) := by
  refine EvB.and (EvB.and ⟨0, fun _ _ => decide_eq_true (by omega)⟩ (EvB.all b _ (fun e he => EvB.some_ (ownM_ev (sb e he))))) (EvB.all a _ (fun x hx => EvB.and (EvB.some_ (ownM_ev (sa x hx))) (EvB.all b _ (fun e he => EvB.and (EvB.some_ (less_small (sb e he))) (EvB.some_ (join_ev x e (sa x hx)))))))
 obtain ⟨o, t, h1, h2, h3⟩ := twoGo_ev a b [] ha hb sa sb (by simpa using hl)
 rw [List.nil_append] at h2
 have hlen := putAll_length b a
 have hlot : o.length + t.length = (putAll a b).length := by rw [← h2, List.length_append]
 refine EvB.if_ (g := fun k => (twoGo k a ([], b)).bind fun s => (twoRest k s.2 s.1).bind fun o => if o.length * 104 ≤ 140737488355328 then some o else none) hok ?_
 refine Ev.bind (f := fun k s => (twoRest k s.2 s.1).bind fun o => if o.length * 104 ≤ 140737488355328 then some o else none) h1 ?_
 refine Ev.bind (f := fun _ o => if o.length * 104 ≤ 140737488355328 then some o else none) (twoRest_ev t o (fun e he => sb e (h3 e he)) (by omega)) ?_
 rw [h2]
 exact Ev.congr (f := fun _ => some (putAll a b)) (fun _ => if_pos (by omega)) (Ev.now _)
def GoodL (n B : Nat) (l : List (List S44)) : Prop := ∀ x ∈ l, SortedC x ∧ RegL n x ∧ x.length ≤ B
theorem two_ev {n : Nat} (hn : n ≤ 100) {a b : List S44} (ra : RegL n a) (rb : RegL n b) (ha : SortedC a) (hb : SortedC b) (hl : a.length + b.length ≤ 1000000000) : Ev (fun k => Two.f k a b) (putAll a b) := two_small (ra.small hn) (rb.small hn) ha hb hl
theorem EvB.match_ {g : Nat → Option (List S44)} {f : Nat → List S44 → Bool} {r : List S44} (h : Ev g r) (hf : EvB (fun k => f k r)) : EvB (fun k => match g k with
  | some o2 => f k o2
  | none => false) := by
 obtain ⟨K1, h1⟩ := h
 obtain ⟨K2, h2⟩ := hf
 exact ⟨max K1 K2, fun k hk => by
  show (match g k with
   | some o2 => f k o2
   | none => false) = true
  rw [h1 k (by omega)]
  exact h2 k (by omega)⟩
theorem oneOk_ev {n B : Nat} (hn : n ≤ 100) {l : List (List S44)} (hl : GoodL n B l) : ∀ (m : Nat) (o : List S44), SortedC o → RegL n o → o.length + m * B ≤ 1000000000 → EvB (fun k => oneOk k l m o)
 | 0, o, _, _, _ => ⟨0, fun _ _ => rfl⟩
 | m + 1, o, ho, ro, hb => by
  have e : (m + 1) * B = m * B + B := Nat.succ_mul m B
  rw [e] at hb
  refine EvB.all l (fun k x => match Two.f k o x with
   | some o2 => oneOk k l m o2
   | none => false) (fun x hx => ?_)
  obtain ⟨h1, h2, h3⟩ := hl x hx
  have hp := putAll_length x o
  exact EvB.match_ (f := fun k o2 => oneOk k l m o2) (two_ev hn ro h2 ho h1 (by omega)) (oneOk_ev hn hl m (putAll o x) (putAll_sorted x o ho) (regL_all h2 ro) (by omega))
theorem oneGo_ev {n B : Nat} (hn : n ≤ 100) : ∀ (l : List (List S44)) (o : List S44), GoodL n B l → SortedC o → RegL n o → o.length + l.length * B ≤ 1000000000 → Ev (fun k => oneGo k l o) (putAll o l.flatten)
 | [], o, _, _, _, _ => Ev.now _
 | x :: t, o, hl, ho, ro, hb => by
  have e : (t.length + 1) * B = t.length * B + B := Nat.succ_mul _ B
  rw [List.length_cons, e] at hb
  obtain ⟨h1, h2, h3⟩ := hl x (List.mem_cons_self ..)
  have hp := putAll_length x o
  rw [List.flatten_cons, putAll_append]
  exact Ev.bind (f := fun k o => oneGo k t o) (two_ev hn ro h2 ho h1 (by omega)) (oneGo_ev hn t (putAll o x) (fun y hy => hl y (List.mem_cons_of_mem _ hy)) (putAll_sorted x o ho) (regL_all h2 ro) (by omega))
theorem one_ev {n B : Nat} (hn : n ≤ 100) {l : List (List S44)} (h0 : l ≠ []) (hl : GoodL n B l) (hb : l.length * B ≤ 1000000000) : Ev (fun k => one.f k l) (groupL l.flatten) := by
 cases l with
 | nil => exact absurd rfl h0
 | cons r t =>
  have e : (t.length + 1) * B = t.length * B + B := Nat.succ_mul _ B
  rw [List.length_cons, e] at hb
  obtain ⟨h1, h2, h3⟩ := hl r (List.mem_cons_self ..)
  have ht : GoodL n B t := fun y hy => hl y (List.mem_cons_of_mem _ hy)
  have hr := two_ev hn h2 (regL_nil n) h1 List.Pairwise.nil (by simp; omega)
  rw [putAll_nil] at hr
  have hg : groupL (r :: t).flatten = putAll r t.flatten := by rw [List.flatten_cons, group_append, group_rising h1]
  rw [hg]
  refine Ev.bind (f := fun k o => if oneOk k t t.length o = true then oneGo k t o else none) hr ?_
  exact EvB.if_ (oneOk_ev hn ht t.length r h1 h2 (by omega)) (oneGo_ev hn t r ht h1 h2 (by omega))
end Go.Proofs.Ytndkimjmbpbcmaa.Q
namespace Go.Proofs.Ytndkimjmbpbcmaa.Q
open Go.RowKit Go.Proofs.YtndkimjmbpbcmaaW.PrintWords Go.Proofs.YtndkimjmbpbcmaaW.PrintLast Go.Proofs.YtndkimjmbpbcmaaW.PrintMore
set_option linter.unusedVariables false
set_option linter.unusedSimpArgs false
def pieceG (l : List (List S44)) (m q : Nat) : List S44 := groupL (pieceL l m q).flatten
def passR (m : Nat) (l : List (List S44)) : List (List S44) := (List.range (pieces l.length m)).map (pieceG l m)
def passN (m : Nat) : Nat → Nat → Nat
 | 0, _ => 0
 | f + 1, n => if 1 < n then passN m f (pieces n m) + 1 else 0
theorem pieces_flat (l : List (List S44)) (m : Nat) : ∀ c, ((List.range c).map (pieceL l m)).flatten = l.take (c * m)
 | 0 => by simp
 | c + 1 => by
  rw [List.range_succ, List.map_append, List.flatten_append, pieces_flat l m c, Nat.succ_mul, List.take_add]
  simp [pieceL]
theorem parts_flat : ∀ ps : List (List (List S44)), groupL ((ps.map fun p => groupL p.flatten).flatten) = groupL ps.flatten.flatten ∧ ((ps.map fun p => groupL p.flatten).flatten).length ≤ ps.flatten.flatten.length
 | [] => ⟨rfl, Nat.le_refl _⟩
 | p :: ps => by
  obtain ⟨h1, h2⟩ := parts_flat ps
  refine ⟨?_, ?_⟩
  ·rw [List.map_cons, List.flatten_cons, List.flatten_cons, List.flatten_append, group_append, group_group, ← group_parts, group_append, group_group, ← putAll_group, h1, ← putAll_group (groupL p.flatten) (groupL _), group_group]
  ·have := putAll_length p.flatten []
   rw [← groupL_all] at this
   simp only [List.map_cons, List.flatten_cons, List.flatten_append, List.length_append, List.length_nil] at this ⊢
   omega
theorem passR_parts (m : Nat) (hm : 1 ≤ m) (l : List (List S44)) : groupL (passR m l).flatten = groupL l.flatten ∧ (passR m l).flatten.length ≤ l.flatten.length := by
 have h := parts_flat ((List.range (pieces l.length m)).map (pieceL l m))
 have hc : ¬ pieces l.length m * m < l.length := fun h => absurd ((pieces_lt hm).2 h) (Nat.lt_irrefl _)
 rw [pieces_flat, List.take_of_length_le (by omega), List.map_map] at h
 exact h
theorem mem_flat_len {l : List (List S44)} {x : List S44} (h : x ∈ l) : x.length ≤ l.flatten.length := by
 induction l with
 | nil => cases h
 | cons y t ih =>
  rw [List.flatten_cons, List.length_append]
  rcases List.mem_cons.1 h with rfl | h
  ·omega
  ·have := ih h; omega
theorem regL_flat {n B : Nat} {l : List (List S44)} (h : GoodL n B l) : RegL n l.flatten := fun c hc => by
 obtain ⟨x, hx, hcx⟩ := List.mem_flatten.1 hc
 exact (h x hx).2.1 c hcx
theorem piece_mem {l : List (List S44)} {m q : Nat} {x : List S44} (h : x ∈ pieceL l m q) : x ∈ l := List.mem_of_mem_drop (List.mem_of_mem_take h)
theorem piece_good {n B : Nat} {l : List (List S44)} (h : GoodL n B l) (m q : Nat) : GoodL n B (pieceL l m q) := fun x hx => h x (piece_mem hx)
theorem passR_good {n T : Nat} {m : Nat} (hm : 1 ≤ m) {l : List (List S44)} (h : GoodL n T l) (hT : l.flatten.length ≤ T) : GoodL n T (passR m l) := fun x hx => by
 have h2 := mem_flat_len hx
 have h3 := (passR_parts m hm l).2
 obtain ⟨q, hq, rfl⟩ := List.mem_map.1 hx
 exact ⟨groupL_sorted _, regL_group (regL_flat (piece_good h m q)), by omega⟩
theorem passR_length (m : Nat) (l : List (List S44)) : (passR m l).length = pieces l.length m := by simp [passR]
theorem piece_ne {l : List (List S44)} {m q : Nat} (hm : 1 ≤ m) (hq : q < pieces l.length m) : pieceL l m q ≠ [] := by
 have h := (pieces_lt hm).1 hq
 intro e
 have := congrArg List.length e
 simp only [pieceL, List.length_take, List.length_drop, List.length_nil] at this
 omega
theorem mapQ_ev {n T : Nat} (hn : n ≤ 100) {l : List (List S44)} (h : GoodL n T l) {m : Nat} (hm : 1 ≤ m) (hb : l.length * T ≤ 1000000000) : ∀ t : List Nat, (∀ q ∈ t, q < pieces l.length m) → Ev (fun k => mapQ k l m t) (t.map (pieceG l m))
 | [], _ => Ev.now _
 | q :: t, ht => by
  have hlen : (pieceL l m q).length ≤ l.length := by simp only [pieceL, List.length_take, List.length_drop]; omega
  have hmul := Nat.mul_le_mul_right T hlen
  have h1 := one_ev hn (piece_ne hm (ht q (List.mem_cons_self ..))) (piece_good h m q) (by omega)
  have h2 := mapQ_ev hn h hm hb t (fun x hx => ht x (List.mem_cons_of_mem _ hx))
  refine Ev.congr (fun k => by simp only [mapQ]) (Ev.bind (f := fun k y => (mapQ k l m t).bind fun r => some (y :: r)) h1 (Ev.bind (f := fun _ r => some (groupL (pieceL l m q).flatten :: r)) h2 (Ev.now _)))
theorem mg_ev {n T L m : Nat} (hn : n ≤ 100) (hm : 2 ≤ m) (hLT : L * T ≤ 1000000000) (hL : L ≤ 1000000) : ∀ (f : Nat) (l : List (List S44)) (p : Nat), GoodL n T l → l.flatten.length ≤ T → l.length ≤ f → l.length ≤ L → p + f ≤ 1000000000 →
  Ev (fun k => mgGo m k l (p : Int)) (groupL l.flatten, ((p + passN m f l.length : Nat) : Int))
 | f, [], p, _, _, _, _, _ => by
  have e : passN m f ([] : List (List S44)).length = 0 := by cases f <;> rfl
  rw [e]
  exact Ev.step (f := fun _ => some ([], (p : Int))) (fun k => rfl) (Ev.now _)
 | 0, _ :: _, _, _, _, h, _, _ => absurd h (by simp)
 | f + 1, [r], p, hg, hT, _, hl, _ => by
  have e : passN m (f + 1) [r].length = 0 := rfl
  have hmul := Nat.mul_le_mul_right T hl
  rw [e]
  exact Ev.step (f := fun k => (one.f k [r]).bind fun r => some (r, (p : Int))) (fun k => rfl) (Ev.bind (one_ev hn (by simp) hg (by omega)) (Ev.now _))
 | f + 1, a :: b :: t, p, hg, hT, hf, hl, hp => by
  have hlt : 1 < (a :: b :: t).length := by simp
  generalize hll : a :: b :: t = l at *
  have hmul := Nat.mul_le_mul_right T hl
  have e : passN m (f + 1) l.length = passN m f (pieces l.length m) + 1 := by show (if 1 < l.length then _ else _) = _; rw [if_pos hlt]
  have hple := pieces_less hm hlt
  have hpa := passR_parts m (by omega) l
  have ih := mg_ev hn hm hLT hL f (passR m l) (p + 1) (passR_good (by omega) hg hT) (by omega) (by rw [passR_length]; omega) (by rw [passR_length]; omega) (by omega)
  rw [hpa.1, passR_length, show p + 1 + passN m f (pieces l.length m) = p + passN m (f + 1) l.length by rw [e]; omega] at ih
  refine Ev.step (f := fun k => (mgPass k l m).bind fun l2 => mgGo m k l2 (wrap64 ((p : Int) + 1))) (fun k => ?_) (Ev.bind (mapQ_ev hn hg (by omega) (by omega) _ (fun q hq => List.mem_range.1 hq)) ?_)
  ·show (if 1 < l.length then _ else _) = _
   rw [if_pos hlt, if_pos (by omega)]
  ·rw [w64s (Nat.lt_succ_self p) (by omega)]
   exact ih
theorem merge_ev {n T : Nat} (hn : n ≤ 100) {m : Nat} (hm : 2 ≤ m) (hm2 : m ≤ 1000000) {l : List (List S44)} (hg : GoodL n T l) (hT : l.flatten.length ≤ T) (hb : l.length * T ≤ 1000000000) (hl : l.length ≤ 1000000) : Ev (fun k => merge_Merge.f k l (m : Int)) (groupL l.flatten, ((passN m l.length l.length : Nat) : Int)) := by
 have h := mg_ev hn hm hb hl l.length l 0 hg hT (Nat.le_refl _) (Nat.le_refl _) (by omega)
 rw [Nat.zero_add] at h
 have e : max (m : Int) 2 = (m : Int) := by omega
 refine Ev.congr (fun k => ?_) h
 unfold merge_Merge.f
 rw [e, if_pos (by omega), Int.toNat_natCast]
 rfl
end Go.Proofs.Ytndkimjmbpbcmaa.Q
namespace Go.Proofs.Ytndkimjmbpbcmaa.Q
open Go.RowKit Go.Proofs.YtndkimjmbpbcmaaW.PrintWords Go.Proofs.YtndkimjmbpbcmaaW.PrintLast Go.Proofs.YtndkimjmbpbcmaaW.PrintMore
set_option linter.unusedVariables false
set_option linter.unusedSimpArgs false
theorem within6_eq (a n : Int) (h0 : 0 < n) (h1 : n ≤ 4611686018427387904) : hypercubelaw6_within.f a n = some (a % n) := by
 have := within2_eq a n h0 h1
 unfold hypercubelaw2_within.f at this
 unfold hypercubelaw6_within.f
 exact this
theorem some_eq (c : Nat) (a : Int) (m : Nat) (h0 : 0 < m) (h1 : m ≤ 1000) (hc : c ≤ 1000) : ∃ k : Nat, c ≤ k ∧ k < c + m ∧ hypercubelaw6_within.f a (m : Int) = some (a % m) ∧ wrap64 ((c : Int) + a % (m : Int)) = (k : Int) := by
 have b0 := Int.emod_nonneg a (show (m : Int) ≠ 0 by omega)
 have b1 := Int.emod_lt_of_pos a (show (0 : Int) < m by omega)
 refine ⟨(c + a % (m : Int)).toNat, by omega, by omega, within6_eq _ _ (by omega) (by omega), ?_⟩
 rw [w64 (by omega) (by omega)]
 omega
end Go.Proofs.Ytndkimjmbpbcmaa.Q
