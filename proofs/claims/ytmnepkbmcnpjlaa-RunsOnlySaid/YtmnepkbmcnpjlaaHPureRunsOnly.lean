/- RunsOnly, in plain Lean: held one by one, cells of one key in a row are one run; all else is a run of its own; for every input. -/
import Derived.ArgAppend
import Derived.Below
import Derived.BigQuiet
import Derived.Deep.AppendLies
import Derived.Deep.CutBlock
import Derived.Deep.DeepCutAuto
import Derived.Deep.Draws
import Derived.Deep.LoopGhost
import Derived.Deep.OwnRows
import Derived.Deep.QuietTactic
import Derived.Deep.RegionHeld3
import Derived.KernelRfl
import Derived.Laws.BitsLemmas
import Derived.Laws.BytesArg
import Derived.Laws.EntriesVeiled
import Derived.Laws.Externs
import Derived.Laws.IdiomCopy
import Derived.Laws.MakeOwn
import Derived.Laws.OwnMore
import Derived.Laws.Rows
import Derived.Laws.Slices
import Derived.Lib.AppendStr
import Derived.Lib.AppendZeros
import Derived.Lib.AppendZerosOnto
import Derived.Lib.ConvBytes
import Derived.Lib.JoinLaws
import Derived.Lib.Overlaps
import Derived.Lib.SliceRun
import Derived.Lib.Walk
import Derived.LoopIn
import Derived.LoopNIn
import Derived.Maps.AppendAt
import Derived.OrdersHeld
import Derived.OrdersIn
import Derived.OwnWalk
import Derived.OwnWalkIn
import Derived.RangeFuncBound
import Derived.RangeFuncBox
import Derived.RangeFuncCalls
import Derived.RangeFuncLeaves
import Derived.RangeFuncNested
import Derived.RangeFuncOwn
import Derived.RowKit
import Derived.RowKit3
import Derived.Shelf.Abstract
import Derived.Shelf.RegionOpen
import Derived.Shelf.RegionOpenPlain
import Derived.Tactics
import Derived.TacticsInMore
import Derived.Test.YtmnepkbmcnpjlaaProg
import Derived.WalkKit
import Derived.WalkSpells
import Derived.WideLaws
import Derived.Test.YtmnepkbmcnpjlaaPRunsOnly1
import Derived.Test.YtmnepkbmcnpjlaaPRunsOnly3
import Derived.Test.YtmnepkbmcnpjlaaPRunsOnly4
import Derived.Test.YtmnepkbmcnpjlaaPRunsOnly5
import Derived.Test.YtmnepkbmcnpjlaaPRunsOnly6
import Derived.Test.YtmnepkbmcnpjlaaPRunsOnly7
import Derived.Test.YtmnepkbmcnpjlaaPRunsOnly8
import Derived.Test.YtmnepkbmcnpjlaaPRunsOnly9
import Derived.Test.YtmnepkbmcnpjlaaPRunsOnly10
import Derived.Test.YtmnepkbmcnpjlaaPRunsOnly11
import Derived.Test.YtmnepkbmcnpjlaaPRunsOnly12
import Derived.Test.YtmnepkbmcnpjlaaPRunsOnly13
namespace Go.Proofs.Ytmnepkbmcnpjlaa.Pure
open Go.RowKit Go.Proofs.Ytmnepkbmcnpjlaa.Q Go.Proofs.YtmnepkbmcnpjlaaW.PrintWords Go.Proofs.YtmnepkbmcnpjlaaW.PrintLast Go.Proofs.YtmnepkbmcnpjlaaW.PrintMore
def chg : List S41 → Nat
  | [] => 0
  | [_] => 1
  | a :: b :: t => (if a.f0 = b.f0 then 0 else 1) + chg (b :: t)
theorem chg_snoc (c : S41) : ∀ (l : List S41) (h : l ≠ []), chg (l ++ [c]) = chg l + if (l.getLast h).f0 = c.f0 then 0 else 1
  | [], h => absurd rfl h
  | [a], _ => by
    show chg [a, c] = chg [a] + _
    simp only [chg, List.getLast_singleton]
    by_cases e : a.f0 = c.f0 <;> simp [e]
  | a :: b :: t, _ => by
    have ih := chg_snoc c (b :: t) (by simp)
    show chg (a :: b :: (t ++ [c])) = _
    have e : chg (b :: (t ++ [c])) = chg ((b :: t) ++ [c]) := rfl
    simp only [chg]
    rw [e, ih, List.getLast_cons (show b :: t ≠ [] by simp)]
    omega
theorem runs_chg : ∀ (cs : List S41) (h h' : S41), h.f0 = h'.f0 → (runsR 1 [h] cs).length = chg (h' :: cs)
  | [], h, h', _ => rfl
  | c :: cs, h, h', he => by
    by_cases e : lexC h.f0 c.f0 = 0
    · have hk := (lexC_zero _ _).1 e
      have e1 : runsR 1 [h] (c :: cs) = runsR 1 [joinC h c] cs := by
        simp only [runsR]
        rw [if_pos (Or.inl (by simp [hasK, e])), putL_eq _ e]
      rw [e1, runs_chg cs (joinC h c) c (by rw [joinC_key]; exact hk)]
      simp only [chg]
      rw [if_pos (by rw [← he]; exact hk)]
      omega
    · have hk : ¬ h'.f0 = c.f0 := fun k => e ((lexC_zero _ _).2 (by rw [he]; exact k))
      have e1 : runsR 1 [h] (c :: cs) = [h] :: runsR 1 [c] cs := by
        simp only [runsR]
        rw [if_neg (by simp [hasK, e])]
      rw [e1, List.length_cons, runs_chg cs c c rfl]
      simp only [chg]
      rw [if_neg hk]
      omega
theorem runs_chg0 : ∀ cs : List S41, (runsR 1 [] cs).length = chg cs
  | [] => rfl
  | c :: cs => by
    have e1 : runsR 1 [] (c :: cs) = runsR 1 [c] cs := by
      simp only [runsR]
      rw [if_pos (Or.inr (by simp))]
      rfl
    rw [e1, runs_chg cs c c rfl]
def cellK (t : Int) : S41 := ⟨[t], 1, [], [], []⟩
def Ones (l : List S41) : Prop := ∀ c ∈ l, ∃ t, c = cellK t
theorem ones_reg {l : List S41} (h : Ones l) : RegL 0 l := fun c hc => by
  obtain ⟨t, rfl⟩ := h c hc
  exact ⟨by simp [cellK], rfl, rfl, rfl⟩
theorem ones_nn {l : List S41} (h : Ones l) : NonNeg l := fun c hc => by
  obtain ⟨t, rfl⟩ := h c hc
  show (0 : Int) ≤ 1
  omega
theorem ones_cnt : ∀ {l : List S41}, Ones l → cnt l = (l.length : Int)
  | [], _ => rfl
  | c :: l, h => by
    obtain ⟨t, e⟩ := h c (by simp)
    rw [cnt_cons, ones_cnt (fun x hx => h x (List.mem_cons_of_mem _ hx)), List.length_cons, e]
    show (1 : Int) + _ = _
    omega
theorem only_l1 (l : List S41) (want : Int) (rs : List (List S41)) (hl : rs.length ≤ 1000) (h1 : ∀ r ∈ rs, r.length = 1) (hnn : ∀ r ∈ rs, ∀ c ∈ r, 0 ≤ c.f1) (hw : (rs.length : Int) = want) (hll : l.length ≤ 1000) (d : Nat) : ∀ (i : Nat) (x : Int), rs.length - i = d → i ≤ rs.length → 0 ≤ x → x + cnt (rs.drop i).flatten = (l.length : Int) → Ev (fun k => hypercubelaw5_RunsOnly.l1 k l want rs x (i : Int)) true := by
  induction d with
  | zero =>
    intro i x hd hi h0 hx
    have e : rs.drop i = [] := List.drop_eq_nil_of_le (by omega)
    rw [e] at hx
    have hx' : x = (l.length : Int) := by simpa [cnt] using hx
    refine Ev.step (f := fun _ => some true) (fun k => ?_) (Ev.now _)
    simp only [hypercubelaw5_RunsOnly.l1]
    rw [if_neg (by omega), if_pos hw, hx']
    simp
  | succ d ih =>
    intro i x hd hi h0 hx
    have hlt : i < rs.length := by omega
    have hr := h1 _ (List.getElem_mem hlt)
    have hz : 0 < (rs[i]).length := by omega
    have hc0 := hnn _ (List.getElem_mem hlt) _ (List.getElem_mem hz)
    have hn2 : 0 ≤ cnt (rs.drop (i + 1)).flatten := cnt_nn _ (fun c hc => by
      obtain ⟨r, q1, q2⟩ := List.mem_flatten.1 hc
      exact hnn r (List.mem_of_mem_drop q1) c q2)
    have hone : cnt rs[i] = ((rs[i])[0]).f1 := by
      generalize rs[i] = r at hr hz ⊢
      match r, hr with
      | [c], _ => simp [cnt]
    rw [drop_cons hlt, List.flatten_cons, cnt_append, hone] at hx
    have hw2 : wrap64 (x + ((rs[i])[0]).f1) = x + ((rs[i])[0]).f1 := w64 (by omega) (by omega)
    have e0 : rd_T41 rs[i] 0 = (rs[i])[0] := rdC_get (i := 0) hz
    refine Ev.step (fun k => ?_) (ih (i + 1) (x + ((rs[i])[0]).f1) (by omega) (by omega) (by omega) (by omega))
    simp only [hypercubelaw5_RunsOnly.l1]
    rw [if_pos (by omega), if_pos (by omega), rdL_get hlt, if_pos (by omega), if_pos (by omega), e0, hw2, w64s hlt (by omega)]
theorem only_end (ns : List Int) (l : List S41) (x5 : Int) (h : Ones l) (hl : l.length ≤ 40) : Ev (fun k => hypercubelaw5_RunsOnly.j1 k ns l (chg l : Int) x5 false) true := by
  have hreg := ones_reg h
  have hnn := ones_nn h
  have hnil : NonNeg ([] : List S41) := fun c hc => by simp at hc
  have hz : cnt ([] : List S41) = 0 := rfl
  have hc := ones_cnt h
  obtain ⟨q1, q2⟩ := runsR_len 1 (Nat.le_refl 1) l
  have hb := runsR_bounds 1 (Nat.le_refl 1) l [] List.Pairwise.nil (by simp) (.inl rfl)
  have hnn2 : ∀ (cs held : List S41), NonNeg cs → NonNeg held → cnt held + cnt cs ≤ 4611686018427387904 → ∀ r ∈ runsR 1 held cs, ∀ c ∈ r, 0 ≤ c.f1 := by
    intro cs
    induction cs with
    | nil =>
      intro held _ hh _ r hr
      unfold runsR at hr
      split at hr
      · rw [List.mem_singleton.1 hr]; exact hh
      · simp at hr
    | cons c cs ih =>
      intro held hcs hh hbd r hr
      have h0 := hcs c (by simp)
      have hcs' : NonNeg cs := fun x hx => hcs x (List.mem_cons_of_mem _ hx)
      have hn := cnt_nn cs hcs'
      have hhn := cnt_nn held hh
      rw [cnt_cons] at hbd
      simp only [runsR] at hr
      split at hr
      · obtain ⟨p1, p2⟩ := cnt_put c h0 held hh (by omega)
        exact ih (putL c held) hcs' p2 (by omega) r hr
      · rcases List.mem_cons.1 hr with e | e
        · rw [e]; exact hh
        · have hone : cnt [c] = c.f1 := by simp [cnt]
          exact ih [c] hcs' (fun x hx => by rw [List.mem_singleton.1 hx]; exact h0) (by rw [hone]; omega) r e
  have hruns : Ev (fun k => runs_Runs.f k l 1) (runsR 1 [] l) := runs_ev 1 (Nat.le_refl 1) l (hreg.small (by omega)) (by omega)
  refine Ev.step (f := fun k => (runs_Runs.f k l 1).bind fun t => hypercubelaw5_RunsOnly.l1 k l (chg l : Int) t 0 0) (fun k => by simp only [hypercubelaw5_RunsOnly.j1]; rw [if_neg (by simp)]) ?_
  refine Ev.bind hruns ?_
  exact only_l1 l _ _ (by omega) (fun r hr => by
    obtain ⟨i, hi, rfl⟩ := List.getElem_of_mem hr
    have := hb i hi
    omega) (hnn2 l [] hnn hnil (by omega)) (by rw [runs_chg0]) (by omega) _ 0 0 rfl (by omega) (by omega) (by rw [List.drop_zero, runsR_cnt 1 _ _ hnn hnil (by omega)]; omega)
theorem only_l0 (ns : List Int) (hns : ns.length ≤ 4611686018427387904) (d : Nat) : ∀ (i : Nat) (l : List S41), 40 - i = d → i ≤ 40 → i ≤ ns.length → l.length = i → Ones l → Ev (fun k => hypercubelaw5_RunsOnly.l0 k ns l (chg l : Int) (i : Int)) true := by
  have hstop : ∀ (i : Nat) (l : List S41), i ≤ 40 → (¬ i < ns.length ∨ ¬ i < 40) → l.length = i → Ones l → Ev (fun k => hypercubelaw5_RunsOnly.l0 k ns l (chg l : Int) (i : Int)) true := by
    intro i l hi hno hl h
    refine Ev.step (f := fun k => hypercubelaw5_RunsOnly.j1 k ns l (chg l : Int) (i : Int) false) (fun k => ?_) (only_end ns l _ h (by omega))
    simp only [hypercubelaw5_RunsOnly.l0]
    by_cases c : i < ns.length
    · rw [if_pos (by omega), show decide ((i : Int) < 40) = false from decide_eq_false (by omega)]
    · rw [if_neg (by omega)]
  induction d with
  | zero => exact fun i l hd hi hil hl h => hstop i l hi (by omega) hl h
  | succ d ih =>
    intro i l hd hi hil hl h
    by_cases c : i < ns.length
    · obtain ⟨t, ht⟩ : ∃ t, t = ns[i] % 3 := ⟨_, rfl⟩
      have hOnes : Ones (l ++ [cellK t]) := fun x hx => by
        rcases List.mem_append.1 hx with e | e
        · exact h x e
        · rw [List.mem_singleton.1 e]; exact ⟨t, rfl⟩
      have hgo := ih (i + 1) (l ++ [cellK t]) (by omega) (by omega) (by omega) (by simp; omega) hOnes
      have hw := within5_eq ns[i] 3 (by omega) (by omega)
      rw [← ht] at hw
      refine Ev.step (f := fun k => hypercubelaw5_RunsOnly.j1 k ns l (chg l : Int) (i : Int) true) (fun k => by simp only [hypercubelaw5_RunsOnly.l0]; rw [if_pos (by omega), show decide ((i : Int) < 40) = true from decide_eq_true (by omega)]) ?_
      refine Ev.step (f := fun k => hypercubelaw5_RunsOnly.l0 k ns (l ++ [cellK t]) (chg (l ++ [cellK t]) : Int) ((i + 1 : Nat) : Int)) (fun k => ?_) hgo
      simp only [hypercubelaw5_RunsOnly.j1]
      rw [if_pos trivial, if_pos (by omega), if_pos (by omega), rd_get c, hw, Option.bind_some, if_pos (by omega), Option.bind_some, w64s c hns]
      have eK : (⟨[t], 1, [], [], []⟩ : S41) = cellK t := rfl
      simp only [eK]
      by_cases c0 : i = 0
      · have e0 : l = [] := List.eq_nil_of_length_eq_zero (by omega)
        have e1 : wrap64 ((chg ([] : List S41) : Int) + 1) = (chg ([] ++ [cellK t]) : Int) := by
          show wrap64 (((0 : Nat) : Int) + 1) = ((1 : Nat) : Int)
          rw [w64 (by omega) (by omega)]
          rfl
        rw [if_pos (by omega), e0, e1]
      · have hne : l ≠ [] := fun e => by rw [e] at hl; simp at hl; omega
        have hlt : i - 1 < (l ++ [cellK t]).length := by simp; omega
        have hw1 : wrap64 ((i : Int) - 1) = ((i - 1 : Nat) : Int) := by rw [w64 (by omega) (by omega)]; omega
        have hlast : (l ++ [cellK t])[i - 1] = l.getLast hne := by
          rw [List.getElem_append_left (by omega), List.getLast_eq_getElem]
          congr 1
          omega
        have hbd : chg l ≤ 40 := by
          have := (runsR_len 1 (Nat.le_refl 1) l).1
          rw [runs_chg0] at this
          omega
        obtain ⟨t', ht'⟩ := h _ (List.getLast_mem hne)
        have hs := chg_snoc (cellK t) l hne
        rw [ht'] at hs hlast
        rw [if_neg (by omega), hw1, if_pos (by omega), if_pos (by omega)]
        rw [rdC_get hlt, hlast, if_pos (by simp [cellK])]
        have hrd : rd (cellK t').f0 0 = t' := rfl
        by_cases ek : t' = t
        · rw [hrd, if_pos ek, hs, if_pos (by rw [ek])]
          rfl
        · rw [hrd, if_neg ek, hs, if_neg (fun e => ek (by simpa [cellK] using e)), w64 (x := (chg l : Int) + 1) (by omega) (by omega)]
          rfl
    · exact hstop i l hi (.inl c) hl h
theorem RunsOnly : hypercubelaw5_RunsOnly.Pure := by
  intro ns _ h8 _
  refine Ev.rounds ?_
  refine Ev.congr (f := fun k => hypercubelaw5_RunsOnly.l0 k ns [] 0 0) (fun k => by unfold hypercubelaw5_RunsOnly.f hypercubelaw5_known.f; rw [Option.bind_some, if_pos rfl]) ?_
  exact only_l0 ns (by omega) 40 0 [] (by omega) (by omega) (by omega) rfl (fun c hc => by simp at hc)
end Go.Proofs.Ytmnepkbmcnpjlaa.Pure
