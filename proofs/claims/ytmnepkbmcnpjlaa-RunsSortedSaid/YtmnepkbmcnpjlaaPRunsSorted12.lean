-- packed by wip/tools/pack.py (a program of this session) out of its own texts
import Derived.Test.YtmnepkbmcnpjlaaPRunsSorted0
import Derived.ArgAppend
import Derived.Below
import Derived.BigQuiet
import Derived.Deep.AppendLies
import Derived.Deep.CutBlock
import Derived.Deep.DeepCutAuto
import Derived.Deep.Draws
import Derived.Deep.LoopGhost
import Derived.Deep.OwnRows
import Derived.Deep.QuietTactic
import Derived.Deep.RegionHeld3
import Derived.KernelRfl
import Derived.Laws.BitsLemmas
import Derived.Laws.BytesArg
import Derived.Laws.IdiomCopy
import Derived.Laws.MakeOwn
import Derived.Laws.OwnMore
import Derived.Laws.Rows
import Derived.Laws.Slices
import Derived.Lib.AppendStr
import Derived.Lib.ConvBytes
import Derived.LoopIn
import Derived.LoopNIn
import Derived.Maps.AppendAt
import Derived.OrdersHeld
import Derived.OrdersIn
import Derived.OwnWalk
import Derived.OwnWalkIn
import Derived.RangeFuncBound
import Derived.RangeFuncBox
import Derived.RangeFuncCalls
import Derived.RangeFuncLeaves
import Derived.RangeFuncNested
import Derived.RangeFuncOwn
import Derived.RowKit
import Derived.RowKit3
import Derived.Shelf.Abstract
import Derived.Shelf.RegionOpen
import Derived.Tactics
import Derived.TacticsInMore
import Derived.Test.YtmnepkbmcnpjlaaProg
import Derived.WalkKit
import Derived.WideLaws
import Derived.Test.YtmnepkbmcnpjlaaPRunsSorted1
import Derived.Test.YtmnepkbmcnpjlaaPRunsSorted3
import Derived.Test.YtmnepkbmcnpjlaaPRunsSorted4
import Derived.Test.YtmnepkbmcnpjlaaPRunsSorted5
import Derived.Test.YtmnepkbmcnpjlaaPRunsSorted7
import Derived.Test.YtmnepkbmcnpjlaaPRunsSorted11
namespace Go.Proofs.Ytmnepkbmcnpjlaa.Q
open Go.RowKit Go.Shelf Go.Proofs.YtmnepkbmcnpjlaaW.PrintWords Go.Proofs.YtmnepkbmcnpjlaaW.PrintLast Go.Proofs.YtmnepkbmcnpjlaaW.PrintMore
set_option linter.unusedVariables false
set_option linter.unusedSimpArgs false
attribute [local go_sem] Oper.semAt_some
def CellsAre (w : World) (ad : Addr) (len : Nat) (cv : Nat → Nat → Value) : Prop := ∀ j, j < len → w.cell? (ad.add (j * 5)) = some (cv j 0) ∧ w.cell? ⟨(ad.add (j * 5)).block, (ad.add (j * 5)).off + 1, none⟩ = some (cv j 1) ∧ w.cell? ⟨(ad.add (j * 5)).block, (ad.add (j * 5)).off + 2, none⟩ = some (cv j 2) ∧
 w.cell? ⟨(ad.add (j * 5)).block, (ad.add (j * 5)).off + 3, none⟩ = some (cv j 3) ∧ w.cell? ⟨(ad.add (j * 5)).block, (ad.add (j * 5)).off + 4, none⟩ = some (cv j 4)
abbrev PairAt (n : Nat) := { j : Nat // 1 ≤ j ∧ j < n }
def KeepsPairs (w0 : World) (Bn : Nat) (W W' : World) : Prop := (∀ v, W.cell? ⟨Bn, 0, none⟩ = some v → W'.cell? ⟨Bn, 0, none⟩ = some v) ∧ (∀ p v, w0.cell? p = some v → W.cell? p = some v → W'.cell? p = some v)
theorem keepsPairs_t {w0 : World} {B : Nat} {W1 W2 W3 : World} (h : KeepsPairs w0 B W1 W2) (k : KeepsPairs w0 B W2 W3) : KeepsPairs w0 B W1 W3 := ⟨fun v hv => k.1 v (h.1 v hv), fun p v h0 h1 => k.2 p v h0 (h.2 p v h0 h1)⟩
theorem keepsPairs_b {w0 : World} {B : Nat} (W : World) (l : Nat) (o o' : Obj) (h : W.heap[l]? = some o) (ho : o.isCells = false) : KeepsPairs w0 B W (W.putObj l o') :=
 ⟨fun _ hv => cell_kept hv (grownBy_putObj' W l o') (fun r e => by cases e; exact ⟨_, h, ho⟩), fun _ _ _ hv => cell_kept hv (grownBy_putObj' W l o') (fun r e => by cases e; exact ⟨_, h, ho⟩)⟩
def encsP (cv : Nat → Nat → Value) (j : Nat) : Array Value := #[.agg #[cv (j - 1) 0, cv (j - 1) 1, cv (j - 1) 2, cv (j - 1) 3, cv (j - 1) 4], .agg #[cv j 0, cv j 1, cv j 2, cv j 3, cv j 4]]
theorem splitQ_of {F : Fence} {n : Nat} {P : Program} {ops : Array Oper} {Q : Exit → Act → World → Prop} {m : Nat} {a : Act} {w : World} (h : wpOpIn F n P ops Q m (fun a w => wpOpIn F n P ops Q (m + 1) (fun a w => Q .normal a w) a w) a w) : splitQ F n P ops Q m .normal a w := h
theorem range_pre {a b : Nat} (h : a ≤ b) : List.range' 1 a <+: List.range' 1 b := by
 obtain ⟨d, rfl⟩ : ∃ d, b = a + d := ⟨b - a, by omega⟩
 exact ⟨List.range' (1 + a) d, by rw [List.range'_append_1]⟩
theorem yield_op {P : Program} {ops : Array Oper} {Q : Exit → Act → World → Prop} {n i l : Nat} {o : Oper} {a : Act} {w : World} {K : Act → World → Prop} {x : Operand} {as_ : Array Operand} {ts : Array TypeId} {args : Array Value} {fn : FuncId} {tmps : Array Value} {assign body : Code} {R : Ending → World → Prop}
  (ho : ops[i]? = some o) (hg : o.guard.isNone = true) (hop : o.op = .call { callee := .value x, args := as_, argTypes := ts }) (hx : a.eval x = .func (.yield l) #[] #[]) (hargs : as_.map a.eval = args) (hy : (Instr.yield l args).run P w = .ok (.round l fn tmps assign body) w) (hn : 1 ≤ n)
  (hR : RoundIn Fence.wide (n - 1) P l fn tmps assign body w R) (h : ∀ e w', R e w' → ∃ v, e = .returned v ∧ K (a.put o.dst v) w') : wpOpIn Fence.wide n P ops Q i K a w := by
 unfold wpOpIn
 simp only [ho, wanted_none hg, if_true]
 refine ⟨fun _ _ => trivial, ?_⟩
 show o.uponIn Fence.wide n P a K Q ((o.semAt none a.eval).run P w)
 rw [Oper.semAt_none]
 have hrun : (execOp a.eval o).run P w = .ok (.round l fn tmps assign body) w := by
  unfold execOp
  simp [hop, resolve, Deferred.ofValue, invoke, hx, hargs, hy]
 rw [hrun, Oper.uponIn_round]
 refine ⟨fun _ => hn, RoundIn.mono hR fun e w' hr => ?_⟩
 obtain ⟨v, rfl, hk⟩ := h e w' hr
 exact hk
theorem wide_value {P : Program} {ops : Array Oper} {Q : Exit → Act → World → Prop} {n i : Nat} {o : Oper} {a : Act} {w : World} {K : Act → World → Prop} {v : Value} (ho : ops[i]? = some o) (hg : o.guard.isNone = true) (hrun : (execOp a.eval o).run P w = .ok (.value v) w) (h : K (a.put o.dst v) w) : wpOpIn Fence.wide n P ops Q i K a w := by
 unfold wpOpIn
 simp only [ho, wanted_none hg, if_true]
 refine oper_wide ?_
 unfold Oper.wp
 rw [hrun]
 exact h
theorem closed_none (md : Region.Mode) (ops : Array Oper) (n : Nat) : ClosedL md ops (Array.replicate n false) := by
 intro i o _ h
 simp only [Array.getD_eq_getD_getElem?, Array.getElem?_replicate] at h
 split at h <;> cases h
def pairs1.T3 : Bool × List (List Nat × List Nat) := (true, [([], []), ([], []), ([], []), ([2], [2]), ([1, 3], [1, 3]), ([4], [4]), ([], []), ([], []), ([6, 7], [6, 7]), ([8], [8])])
def pairs1.B3 : List Nat := [0, 0, 0, 4, 14, 30, 0, 0, 192, 448]
theorem pairs1.tab3 : rtab .any ((opsOf Try.f43 3).extract 0 10) = pairs1.T3 := by kernel_rfl
theorem pairs1.bits3 : waitsOk pairs1.T3.2 pairs1.B3 = true := by kernel_rfl
set_option maxRecDepth 100000 in
set_option maxHeartbeats 2000000 in
theorem pairs1_in (n : Nat) (hn : 1 ≤ n) (l Bn : Nat) (A : Option Addr) (ad : Addr) (len c : Nat) (cv : Nat → Nat → Value) (w0 : World) (J Jx : List (PairAt len) → World → Prop) (hA : 1 < len → A = some ad) (hcells : CellsAre w0 ad len cv)
    (hY : ∀ pre (x : PairAt len) W, J pre W → pre.length < len → YieldAt Fence.wide (n - 1) Try.prog l (encsP cv x.1) W fun e W' =>
      (e = .returned (.bool true) ∧ J (pre ++ [x]) W' ∧ KeepsPairs w0 Bn W W') ∨ (e = .returned (.bool false) ∧ Jx (pre ++ [x]) W'))
    (W : World) (hBn : W.cell? ⟨Bn, 0, none⟩ = some (.slice A len c)) (hW : ∀ p v, w0.cell? p = some v → W.cell? p = some v) (hD : ∀ pre W, J pre W → J pre W.drew) (h0 : J [] W) (hlen : len ≤ 9223372036854775807) :
    CallsIn Fence.wide n Try.prog 43 #[.func (.yield l) #[] #[], .pointer (some ⟨Bn, 0, none⟩)] W fun e W' => (∃ v, e = .returned v) ∧
      ((∃ ys, ys.map (·.1) = List.range' 1 (len - 1) ∧ J ys W') ∨ (∃ pre, pre.map (·.1) <+: List.range' 1 (len - 1) ∧ Jx pre W')) := by
  refine callsIn_of_wp Try.func43 rfl trivial ?_ rfl
  simp only [Try.ntmps43, List.size_toArray, List.length_cons, List.length_nil, Nat.reduceAdd, Nat.reduceSub, Array.replicate_succ, Array.replicate_zero, List.push_toArray, List.append_toArray, List.nil_append, List.cons_append]
  gi_wp2
  gi_loopw [3] (fun p wr => ∃ (j : Nat) (pre : List (PairAt len)), p = .int .i64 ((j + 1 : Nat) : Int) ∧ pre.map (·.1) = List.range' 1 j ∧ j ≤ len - 1 ∧ wr.cell? ⟨Bn, 0, none⟩ = some (.slice A len c) ∧ (∀ p v, w0.cell? p = some v → wr.cell? p = some v) ∧ J pre wr)
    (fun p wr => len - (intOf p).toNat)
  case atStart =>
    exact ⟨0, [], rfl, rfl, by omega, hBn, hW, h0⟩
  case round =>
    obtain ⟨j, pre, rfl, hpre, hj, hc, hWr, hJs⟩ := hrel
    have hpl : pre.length = j := by have := congrArg List.length hpre; simpa using this
    by_cases hlt : j + 1 < len
    · have hA' := hA (by omega)
      subst hA'
      obtain ⟨a0, a1, a2, a3, a4⟩ := hcells j (by omega)
      obtain ⟨b0, b1, b2, b3, b4⟩ := hcells (j + 1) hlt
      replace a0 := hWr _ _ a0
      replace a1 := hWr _ _ a1
      replace a2 := hWr _ _ a2
      replace a3 := hWr _ _ a3
      replace a4 := hWr _ _ a4
      replace b0 := hWr _ _ b0
      replace b1 := hWr _ _ b1
      replace b2 := hWr _ _ b2
      replace b3 := hWr _ _ b3
      replace b4 := hWr _ _ b4
      obtain ⟨x, hx⟩ : ∃ x : PairAt len, x = ⟨j + 1, ⟨by omega, hlt⟩⟩ := ⟨⟨j + 1, ⟨by omega, hlt⟩⟩, rfl⟩
      have hmap : (pre ++ [x]).map (·.1) = List.range' 1 (j + 1) := by rw [List.map_append, hpre, hx, List.range'_concat]; simp [Nat.add_comm]
      have hJd : J pre wr.drew := hD _ _ hJs
      obtain ⟨fn, tmps, assign, body, hy, hR⟩ := hY pre x wr.drew hJd (by omega)
      rw [hx] at hy
      unfold encsP at hy
      simp only [Nat.add_sub_cancel] at hy
      have HX := am hR
      have HM := am hmap
      have HC := am hc
      have HW := am hWr
      have w1 : wrap64 (((j + 1 : Nat) : Int) - 1) = (j : Int) := by unfold wrap64; omega
      have w2 : wrap64 (((j + 1 : Nat) : Int) + 1) = ((j + 1 + 1 : Nat) : Int) := by unfold wrap64; omega
      have c1 : (((j + 1 : Nat) : Int) < (len : Int)) = True := eq_true (by omega)
      have c2 : (0 ≤ (j : Int)) = True := eq_true (by omega)
      have c3 : ((j : Int) < (len : Int)) = True := eq_true (by omega)
      have c4 : (0 ≤ ((j + 1 : Nat) : Int)) = True := eq_true (by omega)
      have w3 : wrap64 (j : Int) = (j : Int) := by unfold wrap64; omega
      have c5 : (0 ≤ (j : Int) + 1) = True := eq_true (by omega)
      have c6 : ((j : Int) + 1 < (len : Int)) = True := eq_true (by omega)
      clear hR hmap hpre hWr hJs
      gi_wp2
      refine wpIn_region_any (by kernel_rfl) ?_
      refine any_split (m := 10) [10, 4, 3, 4, 5, 10, 8, 8, 9, 10] (by kernel_rfl) (by kernel_rfl) (by kernel_rfl) (by kernel_rfl) (by kernel_rfl) 10 _ _ _ (by kernel_rfl) (closed_none _ _ _) (by kernel_rfl) (by kernel_rfl) ?_
      refine any_wide (by rintro ⟨a, w, h⟩; have h2 : (∃ v, Ending.outgrown = .returned v) ∧ _ := h; obtain ⟨⟨v, h3⟩, _⟩ := h2; cases h3) _ _ _ _ ?_
      refine wpAny_of_last (S := fun w' => w'.cell? ⟨Bn, 0, none⟩ = some (.slice (some ad) len c) ∧ w'.cell? (ad.add (j * 5)) = some (cv j 0) ∧ w'.cell? ⟨(ad.add (j * 5)).block, (ad.add (j * 5)).off + 1, none⟩ = some (cv j 1) ∧ w'.cell? ⟨(ad.add (j * 5)).block, (ad.add (j * 5)).off + 2, none⟩ = some (cv j 2) ∧ w'.cell? ⟨(ad.add (j * 5)).block, (ad.add (j * 5)).off + 3, none⟩ = some (cv j 3) ∧ w'.cell? ⟨(ad.add (j * 5)).block, (ad.add (j * 5)).off + 4, none⟩ = some (cv j 4) ∧ w'.cell? (ad.add ((j + 1) * 5)) = some (cv (j + 1) 0) ∧ w'.cell? ⟨(ad.add ((j + 1) * 5)).block, (ad.add ((j + 1) * 5)).off + 1, none⟩ = some (cv (j + 1) 1) ∧ w'.cell? ⟨(ad.add ((j + 1) * 5)).block, (ad.add ((j + 1) * 5)).off + 2, none⟩ = some (cv (j + 1) 2) ∧ w'.cell? ⟨(ad.add ((j + 1) * 5)).block, (ad.add ((j + 1) * 5)).off + 3, none⟩ = some (cv (j + 1) 3) ∧ w'.cell? ⟨(ad.add ((j + 1) * 5)).block, (ad.add ((j + 1) * 5)).off + 4, none⟩ = some (cv (j + 1) 4)) (ds := []) _ _ _ _ ?_
      change wpAnyLast _ _ _ _ _ _ _ (bb 10 0) _ wr.drew
      have hHeld : (fun w' : World => w'.cell? ⟨Bn, 0, none⟩ = some (.slice (some ad) len c) ∧ w'.cell? (ad.add (j * 5)) = some (cv j 0) ∧ w'.cell? ⟨(ad.add (j * 5)).block, (ad.add (j * 5)).off + 1, none⟩ = some (cv j 1) ∧ w'.cell? ⟨(ad.add (j * 5)).block, (ad.add (j * 5)).off + 2, none⟩ = some (cv j 2) ∧ w'.cell? ⟨(ad.add (j * 5)).block, (ad.add (j * 5)).off + 3, none⟩ = some (cv j 3) ∧ w'.cell? ⟨(ad.add (j * 5)).block, (ad.add (j * 5)).off + 4, none⟩ = some (cv j 4) ∧ w'.cell? (ad.add ((j + 1) * 5)) = some (cv (j + 1) 0) ∧ w'.cell? ⟨(ad.add ((j + 1) * 5)).block, (ad.add ((j + 1) * 5)).off + 1, none⟩ = some (cv (j + 1) 1) ∧ w'.cell? ⟨(ad.add ((j + 1) * 5)).block, (ad.add ((j + 1) * 5)).off + 2, none⟩ = some (cv (j + 1) 2) ∧ w'.cell? ⟨(ad.add ((j + 1) * 5)).block, (ad.add ((j + 1) * 5)).off + 3, none⟩ = some (cv (j + 1) 3) ∧ w'.cell? ⟨(ad.add ((j + 1) * 5)).block, (ad.add ((j + 1) * 5)).off + 4, none⟩ = some (cv (j + 1) 4)) wr.drew := ⟨HC.out, a0, a1, a2, a3, a4, b0, b1, b2, b3, b4⟩
      refine with_tabW pairs1.tab3 pairs1.bits3 (fun HT_ HW_ => ?_)
      refine pure_ (i := 0) (N := some 10) (v := ?_) (a' := ?_) (bb 10 1) rfl rfl (any_of HT_.out (by kernel_rfl)) (fun _ _ _ h => h) (Or.inl ⟨by rfl, ?_⟩) ?_ ?_
      rotate_left
      ·intro w'
       go_simp
       with_reducible rfl
      rotate_left
      ·simp only [Act.put, List.setIfInBounds_toArray, List.set_cons_zero, List.set_cons_succ, i64_w, i32_w]
       rfl
      refine pure_ (i := 2) (N := some 12) (v := ?_) (a' := ?_) (bb 10 5) rfl rfl (any_of HT_.out (by kernel_rfl)) (fun _ _ _ h => h) (Or.inl ⟨by rfl, ?_⟩) ?_ ?_
      rotate_left
      ·intro w'
       go_simp
       with_reducible rfl
      rotate_left
      ·simp only [Act.put, List.setIfInBounds_toArray, List.set_cons_zero, List.set_cons_succ, i64_w, i32_w]
       rfl
      refine pure_ (i := 7) (N := some 17) (v := ?_) (a' := ?_) (bb 10 133) rfl rfl (any_of HT_.out (by kernel_rfl)) (fun _ _ _ h => h) (Or.inl ⟨by rfl, ?_⟩) ?_ ?_
      rotate_left
      ·intro w'
       go_simp
       with_reducible rfl
      rotate_left
      ·simp only [Act.put, List.setIfInBounds_toArray, List.set_cons_zero, List.set_cons_succ, i64_w, i32_w]
       rfl
      refine pure_ (i := 3) (N := some 13) (v := ?_) (a' := ?_) (bb 10 141) rfl rfl (any_of HT_.out (by kernel_rfl)) (fun _ _ _ h => h) (Or.inl ⟨by rfl, ?_⟩) ?_ ?_
      rotate_left
      ·intro w'
       go_simp
       with_reducible rfl
      rotate_left
      ·simp only [Act.put, List.setIfInBounds_toArray, List.set_cons_zero, List.set_cons_succ, i64_w, i32_w]
       rfl
      refine take_ (i := 1) (N := some 11) (v := ?_) (a' := ?_) (bb 10 143) rfl rfl (take_ofW HT_.out HW_.out (by kernel_rfl)) (fun _ _ _ h => h) (Or.inl ⟨by rfl, ?_⟩) hHeld ?_ ?_
      rotate_left
      ·rintro w' ⟨s0, s1, s2, s3, s4, s5, s6, s7, s8, s9, s10⟩
       go_simp
       with_reducible rfl
      rotate_left
      ·simp only [Act.put, List.setIfInBounds_toArray, List.set_cons_zero, List.set_cons_succ, i64_w, i32_w]
       rfl
      refine take_ (i := 6) (N := some 16) (v := ?_) (a' := ?_) (bb 10 207) rfl rfl (take_ofW HT_.out HW_.out (by kernel_rfl)) (fun _ _ _ h => h) (Or.inl ⟨by rfl, ?_⟩) hHeld ?_ ?_
      rotate_left
      ·rintro w' ⟨s0, s1, s2, s3, s4, s5, s6, s7, s8, s9, s10⟩
       go_simp
       with_reducible rfl
      rotate_left
      ·simp only [Act.put, List.setIfInBounds_toArray, List.set_cons_zero, List.set_cons_succ, i64_w, i32_w]
       rfl
      refine pure_ (i := 4) (N := some 14) (v := ?_) (a' := ?_) (bb 10 223) rfl rfl (any_of HT_.out (by kernel_rfl)) (fun _ _ _ h => h) (Or.inl ⟨by rfl, ?_⟩) ?_ ?_
      rotate_left
      ·intro w'
       go_simp
       with_reducible rfl
      rotate_left
      ·simp only [Act.put, List.setIfInBounds_toArray, List.set_cons_zero, List.set_cons_succ, i64_w, i32_w]
       rfl
      refine pure_ (i := 8) (N := some 18) (v := ?_) (a' := ?_) (bb 10 479) rfl rfl (any_of HT_.out (by kernel_rfl)) (fun _ _ _ h => h) (Or.inl ⟨by rfl, ?_⟩) ?_ ?_
      rotate_left
      ·intro w'
       go_simp
       with_reducible rfl
      rotate_left
      ·simp only [Act.put, List.setIfInBounds_toArray, List.set_cons_zero, List.set_cons_succ, i64_w, i32_w]
       rfl
      refine take_ (i := 5) (N := some 15) (v := ?_) (a' := ?_) (bb 10 511) rfl rfl (take_ofW HT_.out HW_.out (by kernel_rfl)) (fun _ _ _ h => h) (Or.inl ⟨by rfl, ?_⟩) hHeld ?_ ?_
      rotate_left
      ·rintro w' ⟨s0, s1, s2, s3, s4, s5, s6, s7, s8, s9, s10⟩
       go_simp
       with_reducible rfl
      rotate_left
      ·simp only [Act.put, List.setIfInBounds_toArray, List.set_cons_zero, List.set_cons_succ, i64_w, i32_w]
       rfl
      refine take_ (i := 9) (N := some 19) (v := ?_) (a' := ?_) (bb 10 1023) rfl rfl (take_ofW HT_.out HW_.out (by kernel_rfl)) (fun _ _ _ h => h) (Or.inl ⟨by rfl, ?_⟩) hHeld ?_ ?_
      rotate_left
      ·rintro w' ⟨s0, s1, s2, s3, s4, s5, s6, s7, s8, s9, s10⟩
       go_simp
       with_reducible rfl
      rotate_left
      ·simp only [Act.put, List.setIfInBounds_toArray, List.set_cons_zero, List.set_cons_succ, i64_w, i32_w]
       rfl
      refine done_ (done_of HT_.out (by kernel_rfl)) ?_
      refine splitQ_of ?_
      refine yield_op rfl rfl rfl rfl (by (try simp only [List.map_toArray, List.map_cons, List.map_nil]); first | done | rfl) hy hn HX.out ?_
      rintro e W3 (⟨rfl, hJ3, hk3⟩ | ⟨rfl, hJx3⟩)
      · refine ⟨_, rfl, ?_⟩
        refine wide_value (v := .bool false) rfl rfl (by go_simp; first | done | rfl) ?_
        have hc3 := hk3.1 _ HC.out
        have hw3 : ∀ p v, w0.cell? p = some v → W3.cell? p = some v := fun p v h => hk3.2 p v h (HW.out p v h)
        have HJ3 := am hJ3
        have HW3 := am hw3
        clear hJ3 hk3 hw3 hHeld hy
        simp only [Act.put, List.setIfInBounds_toArray, List.set_cons_zero, List.set_cons_succ]
        gi_wp2
        go_roundw
        case rel => exact ⟨j + 1, pre ++ [x], by simp, HM.out, by omega, hc3, HW3.out, HJ3.out⟩
        case measure => simp [intOf]; omega
      · refine ⟨_, rfl, ?_⟩
        refine wide_value (v := .bool true) rfl rfl (by go_simp; first | done | rfl) ?_
        have HJ3 := am hJx3
        clear hJx3 hHeld hy
        simp only [Act.put, List.setIfInBounds_toArray, List.set_cons_zero, List.set_cons_succ]
        gi_wp2
        refine bodyPost_ret (results_none rfl _ _ _) rfl ?_
        refine ⟨⟨_, rfl⟩, .inr ⟨pre ++ [x], ?_, HJ3.out⟩⟩
        show (pre ++ [x]).map (·.1) <+: _
        rw [HM.out]
        exact range_pre (by omega)
    · have hj2 : j = len - 1 := by omega
      have c1 : (((j + 1 : Nat) : Int) < (len : Int)) = False := eq_false (by omega)
      have c6 : ((j : Int) + 1 < (len : Int)) = False := eq_false (by omega)
      have c7 : (j + 1 < len) = False := eq_false hlt
      gi_wp2
      go_end0
      exact ⟨⟨_, rfl⟩, .inl ⟨pre, by rw [hpre, hj2], hJs⟩⟩
theorem pairs_in (n : Nat) (A : Option Addr) (len c : Nat) (w : World) :
  CallsIn Fence.wide n Try.prog 33 #[.slice A len c] w fun e w' => e = .returned (.func (.func 43) #[] #[.pointer (some ⟨w.heap.size, 0, none⟩)]) ∧ w' = w.alloc (.cells #[.slice A len c] 29) := by
 refine callsIn_of_wp Try.func33 rfl trivial ?_ rfl
 simp only [Try.ntmps33, List.size_toArray, List.length_cons, List.length_nil, Nat.reduceAdd, Nat.reduceSub, Array.replicate_succ, Array.replicate_zero, List.push_toArray, List.append_toArray, List.nil_append, List.cons_append]
 gi_wp2
 go_ret
 exact ⟨rfl, rfl⟩
theorem grownBy_drew (W : World) : W.grownBy W.drew none := ⟨rfl, rfl, rfl, Nat.le_refl _, fun _ _ _ => rfl⟩
theorem pairs_stops (n : Nat) (hn : 1 ≤ n) (Bn : Nat) (A : Option Addr) (ad : Addr) (len c : Nat) (cv : Nat → Nat → Value) (w : World) (hA : 1 < len → A = some ad) (hcells : CellsAre w ad len cv) (hBn : w.cell? ⟨Bn, 0, none⟩ = some (.slice A len c)) (hlen : len ≤ 9223372036854775807) :
  SeqStopsK Fence.wide n Try.prog 43 #[.pointer (some ⟨Bn, 0, none⟩)] (fun x : PairAt len => encsP cv x.1) (KeepsPairs w Bn) (fun ys => ys.map (·.1) = List.range' 1 (len - 1)) (fun pre => pre.map (·.1) <+: List.range' 1 (len - 1)) len w := fun l J Jx W hW hJ _ hY h0 =>
 have hc : ∀ p v, w.cell? p = some v → W.cell? p = some v := fun p v h => (hW.cell (World.block_lt_of_cell? w _ h)).trans h
 pairs1_in n hn l Bn A ad len c cv w J Jx hA hcells hY W (hc _ _ hBn) hc (fun pre W1 h => hJ pre W1 _ none h (grownBy_drew W1) (fun r e => by cases e)) h0 hlen
def srtGo (k : Nat) : List S41 → Option Bool
 | a :: b :: t => (runs_by.f k a.f0 a.f1 a.f2 a.f3 a.f4 b.f0 b.f1 b.f2 b.f3 b.f4).bind fun c => (srtGo k (b :: t)).bind fun d => some (decide (c < 0) && d)
 | _ => some true
def runs_Sorted.f (k : Nat) (l0 : List S41) : Option Bool := srtGo k l0
def byAt (k : Nat) (l : List S41) (j : Nat) : Option Int := runs_by.f k (rd_T41 l (j : Int)).f0 (rd_T41 l (j : Int)).f1 (rd_T41 l (j : Int)).f2 (rd_T41 l (j : Int)).f3 (rd_T41 l (j : Int)).f4 (rd_T41 l ((j + 1 : Nat) : Int)).f0 (rd_T41 l ((j + 1 : Nat) : Int)).f1 (rd_T41 l ((j + 1 : Nat) : Int)).f2 (rd_T41 l ((j + 1 : Nat) : Int)).f3 (rd_T41 l ((j + 1 : Nat) : Int)).f4
theorem rdT_cons (a : S41) (l : List S41) (j : Nat) : rd_T41 (a :: l) ((j + 1 : Nat) : Int) = rd_T41 l (j : Int) := by
 unfold rd_T41
 rw [Int.toNat_natCast, Int.toNat_natCast]
 simp
theorem srt_spec (k : Nat) : ∀ (l : List S41) (r : Bool), srtGo k l = some r → ∀ j, j + 1 < l.length → ∃ c, byAt k l j = some c ∧ (r = true → c < 0)
 | [], r, h, j, hj => by simp at hj
 | [_], r, h, j, hj => by simp at hj
 | a :: b :: t, r, h, j, hj => by
  unfold srtGo at h
  obtain ⟨c, hc, h⟩ := Option.bind_eq_some_iff.1 h
  obtain ⟨d, hd, h⟩ := Option.bind_eq_some_iff.1 h
  have e := Option.some.inj h
  cases j with
  | zero => exact ⟨c, hc, fun hr => by rw [← e, Bool.and_eq_true, decide_eq_true_eq] at hr; exact hr.1⟩
  | succ j =>
   obtain ⟨c2, h1, h2⟩ := srt_spec k (b :: t) d hd j (by simpa using hj)
   refine ⟨c2, ?_, fun hr => h2 (by rw [← e, Bool.and_eq_true] at hr; exact hr.2)⟩
   unfold byAt at h1 ⊢
   rw [rdT_cons, rdT_cons]
   exact h1
theorem srt_all (k : Nat) : ∀ (l : List S41) (r : Bool), srtGo k l = some r → (∀ j c, j + 1 < l.length → byAt k l j = some c → c < 0) → r = true
 | [], r, h, _ => by cases h; rfl
 | [_], r, h, _ => by cases h; rfl
 | a :: b :: t, r, h, hl => by
  unfold srtGo at h
  obtain ⟨c, hc, h⟩ := Option.bind_eq_some_iff.1 h
  obtain ⟨d, hd, h⟩ := Option.bind_eq_some_iff.1 h
  rw [← Option.some.inj h, Bool.and_eq_true, decide_eq_true_eq]
  refine ⟨hl 0 c (by simp) hc, srt_all k (b :: t) d hd (fun j c2 hj h2 => hl (j + 1) c2 (by simpa using hj) ?_)⟩
  unfold byAt at h2 ⊢
  rw [rdT_cons, rdT_cons]
  exact h2
def SrtI (w0 : World) (B g2 : Nat) (good : Nat → Prop) {len : Nat} (pre : List (PairAt len)) (W : World) : Prop :=
 (∀ x ∈ pre, good x.1) ∧ W.heap[g2]? = some (.cells #[.bool false] 4 (0, 0)) ∧ Below w0.heap.size w0 W ∧ B ≤ W.heap.size
def SrtX (w0 : World) (g2 : Nat) (good : Nat → Prop) {len : Nat} (c : Code) (pre : List (PairAt len)) (W : World) : Prop :=
 c = .ret ∧ (∃ x ∈ pre, ¬ good x.1) ∧ W.heap[g2]? = some (.cells #[.bool false] 4 (0, 0)) ∧ Below w0.heap.size w0 W
theorem srtI_own {w0 : World} {g2 B len : Nat} {good : Nat → Prop} (hB : w0.heap.size ≤ B) : OwnFrom B (SrtI w0 B g2 good (len := len)) := by
 rintro pre W W' row ⟨h1, h2, h3, h4⟩ hg hr
 exact ⟨h1, blk_grown h2 hg (blk_not_row h2 (fun r e => (hr r e).2)), h3.grown hg h3.size (fun k e => Nat.le_trans hB (hr k e).1), Nat.le_trans h4 hg.size⟩
theorem srtX_own {w0 : World} {g2 B len : Nat} {good : Nat → Prop} (hB : w0.heap.size ≤ B) (c : Code) : OwnFrom B (SrtX w0 g2 good (len := len) c) := by
 rintro pre W W' row ⟨h0, h1, h2, h3⟩ hg hr
 exact ⟨h0, h1, blk_grown h2 hg (blk_not_row h2 (fun r e => (hr r e).2)), h3.grown hg h3.size (fun k e => Nat.le_trans hB (hr k e).1)⟩
def SrtA (wl : World) (cv : Nat → Nat → Value) (tm : Nat → Nat → Nat → Array Value) (j : Nat) (a : Act) (W : World) : Prop :=
 ∃ B1 B2, wl.heap.size ≤ B1 ∧ wl.heap.size ≤ B2 ∧ W.heap[B1]? = some (.cells #[cv (j - 1) 0, cv (j - 1) 1, cv (j - 1) 2, cv (j - 1) 3, cv (j - 1) 4] 41 (0, 0)) ∧ W.heap[B2]? = some (.cells #[cv j 0, cv j 1, cv j 2, cv j 3, cv j 4] 41 (0, 0)) ∧ a = { tmps := tm B1 B2 j, defers := [] }
theorem srtA_own {wl : World} {B : Nat} {cv : Nat → Nat → Value} {tm : Nat → Nat → Nat → Array Value} (j : Nat) (a : Act) : OwnFrom B (fun (_ : Unit) W => SrtA wl cv tm j a W) := by
 rintro _ W W' row ⟨B1, B2, h1, h2, h3, h4, h5⟩ hg hr
 exact ⟨B1, B2, h1, h2, blk_grown h3 hg (blk_not_row h3 (fun r e => (hr r e).2)), blk_grown h4 hg (blk_not_row h4 (fun r e => (hr r e).2)), h5⟩
theorem keepsFrom_below {B : Nat} {W W' : World} (h : Below W.heap.size W W') : KeepsFrom B W W' := ⟨h.size, fun k o _ hk _ => (blk_below hk h)⟩
theorem keepsPairs_below {w0 : World} {Bn : Nat} {W W' : World} (h : Below W.heap.size W W') : KeepsPairs w0 Bn W W' := ⟨fun v hv => (h.cell (World.block_lt_of_cell? W _ hv)).trans hv, fun p v _ hv => (h.cell (World.block_lt_of_cell? W _ hv)).trans hv⟩
def cvOf (w : World) (ad : Addr) (j q : Nat) : Value := (w.cell? (if q = 0 then ad.add (j * 5) else ⟨(ad.add (j * 5)).block, (ad.add (j * 5)).off + q, none⟩)).getD undef
def slA : Value → Option Addr
 | .slice A _ _ => A
 | _ => none
def slC : Value → Nat
 | .slice _ _ c => c
 | _ => 0
def cvT (w : World) (ad : Addr) (l : List S41) (j : Nat) : Nat → Value
 | 0 => .slice (slA (cvOf w ad j 0)) (rd_T41 l (j : Int)).f0.length (slC (cvOf w ad j 0))
 | 1 => .int .i64 (rd_T41 l (j : Int)).f1
 | 2 => .slice (slA (cvOf w ad j 2)) (rd_T41 l (j : Int)).f2.length (slC (cvOf w ad j 2))
 | 3 => .slice (slA (cvOf w ad j 3)) (rd_T41 l (j : Int)).f3.length (slC (cvOf w ad j 3))
 | _ => .slice (slA (cvOf w ad j 4)) (rd_T41 l (j : Int)).f4.length (slC (cvOf w ad j 4))
set_option maxRecDepth 100000 in
set_option maxHeartbeats 4000000 in
theorem runs_Sorted.calls (k : Nat) (A0 : Option Addr) (c0 : Nat) (l0 : List S41) (r : Bool) (w : World) (hr0 : Kd.C k41 w A0 l0.length l0) (hc0 : l0.length ≤ c0) (h : runs_Sorted.f k l0 = some r) :
    Calls Try.prog 20 #[.slice A0 l0.length c0] w fun e w' => e = .returned (.bool r) ∧ Below w.heap.size w w' := by
 have hu41 := Try.underlying41
 have hmax := Kd.C_max hr0
 obtain ⟨ad, had⟩ : ∃ ad : Addr, (1 < l0.length → A0 = some ad) ∧ (∀ j : Nat, j < l0.length → ∃ A0 c0 A2 c2 A3 c3 A4 c4, w.cell? (ad.add (j * 5)) = some (.slice A0 (rd_T41 l0 (j : Int)).f0.length c0) ∧ w.cell? ⟨(ad.add (j * 5)).block, (ad.add (j * 5)).off + 1, none⟩ = some (.int .i64 (rd_T41 l0 (j : Int)).f1) ∧ w.cell? ⟨(ad.add (j * 5)).block, (ad.add (j * 5)).off + 2, none⟩ = some (.slice A2 (rd_T41 l0 (j : Int)).f2.length c2) ∧ w.cell? ⟨(ad.add (j * 5)).block, (ad.add (j * 5)).off + 3, none⟩ = some (.slice A3 (rd_T41 l0 (j : Int)).f3.length c3) ∧ w.cell? ⟨(ad.add (j * 5)).block, (ad.add (j * 5)).off + 4, none⟩ = some (.slice A4 (rd_T41 l0 (j : Int)).f4.length c4) ∧
     ((rd_T41 l0 (j : Int)).f0.length ≤ c0 ∧ Kd.C (Kd.int .i64) w A0 (rd_T41 l0 (j : Int)).f0.length (rd_T41 l0 (j : Int)).f0) ∧ ((rd_T41 l0 (j : Int)).f2.length ≤ c2 ∧ Kd.C (Kd.int .i64) w A2 (rd_T41 l0 (j : Int)).f2.length (rd_T41 l0 (j : Int)).f2) ∧ ((rd_T41 l0 (j : Int)).f3.length ≤ c3 ∧ Kd.C (Kd.int .i64) w A3 (rd_T41 l0 (j : Int)).f3.length (rd_T41 l0 (j : Int)).f3) ∧ ((rd_T41 l0 (j : Int)).f4.length ≤ c4 ∧ Kd.C (Kd.int .i64) w A4 (rd_T41 l0 (j : Int)).f4.length (rd_T41 l0 (j : Int)).f4)) := by
   by_cases h0 : 0 < l0.length
   · obtain ⟨ad, _, _, _, _, _, _, _, _, eA, _⟩ := at_T41 hr0 0 (by omega) (by omega)
     refine ⟨ad, fun _ => eA, fun j hj => ?_⟩
     obtain ⟨ad', E0, d0, E2, d2, E3, d3, E4, d4, eA', q0, q1, q2, q3, q4, g0, K0, g2, K2, g3, K3, g4, K4⟩ := at_T41 hr0 (j : Int) (by omega) (by omega)
     rw [eA] at eA'
     cases eA'
     simp only [Int.toNat_natCast] at q0 q1 q2 q3 q4
     exact ⟨E0, d0, E2, d2, E3, d3, E4, d4, q0, q1, q2, q3, q4, ⟨g0, K0⟩, ⟨g2, K2⟩, ⟨g3, K3⟩, ⟨g4, K4⟩⟩
   · exact ⟨⟨0, 0, none⟩, fun h => by omega, fun j hj => by omega⟩
 obtain ⟨hA, hcs⟩ := had
 have hcells : CellsAre w ad l0.length (cvT w ad l0) := fun j hj => by
   obtain ⟨E0, d0, E2, d2, E3, d3, E4, d4, q0, q1, q2, q3, q4, _⟩ := hcs j hj
   refine ⟨?_, ?_, ?_, ?_, ?_⟩
   · simp [cvT, cvOf, slA, slC, q0]
   · simp [cvT, q1]
   · simp [cvT, cvOf, slA, slC, q2]
   · simp [cvT, cvOf, slA, slC, q3]
   · simp [cvT, cvOf, slA, slC, q4]
 have hrd : ∀ (W : World), Below w.heap.size w W → ∀ j : Nat, j < l0.length → ((rd_T41 l0 (j : Int)).f0.length ≤ slC (cvOf w ad j 0) ∧ Kd.C (Kd.int .i64) W (slA (cvOf w ad j 0)) (rd_T41 l0 (j : Int)).f0.length (rd_T41 l0 (j : Int)).f0) ∧ ((rd_T41 l0 (j : Int)).f2.length ≤ slC (cvOf w ad j 2) ∧ Kd.C (Kd.int .i64) W (slA (cvOf w ad j 2)) (rd_T41 l0 (j : Int)).f2.length (rd_T41 l0 (j : Int)).f2) ∧ ((rd_T41 l0 (j : Int)).f3.length ≤ slC (cvOf w ad j 3) ∧ Kd.C (Kd.int .i64) W (slA (cvOf w ad j 3)) (rd_T41 l0 (j : Int)).f3.length (rd_T41 l0 (j : Int)).f3) ∧ ((rd_T41 l0 (j : Int)).f4.length ≤ slC (cvOf w ad j 4) ∧ Kd.C (Kd.int .i64) W (slA (cvOf w ad j 4)) (rd_T41 l0 (j : Int)).f4.length (rd_T41 l0 (j : Int)).f4) := fun W hB j hj => by
   obtain ⟨E0, d0, E2, d2, E3, d3, E4, d4, q0, q1, q2, q3, q4, ⟨g0, K0⟩, ⟨g2, K2⟩, ⟨g3, K3⟩, ⟨g4, K4⟩⟩ := hcs j hj
   refine ⟨⟨?_, ?_⟩, ⟨?_, ?_⟩, ⟨?_, ?_⟩, ⟨?_, ?_⟩⟩
   · simpa [cvOf, slC, q0] using g0
   · simpa [cvOf, slA, q0] using Kd.C_below K0 hB
   · simpa [cvOf, slC, q2] using g2
   · simpa [cvOf, slA, q2] using Kd.C_below K2 hB
   · simpa [cvOf, slC, q3] using g3
   · simpa [cvOf, slA, q3] using Kd.C_below K3 hB
   · simpa [cvOf, slC, q4] using g4
   · simpa [cvOf, slA, q4] using Kd.C_below K4 hB
 refine calls_marks Try.func20 rfl ?_
 simp only [Try.ntmps20, List.size_toArray, List.length_cons, List.length_nil, Nat.reduceAdd, Nat.reduceSub, Array.replicate_succ, Array.replicate_zero, List.push_toArray, List.append_toArray, List.nil_append, List.cons_append]
 go_wp2_with (first | ((with_reducible refine gate_callee (f := 33) rfl ?_); refine goesL_ (some 6) rfl rfl Try.func33 (by kernel_rfl) rfl #[.slice A0 l0.length c0] rfl (by (try simp only [List.map_toArray, List.map_cons, List.map_nil]); first | done | rfl) ?_; refine ((callsIn_wide (n := 3)).1 (pairs_in 3 A0 l0.length c0 _)).mono ?_; rintro e W1 ⟨rfl, rfl⟩; refine ⟨_, rfl, ?_⟩))
 obtain ⟨wl, hwl⟩ : ∃ wl, wl = (w.alloc (.cells #[.bool false] 4)).alloc (.cells #[.slice A0 l0.length c0] 29) := ⟨_, rfl⟩
 have hsl : wl.heap.size = w.heap.size + 2 := by rw [hwl]; simp
 have hBl : Below w.heap.size w wl := by rw [hwl]; exact below_alloc (below_alloc (Below.refl _ _) _) _
 have hb1 : wl.heap[w.heap.size]? = some (.cells #[.bool false] 4 (0, 0)) := by rw [hwl]; exact blk_alloc (heap_alloc_new _ _) _
 have hb2 : wl.cell? ⟨w.heap.size + 1, 0, none⟩ = some (.slice A0 l0.length c0) := by rw [hwl]; simp
 have hcl : CellsAre wl ad l0.length (cvT w ad l0) := fun j hj => by
   have hh : ∀ p v, w.cell? p = some v → wl.cell? p = some v := fun p v h => (hBl.cell (World.block_lt_of_cell? w _ h)).trans h
   obtain ⟨h0, h1, h2, h3, h4⟩ := hcells j hj
   exact ⟨hh _ _ h0, hh _ _ h1, hh _ _ h2, hh _ _ h3, hh _ _ h4⟩
 rw [World.size_alloc, ← hwl]
 refine (wpIn_wide (n := 6)).1 ?_
 refine wpIn_rangeFunc_ownH rfl (by omega) (gf := 43) (lb := #[.pointer (some ⟨w.heap.size + 1, 0, none⟩)]) rfl trivial (enters_of Try.func43 (by kernel_rfl) rfl)
   (pairs_stops 5 (by omega) (w.heap.size + 1) A0 ad l0.length c0 (cvT w ad l0) wl hA hcl hb2 hmax) keepsPairs_t (fun W l o o' _ h ho _ => keepsPairs_b W l o o' h ho) (Below.refl _ _) (fun _ => rfl)
   (SrtI w wl.heap.size w.heap.size (fun j => ∃ c, byAt k l0 (j - 1) = some c ∧ c < 0)) (SrtX w w.heap.size (fun j => ∃ c, byAt k l0 (j - 1) = some c ∧ c < 0)) (srtI_own (by omega)) (srtX_own (by omega)) ?init
   (fun x a' W => SrtA wl (cvT w ad l0) (fun B1 B2 j => #[.slice A0 l0.length c0, undef, .pointer (some ⟨w.heap.size, 0, none⟩), .pointer (some ⟨B1, 0, none⟩), .pointer (some ⟨B2, 0, none⟩), .slice A0 l0.length c0, .func (.func 43) #[] #[.pointer (some ⟨w.heap.size + 1, 0, none⟩)], .agg #[cvT w ad l0 (j - 1) 0, cvT w ad l0 (j - 1) 1, cvT w ad l0 (j - 1) 2, cvT w ad l0 (j - 1) 3, cvT w ad l0 (j - 1) 4], .agg #[cvT w ad l0 j 0, cvT w ad l0 j 1, cvT w ad l0 j 2, cvT w ad l0 j 3, cvT w ad l0 j 4], undef, undef, undef, undef]) x.1 a' W) (fun x a' => srtA_own x.1 a') ?assign ?body ?done ?stop
 case init => exact ⟨fun _ h => by (cases h), hb1, hBl, Nat.le_refl _⟩
 case assign =>
  rintro l pre ⟨j, hj1, hj2⟩ W K hi hK
  dsimp only [encsP, cvT] at hK ⊢
  gi_wp2
  refine hK _ _ (keepsFrom_below (below_alloc (below_alloc (Below.refl _ _) _) _)) (keepsPairs_below (below_alloc (below_alloc (Below.refl _ _) _) _)) ⟨hi.1, blk_alloc (blk_alloc hi.2.1 _) _, below_alloc (below_alloc hi.2.2.1 _) _, by have := hi.2.2.2; simp; omega⟩ ⟨W.heap.size, W.heap.size + 1, hi.2.2.2, by have := hi.2.2.2; omega, blk_alloc (heap_alloc_new _ _) _, ?_, rfl⟩
  dsimp only [cvT]
  rw [← World.size_alloc W (.cells #[.slice (slA (cvOf w ad (j - 1) 0)) (rd_T41 l0 ((j - 1 : Nat) : Int)).f0.length (slC (cvOf w ad (j - 1) 0)), .int .i64 (rd_T41 l0 ((j - 1 : Nat) : Int)).f1, .slice (slA (cvOf w ad (j - 1) 2)) (rd_T41 l0 ((j - 1 : Nat) : Int)).f2.length (slC (cvOf w ad (j - 1) 2)), .slice (slA (cvOf w ad (j - 1) 3)) (rd_T41 l0 ((j - 1 : Nat) : Int)).f3.length (slC (cvOf w ad (j - 1) 3)), .slice (slA (cvOf w ad (j - 1) 4)) (rd_T41 l0 ((j - 1 : Nat) : Int)).f4.length (slC (cvOf w ad (j - 1) 4))] 41)]
  exact heap_alloc_new _ _
 case body =>
  rintro l pre ⟨j, hj1, hj2⟩ a' W hl hr hi ⟨B1, B2, hB1, hB2, k1, k2, rfl⟩ hlen
  obtain ⟨e1, e2, e3, e4⟩ := hi
  obtain ⟨cr, hcr, _⟩ := srt_spec k l0 r h (j - 1) (by omega)
  have hcr' := hcr
  unfold byAt at hcr'
  rw [show j - 1 + 1 = j by omega] at hcr'
  have h1 : 1 ≤ 6 - 1 - 1 := by omega
  have hco := e3
  dsimp only [encsP, cvT] at k1 k2 ⊢
  have q10 := (blk_cell k1 0).trans rfl
  have q11 := (blk_cell k1 1).trans rfl
  have q12 := (blk_cell k1 2).trans rfl
  have q13 := (blk_cell k1 3).trans rfl
  have q14 := (blk_cell k1 4).trans rfl
  have q20 := (blk_cell k2 0).trans rfl
  have q21 := (blk_cell k2 1).trans rfl
  have q22 := (blk_cell k2 2).trans rfl
  have q23 := (blk_cell k2 3).trans rfl
  have q24 := (blk_cell k2 4).trans rfl
  have f2 := blk_frozen e2 0
  have c2 := (blk_cell e2 0).trans rfl
  obtain ⟨⟨m0, n0⟩, ⟨m2, n2⟩, ⟨m3, n3⟩, ⟨m4, n4⟩⟩ := hrd W e3 (j - 1) (by omega)
  obtain ⟨⟨p0, o0⟩, ⟨p2, o2⟩, ⟨p3, o3⟩, ⟨p4, o4⟩⟩ := hrd W e3 j (by omega)
  have hcall := CallsIn.inRound (n := 3) l (callsIn_wide.2 (runs_by.calls k (slA (cvOf w ad (j - 1) 0)) (slC (cvOf w ad (j - 1) 0)) _ (rd_T41 l0 ((j - 1 : Nat) : Int)).f1 (slA (cvOf w ad (j - 1) 2)) (slC (cvOf w ad (j - 1) 2)) _ (slA (cvOf w ad (j - 1) 3)) (slC (cvOf w ad (j - 1) 3)) _ (slA (cvOf w ad (j - 1) 4)) (slC (cvOf w ad (j - 1) 4)) _ (slA (cvOf w ad j 0)) (slC (cvOf w ad j 0)) _ (rd_T41 l0 (j : Int)).f1 (slA (cvOf w ad j 2)) (slC (cvOf w ad j 2)) _ (slA (cvOf w ad j 3)) (slC (cvOf w ad j 3)) _ (slA (cvOf w ad j 4)) (slC (cvOf w ad j 4)) _ cr W n0 m0 n2 m2 n3 m3 n4 m4 o0 p0 o2 p2 o3 p3 o4 p4 hcr'))
  have HCall := am hcall
  have HE1 := am e1
  have HCR := am hcr
  clear hcall n0 n2 n3 n4 o0 o2 o3 o4 m0 m2 m3 m4 p0 p2 p3 p4 hrd hcs hcells hcl e1 hcr hcr' h hr0 hA
  gi_wp2
  refine ⟨trivial, ?_⟩
  refine HCall.out.mono ?_
  rintro e W2 ⟨rfl, hb⟩
  have e22 := blk_below e2 hb
  have c2' := (blk_cell e22 0).trans rfl
  have f2' := blk_frozen e22 0
  have e32 := e3.trans (hb.mono e3.size)
  have e42 := Nat.le_trans e4 hb.size
  have hKF : KeepsFrom wl.heap.size W W2 := keepsFrom_below hb
  have hKP : KeepsPairs wl (w.heap.size + 1) W W2 := keepsPairs_below hb
  have HB2 := am hb
  clear hb q10 q11 q12 q13 q14 q20 q21 q22 q23 q24 f2 c2 k1 k2
  by_cases hc0 : 0 ≤ cr
  · gi_wp2
    refine ⟨hKF.trans ((KeepsOthers.setCell W2 _ _).from _), rfl, ⟨⟨j, hj1, hj2⟩, List.mem_append_right _ (List.mem_singleton.2 rfl), fun ⟨c', h1, h2⟩ => ?_⟩, blk_put e22 0 _ rfl, below_set e32 (Nat.le_refl _)⟩
    rw [HCR.out] at h1
    cases h1
    omega
  · gi_wp2
    refine ⟨hKF, hKP, ⟨fun x hx => ?_, e22, e32, e42⟩⟩
    rcases List.mem_append.1 hx with hx | hx
    · exact HE1.out x hx
    · rw [List.mem_singleton.1 hx]
      exact ⟨cr, HCR.out, by omega⟩
 case done =>
  rintro D ys W hD hS ⟨hg, hc, hB, _⟩ hK
  have hrt : r = true := srt_all k l0 r h (fun j c hj hc => by
    have hm : j + 1 ∈ ys.map (·.1) := by rw [hS, List.mem_range'_1]; omega
    obtain ⟨x, hx, e⟩ := List.mem_map.1 hm
    obtain ⟨c', h1, h2⟩ := hg x hx
    rw [e, Nat.add_sub_cancel, hc] at h1
    cases h1
    exact h2)
  have hcr := (blk_cell hc 0).trans rfl
  have hfr := blk_frozen hc 0
  go_wp2_with (fail)
  subst hrt
  have hne : D ≠ w.heap.size := by omega
  have hK' : (W.setCell ⟨w.heap.size, 0, none⟩ (.bool true)).heap[D]? = some (.deferred (some [])) := (Below.heap_setCell _ _ _ _ hne).trans hK
  have hc' : (W.setCell ⟨w.heap.size, 0, none⟩ (.bool true)).heap[w.heap.size]? = some (.cells #[.bool true] 4 (0, 0)) := blk_put hc 0 _ rfl
  have hc5 := cell_kept ((blk_cell hc' 0).trans rfl) (grownBy_putObj' _ D (.deferred none)) (fun r e => by cases e; exact ⟨_, hK', rfl⟩)
  refine ret_marks (v := .bool true) rfl hK' (by simp [results, Try.f20, go_sem, hc5]) (fun h => ⟨h.1, below_mark h.2 (by omega)⟩) ⟨rfl, below_set hB (Nat.le_refl _)⟩
 case stop =>
  rintro D c pre W hD hS ⟨rfl, ⟨x, hx, hn⟩, hc, hB⟩ hK
  have hrf : r = false := by
    cases r with
    | false => rfl
    | true =>
      have hm : x.1 ∈ List.range' 1 (l0.length - 1) := hS.subset (List.mem_map.2 ⟨x, hx, rfl⟩)
      rw [List.mem_range'_1] at hm
      obtain ⟨c, h1, h2⟩ := srt_spec k l0 true h (x.1 - 1) (by omega)
      exact absurd ⟨c, h1, h2 rfl⟩ hn
  refine wpIn_wide.2 ?_
  go_wp2_with (fail)
  subst hrf
  have hK' := hK
  have hc' := hc
  have hc5 := cell_kept ((blk_cell hc' 0).trans rfl) (grownBy_putObj' _ D (.deferred none)) (fun r e => by cases e; exact ⟨_, hK', rfl⟩)
  refine ret_marks (v := .bool false) rfl hK' (by simp [results, Try.f20, go_sem, hc5]) (fun h => ⟨h.1, below_mark h.2 (by omega)⟩) ⟨rfl, hB⟩
end Go.Proofs.Ytmnepkbmcnpjlaa.Q
