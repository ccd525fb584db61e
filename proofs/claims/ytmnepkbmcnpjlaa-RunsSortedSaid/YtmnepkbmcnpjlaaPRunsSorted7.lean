-- packed by wip/tools/pack.py (a program of this session) out of its own texts
import Derived.Test.YtmnepkbmcnpjlaaPRunsSorted0
import Derived.ArgAppend
import Derived.Below
import Derived.BigQuiet
import Derived.Deep.AppendLies
import Derived.Deep.CutBlock
import Derived.Deep.DeepCutAuto
import Derived.Deep.Draws
import Derived.Deep.LoopGhost
import Derived.Deep.OwnRows
import Derived.Deep.QuietTactic
import Derived.Deep.RegionHeld3
import Derived.KernelRfl
import Derived.Laws.BitsLemmas
import Derived.Laws.BytesArg
import Derived.Laws.IdiomCopy
import Derived.Laws.MakeOwn
import Derived.Laws.OwnMore
import Derived.Laws.Rows
import Derived.Laws.Slices
import Derived.Lib.AppendStr
import Derived.Lib.ConvBytes
import Derived.LoopIn
import Derived.LoopNIn
import Derived.Maps.AppendAt
import Derived.OrdersHeld
import Derived.OwnWalk
import Derived.OwnWalkIn
import Derived.RangeFuncBound
import Derived.RangeFuncBox
import Derived.RangeFuncCalls
import Derived.RangeFuncLeaves
import Derived.RangeFuncNested
import Derived.RowKit
import Derived.RowKit3
import Derived.Shelf.Abstract
import Derived.Shelf.RegionOpen
import Derived.Tactics
import Derived.TacticsInMore
import Derived.Test.YtmnepkbmcnpjlaaProg
import Derived.WalkKit
import Derived.WideLaws
import Derived.Test.YtmnepkbmcnpjlaaPRunsSorted1
import Derived.Test.YtmnepkbmcnpjlaaPRunsSorted3
import Derived.Test.YtmnepkbmcnpjlaaPRunsSorted4
import Derived.Test.YtmnepkbmcnpjlaaPRunsSorted5
namespace Go.Proofs.Ytmnepkbmcnpjlaa.Q
open Go.RowKit Go.Shelf Go.Proofs.YtmnepkbmcnpjlaaW.PrintWords Go.Proofs.YtmnepkbmcnpjlaaW.PrintLast Go.Proofs.YtmnepkbmcnpjlaaW.PrintMore
set_option linter.unusedVariables false
set_option linter.unusedSimpArgs false
attribute [local go_sem] Oper.semAt_some
def retPost (Q : Exit → Act → World → Prop) : Exit → Act → World → Prop
 | .normal, a, w => Q .normal a w
 | .ret, a, w => Q .ret a w
 | _, _, _ => False
theorem calls_marks {P : Program} {f : FuncId} {fn : Func} {c : Code} {args : Array Value} {w : World} {R : Ending → World → Prop} (hf : P.funcs[f]? = some fn) (hb : fn.body = some c)
  (h : c.wp P (retPost (bodyPostM Fence.wide 6 P fn R)) { tmps := args ++ Array.replicate (fn.ntmps - args.size) undef, defers := [] } w) : Calls P f args w R :=
 (callsIn_wide (n := 6)).1 (callsIn_of_wp_marks hf hb trivial (wpIn_wide.2 (wp_mono h (fun e a w hq => by
  cases e <;> first | exact hq | exact hq.elim))) rfl)
theorem ret_marks {P : Program} {fn : Func} {R : Ending → World → Prop} {a : Act} {w : World} {v : Value} {D : Nat} (hd : a.defers = [{ target := .collected D, args := #[] }]) (hK : w.heap[D]? = some (.deferred (some [])))
  (hr : (results fn a.tmps).run P (w.putObj D (.deferred none)) = .ok v (w.putObj D (.deferred none))) (hst : R (.returned v) w → R (.returned v) (w.putObj D (.deferred none))) (hR : R (.returned v) w) : retPost (bodyPostM Fence.wide 6 P fn R) .ret a w := by
 show LeavesInM Fence.wide 6 P fn a.tmps R a.defers .returning w
 rw [hd]
 exact ⟨by simp, .inl ⟨_, _, rfl, run_takeDeferred hK, ⟨_, hr, hst hR⟩⟩⟩
theorem below_mark {w0 w : World} {D : Nat} (h : Below w0.heap.size w0 w) (hD : w0.heap.size ≤ D) : Below w0.heap.size w0 (w.putObj D (.deferred none)) :=
 h.grown (grownBy_putObj' w D _) h.size (fun k e => by injection e with e; omega)
theorem blk_not_row {W : World} {g t : Nat} {cs : Array Value} {z : Nat × Nat} (h : W.heap[g]? = some (.cells cs t z)) {row : Option Nat} (hrow : ∀ r, row = some r → ∃ o : Obj, W.heap[r]? = some o ∧ o.isCells = false) : some g ≠ row := by
 intro e
 obtain ⟨o, ho, hc⟩ := hrow g e.symm
 rw [h] at ho
 cases ho
 cases hc
end Go.Proofs.Ytmnepkbmcnpjlaa.Q
