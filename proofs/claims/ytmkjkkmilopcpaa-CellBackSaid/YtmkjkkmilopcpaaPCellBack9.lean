-- packed by wip/tools/pack.py (a program of this session) out of its own texts
import Derived.Test.YtmkjkkmilopcpaaPCellBack0
import Derived.ArgAppend
import Derived.Below
import Derived.BigQuiet
import Derived.Deep.AppendLies
import Derived.Deep.CutBlock
import Derived.Deep.DeepCutAuto
import Derived.Deep.Draws
import Derived.Deep.LoopGhost
import Derived.Deep.OwnRows
import Derived.Deep.QuietTactic
import Derived.Deep.RegionHeld3
import Derived.KernelRfl
import Derived.Laws.BitsLemmas
import Derived.Laws.BytesArg
import Derived.Laws.Externs
import Derived.Laws.IdiomCopy
import Derived.Laws.MakeOwn
import Derived.Laws.OwnMore
import Derived.Laws.Rows
import Derived.Laws.Slices
import Derived.Lib.AppendStr
import Derived.Lib.AppendZeros
import Derived.Lib.AppendZerosOnto
import Derived.Lib.ConvBytes
import Derived.Lib.JoinLaws
import Derived.Lib.Overlaps
import Derived.Lib.SliceRun
import Derived.Lib.Walk
import Derived.Maps.AppendAt
import Derived.OrdersHeld
import Derived.OwnWalk
import Derived.RowKit
import Derived.RowKit3
import Derived.Shelf.RegionOpenPlain
import Derived.Tactics
import Derived.Test.YtmkjkkmilopcpaaProg
import Derived.WalkKit
import Derived.WideLaws
import Derived.Test.YtmkjkkmilopcpaaPCellBack1
import Derived.Test.YtmkjkkmilopcpaaPCellBack3
import Derived.Test.YtmkjkkmilopcpaaPCellBack4
import Derived.Test.YtmkjkkmilopcpaaPCellBack5
namespace Go.Proofs.Ytmkjkkmilopcpaa.Q
open Go.RowKit Go.Lib Go.Proofs.YtmkjkkmilopcpaaW.PrintWords Go.Proofs.YtmkjkkmilopcpaaW.PrintLast Go.Proofs.YtmkjkkmilopcpaaW.PrintMore
set_option linter.unusedVariables false
set_option linter.unusedSimpArgs false
section
variable {P : Program}
theorem run_copy_cellsK (w : World) (dT sT ty elem : TypeId) (k : Nat) (b o dLen dCap : Nat) (a : Addr) (sLen sCap : Nat) (cs : List Value)
  (hu : P.underlying dT = some (.slice elem)) (hs : (P.info? elem).map (·.size) = some k) (hn : cs.length = Nat.min sLen dLen * k)
  (hsrc : ∀ j v, cs[j]? = some v → w.cell? (a.add j) = some v) (hc : ∀ j, j < cs.length → (w.cell? ⟨b, o + j, none⟩).isSome = true) (hf : ∀ j, j < cs.length → w.frozen? ⟨b, o + j, none⟩ = false) (h1 : ∀ v ∈ cs, v.oneCell' = true) :
  (Builtin.copy_ #[dT, sT] ty #[.slice (some ⟨b, o, none⟩) dLen dCap, .slice (some a) sLen sCap]).run P w = .ok (goInt (Nat.min sLen dLen)) (w.setCells b o cs) := by
 have hl := run_loadCells_list (P := P) w a cs hsrc
 have hst := run_storeCells_cells (P := P) b o cs 0 w (by simpa using hc) (by simpa using hf) h1
 cases hq : P.info? elem with
 | none => simp [hq] at hs
 | some i =>
  have hi : i.size = k := by simpa [hq] using hs
  simp [Builtin.copy_, run_underlying hu, Builtin.lenOf, Builtin.firstCells, sizeOf, typeInfo, hq, hi, ← hn, hl, hst]
theorem wp_copy_runK (w : World) {o : Oper} {a : Act} {K : Act → World → Prop} {Q : Exit → Act → World → Prop} (d s : Operand) (t t' : TypeId)
  (ho : o.op = .call { callee := .builtin .copy, args := #[d, s], argTypes := #[t, t'] }) (v u : Value) (hd : a.eval d = v) (hs : a.eval s = u) {v' : Value} {w' : World}
  (hr : (Builtin.copy_ #[t, t'] o.type #[v, u]).run P w = .ok v' w') (h : K (a.put o.dst v') w') : o.wp P a w K Q := by
 unfold Oper.wp execOp
 simp only [ho, resolve, invoke, builtin, Sem.run_bind, Sem.run_pure, Result.andThen_ok, List.map_toArray, List.map_cons, List.map_nil, hd, hs, hr]
 exact h
theorem wpList_copy_runK (w : World) {ops : Array Oper} {rest : List Oper} {o : Oper} {a : Act} {Q : Exit → Act → World → Prop} (hgd : o.guard = none) (d s : Operand) (t t' : TypeId)
  (ho : o.op = .call { callee := .builtin .copy, args := #[d, s], argTypes := #[t, t'] }) (v u : Value) (hd : a.eval d = v) (hs : a.eval s = u) {v' : Value} {w' : World}
  (hr : (Builtin.copy_ #[t, t'] o.type #[v, u]).run P w = .ok v' w') (h : wpList P ops Q rest (a.put o.dst v') w') : wpList P ops Q (o :: rest) a w :=
 wpList_plain hgd fun _ hK => wp_copy_runK w d s t t' ho v u hd hs hr (hK _ _ h)
theorem step_copy_runK {ops : Array Oper} {o : Oper} {a : Act} {w : World} {K : Act → World → Prop} {Q : Exit → Act → World → Prop} {E : Prop}
  (hg : o.guard = none) (d x : Operand) (dT sT : TypeId) (hop : o.op = Op.call { callee := Callee.builtin Builtin.copy, args := #[d, x], argTypes := #[dT, sT] })
  (v u : Value) (hd : a.eval d = v) (hx : a.eval x = u) {v' : Value} {w' : World} (hr : (Builtin.copy_ #[dT, sT] o.type #[v, u]).run P w = .ok v' w') (hK : K (a.put o.dst v') w') :
  if Region.wanted o (yielded ops a.tmps) = true then Oper.wp P o a w K Q else E := by
 have hw : Region.wanted o (yielded ops a.tmps) = true := by simp [Region.wanted, hg]
 rw [if_pos hw]
 unfold Oper.wp
 simp [execOp, hop, resolve, invoke, builtin, hd, hx, hr, Result.andThen]
 exact hK
end
theorem cell_setCells_some {b : Nat} (vs : List Value) (o : Nat) (w : World) (h : ∀ j, j < vs.length → (w.cell? ⟨b, o + j, none⟩).isSome = true) (k : Nat) (hk : (w.cell? ⟨b, k, none⟩).isSome = true) : ((w.setCells b o vs).cell? ⟨b, k, none⟩).isSome = true := by
 by_cases hin : o ≤ k ∧ k < o + vs.length
 ·have := World.cell?_setCells_in b vs o w h (k - o) (by omega)
  rw [show o + (k - o) = k by omega] at this
  rw [this]; rfl
 ·rw [World.cell?_setCells_out b vs o w ⟨b, k, none⟩ (fun _ _ => by show k < o ∨ o + vs.length ≤ k; omega)]
  exact hk
set_option maxHeartbeats 4000000 in
set_option maxRecDepth 100000 in
theorem insert_shift (g n c i vb vc kA : Nat) (inner cs : List Value) (w : World) (hi : i < n) (hroom : n + 1 ≤ c) (hc63 : c ≤ 9223372036854775807) (hvb : vb ≠ g)
  (hcl : inner.length = n * 5) (hvl : cs.length = 5)
  (hcs : ∀ j v, inner[j]? = some v → w.cell? ⟨g, j, none⟩ = some v) (hsp : ∀ j, j < (n + 1) * 5 → (w.cell? ⟨g, j, none⟩).isSome = true) (hfz : ∀ j, w.frozen? ⟨g, j, none⟩ = false)
  (hvs : ∀ j v, cs[j]? = some v → w.cell? ⟨vb, j, none⟩ = some v) (h1c : ∀ v ∈ inner, v.oneCell' = true) (h1v : ∀ v ∈ cs, v.oneCell' = true)
  (tA tB : TypeId) (kB : Nat) (hsa : w.shape? vb = some (tA, kA)) (hsb : w.shape? g = some (tB, kB)) (hkB : kB ≠ 0) (hfa : ∀ j, w.frozen? ⟨vb, j, none⟩ = false) :
  Calls Try.prog 65 #[.slice (some ⟨g, 0, none⟩) n c, .int .i64 i, .slice (some ⟨vb, 0, none⟩) 1 vc] w fun e w' =>
   e = .returned (.slice (some ⟨g, 0, none⟩) (n + 1) c) ∧ w' = (w.drew.setCells g ((i + 1) * 5) (inner.drop (i * 5))).setCells g (i * 5) cs := by
 have hsz : (Try.prog.info? 30).map (·.size) = some 5 := by kernel_rfl
 have hov : ∀ lb cb, (callFunc 72 #[.slice (some ⟨vb, 0, none⟩) 1 vc, .slice (some ⟨g, (i + 1) * 5, none⟩) lb cb]).run Try.prog w = .ok (.value (.bool false)) w := fun lb cb => by
  rw [run_callFunc_extern Try.func72 (by kernel_rfl) (by kernel_rfl) (by kernel_rfl) (e := Extern.SlicesOverlaps.overlaps #[28, 28] #[4]) (by kernel_rfl),
   Lib.run_overlaps_apart w 28 4 30 Try.underlying28 5 (fun W => by rfl) ⟨vb, 0, none⟩ ⟨g, (i + 1) * 5, none⟩ 1 vc lb cb hvb tA tB kA kB hsa hsb hkB (hfa 0) (hfa kA)]
  rfl
 have hdl : (inner.drop (i * 5)).length = (n - i) * 5 := by rw [List.length_drop, hcl, Nat.sub_mul]
 have mixed : Try.prog.follows .mixedOrders = true := by kernel_rfl
 have hz2 : ¬ ((i : Int) = (n : Int)) := by omega
 have hw1 : IntKind.i64.wrap ((i : Int) + 1) = (i : Int) + 1 := by rw [IntKind.wrap_i64]; omega
 have hw2 : IntKind.i64.wrap ((n : Int) + 1) = (n : Int) + 1 := by rw [IntKind.wrap_i64]; omega
 have hb1 : (0 : Int) ≤ (i : Int) + 1 := by omega
 have hin : i ≤ n := by omega
 have htn : ((i : Int) + 1).toNat = i + 1 := by omega
 have htn2 : ((n : Int) + 1).toNat = n + 1 := by omega
 have hb2 : ¬ (c = i + 1) := by omega
 have hb3 : (i : Int) + 1 ≤ (n : Int) + 1 := by omega
 have hb4 : ¬ (c = i) := by omega
 have hb6 : (i : Int) ≤ (n : Int) + 1 := by omega
 have hb5 : ¬ ((c : Int) < (n : Int) + 1) := by omega
 have hcp1 : ∀ ty dc sc, (Builtin.copy_ #[28, 28] ty #[.slice (some ⟨g, (i + 1) * 5, none⟩) (n - i) dc, .slice (some ⟨g, i * 5, none⟩) (n + 1 - i) sc]).run Try.prog w.drew = .ok (goInt (Nat.min (n + 1 - i) (n - i))) (w.drew.setCells g ((i + 1) * 5) (inner.drop (i * 5))) := fun ty dc sc =>
  run_copy_cellsK w.drew _ _ ty 30 5 g ((i + 1) * 5) (n - i) dc ⟨g, i * 5, none⟩ (n + 1 - i) sc (inner.drop (i * 5)) Try.underlying28 hsz (by rw [hdl]; simp only [Nat.min_def]; split <;> omega)
   (fun j v hj => by rw [Addr.add_lit]; exact hcs (i * 5 + j) v (by rwa [List.getElem?_drop] at hj))
   (fun j hj => hsp ((i + 1) * 5 + j) (by rw [hdl] at hj; omega)) (fun j hj => hfz _) (fun v hv => h1c v (List.mem_of_mem_drop hv))
 obtain ⟨W1, hW1⟩ : ∃ W1, W1 = w.drew.setCells g ((i + 1) * 5) (inner.drop (i * 5)) := ⟨_, rfl⟩
 have hsp1 : ∀ k, k < (n + 1) * 5 → (W1.cell? ⟨g, k, none⟩).isSome = true := fun k hk => by
  rw [hW1]
  exact cell_setCells_some _ _ w.drew (fun j hj => hsp ((i + 1) * 5 + j) (by rw [hdl] at hj; omega)) _ (hsp k hk)
 have hcp2 : ∀ (W : World), (∀ x, W.cell? x = W1.cell? x) → (∀ x, W.frozen? x = W1.frozen? x) → ∀ ty dc, (Builtin.copy_ #[28, 28] ty #[.slice (some ⟨g, i * 5, none⟩) (n + 1 - i) dc, .slice (some ⟨vb, 0, none⟩) 1 vc]).run Try.prog W = .ok (goInt (Nat.min 1 (n + 1 - i))) (W.setCells g (i * 5) cs) := fun W hWc hWf ty dc =>
  run_copy_cellsK W _ _ ty 30 5 g (i * 5) (n + 1 - i) dc ⟨vb, 0, none⟩ 1 vc cs Try.underlying28 hsz (by rw [hvl]; simp only [Nat.min_def]; split <;> omega)
   (fun j v hj => by
    rw [Addr.add_lit, hWc, hW1, World.cell?_setCells_out g _ _ _ _ (fun h _ => absurd h hvb), Nat.zero_add]
    exact hvs j v hj)
   (fun j hj => by rw [hWc]; exact hsp1 _ (by omega)) (fun j hj => by rw [hWf, hW1, World.frozen?_setCells]; exact hfz _) h1v
 rw [← hW1] at hcp1
 go_enter Try.func65, Try.ntmps65
 go_wp2_with (simp only [hov])
 go_region_law_o (refine step_copy_runK rfl _ _ 28 28 rfl _ _ (by simp [Act.eval, Act.put]) (by simp [Act.eval, Act.put]) (hcp1 _ _ _) ?_)
 go_wp2_with (at_builtin; refine wpList_copy_runK _ rfl _ _ 28 28 rfl _ _ rfl rfl (hcp2 _ (fun _ => rfl) (fun _ => rfl) _ _) ?_)
 go_ret
 first | exact ⟨rfl, rfl⟩ | exact ⟨rfl, by rw [hW1]⟩
set_option maxHeartbeats 4000000 in
set_option maxRecDepth 100000 in
theorem insert_grow (g c n i k vb vc : Nat) (inner cs : List Value) (w : World) (hi : i < n) (hroom : c < n + 1) (hnc : n ≤ c) (hk : n + 1 = i + k) (hbig : (n + 1) * 104 ≤ 140737488355328)
  (hcl : inner.length = n * 5) (hvl : cs.length = 5)
  (hcs : ∀ j v, inner[j]? = some v → w.cell? ⟨g, j, none⟩ = some v) (hgl : g < w.heap.size) (hvbl : vb < w.heap.size)
  (hvs : ∀ j v, cs[j]? = some v → w.cell? ⟨vb, j, none⟩ = some v) (h1c : ∀ v ∈ inner, v.oneCell' = true) (h1v : ∀ v ∈ cs, v.oneCell' = true) :
  Calls Try.prog 65 #[.slice (some ⟨g, 0, none⟩) n c, .int .i64 i, .slice (some ⟨vb, 0, none⟩) 1 vc] w fun e w' => ∃ G zs wA, G = grownCap w (i + k) c 30 ∧ zs.length = k * 5 + (G - (i + k)) * 5 ∧
   wA = w.drew.alloc (.cells ((inner.take (i * 5)) ++ zs).toArray 30) ∧
   e = .returned (.slice (some ⟨w.heap.size, 0, none⟩) (n + 1) G) ∧ w' = (wA.setCells w.heap.size (i * 5) cs).drew.setCells w.heap.size ((i + 1) * 5) (inner.drop (i * 5)) := by
 have hsz : (Try.prog.info? 30).map (·.size) = some 5 := by kernel_rfl
 have hdl : (inner.drop (i * 5)).length = (n - i) * 5 := by rw [List.length_drop, hcl, Nat.sub_mul]
 have htl : (inner.take (i * 5)).length = i * 5 := by rw [List.length_take, hcl]; omega
 have mixed : Try.prog.follows .mixedOrders = true := by kernel_rfl
 obtain ⟨i0, hi0, hz0, hzs, hzb⟩ := info_parts info30
 obtain ⟨zs, hzs0⟩ : ∃ zs, zs = (Builtin.zeroCells (Value.agg #[(.slice none 0 0), (.int .i64 0), (.slice none 0 0), (.slice none 0 0), (.slice none 0 0)]).cells k).toList ++ (Builtin.zeroCells (Value.agg #[(.slice none 0 0), (.int .i64 0), (.slice none 0 0), (.slice none 0 0), (.slice none 0 0)]).cells (grownCap w (i + k) c 30 - (i + k))).toList := ⟨_, rfl⟩
 obtain ⟨G, hG⟩ : ∃ G, G = grownCap w (i + k) c 30 := ⟨_, rfl⟩
 have hzl : zs.length = k * 5 + (G - (i + k)) * 5 := by
  rw [hzs0, List.length_append, Array.length_toList, Array.length_toList, size_zeroCells, size_zeroCells, ← hG]
  rfl
 obtain ⟨wA, hwA⟩ : ∃ wA, wA = w.drew.alloc (.cells ((inner.take (i * 5)) ++ zs).toArray 30) := ⟨_, rfl⟩
 have hrun : ∀ ty, (Builtin.append_ #[28, 3] ty #[.slice (some ⟨g, 0, none⟩) i c, .int .i64 ((n : Int) + 1 - (i : Int))]).run Try.prog w = .ok (.slice (some ⟨w.heap.size, 0, none⟩) (i + k) G) wA := fun ty => by
  have h0 := run_append_grow_zeros (P := Try.prog) w 28 3 ty 30 i0 _ .i64 .i64 Try.underlying28 Try.underlying3 hi0 hz0 (some ⟨g, 0, none⟩) i c (inner.take (i * 5)) (run_firstCells_some w.drew _ i _ i c _ (by rw [htl, hzs]) (fun j v hj => by
   rw [Addr.add_lit, Nat.zero_add]
   rw [List.getElem?_take] at hj
   split at hj
   ·exact hcs j v hj
   ·cases hj)) k (by omega) (by omega) (by omega) (by omega) (by rw [hzb]; omega) (by rw [hzb]; exact growslice_fits (by omega) (by omega))
  have e1 : ((k : Nat) : Int) = (n : Int) + 1 - (i : Int) := by omega
  rw [e1] at h0
  rw [h0, hwA, hG, hzs0]
  congr 3
  apply Array.toList_inj.mp
  simp
 have hz2 : ¬ ((i : Int) = (n : Int)) := by omega
 have hw1 : IntKind.i64.wrap ((i : Int) + 1) = (i : Int) + 1 := by rw [IntKind.wrap_i64]; omega
 have hw2 : IntKind.i64.wrap ((n : Int) + 1) = (n : Int) + 1 := by rw [IntKind.wrap_i64]; omega
 have hw3 : IntKind.i64.wrap ((n : Int) + 1 - (i : Int)) = (n : Int) + 1 - (i : Int) := by rw [IntKind.wrap_i64]; omega
 have hb1 : (0 : Int) ≤ (i : Int) + 1 := by omega
 have hin : i ≤ n := by omega
 have hic : i ≤ c := by omega
 have htn : ((i : Int) + 1).toNat = i + 1 := by omega
 have htn2 : ((n : Int) + 1).toNat = n + 1 := by omega
 have hGk : i + k ≤ G := by rw [hG]; exact grownCap_ge w (i + k) c 30
 have hb7 : ¬ (G = i) := by omega
 have hb8 : ¬ (G = i + 1) := by omega
 have hAs : wA.heap.size = w.heap.size + 1 := by rw [hwA, World.size_alloc]; rfl
 have hAh : wA.heap[w.heap.size]? = some (.cells ((inner.take (i * 5)) ++ zs).toArray 30 (0, 0)) := by rw [hwA]; exact heap_alloc_new w.drew _
 have hAo : ∀ j, j < w.heap.size → wA.heap[j]? = w.heap[j]? := fun j hj => by rw [hwA]; exact Below.heap_alloc w.drew _ j hj
 have hcp1 : ∀ ty, (Builtin.copy_ #[28, 28] ty #[.slice (some ⟨w.heap.size, i * 5, none⟩) k (G - i), .slice (some ⟨vb, 0, none⟩) 1 vc]).run Try.prog wA = .ok (goInt (Nat.min 1 k)) (wA.setCells w.heap.size (i * 5) cs) := fun ty =>
  run_copy_cellsK wA _ _ ty 30 5 w.heap.size (i * 5) k (G - i) ⟨vb, 0, none⟩ 1 vc cs Try.underlying28 hsz (by rw [hvl]; simp only [Nat.min_def]; split <;> omega)
   (fun j v hj => by
    rw [Addr.add_lit, Nat.zero_add, World.cell?_of_block (w := w) (hAo vb hvbl)]
    exact hvs j v hj)
   (fun j hj => by
    rw [cell_of_row wA _ _ _ _ _ hAh]
    simp only [List.getElem?_toArray, Option.isSome_iff_ne_none, ne_eq, List.getElem?_eq_none_iff, List.length_append, htl, hzl]
    omega) (fun j hj => blk_frozen hAh _) h1v
 obtain ⟨wB, hwB⟩ : ∃ wB, wB = wA.setCells w.heap.size (i * 5) cs := ⟨_, rfl⟩
 have hBo : ∀ j, j < w.heap.size → wB.drew.heap[j]? = w.heap[j]? := fun j hj => by
  rw [hwB]
  exact (setCells_far (g := w.heap.size) cs (i * 5) (w := wA) j (by omega)).trans (hAo j hj)
 have hAz : ∀ j, j < (n + 1) * 5 → (wA.cell? ⟨w.heap.size, j, none⟩).isSome = true := fun j hj => by
  rw [cell_of_row wA _ _ _ _ _ hAh]
  simp only [List.getElem?_toArray, Option.isSome_iff_ne_none, ne_eq, List.getElem?_eq_none_iff, List.length_append, htl, hzl]
  omega
 have hcp2 : ∀ ty, (Builtin.copy_ #[28, 28] ty #[.slice (some ⟨w.heap.size, (i + 1) * 5, none⟩) (k - 1) (G - (i + 1)), .slice (some ⟨g, i * 5, none⟩) (n - i) (c - i)]).run Try.prog wB.drew = .ok (goInt (Nat.min (n - i) (k - 1))) (wB.drew.setCells w.heap.size ((i + 1) * 5) (inner.drop (i * 5))) := fun ty =>
  run_copy_cellsK wB.drew _ _ ty 30 5 w.heap.size ((i + 1) * 5) (k - 1) (G - (i + 1)) ⟨g, i * 5, none⟩ (n - i) (c - i) (inner.drop (i * 5)) Try.underlying28 hsz (by rw [hdl]; simp only [Nat.min_def]; split <;> omega)
   (fun j v hj => by
    rw [Addr.add_lit, World.cell?_of_block (w := w) (hBo g hgl)]
    exact hcs (i * 5 + j) v (by rwa [List.getElem?_drop] at hj))
   (fun j hj => by
    rw [hwB]
    exact cell_setCells_some cs (i * 5) wA (fun q hq => hAz _ (by omega)) _ (hAz _ (by rw [hdl] at hj; omega)))
   (fun j hj => by rw [hwB]; exact (World.frozen?_setCells ..).trans (blk_frozen hAh _)) (fun v hv => h1c v (List.mem_of_mem_drop hv))
 have HWB := am hwB
 rw [← hwB] at hcp1
 clear hwB hAz
 have hb9 : (i : Int) + 1 ≤ (i : Int) + (k : Int) := by omega
 have hb10 : (1 : Int) ≤ (k : Int) := by omega
 have hb11 : 1 ≤ k := by omega
 have hb12 : (i : Int) ≤ (i : Int) + (k : Int) := by omega
 have hb4 : ¬ (c = i) := by omega
 have hb5 : ((c : Int) < (n : Int) + 1) := by omega
 have hb6 : (i : Int) ≤ (n : Int) + 1 := by omega
 go_enter Try.func65, Try.ntmps65
 have HW := am hwA
 have HG := am hG
 have HZ := am hzl
 clear hzs0 hwA hG hzl hz0 hi0 hzs hzb
 go_wp2_with (at_builtin; first | refine Lib.wpList_append_run _ rfl _ _ _ _ rfl _ _ rfl rfl _ _ (hrun _) ?_ | refine wpList_copy_runK _ rfl _ _ 28 28 rfl _ _ rfl rfl (hcp1 _) ?_)
 go_region_law_o (refine step_copy_runK rfl _ _ 28 28 rfl _ _ (by first | (simp [Act.eval, Act.put]; done) | (simp [Act.eval, Act.put]; omega)) (by simp [Act.eval, Act.put]) (hcp2 _) ?_)
 go_wp2_with (fail)
 go_ret
 exact ⟨G, zs, wA, HG.out, HZ.out, HW.out, by rw [hk]; rfl, by rw [← HWB.out]⟩
theorem R_of_block {α : Type} {d : Kd α} {e base g cap : Nat} {ok : Nat → Prop} {w : World} {xs : List α} {cur : Array Value} {inner : List Value} (hok : ok g) (hb : base ≤ g) (hh : w.heap[g]? = some (.cells cur e (0, 0))) (hn : xs.length ≤ cap) (hcm : cap ≤ maxLen) (hcs : cur.size = cap * d.sz)
  (ht : cur.toList.take (xs.length * d.sz) = inner) (hr : Reps (d.M w base (fun k => ok k ∧ k ≠ g)) d.sz xs inner) : d.R e w base ok (.slice (some ⟨g, 0, none⟩) xs.length cap) xs := by
 refine ⟨fun k hk => by simp only [Value.ownBlock, Option.some.injEq] at hk; rw [← hk]; exact hok, inner, ⟨hr.1, .inr ⟨g, cap, cur, rfl, hb, hh, hn, hcm, hcs, ht⟩⟩, hr.imp_ fun p c hp => d.M_mono (fun k hk => ⟨hk.1, fun he => hk.2 (by simpa [Value.ownBlock] using he)⟩) hp⟩
theorem reps_put {α : Type} {R : α → List Value → Prop} {size i : Nat} {ps : List α} {cs c : List Value} {p : α} (h : Reps R size ps cs) (hi : i ≤ ps.length) (hp : R p c) (hc : c.length = size) :
  Reps R size (ps.take i ++ p :: ps.drop i) (cs.take (i * size) ++ c ++ cs.drop (i * size)) := by
 have h1 : Reps R size [p] c := by
  have := Reps.snoc (Reps.none R size) hp hc
  simpa using this
 have := Kd.reps_append (Kd.reps_append (Kd.reps_take h hi) h1) (Kd.reps_drop (m := i) h)
 simpa using this
theorem take3 {α : Type} (a b c : List α) {n : Nat} (h : n = (a ++ b ++ c).length) (d : List α) : (a ++ b ++ c ++ d).take n = a ++ b ++ c := by
 rw [h]; exact List.take_left' rfl
theorem insert_callsV {α : Type} (d : Kd α) (hsz : d.sz = 5) (v : Value) (xs : List α) (i : Nat) (hi : i ≤ xs.length) (vb vc : Nat) (hvc : 1 ≤ vc) (x : α) (cs : List Value) (vcur : Array Value) (vt : Nat) (w : World) (base : Nat) (ok okp : Nat → Prop)
  (hR : d.R 30 w base ok v xs) (hx : d.M w base okp x cs) (hokp : ∀ k, okp k → ok k ∧ some k ≠ v.ownBlock) (hvb : w.heap[vb]? = some (.cells vcur vt (0, 0))) (hv5 : vcur.toList.take 5 = cs) (hne : some vb ≠ v.ownBlock) (hok : ∀ k, w.heap.size ≤ k → ok k)
  (hbase : base ≤ w.heap.size) (hlen : (xs.length + 1) * 104 ≤ 140737488355328) :
  Calls Try.prog 65 #[v, .int .i64 i, .slice (some ⟨vb, 0, none⟩) 1 vc] w fun e w' => ∃ v', e = .returned v' ∧ d.R 30 w' base ok v' (xs.take i ++ x :: xs.drop i) ∧ w.grownBy w' v.ownBlock ∧
   (v'.ownBlock = v.ownBlock ∨ ∃ b, v'.ownBlock = some b ∧ w.heap.size ≤ b) := by
 have hcl : cs.length = 5 := (d.K_len (d.K_of_M hx)).trans hsz
 have hone : ∀ u ∈ cs, u.oneCell' = true := d.K_one (d.K_of_M hx)
 rcases Nat.lt_or_ge i xs.length with hlt | hge
 ·obtain ⟨hok0, inner, hown, hr⟩ := hR
  obtain ⟨hil, hown⟩ := hown
  rcases hown with ⟨_, h0⟩ | ⟨g, cap, cur, rfl, hb, hh, hnc, hcm, hcs, ht⟩
  ·omega
  rw [hsz] at hil hcs ht
  have hgo : some g = (Value.slice (some ⟨g, 0, none⟩) xs.length cap).ownBlock := by simp [Value.ownBlock]
  have hne' : vb ≠ g := fun e => hne (by rw [e, ← hgo])
  have hgl : g < w.heap.size := blk_lt hh
  have hin1 : ∀ j u, inner[j]? = some u → w.cell? ⟨g, j, none⟩ = some u := fun j u hj => by
   rw [cell_of_row w g j cur _ _ hh, ← Array.getElem?_toList]
   rw [← ht, List.getElem?_take] at hj
   split at hj
   ·exact hj
   ·cases hj
  have hv1 : ∀ j u, cs[j]? = some u → w.cell? ⟨vb, j, none⟩ = some u := fun j u hj => by
   rw [cell_of_row w vb j _ _ _ hvb, ← Array.getElem?_toList]
   rw [← hv5, List.getElem?_take] at hj
   split at hj
   ·exact hj
   ·cases hj
  have hio : ∀ u ∈ inner, u.oneCell' = true := Kd.reps_one hr (by omega) (fun _ _ hp => d.K_one (d.K_of_M hp))
  have hok1 : ok g := hok0 g hgo.symm
  have hMo : ∀ (w1 : World) (b : Nat), (∀ k, k < w.heap.size → k ≠ g → w1.heap[k]? = w.heap[k]?) → (b = g ∨ w.heap.size ≤ b) → Reps (d.M w1 base (fun k => ok k ∧ k ≠ b)) d.sz (xs.take i ++ x :: xs.drop i) (inner.take (i * d.sz) ++ cs ++ inner.drop (i * d.sz)) := fun w1 b hw1 hbb => by
   have step : ∀ {q : α} {c : List Value} {o : Nat → Prop}, d.M w base o q c → (∀ k, o k → ok k ∧ some k ≠ (Value.slice (some ⟨g, 0, none⟩) xs.length cap).ownBlock) → d.M w1 base (fun k => ok k ∧ k ≠ b) q c := by
    intro q c o hq ho
    have hg2 : ∀ k, some k ≠ (Value.slice (some ⟨g, 0, none⟩) xs.length cap).ownBlock → k ≠ g := fun k hk e => hk (by rw [e, ← hgo])
    exact d.M_mono (fun k hk => ⟨(ho k hk.1).1, fun e => by have := hg2 k (ho k hk.1).2; have := hk.2.2.1; omega⟩) (d.M_move (w1 := w1) (fun k hk => hw1 k hk.2.2.1 (hg2 k (ho k hk.1).2)) (d.M_bound hq))
   exact reps_put (hr.imp_ (fun _ _ hq => step hq (fun _ hk => hk))) (by omega) (step hx hokp) (by rw [hcl, hsz])
  have hlen2 : (xs.take i ++ x :: xs.drop i).length = xs.length + 1 := by simp; omega
  have hci : inner.length = xs.length * 5 := hil
  by_cases hroom : xs.length + 1 ≤ cap
  ·have hfit : (xs.length + 1) * 5 ≤ cur.size := by rw [hcs]; exact Nat.mul_le_mul_right _ hroom
   refine (insert_shift g xs.length cap i vb vc vcur.size inner cs w hlt hroom hcm hne' hci hcl hin1 (fun j hj => by
    rw [cell_of_row w g j cur _ _ hh, Option.isSome_iff_ne_none]
    simp only [ne_eq, Array.getElem?_eq_none_iff]
    omega) (fun j => blk_frozen hh j) hv1 hio hone vt 30 cur.size (by simp [World.shape?, hvb]) (by simp [World.shape?, hh]) (by omega) (fun j => blk_frozen hvb j)).mono ?_
   rintro e w' ⟨rfl, rfl⟩
   obtain ⟨cur1, a1, a2, a3⟩ := setCells_row (g := g) (e := 30) (inner.drop (i * 5)) ((i + 1) * 5) w.drew cur hh (by rw [List.length_drop]; omega)
   obtain ⟨cur2, b1, b2, b3⟩ := setCells_row (g := g) (e := 30) cs (i * 5) _ cur1 a1 (by omega)
   have hfar : ∀ k, k ≠ g → ((w.drew.setCells g ((i + 1) * 5) (inner.drop (i * 5))).setCells g (i * 5) cs).heap[k]? = w.heap[k]? := fun k hk =>
    (setCells_far _ _ k hk).trans (setCells_far _ _ k hk)
   obtain ⟨s1, s2, s3, s4⟩ := setCells_same g cs (i * 5) (w.drew.setCells g ((i + 1) * 5) (inner.drop (i * 5)))
   obtain ⟨r1, r2, r3, r4⟩ := setCells_same g (inner.drop (i * 5)) ((i + 1) * 5) w.drew
   refine ⟨_, rfl, ?_, ⟨s1.trans r1, s2.trans r2, s3.trans r3, Nat.le_of_eq (s4.trans r4).symm, fun k _ hk => hfar k (fun e => hk (by rw [e, ← hgo]))⟩, .inl (by simp [Value.ownBlock])⟩
   rw [← hlen2]
   refine R_of_block hok1 hb b1 (by rw [hlen2]; exact hroom) hcm (by rw [b2, a2, hcs, hsz]) (inner := inner.take (i * d.sz) ++ cs ++ inner.drop (i * d.sz)) ?_ (hMo _ g (fun k _ hk => hfar k hk) (.inl rfl))
   rw [hlen2, b3, a3, hsz]
   have e1 : (cur.toList.take ((i + 1) * 5) ++ inner.drop (i * 5) ++ cur.toList.drop ((i + 1) * 5 + (inner.drop (i * 5)).length)).take (i * 5) = inner.take (i * 5) := by
    rw [List.append_assoc, List.take_append_of_le_length (by rw [List.length_take, Array.length_toList]; omega), List.take_take, Nat.min_eq_left (by omega), ← ht, List.take_take, Nat.min_eq_left (by omega)]
   have hl1 : (cur.toList.take ((i + 1) * 5)).length = i * 5 + 5 := by rw [List.length_take, Array.length_toList]; omega
   have e2 : (cur.toList.take ((i + 1) * 5) ++ inner.drop (i * 5) ++ cur.toList.drop ((i + 1) * 5 + (inner.drop (i * 5)).length)).drop (i * 5 + cs.length) = inner.drop (i * 5) ++ cur.toList.drop ((i + 1) * 5 + (inner.drop (i * 5)).length) := by
    rw [hcl, ← hl1, List.append_assoc, List.drop_left]
   rw [e1, e2, ← List.append_assoc]
   exact take3 _ _ _ (by simp only [List.length_append, List.length_take, List.length_drop, hci, hcl]; omega) _
  ·obtain ⟨k, hk⟩ : ∃ k, xs.length + 1 = i + k := ⟨xs.length + 1 - i, by omega⟩
   refine (insert_grow g cap xs.length i k vb vc inner cs w hlt (by omega) hnc hk hlen hci hcl hin1 hgl (blk_lt hvb) hv1 hio hone).mono ?_
   rintro e w' ⟨G, zs, wA, hG, hzs, hwA, rfl, rfl⟩
   have hGk : i + k ≤ G := by rw [hG]; exact grownCap_ge w (i + k) cap 30
   have hGm : G ≤ maxLen := by rw [hG]; exact grownCap_le_maxLen w (i + k) cap 30 (by simp only [maxLen]; omega)
   have hAh : wA.heap[w.heap.size]? = some (.cells ((inner.take (i * 5)) ++ zs).toArray 30 (0, 0)) := by rw [hwA]; exact heap_alloc_new w.drew _
   have hAs : wA.heap.size = w.heap.size + 1 := by rw [hwA, World.size_alloc]; rfl
   have hAo : ∀ j, j < w.heap.size → wA.heap[j]? = w.heap[j]? := fun j hj => by rw [hwA]; exact Below.heap_alloc w.drew _ j hj
   have hAsz : ((inner.take (i * 5)) ++ zs).toArray.size = G * 5 := by
    rw [List.size_toArray, List.length_append, List.length_take, hzs, hci]; omega
   obtain ⟨cur1, a1, a2, a3⟩ := setCells_row (g := w.heap.size) (e := 30) cs (i * 5) wA _ hAh (by rw [hAsz]; omega)
   obtain ⟨cur2, b1, b2, b3⟩ := setCells_row (g := w.heap.size) (e := 30) (inner.drop (i * 5)) ((i + 1) * 5) (wA.setCells w.heap.size (i * 5) cs).drew cur1 a1 (by rw [List.length_drop]; omega)
   have hfar : ∀ k, k < w.heap.size → ((wA.setCells w.heap.size (i * 5) cs).drew.setCells w.heap.size ((i + 1) * 5) (inner.drop (i * 5))).heap[k]? = w.heap[k]? := fun k hk =>
    (setCells_far _ _ k (by omega)).trans ((setCells_far (g := w.heap.size) cs (i * 5) (w := wA) k (by omega)).trans (hAo k hk))
   obtain ⟨s1, s2, s3, s4⟩ := setCells_same w.heap.size cs (i * 5) wA
   obtain ⟨r1, r2, r3, r4⟩ := setCells_same w.heap.size (inner.drop (i * 5)) ((i + 1) * 5) (wA.setCells w.heap.size (i * 5) cs).drew
   have hA3 : wA.os = w.os ∧ wA.tape = w.tape ∧ wA.output = w.output := by rw [hwA]; exact ⟨rfl, rfl, rfl⟩
   refine ⟨_, rfl, ?_, ⟨r1.trans (s1.trans hA3.1), r2.trans (s2.trans hA3.2.1), r3.trans (s3.trans hA3.2.2), by rw [r4]; show w.heap.size ≤ (wA.setCells w.heap.size (i * 5) cs).heap.size; omega, fun k hk _ => hfar k hk⟩, .inr ⟨w.heap.size, by simp [Value.ownBlock], Nat.le_refl _⟩⟩
   rw [← hlen2]
   refine R_of_block (hok _ (Nat.le_refl _)) hbase b1 (by rw [hlen2]; omega) hGm (by rw [b2, a2, hAsz, hsz]) (inner := inner.take (i * d.sz) ++ cs ++ inner.drop (i * d.sz)) ?_ (hMo _ w.heap.size (fun k hk _ => hfar k hk) (.inr (Nat.le_refl _)))
   rw [hlen2, b3, a3, hsz]
   have ha : ((inner.take (i * 5) ++ zs).toArray.toList.take (i * 5)) = inner.take (i * 5) := by
    rw [List.take_append_of_le_length (by rw [List.length_take]; omega), List.take_take, Nat.min_self]
   rw [ha]
   have e1 : (inner.take (i * 5) ++ cs ++ (inner.take (i * 5) ++ zs).toArray.toList.drop (i * 5 + cs.length)).take ((i + 1) * 5) = inner.take (i * 5) ++ cs :=
    List.take_left' (by rw [List.length_append, List.length_take, hcl, hci]; omega)
   rw [e1]
   exact take3 _ _ _ (by simp only [List.length_append, List.length_take, List.length_drop, hci, hcl]; omega) _
 ·have hi' : i = xs.length := by omega
  subst hi'
  have hsrc : ReadsRow (fun y c => y = x ∧ c = cs) d.sz w (some ⟨vb, 0, none⟩) 1 [x] := by
   refine ⟨rfl, by omega, fun _ => ⟨_, rfl, fun j p hj => ⟨cs, by rw [hsz]; exact hcl, ⟨?_, rfl⟩, fun q u hq => ?_⟩⟩⟩
   ·have : j = 0 := by have := (List.getElem?_eq_some_iff.1 hj).1; simp at this; exact this
    subst this
    simpa using hj.symm
   ·have : j = 0 := by have := (List.getElem?_eq_some_iff.1 hj).1; simp at this; exact this
    subst this
    rw [Addr.add_lit, cell_of_row w vb _ _ _ _ hvb, ← Array.getElem?_toList]
    rw [← hv5, List.getElem?_take] at hq
    split at hq
    ·simpa using hq
    ·cases hq
  obtain ⟨A, c, ev⟩ := Kd.R_slice hR
  obtain ⟨_, hnc, _⟩ := Kd.R_reads' (ev ▸ hR)
  have hA : (A = none ∧ xs.length = 0 ∧ c = 0) ∨ ∃ g, A = some ⟨g, 0, none⟩ := by
   rcases hR.2 with ⟨inner, ⟨_, hown⟩, _⟩
   rcases hown with ⟨h0, _⟩ | ⟨g, cap, cur, h0, _⟩ <;> rw [ev] at h0 <;> injection h0 with h0 h1 h2
   ·exact .inl ⟨h0, h1, h2⟩
   ·exact .inr ⟨g, h0⟩
  have HR := am hR
  subst ev
  have hn0 : xs.length ≤ 140737488355328 := by omega
  have hcm : xs.length ≤ c := hnc
  have hy : ∀ y cc, (y = x ∧ cc = cs) → d.M w base okp y cc := fun y cc h => by rw [h.1, h.2]; exact hx
  have HM := am hy
  have HS := am hsrc
  have HOK := am hokp
  have HF := am hok
  have mixed : Try.prog.follows .mixedOrders = true := by kernel_rfl
  have hil : (0 : Int) ≤ (xs.length : Int) := by omega
  have hic : (xs.length : Int) ≤ (c : Int) := by omega
  clear hR hx hy hsrc hokp hok hone hcl hvb hne hi hge hvc
  have hlen' := am hlen
  clear hlen
  rcases hA with ⟨rfl, h0, rfl⟩ | ⟨g, rfl⟩
  ·go_enter Try.func65, Try.ntmps65
   obtain rfl := List.eq_nil_of_length_eq_zero h0
   go_wp2_with (at_builtin; refine Kd.R_append_rows d (w0 := w) base rfl _ _ 28 30 (.agg #[(.slice none 0 0), (.int .i64 0), (.slice none 0 0), (.slice none 0 0), (.slice none 0 0)]) 104 rfl Try.underlying28 (by rw [hsz]; exact info30) (by rw [hsz]; rfl) (by omega) (by omega) _ [] [x] _ _ _ ok okp rfl rfl HR.out HS.out HM.out HOK.out HF.out (Below.refl _ _) hbase hlen'.out ?_; intro v1 w1 ho _ hg hat)
   all_goals (go_ret; exact ⟨_, rfl, ho, hg, hat⟩)
  ·go_enter Try.func65, Try.ntmps65
   go_wp2_with (at_builtin; refine Kd.R_append_rows d (w0 := w) base rfl _ _ 28 30 (.agg #[(.slice none 0 0), (.int .i64 0), (.slice none 0 0), (.slice none 0 0), (.slice none 0 0)]) 104 rfl Try.underlying28 (by rw [hsz]; exact info30) (by rw [hsz]; rfl) (by omega) (by omega) _ xs [x] _ _ _ ok okp rfl rfl HR.out HS.out HM.out HOK.out HF.out (Below.refl _ _) hbase hlen'.out ?_; intro v1 w1 ho _ hg hat)
   all_goals (go_ret; exact ⟨_, rfl, ho, hg, hat⟩)
theorem insert_calls {α : Type} (d : Kd α) (hsz : d.sz = 5) (v : Value) (xs : List α) (i : Nat) (hi : i ≤ xs.length) (vb vc : Nat) (hvc : 1 ≤ vc) (x : α) (cs : List Value) (vz : Nat × Nat) (vt : Nat) (w : World) (base : Nat) (ok okp : Nat → Prop)
  (hR : d.R 30 w base ok v xs) (hx : d.M w base okp x cs) (hokp : ∀ k, okp k → ok k ∧ some k ≠ v.ownBlock) (hvb : w.heap[vb]? = some (.cells cs.toArray vt (0, 0))) (hne : some vb ≠ v.ownBlock) (hok : ∀ k, w.heap.size ≤ k → ok k)
  (hbase : base ≤ w.heap.size) (hlen : (xs.length + 1) * 104 ≤ 140737488355328) :
  Calls Try.prog 65 #[v, .int .i64 i, .slice (some ⟨vb, 0, none⟩) 1 vc] w fun e w' => ∃ v', e = .returned v' ∧ d.R 30 w' base ok v' (xs.take i ++ x :: xs.drop i) ∧ w.grownBy w' v.ownBlock ∧
   (v'.ownBlock = v.ownBlock ∨ ∃ b, v'.ownBlock = some b ∧ w.heap.size ≤ b) :=
 insert_callsV d hsz v xs i hi vb vc hvc x cs cs.toArray vt w base ok okp hR hx hokp hvb (by have := (d.K_len (d.K_of_M hx)).trans hsz; simp only [List.take_of_length_le (Nat.le_of_eq this)]) hne hok hbase hlen
end Go.Proofs.Ytmkjkkmilopcpaa.Q
