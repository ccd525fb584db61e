-- packed by wip/tools/pack.py (a program of this session) out of its own texts
import Derived.Test.YtmnepkbmcnpjlaaPRunsSorted0
import Derived.ArgAppend
import Derived.Below
import Derived.BigQuiet
import Derived.Deep.AppendLies
import Derived.Deep.CutBlock
import Derived.Deep.DeepCutAuto
import Derived.Deep.Draws
import Derived.Deep.LoopGhost
import Derived.Deep.OwnRows
import Derived.Deep.QuietTactic
import Derived.Deep.RegionHeld3
import Derived.KernelRfl
import Derived.Laws.BitsLemmas
import Derived.Laws.BytesArg
import Derived.Laws.EntriesVeiled
import Derived.Laws.Externs
import Derived.Laws.IdiomCopy
import Derived.Laws.MakeOwn
import Derived.Laws.OwnMore
import Derived.Laws.Rows
import Derived.Laws.Slices
import Derived.Lib.AppendStr
import Derived.Lib.AppendZeros
import Derived.Lib.AppendZerosOnto
import Derived.Lib.ConvBytes
import Derived.Lib.JoinLaws
import Derived.Lib.Overlaps
import Derived.Lib.SliceRun
import Derived.Lib.Walk
import Derived.LoopIn
import Derived.LoopNIn
import Derived.Maps.AppendAt
import Derived.OrdersHeld
import Derived.OrdersIn
import Derived.OwnWalk
import Derived.OwnWalkIn
import Derived.RangeFuncBound
import Derived.RangeFuncBox
import Derived.RangeFuncCalls
import Derived.RangeFuncLeaves
import Derived.RangeFuncNested
import Derived.RangeFuncOwn
import Derived.RowKit
import Derived.RowKit3
import Derived.Shelf.Abstract
import Derived.Shelf.RegionOpen
import Derived.Shelf.RegionOpenPlain
import Derived.Tactics
import Derived.TacticsInMore
import Derived.Test.YtmnepkbmcnpjlaaProg
import Derived.WalkKit
import Derived.WalkSpells
import Derived.WideLaws
import Derived.Test.YtmnepkbmcnpjlaaPRunsSorted1
import Derived.Test.YtmnepkbmcnpjlaaPRunsSorted3
import Derived.Test.YtmnepkbmcnpjlaaPRunsSorted4
import Derived.Test.YtmnepkbmcnpjlaaPRunsSorted5
import Derived.Test.YtmnepkbmcnpjlaaPRunsSorted6
import Derived.Test.YtmnepkbmcnpjlaaPRunsSorted7
import Derived.Test.YtmnepkbmcnpjlaaPRunsSorted8
import Derived.Test.YtmnepkbmcnpjlaaPRunsSorted9
import Derived.Test.YtmnepkbmcnpjlaaPRunsSorted10
import Derived.Test.YtmnepkbmcnpjlaaPRunsSorted11
import Derived.Test.YtmnepkbmcnpjlaaPRunsSorted12
namespace Go.Proofs.Ytmnepkbmcnpjlaa.Q
open Go.RowKit Go.Proofs.YtmnepkbmcnpjlaaW.PrintWords Go.Proofs.YtmnepkbmcnpjlaaW.PrintLast Go.Proofs.YtmnepkbmcnpjlaaW.PrintMore
set_option linter.unusedVariables false
set_option linter.unusedSimpArgs false
def srtB : List S41 → Bool
 | a :: b :: t => decide (lexC a.f0 b.f0 < 0) && srtB (b :: t)
 | _ => true
theorem srtGo_ev : ∀ l : List S41, (∀ y ∈ l, SmallC y) → Ev (fun k => srtGo k l) (srtB l)
 | [], _ => Ev.congr (f := fun _ => some true) (fun k => by unfold srtGo; rfl) (Ev.now _)
 | [_], _ => Ev.congr (f := fun _ => some true) (fun k => by unfold srtGo; rfl) (Ev.now _)
 | a :: b :: t, h => by
  have ih := srtGo_ev (b :: t) (fun y hy => h y (List.mem_cons_of_mem _ hy))
  have hc : Ev (fun k => runs_by.f k a.f0 a.f1 a.f2 a.f3 a.f4 b.f0 b.f1 b.f2 b.f3 b.f4) (lexC a.f0 b.f0) := by
   refine Ev.congr (f := fun k => (cell_Less.f k a.f0 b.f0).bind fun t => some t) (fun k => rfl) ?_
   exact Ev.bind (cell_less_ev _ _ (by have := (h a (by simp)).1; omega)) (Ev.now _)
  refine Ev.congr (fun k => by unfold srtGo; rfl) (Ev.bind hc (Ev.bind ih ?_))
  exact Ev.now _
theorem sorted_ev {l : List S41} (h : ∀ y ∈ l, SmallC y) : Ev (fun k => runs_Sorted.f k l) (srtB l) := Ev.congr (fun k => by unfold runs_Sorted.f; rfl) (srtGo_ev l h)
theorem srtB_sorted : ∀ l : List S41, SortedC l → srtB l = true
 | [], _ => rfl
 | [_], _ => rfl
 | a :: b :: t, h => by
  obtain ⟨h1, h2⟩ := List.pairwise_cons.1 h
  unfold srtB
  rw [decide_eq_true (h1 b (by simp)), srtB_sorted (b :: t) h2]
  rfl
theorem within5_eq (a n : Int) (h0 : 0 < n) (h1 : n ≤ 4611686018427387904) : hypercubelaw5_within.f a n = some (a % n) := by
 have := within2_eq a n h0 h1
 unfold hypercubelaw2_within.f at this
 unfold hypercubelaw5_within.f
 exact this
theorem known_runs : runs_Runs.f 9 [⟨[2], 1, [], [], []⟩, ⟨[1], 1, [], [], []⟩] 2 = some [[⟨[1], 1, [], [], []⟩, ⟨[2], 1, [], [], []⟩]] := by kernel_rfl
theorem known_runs0 : runs_Runs.f 9 [] 1 = some [] := by kernel_rfl
theorem known_sorted : runs_Sorted.f 9 [⟨[1], 1, [], [], []⟩, ⟨[2], 1, [], [], []⟩] = some true := by kernel_rfl
theorem known_not : runs_Sorted.f 9 [⟨[2], 1, [], [], []⟩, ⟨[1], 1, [], [], []⟩] = some false := by kernel_rfl
theorem rC_of_blk {w : World} {g : Nat} {xs : List Int} (h : w.heap[g]? = some (.cells (encs (Value.int .i64) xs).toArray 3 (0, 0))) (hl : xs.length ≤ maxLen) : Kd.C (Kd.int .i64) w (some ⟨g, 0, none⟩) xs.length xs := by
 have hR : Kd.R (Kd.int .i64) 3 w 0 (fun _ => True) (.slice (some ⟨g, 0, none⟩) xs.length xs.length) xs := by
  refine Kd.R_of_own (h1 := fun _ => rfl) ⟨by rw [encs_length, Nat.mul_one], .inr ⟨g, xs.length, _, rfl, Nat.zero_le _, h, Nat.le_refl _, hl, ?_, ?_⟩⟩ (fun _ _ => trivial)
  ·rw [List.size_toArray, encs_length, Nat.mul_one]
  ·rw [Nat.mul_one, ← encs_length (enc := Value.int .i64) xs]
   exact List.take_length
 exact (Kd.R_reads' hR).2.2
theorem rC_two {w : World} {g : Nat} {x y : S41} {cs ds : List Value} (h : w.heap[g]? = some (.cells (cs ++ ds).toArray 41 (0, 0))) (hx : k41.K w x cs) (hy : k41.K w y ds) : Kd.C k41 w (some ⟨g, 0, none⟩) [x, y].length [x, y] := by
 have hl : cs.length = 5 := k41.K_len hx
 have hl2 : ds.length = 5 := k41.K_len hy
 refine ⟨rfl, by simp, fun _ => ⟨_, rfl, fun j p hj => ?_⟩⟩
 have hj2 : j < 2 := (List.getElem?_eq_some_iff.1 hj).1
 match j, hj2, hj with
 | 0, _, hj =>
  have hm : p = x := by simpa using hj.symm
  refine ⟨cs, hl, by rw [hm]; exact hx, fun i u hu => ?_⟩
  have hi : i < cs.length := (List.getElem?_eq_some_iff.1 hu).1
  rw [Addr.add_lit, cell_of_row w g _ _ _ _ h, List.getElem?_toArray, Nat.zero_add, show 0 * k41.sz + i = i by omega, List.getElem?_append_left hi]
  exact hu
 | 1, _, hj =>
  have hm : p = y := by simpa using hj.symm
  refine ⟨ds, hl2, by rw [hm]; exact hy, fun i u hu => ?_⟩
  rw [Addr.add_lit, cell_of_row w g _ _ _ _ h, List.getElem?_toArray, Nat.zero_add, show 1 * k41.sz + i = cs.length + i by rw [hl]; rfl, List.getElem?_append_right (by omega), Nat.add_sub_cancel_left]
  exact hu
theorem new_at {w : World} {n : Nat} (o : Obj) (h : w.heap.size = n) : (w.alloc o).heap[n]? = some o := by rw [← h]; exact heap_alloc_new w o
def hypercubelaw5_known.f : Option Bool := some true
set_option maxHeartbeats 8000000 in
set_option maxRecDepth 100000 in
theorem hypercubelaw5_known.calls (r : Bool) (w : World) (h : hypercubelaw5_known.f = some r) :
    Calls Try.prog 12 #[] w fun e w' => e = .returned (.bool r) ∧ Below w.heap.size w w' := by
 have e : true = r := Option.some.inj h
 subst e
 clear h
 have HB := am (Below.refl w.heap.size w)
 have hu41 := Try.underlying41
 have hkk : ∀ (W : World) (g1 : Nat) (x : Int), W.heap[g1]? = some (.cells #[.int .i64 x] 3 (0, 0)) → k41.K W (⟨[x], 1, [], [], []⟩ : S41) [.slice (some ⟨g1, 0, none⟩) 1 1, .int .i64 1, .slice none 0 0, .slice none 0 0, .slice none 0 0] := fun W g1 x h1 =>
  k41_mk W (⟨[x], 1, [], [], []⟩ : S41) (c0 := 1) (c2 := 0) (c3 := 0) (c4 := 0) (Nat.le_refl 1) (rC_of_blk (xs := [x]) h1 (by show 1 ≤ maxLen; decide)) (Nat.le_refl 0) (Kd.C_nil _ _) (Nat.le_refl 0) (Kd.C_nil _ _) (Nat.le_refl 0) (Kd.C_nil _ _)
 go_enter Try.func12, Try.ntmps12
 go_wp2_with (first
  | ((with_reducible refine gate_callee (f := 18) rfl ?_)
     refine goesL_ (some 11) rfl rfl Try.func18 (by kernel_rfl) rfl #[.slice (some ⟨w.heap.size + 1 + 1 + 1 + 1, 0, none⟩) 2 2, .int .i64 2] rfl (by (try simp only [List.map_toArray, List.map_cons, List.map_nil]); first | done | rfl) ?_
     refine name_calls ?_
     intro w2 hw2
     have b0 : w2.heap[w.heap.size]? = some (.cells #[.int .i64 2] 3 (0, 0)) := by rw [hw2]; exact blk_alloc (blk_alloc (blk_alloc (blk_alloc (new_at _ (by simp only [World.size_alloc])) _) _) _) _
     have b1 : w2.heap[w.heap.size + 1]? = some (.cells #[.int .i64 1] 3 (0, 0)) := by rw [hw2]; exact blk_alloc (blk_alloc (blk_alloc (new_at _ (by simp only [World.size_alloc])) _) _) _
     have b2 : w2.heap[w.heap.size + 1 + 1]? = some (.cells #[.slice (some ⟨w.heap.size, 0, none⟩) 1 1, .int .i64 1, .slice none 0 0, .slice none 0 0, .slice none 0 0] 41 (0, 0)) := by rw [hw2]; exact blk_alloc (blk_alloc (new_at _ (by simp only [World.size_alloc])) _) _
     have b3 : w2.heap[w.heap.size + 1 + 1 + 1]? = some (.cells #[.slice (some ⟨w.heap.size + 1, 0, none⟩) 1 1, .int .i64 1, .slice none 0 0, .slice none 0 0, .slice none 0 0] 41 (0, 0)) := by rw [hw2]; exact blk_alloc (new_at _ (by simp only [World.size_alloc])) _
     have b4 : w2.heap[w.heap.size + 1 + 1 + 1 + 1]? = some (.cells (([.slice (some ⟨w.heap.size, 0, none⟩) 1 1, .int .i64 1, .slice none 0 0, .slice none 0 0, .slice none 0 0] : List Value) ++ ([.slice (some ⟨w.heap.size + 1, 0, none⟩) 1 1, .int .i64 1, .slice none 0 0, .slice none 0 0, .slice none 0 0] : List Value)).toArray 41 (0, 0)) := by rw [hw2]; exact new_at _ (by simp only [World.size_alloc])
     have n0_ : Aside0 (Below w.heap.size w w2) := am (by rw [hw2]; exact below_alloc (below_alloc (below_alloc (below_alloc (below_alloc HB.out _) _) _) _) _)
     clear HB
     have HB := n0_
     clear n0_ hw2
     refine (runs_Runs.calls 9 (some ⟨w.heap.size + 1 + 1 + 1 + 1, 0, none⟩) 2 [(⟨[2], 1, [], [], []⟩ : S41), (⟨[1], 1, [], [], []⟩ : S41)] 2 _ w2 (rC_two b4 (hkk w2 _ 2 b0) (hkk w2 _ 1 b1)) (by decide) known_runs).mono ?_
     rintro e w3 ⟨v, rfl, hR, hb⟩
     refine ⟨_, rfl, ?_⟩
     obtain ⟨A, c, rfl⟩ := Kd.R_slice hR
     have hC := (Kd.R_reads' hR).2.2
     obtain ⟨ad, rfl, hcell⟩ := hC.2.2 (by decide)
     obtain ⟨g, rfl⟩ := Kd.R_head hR
     obtain ⟨cs, hcl, ⟨A1, c1, rfl, hc1, hK1⟩, hcc⟩ := hcell 0 _ rfl
     have x0 := hcc 0 _ rfl
     have x0' : w3.cell? ⟨g, 0, none⟩ = some (.slice A1 2 c1) := x0
     have HK1 := am hK1
     have HLc := am hc1
     have n0_ := am (below_step HB.out hb)
     have m0_ := am (blk_below b0 hb)
     have m1_ := am (blk_below b1 hb)
     have m2_ := am (blk_below b2 hb)
     have m3_ := am (blk_below b3 hb)
     clear HB b0 b1 b2 b3 b4 hC hR hcell hcc x0 hc1 hK1 hb
     have HB := n0_
     clear n0_)
  | ((with_reducible refine gate_callee (f := 18) rfl ?_)
     refine goesL_ (some 12) rfl rfl Try.func18 (by kernel_rfl) rfl #[.slice none 0 0, .int .i64 1] rfl (by (try simp only [List.map_toArray, List.map_cons, List.map_nil]); first | done | rfl) ?_
     refine (runs_Runs.calls 9 none 0 [] 1 _ w3 (Kd.C_nil _ _) (by decide) known_runs0).mono ?_
     rintro e w4 ⟨v, rfl, hR, hb⟩
     refine ⟨_, rfl, ?_⟩
     obtain ⟨A2, c2, rfl⟩ := Kd.R_slice hR
     have x0 : w4.cell? ⟨g, 0, none⟩ = some (.slice A1 2 c1) := (hb.cell (World.block_lt_of_cell? _ _ x0')).trans x0'
     have k_ := am (Kd.C_below HK1.out hb)
     have n0_ := am (below_step HB.out hb)
     have p0_ := am (blk_below m0_.out hb)
     have p1_ := am (blk_below m1_.out hb)
     have p2_ := am (blk_below m2_.out hb)
     have p3_ := am (blk_below m3_.out hb)
     clear HB x0' HK1 m0_ m1_ m2_ m3_ hR hb
     have HB := n0_
     clear n0_)
  | ((with_reducible refine gate_callee (f := 20) rfl ?_)
     (try (refine gate_guard (by rfl) ?_; dsimp only))
     refine goesL_ (some 31) rfl rfl Try.func20 (by kernel_rfl) rfl #[.slice A1 2 c1] rfl (by (try simp only [List.map_toArray, List.map_cons, List.map_nil]); first | done | rfl) ?_
     refine (runs_Sorted.calls 9 A1 c1 [(⟨[1], 1, [], [], []⟩ : S41), (⟨[2], 1, [], [], []⟩ : S41)] _ w4 k_.out HLc.out known_sorted).mono ?_
     rintro e w5 ⟨rfl, hb⟩
     refine ⟨_, rfl, ?_⟩
     have n0_ := am (below_step HB.out hb)
     have q0_ := am (blk_below p0_.out hb)
     have q1_ := am (blk_below p1_.out hb)
     have b2 := blk_below p2_.out hb
     have b3 := blk_below p3_.out hb
     have y20 := (blk_cell b2 0).trans rfl
     have y21 := (blk_cell b2 1).trans rfl
     have y22 := (blk_cell b2 2).trans rfl
     have y23 := (blk_cell b2 3).trans rfl
     have y24 := (blk_cell b2 4).trans rfl
     have y30 := (blk_cell b3 0).trans rfl
     have y31 := (blk_cell b3 1).trans rfl
     have y32 := (blk_cell b3 2).trans rfl
     have y33 := (blk_cell b3 3).trans rfl
     have y34 := (blk_cell b3 4).trans rfl
     clear HB p0_ p1_ p2_ p3_ k_ x0 b2 b3 hb
     have HB := n0_
     clear n0_)
  | ((with_reducible refine gate_callee (f := 20) rfl ?_)
     (try (refine gate_guard (by rfl) ?_; dsimp only))
     refine goesL_ (some 37) rfl rfl Try.func20 (by kernel_rfl) rfl #[.slice (some ⟨w5.heap.size, 0, none⟩) 2 2] rfl (by (try simp only [List.map_toArray, List.map_cons, List.map_nil]); first | done | rfl) ?_
     refine name_calls ?_
     intro w6 hw6
     have b4 : w6.heap[w5.heap.size]? = some (.cells (([.slice (some ⟨w.heap.size, 0, none⟩) 1 1, .int .i64 1, .slice none 0 0, .slice none 0 0, .slice none 0 0] : List Value) ++ ([.slice (some ⟨w.heap.size + 1, 0, none⟩) 1 1, .int .i64 1, .slice none 0 0, .slice none 0 0, .slice none 0 0] : List Value)).toArray 41 (0, 0)) := by rw [hw6]; exact heap_alloc_new _ _
     have r0 : w6.heap[w.heap.size]? = some (.cells #[.int .i64 2] 3 (0, 0)) := by rw [hw6]; exact blk_alloc q0_.out _
     have r1 : w6.heap[w.heap.size + 1]? = some (.cells #[.int .i64 1] 3 (0, 0)) := by rw [hw6]; exact blk_alloc q1_.out _
     have n0_ : Aside0 (Below w.heap.size w w6) := am (by rw [hw6]; exact below_alloc HB.out _)
     clear HB
     have HB := n0_
     clear n0_ hw6
     refine (runs_Sorted.calls 9 (some ⟨w5.heap.size, 0, none⟩) 2 [(⟨[2], 1, [], [], []⟩ : S41), (⟨[1], 1, [], [], []⟩ : S41)] _ w6 (rC_two b4 (hkk w6 _ 2 r0) (hkk w6 _ 1 r1)) (by decide) known_not).mono ?_
     rintro e w7 ⟨rfl, hb⟩
     refine ⟨_, rfl, ?_⟩
     have n0_ := am (below_step HB.out hb)
     clear HB r0 r1 b4 hb
     have HB := n0_
     clear n0_))
 go_ret
 exact ⟨rfl, HB.out⟩
def lastL (ns : List Int) : Nat → Int
 | 0 => 0
 | i + 1 => lastL ns i + 1 + rd ns (i : Int) % 5
theorem lastL_bd (ns : List Int) : ∀ i, 0 ≤ lastL ns i ∧ lastL ns i ≤ 5 * (i : Int)
 | 0 => ⟨Int.le_refl _, Int.le_refl _⟩
 | i + 1 => by have := lastL_bd ns i; simp only [lastL]; omega
def sL (ns : List Int) : Nat → List S41
 | 0 => []
 | i + 1 => sL ns i ++ [⟨[lastL ns (i + 1)], 0, [], [], []⟩]
theorem sL_length (ns : List Int) : ∀ i, (sL ns i).length = i
 | 0 => rfl
 | i + 1 => by simp [sL, sL_length ns i]
def swpL (xs : List S41) (a b : Nat) : List S41 := (xs.set a (rd_T41 xs (b : Int))).set b (rd_T41 xs (a : Int))
theorem heapCs : Kd.Heap k41 := by
 unfold k41
 repeat (first | exact Kd.heap_int _ | exact Kd.heap_slice _ (Kd.heap_int _) | apply Kd.heap_iso | apply Kd.heap_pair)
theorem N_emptyC {w : World} {g base : Nat} {ok : Nat → Prop} (h : w.heap[g]? = some (.cells #[] 41 (0, 0))) (hb : base ≤ g) (hok : ok g) : Kd.N k41 41 w base ok (.slice (some ⟨g, 0, none⟩) 0 0) [] :=
 ⟨fun k hk => (show g = k from by simpa [Value.ownBlock] using hk) ▸ hok, [], rfl, ⟨fun k hk => hk.symm, [], ⟨rfl, .inr ⟨g, 0, #[], rfl, hb, h, Nat.le_refl _, by decide, rfl, rfl⟩⟩, Reps.none _ _⟩, fun j x c hx _ => by cases hx⟩
theorem seg_all {W : World} {okp : Nat → Prop} {x : S41} {c seg : List Value} (hc : c.length = k41.sz) (h : Kd.FK k41 W okp x seg) (hs : seg.length = 5 := by rfl) : Kd.FK k41 W okp x (c.take 0 ++ seg ++ c.drop (0 + seg.length)) := by
 have e : c.take 0 ++ seg ++ c.drop (0 + seg.length) = seg := by
  rw [List.take_zero, List.nil_append, Nat.zero_add, hs, List.drop_of_length_le (by rw [hc]; exact Nat.le_refl 5), List.append_nil]
 rw [e]; exact h
theorem new_atC {w : World} {n : Nat} (o : Obj) (h : w.heap.size = n) : (w.alloc o).heap[n]? = some o := by rw [← h]; exact heap_alloc_new w o
def hypercubelaw5_RunsSorted.T16 : Bool × List (List Nat × List Nat) := (true, [([], []), ([], []), ([], []), ([], []), ([3], [3]), ([], []), ([], []), ([6], [6]), ([5, 7], [5, 7]), ([8], [8]), ([], []), ([], []), ([10, 11], [10, 11]), ([12], [12]), ([0, 1, 0, 1, 5, 6, 7, 8, 9, 13], [0, 1]), ([14, 9, 0, 1, 5, 6, 7, 8, 9, 13], [9, 14]), ([2, 4, 0, 1, 2, 3, 4, 5, 6, 7, 8, 9, 10, 11, 12, 13, 14, 15], [2, 4]), ([16, 13, 15, 0, 1, 2, 3, 4, 5, 6, 7, 8, 9, 10, 11, 12, 13, 14, 15], [13, 16])])
def hypercubelaw5_RunsSorted.B16 : List Nat := [0, 0, 0, 0, 8, 0, 0, 64, 224, 480, 0, 0, 3072, 7168, 16355, 32739, 65535, 131071]
theorem hypercubelaw5_RunsSorted.tab16 : rtab .any (opsOf Try.f7 16) = hypercubelaw5_RunsSorted.T16 := by kernel_rfl
theorem hypercubelaw5_RunsSorted.bits16 : waitsOk hypercubelaw5_RunsSorted.T16.2 hypercubelaw5_RunsSorted.B16 = true := by kernel_rfl
def hypercubelaw5_RunsSorted.Pure : Prop := ∀ (l0 : List Int) (a1 : Int), l0.length ≤ maxLen → l0.length * 8 ≤ 140737488351232 → (∀ x ∈ l0, (Lit.int .i64 x).wf = true) → (Lit.int .i64 a1).wf = true →
 ∃ k : Nat, (∀ i : Nat, i < (min l0.length 20) → hypercubelaw5_within.f (rd l0 (i : Int)) 5 = some (rd l0 (i : Int) % 5)) ∧ (runs_Sorted.f k (sL l0 (min l0.length 20)) = some true) ∧ (2 ≤ (min l0.length 20) → hypercubelaw5_within.f a1 (((min l0.length 20) - 1 : Nat) : Int) = some (((a1 % (((min l0.length 20) - 1 : Nat) : Int)).toNat : Nat) : Int) ∧ (a1 % (((min l0.length 20) - 1 : Nat) : Int)).toNat < (min l0.length 20) - 1) ∧ (2 ≤ (min l0.length 20) → runs_Sorted.f k (swpL (sL l0 (min l0.length 20)) ((a1 % (((min l0.length 20) - 1 : Nat) : Int)).toNat) ((a1 % (((min l0.length 20) - 1 : Nat) : Int)).toNat + 1)) = some false) ∧ (2 ≤ (min l0.length 20) → runs_Sorted.f k ((sL l0 (min l0.length 20)).set ((a1 % (((min l0.length 20) - 1 : Nat) : Int)).toNat + 1) (rd_T41 (sL l0 (min l0.length 20)) (((a1 % (((min l0.length 20) - 1 : Nat) : Int)).toNat : Nat) : Int))) = some false)
set_option maxHeartbeats 8000000 in
set_option maxRecDepth 100000 in
theorem hypercubelaw5_RunsSorted.calls (k : Nat) (A0 : Option Addr) (c0 : Nat) (l0 : List Int) (a1 : Int) (w : World) (hr0 : Kd.C (Kd.int .i64) w A0 l0.length l0) (hc0 : l0.length ≤ c0)
    (h1 : ∀ i : Nat, i < (min l0.length 20) → hypercubelaw5_within.f (rd l0 (i : Int)) 5 = some (rd l0 (i : Int) % 5)) (h2 : runs_Sorted.f k (sL l0 (min l0.length 20)) = some true) (h3 : 2 ≤ (min l0.length 20) → hypercubelaw5_within.f a1 (((min l0.length 20) - 1 : Nat) : Int) = some (((a1 % (((min l0.length 20) - 1 : Nat) : Int)).toNat : Nat) : Int) ∧ (a1 % (((min l0.length 20) - 1 : Nat) : Int)).toNat < (min l0.length 20) - 1) (h4 : 2 ≤ (min l0.length 20) → runs_Sorted.f k (swpL (sL l0 (min l0.length 20)) ((a1 % (((min l0.length 20) - 1 : Nat) : Int)).toNat) ((a1 % (((min l0.length 20) - 1 : Nat) : Int)).toNat + 1)) = some false) (h5 : 2 ≤ (min l0.length 20) → runs_Sorted.f k ((sL l0 (min l0.length 20)).set ((a1 % (((min l0.length 20) - 1 : Nat) : Int)).toNat + 1) (rd_T41 (sL l0 (min l0.length 20)) (((a1 % (((min l0.length 20) - 1 : Nat) : Int)).toNat : Nat) : Int))) = some false) :
    Calls Try.prog 7 #[.slice A0 l0.length c0, .int .i64 a1] w fun e w' => e = .returned (.bool true) ∧ Below w.heap.size w w' := by
  have hu41 := Try.underlying41
  have H1 := am h1
  have H2 := am h2
  have H3 := am h3
  have H4 := am h4
  have H5 := am h5
  have HR0 := am hr0
  have HC0 := am hc0
  clear h1 h2 h3 h4 h5 hr0 hc0
  go_enter Try.func7, Try.ntmps7
  go_wp2_with (fail)
  refine (hypercubelaw5_known.calls true w rfl).mono ?_
  rintro e w1 ⟨rfl, hb1⟩
  have HB1 := am hb1
  clear hb1
  have HM := am (Kd.C_below HR0.out HB1.out)
  go_wp2_with (fail)
  go_loopg [5, 6, 7] (min l0.length 20 + 1) (fun kq v5 v6 v7 w' => ∃ i : Nat, v7 = .int .i64 (i : Int) ∧ v6 = .int .i64 (lastL l0 i) ∧ Aside0 (i + kq = min l0.length 20 + 1 ∧ i ≤ min l0.length 20) ∧ Aside0 (Below w1.heap.size w1 w') ∧ Aside0 (Kd.N k41 41 w' w1.heap.size (fun _ => True) v5 (sL l0 i)))
  case atStart => exact ⟨0, rfl, rfl, ⟨by omega, by omega⟩, ⟨Below.refl _ _⟩, ⟨Kd.N_nil _ _ _ _ _⟩⟩
  case round =>
  obtain ⟨i, rfl, rfl, HI, HS, HN⟩ := hrel
  obtain ⟨Al, cl, el⟩ := Kd.N_slice HN.out
  subst el
  cases gk with
  | zero => exact absurd HI.out (by omega)
  | succ k1 =>
  by_cases hi : i < min l0.length 20
  · have hi2 : i < l0.length ∧ i < 20 := by omega
    have hd1 : decide ((i : Int) < (l0.length : Int)) = true := decide_eq_true (by omega)
    have hd2 : decide (i < l0.length) = true := decide_eq_true hi2.1
    have hd3 : decide ((i : Int) < 20) = true := decide_eq_true (by omega)
    have pi := eq_true (show (0 : Int) ≤ (i : Int) by omega)
    have qi := eq_true (show (i : Int) < (l0.length : Int) by omega)
    have qi2 := eq_true hi2.1
    have hwi : wrap64 ((i : Int) + 1) = ((i + 1 : Nat) : Int) := by unfold wrap64; omega
    have hbd := lastL_bd l0 i
    have hA1 : sL l0 (i + 1) = sL l0 i ++ [⟨[lastL l0 i + 1 + rd l0 (i : Int) % 5], 0, [], [], []⟩] := rfl
    have hL1 : lastL l0 (i + 1) = lastL l0 i + 1 + rd l0 (i : Int) % 5 := rfl
    have hw1 : wrap64 (lastL l0 i + 1) = lastL l0 i + 1 := by unfold wrap64; omega
    have hw2 : wrap64 (lastL l0 i + 1 + rd l0 (i : Int) % 5) = lastL l0 i + 1 + rd l0 (i : Int) % 5 := by unfold wrap64; omega
    have HAL := am (sL_length l0 i)
    have HA1 := am hA1
    have HL1 := am hL1
    have HHI := am hi
    have HHI2 := am hi2
    have HWI := am (H1.out i hi)
    obtain ⟨ad5, e5, x5⟩ := Kd.at_int (Kd.C_below HM.out HS.out) (i : Int) (by omega) (by omega)
    cases e5
    rw [Int.toNat_natCast] at x5
    clear hi hi2 hA1 hL1 hbd
    generalize sL l0 i = ol at *
    generalize lastL l0 i = la at *
    generalize rd l0 (i : Int) = ov at *
    generalize wr = wo at *
    go_wp2_with (first
    | (go_at_call 16
       (with_reducible refine (hypercubelaw5_within.calls ov 5 (ov % 5) wo HWI.out).mono ?_)
       rintro e wx ⟨rfl, hd⟩
       have HSx := am (below_step HS.out hd.below)
       have HNx := am (Kd.N_below HN.out hd.below)
       clear hd)
    | ((with_reducible refine gate_dst (N := 33) rfl ?_); refine Kd.R_lit (Kd.int .i64) _ 3 ?hg (N := 33) ?hd (xs := ([(la + 1 + ov % 5)] : List Int)) (inner := [.int .i64 (la + 1 + ov % 5)]) (ok := fun _ => True) (okp := fun _ => True) ?hr ?hp (fun _ hk => hk) trivial (Below.refl _ _) (Nat.le_refl _) (by simp) ?_; (case hd => rfl); (case hg => rfl); (case hr => first | (go_simp; done) | (go_simp; rfl)); (case hp => exact (Reps.one (show Kd.M (Kd.int .i64) _ _ _ (la + 1 + ov % 5) [.int .i64 (la + 1 + ov % 5)] from rfl) (Reps.none _ _))); intro v33 w33 ho hb hg_ hnew_; obtain ⟨A33, c33, rfl⟩ := Kd.R_slice ho; have HSW := am (below_step HSx.out hb); have HNW := am (Kd.N_below HNx.out hb); have HL33 := am (show ([la + 1 + ov % 5] : List Int).length ≤ c33 from (Kd.R_reads' ho).2.1); have HF33 := am (Kd.F_mono (ok' := fun k_ => wx.heap.size ≤ k_) (Kd.R_F (Kd.R_bound ho)) (fun _ hk => hk.2.1)); clear ho hb hg_ hnew_)
    | ((with_reducible refine gate_builtin (b := .append) (xs := #[.tmp 31, .tmp 35]) rfl ?_); (try (refine gate_guard (by rfl) ?_; dsimp only)); at_builtin; refine Kd.N_append k41 (w0 := w1) w1.heap.size rfl (.tmp 31) (.tmp 35) 29 41 (.agg #[(.slice none 0 0), (.int .i64 0), (.slice none 0 0), (.slice none 0 0), (.slice none 0 0)]) 104 rfl Try.underlying29 info41 rfl (by decide) (by omega) (.slice Al ol.length cl) ol ⟨[la + 1 + ov % 5], 0, [], [], []⟩ [.slice A33 1 c33, .int .i64 0, .slice none 0 0, .slice none 0 0, .slice none 0 0] (fun _ => True) (fun k_ => wx.heap.size ≤ k_) rfl rfl (k41_mkF _ _ ⟨[la + 1 + ov % 5], 0, [], [], []⟩ HL33.out HF33.out (Nat.le_refl 0) (Kd.F_nil _ _ _) (Nat.le_refl 0) (Kd.F_nil _ _ _) (Nat.le_refl 0) (Kd.F_nil _ _ _)) ?aK (fun _ _ => trivial) HNW.out HSW.out HSW.out.size ?aL ?_; (case aK => exact fun k_ hk => ⟨trivial, fun e_ => by have e2_ := Kd.N_lt HNx.out k_ e_.symm; omega⟩); (case aL => have := HAL.out; have := HHI.out; omega); intro vv wz ho hb hg hat; have HNz := am ho; have HSz := am hb; clear ho hb hg hat))
    go_roundg k1
    case measure => omega
    case rel => exact ⟨i + 1, by first | rfl | simp [hwi], by rw [HL1.out], ⟨by have := HI.out; have := HHI.out; omega, by have := HHI.out; omega⟩, HSz, ⟨by rw [HA1.out]; exact HNz.out⟩⟩
  · have hil : i = min l0.length 20 := by have := HI.out; omega
    have hex : (¬ i < l0.length) ∨ (i < l0.length ∧ ¬ i < 20) := by omega
    have hln := sL_length l0 i
    have h2 := H2.out
    have h3 := H3.out
    have h4 := H4.out
    have h5 := H5.out
    rw [← hil] at h2 h3 h4 h5
    have h2' := h2
    generalize hl : sL l0 i = l at *
    rw [← hln] at h3 h4 h5
    have HH2 := am h2
    have HH3 := am h3
    have HH4 := am h4
    have HH5 := am h5
    have HLN := am (show l.length ≤ 20 by omega)
    have HM5 := am (Kd.N_reads' HN.out).2
    have HBr := am (below_step HB1.out HS.out)
    clear hi hil hln h2 h2' h3 h4 h5 HS HN HI hl
    generalize wr = w3 at *
    rcases hex with h | ⟨h, h'⟩
    · have hd1 : decide ((i : Int) < (l0.length : Int)) = false := decide_eq_false (by omega)
      have hd2 : decide (i < l0.length) = false := decide_eq_false h
      clear h
      go_wp2_with (fail)
      refine (runs_Sorted.calls k Al cl l true w3 HM5.out.2 HM5.out.1 HH2.out).mono ?_
      rintro e w4 ⟨rfl, hb⟩
      have HB4 := am (below_step HBr.out hb)
      have HL4 := am (Kd.C_below HM5.out.2 hb)
      clear hb
      by_cases h2 : l.length < 2
      · have he1 : decide ((l.length : Int) < 2) = true := decide_eq_true (by omega)
        have he2 : decide (l.length < 2) = true := decide_eq_true h2
        clear h2
        go_wp2
        go_ret
        exact ⟨rfl, HB4.out⟩
      have he1 : decide ((l.length : Int) < 2) = false := decide_eq_false (by omega)
      have he2 : decide (l.length < 2) = false := decide_eq_false h2
      obtain ⟨q3, hkn⟩ := HH3.out (by omega)
      have q4 := HH4.out (by omega)
      have q5 := HH5.out (by omega)
      obtain ⟨kx, hkx⟩ : ∃ kx : Nat, kx = (a1 % ((l.length - 1 : Nat) : Int)).toNat := ⟨_, rfl⟩
      rw [← hkx] at q3 q4 q5 hkn
      obtain ⟨nn, hnn⟩ : ∃ nn : Nat, nn = l.length - 1 := ⟨_, rfl⟩
      rw [← hnn] at q3 hkn
      have hw7 : wrap64 ((l.length : Int) - 1) = (nn : Int) := by have := HLN.out; unfold wrap64; omega
      obtain ⟨kb, hkb⟩ : ∃ kb : Nat, kb = kx + 1 := ⟨_, rfl⟩
      rw [← hkb] at q4 q5
      have Q3 := am q3
      have Q4 := am q4
      have Q5 := am q5
      have HKN := am (show kb < l.length by omega)
      have HKX := am (show kx < l.length by omega)
      have HKB := am hkb
      clear h2 hkn hkx hnn q3 q4 q5 hkb
      go_wp2_with (fail)
      refine (hypercubelaw5_within.calls a1 (nn : Int) (kx : Int) w4 Q3.out).mono ?_
      rintro e w5 ⟨rfl, hd⟩
      clear hw7
      have HB5 := am (below_step HB4.out hd.below)
      have HL5 := am (Kd.C_below HL4.out hd.below)
      clear hd
      go_wp2_with (first
      | ((with_reducible refine gate_builtin (b := .append) (xs := #[.tmp 48, .tmp 49]) rfl ?_); (try (refine gate_guard (by rfl) ?_; dsimp only)); at_builtin; refine Kd.N_append_rows k41 (w0 := w5) w5.heap.size rfl (.tmp 48) (.tmp 49) 29 41 (.agg #[(.slice none 0 0), (.int .i64 0), (.slice none 0 0), (.slice none 0 0), (.slice none 0 0)]) 104 rfl Try.underlying29 info41 rfl (by decide) (by omega) (.slice (some ⟨w5.heap.size, 0, none⟩) 0 0) [] l _ _ _ (fun _ => True) (fun k_ => k_ < w5.heap.size) rfl rfl ?aO ?aR ?aK (fun _ _ => trivial) ?aB ?aS ?aL ?_; (case aO => exact N_emptyC (new_atC _ rfl) (Nat.le_refl _) trivial); (case aR => exact Kd.F_alloc (Kd.C_F heapCs HL5.out) _); (case aK => exact fun k_ hk => ⟨trivial, fun e_ => by have e2_ : k_ = w5.heap.size := Option.some.inj e_; omega⟩); (case aB => exact below_alloc (Below.refl _ _) _); (case aS => rw [World.size_alloc]; omega); (case aL => have := HLN.out; simp only [List.length_nil]; omega); intro vv w6 ho hb hg hat; rw [List.nil_append] at ho; obtain ⟨A9, c9, rfl⟩ := Kd.N_slice ho; have HN6 := am ho; have HB56 := am hb; have HF6 := am (Kd.F_below (Kd.C_F heapCs HL5.out) (Below.trans (Below.refl _ _) hb)); clear ho hb hg hat)
      | ((with_reducible refine gate_builtin (b := .append) (xs := #[.tmp 51, .tmp 52]) rfl ?_); (try (refine gate_guard (by rfl) ?_; dsimp only)); at_builtin; refine Kd.N_append_rows k41 (w0 := w6) w6.heap.size rfl (.tmp 51) (.tmp 52) 29 41 (.agg #[(.slice none 0 0), (.int .i64 0), (.slice none 0 0), (.slice none 0 0), (.slice none 0 0)]) 104 rfl Try.underlying29 info41 rfl (by decide) (by omega) (.slice (some ⟨w6.heap.size, 0, none⟩) 0 0) [] l _ _ _ (fun k_ => some k_ ≠ (Value.slice A9 l.length c9).ownBlock) (fun k_ => k_ < w5.heap.size) rfl rfl ?aO ?aR ?aK (fun k_ hk e_ => by have e2_ := Kd.N_lt HN6.out k_ e_.symm; rw [World.size_alloc] at hk; omega) ?aB ?aS ?aL ?_; (case aO => exact N_emptyC (new_atC _ rfl) (Nat.le_refl _) (fun e_ => by have e2_ := Kd.N_lt HN6.out _ e_.symm; omega)); (case aR => exact Kd.F_alloc (HF6.out) _); (case aK => exact fun k_ hk => ⟨fun e_ => by have e2_ := Kd.N_base HN6.out k_ e_.symm; omega, fun e_ => by have e2_ : k_ = w6.heap.size := Option.some.inj e_; have := HB56.out.size; omega⟩); (case aB => exact below_alloc (Below.refl _ _) _); (case aS => rw [World.size_alloc]; omega); (case aL => have := HLN.out; simp only [List.length_nil]; omega); intro vv2 w7 ho hb hg hat; rw [List.nil_append] at ho; obtain ⟨A10, c10, rfl⟩ := Kd.N_slice ho; have HN10 := am ho; have HB67 := am hb; have HN9 := am (Kd.N_below (Kd.N_bound HN6.out) hb); have HG96 := am (Kd.N_lt HN6.out); have HG10 := am (Kd.N_base ho); clear ho hb hg hat))
      obtain ⟨g9, cap9, e9, hg9b, hg9s, cs9, hcs9⟩ := Kd.N_form HN9.out (by have := HKN.out; omega)
      injection e9 with eA9 en9 ec9
      obtain ⟨ad9, ead9, had9⟩ : ∃ ad9, A9 = some ad9 ∧ ad9 = ⟨g9, 0, none⟩ := ⟨_, eA9, rfl⟩
      subst ead9
      obtain ⟨g10, cap10, e10, hg10b, hg10s, cs10, hcs10⟩ := Kd.N_form HN10.out (by have := HKN.out; omega)
      injection e10 with eA10 en10 ec10
      obtain ⟨ad10, ead10, had10⟩ : ∃ ad10, A10 = some ad10 ∧ ad10 = ⟨g10, 0, none⟩ := ⟨_, eA10, rfl⟩
      subst ead10
      have hkn := HKN.out
      have hkb := HKB.out
      have hll := HLN.out
      have HWK := am (show wrap64 ((kx : Int) + 1) = (kb : Int) by unfold wrap64; omega)
      have pa := eq_true (show (0 : Int) ≤ (kx : Int) by omega)
      have qa := eq_true (show (kx : Int) < (l.length : Int) by omega)
      have pb := eq_true (show (0 : Int) ≤ (kb : Int) by omega)
      have qb := eq_true (show (kb : Int) < (l.length : Int) by omega)
      have pb2 := eq_true (show (0 : Int) ≤ (kb : Int) by omega)
      have qb2 := eq_true (show (kb : Int) < (l.length : Int) by omega)
      have qa3 := eq_true (show kx < l.length by omega)
      have qb3 := eq_true (show kb < l.length by omega)
      have HAX := am (show kx < l.length by omega)
      have HQB := am (show (0 : Int) ≤ (kb : Int) ∧ (kb : Int) < (l.length : Int) by omega)
      have HAD9 := am had9
      have HAD10 := am had10
      have HMM : Aside0 (Kd.N k41 41 w7 w5.heap.size (fun k_ => True ∧ k_ < w6.heap.size) (.slice (some ⟨g9, 0, none⟩) l.length c9) l) := ⟨by have := HN9.out; rwa [had9] at this⟩
      have HGG : Aside0 (g9 < w6.heap.size ∧ w6.heap.size ≤ g10) := ⟨HG96.out g9 (by rw [had9]; rfl), hg10b⟩
      have HOO : Aside0 (Kd.N k41 41 w7 w6.heap.size (fun k_ => some k_ ≠ (Value.slice (some ad9) l.length c9).ownBlock) (.slice (some ⟨g10, 0, none⟩) l.length c10) l) := ⟨by have := HN10.out; rwa [had10] at this⟩
      have HNG : Aside0 (∀ k_, True ∧ k_ < w6.heap.size → some k_ ≠ some g10) := ⟨fun k_ hk e_ => by have e2_ := Option.some.inj e_; have := HGG.out.2; have := hk.2; omega⟩
      have HS57 := am (below_step HB56.out HB67.out)
      have HOG : Aside0 (∀ k_, some k_ ≠ (Value.slice (some ad9) l.length c9).ownBlock → some k_ ≠ some g9) := ⟨fun k_ hk e_ => hk (by rw [e_, had9]; rfl)⟩
      clear hkb had9 had10 eA9 en9 ec9 eA10 en10 ec10 hg9b hg10b hg9s hcs9 hcs10 cs9 cs10 hkn hll hg10s
      obtain ⟨ca, la, oa, fa, xa⟩ := N_at HMM.out z41 kx HAX.out
      obtain ⟨cb, lb, ob, fb, xb⟩ := N_at HMM.out z41 kb HKN.out
      obtain ⟨A0, c0, A2, c2, A3, c3, A4, c4, ea, _⟩ := k41_openF fa
      subst ea
      obtain ⟨B0, d0, B2, d2, B3, d3, B4, d4, eb, _⟩ := k41_openF fb
      subst eb
      obtain ⟨x, hx⟩ : ∃ x, x = l.getD kx z41 := ⟨_, rfl⟩
      obtain ⟨y, hy⟩ : ∃ y, y = l.getD kb z41 := ⟨_, rfl⟩
      rw [← hx] at fa xa oa
      rw [← hy] at fb xb ob
      have ADA : Aside0 (ad9.add (kx * 5) = ⟨g9, kx * 5, none⟩) := ⟨by rw [HAD9.out, Addr.add_lit, Nat.zero_add]⟩
      have ADB : Aside0 (ad9.add (kb * 5) = ⟨g9, kb * 5, none⟩) := ⟨by rw [HAD9.out, Addr.add_lit, Nat.zero_add]⟩
      have CA0 : Aside0 (w7.cell? (ad9.add (kx * 5)) = some (.slice A0 x.f0.length c0)) := ⟨by rw [ADA.out]; exact xa 0 _ rfl⟩
      have CA1 : Aside0 (w7.cell? ⟨(ad9.add (kx * 5)).block, (ad9.add (kx * 5)).off + 1, none⟩ = some (.int .i64 x.f1)) := ⟨by rw [ADA.out]; exact xa 1 _ rfl⟩
      have CA2 : Aside0 (w7.cell? ⟨(ad9.add (kx * 5)).block, (ad9.add (kx * 5)).off + 2, none⟩ = some (.slice A2 x.f2.length c2)) := ⟨by rw [ADA.out]; exact xa 2 _ rfl⟩
      have CA3 : Aside0 (w7.cell? ⟨(ad9.add (kx * 5)).block, (ad9.add (kx * 5)).off + 3, none⟩ = some (.slice A3 x.f3.length c3)) := ⟨by rw [ADA.out]; exact xa 3 _ rfl⟩
      have CA4 : Aside0 (w7.cell? ⟨(ad9.add (kx * 5)).block, (ad9.add (kx * 5)).off + 4, none⟩ = some (.slice A4 x.f4.length c4)) := ⟨by rw [ADA.out]; exact xa 4 _ rfl⟩
      have CB0 : Aside0 (w7.cell? (ad9.add (kb * 5)) = some (.slice B0 y.f0.length d0)) := ⟨by rw [ADB.out]; exact xb 0 _ rfl⟩
      have CB1 : Aside0 (w7.cell? ⟨(ad9.add (kb * 5)).block, (ad9.add (kb * 5)).off + 1, none⟩ = some (.int .i64 y.f1)) := ⟨by rw [ADB.out]; exact xb 1 _ rfl⟩
      have CB2 : Aside0 (w7.cell? ⟨(ad9.add (kb * 5)).block, (ad9.add (kb * 5)).off + 2, none⟩ = some (.slice B2 y.f2.length d2)) := ⟨by rw [ADB.out]; exact xb 2 _ rfl⟩
      have CB3 : Aside0 (w7.cell? ⟨(ad9.add (kb * 5)).block, (ad9.add (kb * 5)).off + 3, none⟩ = some (.slice B3 y.f3.length d3)) := ⟨by rw [ADB.out]; exact xb 3 _ rfl⟩
      have CB4 : Aside0 (w7.cell? ⟨(ad9.add (kb * 5)).block, (ad9.add (kb * 5)).off + 4, none⟩ = some (.slice B4 y.f4.length d4)) := ⟨by rw [ADB.out]; exact xb 4 _ rfl⟩
      have FA := am fa
      have FB := am fb
      have OA := am oa
      have OB := am ob
      have HX := am hx
      have HY := am hy
      have HCM : Aside0 (∀ W : World, Kd.N k41 41 W w5.heap.size (fun k_ => True ∧ k_ < w6.heap.size) (.slice (some ⟨g9, 0, none⟩) l.length c9) ((l.set kx y).set kb x) → Calls Try.prog 20 #[.slice (some ad9) l.length c9] W (fun e w' => e = .returned (.bool false) ∧ Below W.heap.size W w')) := ⟨fun W hN => by
        have hl : ((l.set kx y).set kb x).length = l.length := by rw [List.length_set, List.length_set]
        have hf := Q4.out
        unfold swpL at hf
        have e1 : rd_T41 l (kb : Int) = y := hy.symm
        have e2 : rd_T41 l (kx : Int) = x := hx.symm
        rw [e1, e2] at hf
        have hr := (Kd.N_reads' hN).2
        rw [HAD9.out, ← hl]
        exact runs_Sorted.calls k _ c9 _ false W hr.2 (by rw [hl]; exact hr.1) hf⟩
      have HCO : Aside0 (∀ W : World, Kd.N k41 41 W w5.heap.size (fun k_ => some k_ ≠ (Value.slice (some ad9) l.length c9).ownBlock) (.slice (some ⟨g10, 0, none⟩) l.length c10) (l.set (kb : Int).toNat x) → Calls Try.prog 20 #[.slice (some ad10) l.length c10] W (fun e w' => e = .returned (.bool false) ∧ Below W.heap.size W w')) := ⟨fun W hN => by
        have hl : (l.set (kb : Int).toNat x).length = l.length := by rw [List.length_set]
        have hf := Q5.out
        have e2 : rd_T41 l (kx : Int) = x := hx.symm
        rw [e2] at hf
        have hr := (Kd.N_reads' hN).2
        rw [HAD10.out, ← hl]
        exact runs_Sorted.calls k _ c10 _ false W hr.2 (by rw [hl]; exact hr.1) hf⟩
      clear fa fb oa ob xa xb hx hy la lb
      have hwk := HWK.out
      go_wp2
      refine start_ (n := 18) (S := fun w' => w'.cell? (ad9.add (kx * 5)) = some (.slice A0 x.f0.length c0) ∧ w'.cell? ⟨(ad9.add (kx * 5)).block, (ad9.add (kx * 5)).off + 1, none⟩ = some (.int .i64 x.f1) ∧ w'.cell? ⟨(ad9.add (kx * 5)).block, (ad9.add (kx * 5)).off + 2, none⟩ = some (.slice A2 x.f2.length c2) ∧ w'.cell? ⟨(ad9.add (kx * 5)).block, (ad9.add (kx * 5)).off + 3, none⟩ = some (.slice A3 x.f3.length c3) ∧ w'.cell? ⟨(ad9.add (kx * 5)).block, (ad9.add (kx * 5)).off + 4, none⟩ = some (.slice A4 x.f4.length c4) ∧ w'.cell? (ad9.add (kb * 5)) = some (.slice B0 y.f0.length d0) ∧ w'.cell? ⟨(ad9.add (kb * 5)).block, (ad9.add (kb * 5)).off + 1, none⟩ = some (.int .i64 y.f1) ∧ w'.cell? ⟨(ad9.add (kb * 5)).block, (ad9.add (kb * 5)).off + 2, none⟩ = some (.slice B2 y.f2.length d2) ∧ w'.cell? ⟨(ad9.add (kb * 5)).block, (ad9.add (kb * 5)).off + 3, none⟩ = some (.slice B3 y.f3.length d3) ∧ w'.cell? ⟨(ad9.add (kb * 5)).block, (ad9.add (kb * 5)).off + 4, none⟩ = some (.slice B4 y.f4.length d4)) (ds := [15, 17]) (bb 18 0) (by kernel_rfl) rfl rfl ⟨CA0.out, CA1.out, CA2.out, CA3.out, CA4.out, CB0.out, CB1.out, CB2.out, CB3.out, CB4.out⟩ (fun hHeld => ?_)
      refine with_tabW hypercubelaw5_RunsSorted.tab16 hypercubelaw5_RunsSorted.bits16 (fun HT_ HW_ => ?_)
      have HN2' := Kd.N_below HMM.out (below_drew (Below.refl _ _))
      have HS2' := below_step HS57.out (below_drew (Below.refl w7.heap.size w7))
      have HO2' := Kd.N_below HOO.out (below_drew (Below.refl _ _))
      have FA2 := Kd.FK_below FA.out (below_drew (Below.refl _ _))
      have FB2 := Kd.FK_below FB.out (below_drew (Below.refl _ _))
      refine pu (i := 0) (N := some 54) (bb 18 1) HT_ ?_
      refine pu (i := 1) (N := some 55) (bb 18 3) HT_ ?_
      refine pu (i := 2) (N := some 56) (bb 18 7) HT_ ?_
      refine pu (i := 3) (N := some 57) (bb 18 15) HT_ ?_
      refine pu (i := 4) (N := some 58) (bb 18 31) HT_ ?_
      refine pu (i := 5) (N := some 59) (bb 18 63) HT_ ?_
      refine pu (i := 6) (N := some 60) (bb 18 127) HT_ ?_
      refine pu (i := 7) (N := some 61) (bb 18 255) HT_ ?_
      refine pu (i := 8) (N := some 62) (bb 18 511) HT_ ?_
      refine pu (i := 10) (N := some 64) (bb 18 1535) HT_ ?_
      refine pu (i := 11) (N := some 65) (bb 18 3583) HT_ ?_
      refine pu (i := 12) (N := some 66) (bb 18 7679) HT_ ?_
      refine tk (i := 9) (N := some 63) (bb 18 8191) HT_ HW_ hHeld ?_
      refine tk (i := 13) (N := some 67) (bb 18 16383) HT_ HW_ hHeld ?_
      refine pu (i := 14) (N := some 68) (bb 18 32767) HT_ ?_
      refine last_ (i := 15) (N := none) (bb 18 65535) rfl rfl (one_of HT_.out (by kernel_rfl)) (by decide) (fun K hK => ?_)
      refine skip_ (w1 := w7.drew.setCells g9 (kx * 5) [.slice B0 y.f0.length d0, .int .i64 y.f1, .slice B2 y.f2.length d2, .slice B3 y.f3.length d3, .slice B4 y.f4.length d4]) rfl rfl (put_run (t := 41) (p := .tmp 68) (x := .tmp 63) rfl HN2' kx HAX.out rfl (congrArg (fun q => Value.pointer (some q)) ADA.out) rfl rfl (by rfl) OB.out) ?_
      obtain ⟨HN3, HS3, HG3⟩ := N_put HN2' kx HAX.out (seg := [.slice B0 y.f0.length d0, .int .i64 y.f1, .slice B2 y.f2.length d2, .slice B3 y.f3.length d3, .slice B4 y.f4.length d4]) rfl FB2 (fun k hk => hk) HS2'
      have FA3 := Kd.FK_step FA2 (fun k hk hlt => HG3.block k hlt (fun e => hk.2 (Option.some.inj e)))
      have HO3 := Kd.N_grown HO2' HG3 HOG.out
      refine hK.out _ _ ?_
      clear hK K
      refine pu (i := 16) (N := some 69) (bb 18 131071) HT_ ?_
      refine last_ (i := 17) (N := none) (bb 18 262143) rfl rfl (one_of HT_.out (by kernel_rfl)) (by decide) (fun K hK => ?_)
      refine skip_ (w1 := (w7.drew.setCells g9 (kx * 5) [.slice B0 y.f0.length d0, .int .i64 y.f1, .slice B2 y.f2.length d2, .slice B3 y.f3.length d3, .slice B4 y.f4.length d4]).setCells g9 (kb * 5) [.slice A0 x.f0.length c0, .int .i64 x.f1, .slice A2 x.f2.length c2, .slice A3 x.f3.length c3, .slice A4 x.f4.length c4]) rfl rfl (put_run (t := 41) (p := .tmp 69) (x := .tmp 67) rfl HN3 kb HKN.out rfl (congrArg (fun q => Value.pointer (some q)) ADB.out) rfl rfl (by rfl) OA.out) ?_
      obtain ⟨HN5, HS5, HG5⟩ := N_put HN3 kb HKN.out (seg := [.slice A0 x.f0.length c0, .int .i64 x.f1, .slice A2 x.f2.length c2, .slice A3 x.f3.length c3, .slice A4 x.f4.length c4]) rfl FA3 (fun k hk => hk) HS3
      have HO5 := Kd.N_grown HO3 HG5 HOG.out
      refine hK.out _ _ ?_
      clear hK K
      refine done_ (done_of HT_.out (by kernel_rfl)) ?_
      have HO5 : Kd.N k41 41 ((w7.drew.setCells g9 (kx * 5) [.slice B0 y.f0.length d0, .int .i64 y.f1, .slice B2 y.f2.length d2, .slice B3 y.f3.length d3, .slice B4 y.f4.length d4]).setCells g9 (kb * 5) [.slice A0 x.f0.length c0, .int .i64 x.f1, .slice A2 x.f2.length c2, .slice A3 x.f3.length c3, .slice A4 x.f4.length c4]) w6.heap.size (fun k_ => some k_ ≠ (Value.slice (some ad9) l.length c9).ownBlock) (.slice (some ⟨g10, 0, none⟩) l.length c10) l := HO5
      have HN5 : Kd.N k41 41 ((w7.drew.setCells g9 (kx * 5) [.slice B0 y.f0.length d0, .int .i64 y.f1, .slice B2 y.f2.length d2, .slice B3 y.f3.length d3, .slice B4 y.f4.length d4]).setCells g9 (kb * 5) [.slice A0 x.f0.length c0, .int .i64 x.f1, .slice A2 x.f2.length c2, .slice A3 x.f3.length c3, .slice A4 x.f4.length c4]) w5.heap.size (fun k_ => True ∧ k_ < w6.heap.size) (.slice (some ⟨g9, 0, none⟩) l.length c9) ((l.set kx y).set kb x) := HN5
      have HS5 : Below w5.heap.size w5 ((w7.drew.setCells g9 (kx * 5) [.slice B0 y.f0.length d0, .int .i64 y.f1, .slice B2 y.f2.length d2, .slice B3 y.f3.length d3, .slice B4 y.f4.length d4]).setCells g9 (kb * 5) [.slice A0 x.f0.length c0, .int .i64 x.f1, .slice A2 x.f2.length c2, .slice A3 x.f3.length c3, .slice A4 x.f4.length c4]) := HS5
      clear HG3 HG5 HO3 HN3 HS3 FA3
      generalize (w7.drew.setCells g9 (kx * 5) [.slice B0 y.f0.length d0, .int .i64 y.f1, .slice B2 y.f2.length d2, .slice B3 y.f3.length d3, .slice B4 y.f4.length d4]).setCells g9 (kb * 5) [.slice A0 x.f0.length c0, .int .i64 x.f1, .slice A2 x.f2.length c2, .slice A3 x.f3.length c3, .slice A4 x.f4.length c4] = w8 at *
      obtain ⟨cc, lc, oc, fc, xc⟩ := N_at HO5 z41 kx HAX.out
      obtain ⟨ce, le, oe, fe, xe⟩ := N_at HO5 z41 kb HKN.out
      obtain ⟨D0, f0, D2, f2, D3, f3, D4, f4, ec, _⟩ := k41_openF fc
      subst ec
      rw [← HX.out] at fc xc oc
      have AD1 : Aside0 (ad10.add (kx * 5) = ⟨g10, kx * 5, none⟩) := ⟨by rw [HAD10.out, Addr.add_lit, Nat.zero_add]⟩
      have AD2 : Aside0 (ad10.add (kb * 5) = ⟨g10, kb * 5, none⟩) := ⟨by rw [HAD10.out, Addr.add_lit, Nat.zero_add]⟩
      have z0 : w8.cell? (ad10.add (kx * 5)) = some (.slice D0 x.f0.length f0) := by rw [AD1.out]; exact xc 0 _ rfl
      have z1 : w8.cell? ⟨(ad10.add (kx * 5)).block, (ad10.add (kx * 5)).off + 1, none⟩ = some (.int .i64 x.f1) := by rw [AD1.out]; exact xc 1 _ rfl
      have z2 : w8.cell? ⟨(ad10.add (kx * 5)).block, (ad10.add (kx * 5)).off + 2, none⟩ = some (.slice D2 x.f2.length f2) := by rw [AD1.out]; exact xc 2 _ rfl
      have z3 : w8.cell? ⟨(ad10.add (kx * 5)).block, (ad10.add (kx * 5)).off + 3, none⟩ = some (.slice D3 x.f3.length f3) := by rw [AD1.out]; exact xc 3 _ rfl
      have z4 : w8.cell? ⟨(ad10.add (kx * 5)).block, (ad10.add (kx * 5)).off + 4, none⟩ = some (.slice D4 x.f4.length f4) := by rw [AD1.out]; exact xc 4 _ rfl
      have HFC := am fc
      have HOC := am oc
      have HLE := am le
      have HXE := am xe
      have HOO5 := am (Kd.N_lower HO5 HB56.out.size)
      have HNN5 := am HN5
      have HSS5 := am HS5
      clear fc oc lc xc le oe fe xe HO5 HN5 HS5 HO2' HN2' HS2' FA2 FB2
      go_wp2_with (first
      | ((with_reducible refine gate_ (.store 41 (.tmp 77) (.tmp 76)) rfl ?_); refine Kd.N_store k41 (w0 := w5) w5.heap.size rfl rfl 41 (.tmp 77) (.tmp 76) rfl 41 (kb : Int) 0 l x (.agg #[.slice D0 x.f0.length f0, .int .i64 x.f1, .slice D2 x.f2.length f2, .slice D3 x.f3.length f3, .slice D4 x.f4.length f4]) [.slice D0 x.f0.length f0, .int .i64 x.f1, .slice D2 x.f2.length f2, .slice D3 x.f3.length f3, .slice D4 x.f4.length f4] ce (fun k_ => some k_ ≠ (Value.slice (some ad9) l.length c9).ownBlock) (fun k_ => some k_ ≠ (Value.slice (some ad9) l.length c9).ownBlock ∧ k_ ≠ g10) (congrArg (fun q => Value.pointer (some q)) AD2.out) rfl rfl rfl (by rfl) HOC.out HOO5.out HQB.out.1 HQB.out.2 HLE.out HXE.out (Nat.le_refl 5) (seg_all HLE.out HFC.out) (fun _ hk => hk) HSS5.out ?_; intro w9 ho hb hg; have HO9 := am ho; have HM9 := am (Kd.N_grown HNN5.out hg HNG.out); have HB59 := am hb; clear ho hb hg)
      | (go_at_call 20
         (with_reducible refine (HCM.out w9 HM9.out).mono ?_)
         rintro e w10 ⟨rfl, hb⟩
         have HO10 := am (Kd.N_below HO9.out hb)
         have HB10 := am (below_step HB59.out hb)
         clear hb)
      | (go_at_call 20
         (with_reducible refine (HCO.out w10 HO10.out).mono ?_)
         rintro e w11 ⟨rfl, hb⟩
         have HB11 := am (below_step HB10.out hb)
         clear hb))
      go_ret
      exact ⟨rfl, below_step HB5.out HB11.out⟩
    · have hd1 : decide ((i : Int) < (l0.length : Int)) = true := decide_eq_true (by omega)
      have hd2 : decide (i < l0.length) = true := decide_eq_true h
      have hd3 : decide ((i : Int) < 20) = false := decide_eq_false (by omega)
      clear h h'
      go_wp2_with (fail)
      refine (runs_Sorted.calls k Al cl l true w3 HM5.out.2 HM5.out.1 HH2.out).mono ?_
      rintro e w4 ⟨rfl, hb⟩
      have HB4 := am (below_step HBr.out hb)
      have HL4 := am (Kd.C_below HM5.out.2 hb)
      clear hb
      by_cases h2 : l.length < 2
      · have he1 : decide ((l.length : Int) < 2) = true := decide_eq_true (by omega)
        have he2 : decide (l.length < 2) = true := decide_eq_true h2
        clear h2
        go_wp2
        go_ret
        exact ⟨rfl, HB4.out⟩
      have he1 : decide ((l.length : Int) < 2) = false := decide_eq_false (by omega)
      have he2 : decide (l.length < 2) = false := decide_eq_false h2
      obtain ⟨q3, hkn⟩ := HH3.out (by omega)
      have q4 := HH4.out (by omega)
      have q5 := HH5.out (by omega)
      obtain ⟨kx, hkx⟩ : ∃ kx : Nat, kx = (a1 % ((l.length - 1 : Nat) : Int)).toNat := ⟨_, rfl⟩
      rw [← hkx] at q3 q4 q5 hkn
      obtain ⟨nn, hnn⟩ : ∃ nn : Nat, nn = l.length - 1 := ⟨_, rfl⟩
      rw [← hnn] at q3 hkn
      have hw7 : wrap64 ((l.length : Int) - 1) = (nn : Int) := by have := HLN.out; unfold wrap64; omega
      obtain ⟨kb, hkb⟩ : ∃ kb : Nat, kb = kx + 1 := ⟨_, rfl⟩
      rw [← hkb] at q4 q5
      have Q3 := am q3
      have Q4 := am q4
      have Q5 := am q5
      have HKN := am (show kb < l.length by omega)
      have HKX := am (show kx < l.length by omega)
      have HKB := am hkb
      clear h2 hkn hkx hnn q3 q4 q5 hkb
      go_wp2_with (fail)
      refine (hypercubelaw5_within.calls a1 (nn : Int) (kx : Int) w4 Q3.out).mono ?_
      rintro e w5 ⟨rfl, hd⟩
      clear hw7
      have HB5 := am (below_step HB4.out hd.below)
      have HL5 := am (Kd.C_below HL4.out hd.below)
      clear hd
      go_wp2_with (first
      | ((with_reducible refine gate_builtin (b := .append) (xs := #[.tmp 48, .tmp 49]) rfl ?_); (try (refine gate_guard (by rfl) ?_; dsimp only)); at_builtin; refine Kd.N_append_rows k41 (w0 := w5) w5.heap.size rfl (.tmp 48) (.tmp 49) 29 41 (.agg #[(.slice none 0 0), (.int .i64 0), (.slice none 0 0), (.slice none 0 0), (.slice none 0 0)]) 104 rfl Try.underlying29 info41 rfl (by decide) (by omega) (.slice (some ⟨w5.heap.size, 0, none⟩) 0 0) [] l _ _ _ (fun _ => True) (fun k_ => k_ < w5.heap.size) rfl rfl ?aO ?aR ?aK (fun _ _ => trivial) ?aB ?aS ?aL ?_; (case aO => exact N_emptyC (new_atC _ rfl) (Nat.le_refl _) trivial); (case aR => exact Kd.F_alloc (Kd.C_F heapCs HL5.out) _); (case aK => exact fun k_ hk => ⟨trivial, fun e_ => by have e2_ : k_ = w5.heap.size := Option.some.inj e_; omega⟩); (case aB => exact below_alloc (Below.refl _ _) _); (case aS => rw [World.size_alloc]; omega); (case aL => have := HLN.out; simp only [List.length_nil]; omega); intro vv w6 ho hb hg hat; rw [List.nil_append] at ho; obtain ⟨A9, c9, rfl⟩ := Kd.N_slice ho; have HN6 := am ho; have HB56 := am hb; have HF6 := am (Kd.F_below (Kd.C_F heapCs HL5.out) (Below.trans (Below.refl _ _) hb)); clear ho hb hg hat)
      | ((with_reducible refine gate_builtin (b := .append) (xs := #[.tmp 51, .tmp 52]) rfl ?_); (try (refine gate_guard (by rfl) ?_; dsimp only)); at_builtin; refine Kd.N_append_rows k41 (w0 := w6) w6.heap.size rfl (.tmp 51) (.tmp 52) 29 41 (.agg #[(.slice none 0 0), (.int .i64 0), (.slice none 0 0), (.slice none 0 0), (.slice none 0 0)]) 104 rfl Try.underlying29 info41 rfl (by decide) (by omega) (.slice (some ⟨w6.heap.size, 0, none⟩) 0 0) [] l _ _ _ (fun k_ => some k_ ≠ (Value.slice A9 l.length c9).ownBlock) (fun k_ => k_ < w5.heap.size) rfl rfl ?aO ?aR ?aK (fun k_ hk e_ => by have e2_ := Kd.N_lt HN6.out k_ e_.symm; rw [World.size_alloc] at hk; omega) ?aB ?aS ?aL ?_; (case aO => exact N_emptyC (new_atC _ rfl) (Nat.le_refl _) (fun e_ => by have e2_ := Kd.N_lt HN6.out _ e_.symm; omega)); (case aR => exact Kd.F_alloc (HF6.out) _); (case aK => exact fun k_ hk => ⟨fun e_ => by have e2_ := Kd.N_base HN6.out k_ e_.symm; omega, fun e_ => by have e2_ : k_ = w6.heap.size := Option.some.inj e_; have := HB56.out.size; omega⟩); (case aB => exact below_alloc (Below.refl _ _) _); (case aS => rw [World.size_alloc]; omega); (case aL => have := HLN.out; simp only [List.length_nil]; omega); intro vv2 w7 ho hb hg hat; rw [List.nil_append] at ho; obtain ⟨A10, c10, rfl⟩ := Kd.N_slice ho; have HN10 := am ho; have HB67 := am hb; have HN9 := am (Kd.N_below (Kd.N_bound HN6.out) hb); have HG96 := am (Kd.N_lt HN6.out); have HG10 := am (Kd.N_base ho); clear ho hb hg hat))
      obtain ⟨g9, cap9, e9, hg9b, hg9s, cs9, hcs9⟩ := Kd.N_form HN9.out (by have := HKN.out; omega)
      injection e9 with eA9 en9 ec9
      obtain ⟨ad9, ead9, had9⟩ : ∃ ad9, A9 = some ad9 ∧ ad9 = ⟨g9, 0, none⟩ := ⟨_, eA9, rfl⟩
      subst ead9
      obtain ⟨g10, cap10, e10, hg10b, hg10s, cs10, hcs10⟩ := Kd.N_form HN10.out (by have := HKN.out; omega)
      injection e10 with eA10 en10 ec10
      obtain ⟨ad10, ead10, had10⟩ : ∃ ad10, A10 = some ad10 ∧ ad10 = ⟨g10, 0, none⟩ := ⟨_, eA10, rfl⟩
      subst ead10
      have hkn := HKN.out
      have hkb := HKB.out
      have hll := HLN.out
      have HWK := am (show wrap64 ((kx : Int) + 1) = (kb : Int) by unfold wrap64; omega)
      have pa := eq_true (show (0 : Int) ≤ (kx : Int) by omega)
      have qa := eq_true (show (kx : Int) < (l.length : Int) by omega)
      have pb := eq_true (show (0 : Int) ≤ (kb : Int) by omega)
      have qb := eq_true (show (kb : Int) < (l.length : Int) by omega)
      have pb2 := eq_true (show (0 : Int) ≤ (kb : Int) by omega)
      have qb2 := eq_true (show (kb : Int) < (l.length : Int) by omega)
      have qa3 := eq_true (show kx < l.length by omega)
      have qb3 := eq_true (show kb < l.length by omega)
      have HAX := am (show kx < l.length by omega)
      have HQB := am (show (0 : Int) ≤ (kb : Int) ∧ (kb : Int) < (l.length : Int) by omega)
      have HAD9 := am had9
      have HAD10 := am had10
      have HMM : Aside0 (Kd.N k41 41 w7 w5.heap.size (fun k_ => True ∧ k_ < w6.heap.size) (.slice (some ⟨g9, 0, none⟩) l.length c9) l) := ⟨by have := HN9.out; rwa [had9] at this⟩
      have HGG : Aside0 (g9 < w6.heap.size ∧ w6.heap.size ≤ g10) := ⟨HG96.out g9 (by rw [had9]; rfl), hg10b⟩
      have HOO : Aside0 (Kd.N k41 41 w7 w6.heap.size (fun k_ => some k_ ≠ (Value.slice (some ad9) l.length c9).ownBlock) (.slice (some ⟨g10, 0, none⟩) l.length c10) l) := ⟨by have := HN10.out; rwa [had10] at this⟩
      have HNG : Aside0 (∀ k_, True ∧ k_ < w6.heap.size → some k_ ≠ some g10) := ⟨fun k_ hk e_ => by have e2_ := Option.some.inj e_; have := HGG.out.2; have := hk.2; omega⟩
      have HS57 := am (below_step HB56.out HB67.out)
      have HOG : Aside0 (∀ k_, some k_ ≠ (Value.slice (some ad9) l.length c9).ownBlock → some k_ ≠ some g9) := ⟨fun k_ hk e_ => hk (by rw [e_, had9]; rfl)⟩
      clear hkb had9 had10 eA9 en9 ec9 eA10 en10 ec10 hg9b hg10b hg9s hcs9 hcs10 cs9 cs10 hkn hll hg10s
      obtain ⟨ca, la, oa, fa, xa⟩ := N_at HMM.out z41 kx HAX.out
      obtain ⟨cb, lb, ob, fb, xb⟩ := N_at HMM.out z41 kb HKN.out
      obtain ⟨A0, c0, A2, c2, A3, c3, A4, c4, ea, _⟩ := k41_openF fa
      subst ea
      obtain ⟨B0, d0, B2, d2, B3, d3, B4, d4, eb, _⟩ := k41_openF fb
      subst eb
      obtain ⟨x, hx⟩ : ∃ x, x = l.getD kx z41 := ⟨_, rfl⟩
      obtain ⟨y, hy⟩ : ∃ y, y = l.getD kb z41 := ⟨_, rfl⟩
      rw [← hx] at fa xa oa
      rw [← hy] at fb xb ob
      have ADA : Aside0 (ad9.add (kx * 5) = ⟨g9, kx * 5, none⟩) := ⟨by rw [HAD9.out, Addr.add_lit, Nat.zero_add]⟩
      have ADB : Aside0 (ad9.add (kb * 5) = ⟨g9, kb * 5, none⟩) := ⟨by rw [HAD9.out, Addr.add_lit, Nat.zero_add]⟩
      have CA0 : Aside0 (w7.cell? (ad9.add (kx * 5)) = some (.slice A0 x.f0.length c0)) := ⟨by rw [ADA.out]; exact xa 0 _ rfl⟩
      have CA1 : Aside0 (w7.cell? ⟨(ad9.add (kx * 5)).block, (ad9.add (kx * 5)).off + 1, none⟩ = some (.int .i64 x.f1)) := ⟨by rw [ADA.out]; exact xa 1 _ rfl⟩
      have CA2 : Aside0 (w7.cell? ⟨(ad9.add (kx * 5)).block, (ad9.add (kx * 5)).off + 2, none⟩ = some (.slice A2 x.f2.length c2)) := ⟨by rw [ADA.out]; exact xa 2 _ rfl⟩
      have CA3 : Aside0 (w7.cell? ⟨(ad9.add (kx * 5)).block, (ad9.add (kx * 5)).off + 3, none⟩ = some (.slice A3 x.f3.length c3)) := ⟨by rw [ADA.out]; exact xa 3 _ rfl⟩
      have CA4 : Aside0 (w7.cell? ⟨(ad9.add (kx * 5)).block, (ad9.add (kx * 5)).off + 4, none⟩ = some (.slice A4 x.f4.length c4)) := ⟨by rw [ADA.out]; exact xa 4 _ rfl⟩
      have CB0 : Aside0 (w7.cell? (ad9.add (kb * 5)) = some (.slice B0 y.f0.length d0)) := ⟨by rw [ADB.out]; exact xb 0 _ rfl⟩
      have CB1 : Aside0 (w7.cell? ⟨(ad9.add (kb * 5)).block, (ad9.add (kb * 5)).off + 1, none⟩ = some (.int .i64 y.f1)) := ⟨by rw [ADB.out]; exact xb 1 _ rfl⟩
      have CB2 : Aside0 (w7.cell? ⟨(ad9.add (kb * 5)).block, (ad9.add (kb * 5)).off + 2, none⟩ = some (.slice B2 y.f2.length d2)) := ⟨by rw [ADB.out]; exact xb 2 _ rfl⟩
      have CB3 : Aside0 (w7.cell? ⟨(ad9.add (kb * 5)).block, (ad9.add (kb * 5)).off + 3, none⟩ = some (.slice B3 y.f3.length d3)) := ⟨by rw [ADB.out]; exact xb 3 _ rfl⟩
      have CB4 : Aside0 (w7.cell? ⟨(ad9.add (kb * 5)).block, (ad9.add (kb * 5)).off + 4, none⟩ = some (.slice B4 y.f4.length d4)) := ⟨by rw [ADB.out]; exact xb 4 _ rfl⟩
      have FA := am fa
      have FB := am fb
      have OA := am oa
      have OB := am ob
      have HX := am hx
      have HY := am hy
      have HCM : Aside0 (∀ W : World, Kd.N k41 41 W w5.heap.size (fun k_ => True ∧ k_ < w6.heap.size) (.slice (some ⟨g9, 0, none⟩) l.length c9) ((l.set kx y).set kb x) → Calls Try.prog 20 #[.slice (some ad9) l.length c9] W (fun e w' => e = .returned (.bool false) ∧ Below W.heap.size W w')) := ⟨fun W hN => by
        have hl : ((l.set kx y).set kb x).length = l.length := by rw [List.length_set, List.length_set]
        have hf := Q4.out
        unfold swpL at hf
        have e1 : rd_T41 l (kb : Int) = y := hy.symm
        have e2 : rd_T41 l (kx : Int) = x := hx.symm
        rw [e1, e2] at hf
        have hr := (Kd.N_reads' hN).2
        rw [HAD9.out, ← hl]
        exact runs_Sorted.calls k _ c9 _ false W hr.2 (by rw [hl]; exact hr.1) hf⟩
      have HCO : Aside0 (∀ W : World, Kd.N k41 41 W w5.heap.size (fun k_ => some k_ ≠ (Value.slice (some ad9) l.length c9).ownBlock) (.slice (some ⟨g10, 0, none⟩) l.length c10) (l.set (kb : Int).toNat x) → Calls Try.prog 20 #[.slice (some ad10) l.length c10] W (fun e w' => e = .returned (.bool false) ∧ Below W.heap.size W w')) := ⟨fun W hN => by
        have hl : (l.set (kb : Int).toNat x).length = l.length := by rw [List.length_set]
        have hf := Q5.out
        have e2 : rd_T41 l (kx : Int) = x := hx.symm
        rw [e2] at hf
        have hr := (Kd.N_reads' hN).2
        rw [HAD10.out, ← hl]
        exact runs_Sorted.calls k _ c10 _ false W hr.2 (by rw [hl]; exact hr.1) hf⟩
      clear fa fb oa ob xa xb hx hy la lb
      have hwk := HWK.out
      go_wp2
      refine start_ (n := 18) (S := fun w' => w'.cell? (ad9.add (kx * 5)) = some (.slice A0 x.f0.length c0) ∧ w'.cell? ⟨(ad9.add (kx * 5)).block, (ad9.add (kx * 5)).off + 1, none⟩ = some (.int .i64 x.f1) ∧ w'.cell? ⟨(ad9.add (kx * 5)).block, (ad9.add (kx * 5)).off + 2, none⟩ = some (.slice A2 x.f2.length c2) ∧ w'.cell? ⟨(ad9.add (kx * 5)).block, (ad9.add (kx * 5)).off + 3, none⟩ = some (.slice A3 x.f3.length c3) ∧ w'.cell? ⟨(ad9.add (kx * 5)).block, (ad9.add (kx * 5)).off + 4, none⟩ = some (.slice A4 x.f4.length c4) ∧ w'.cell? (ad9.add (kb * 5)) = some (.slice B0 y.f0.length d0) ∧ w'.cell? ⟨(ad9.add (kb * 5)).block, (ad9.add (kb * 5)).off + 1, none⟩ = some (.int .i64 y.f1) ∧ w'.cell? ⟨(ad9.add (kb * 5)).block, (ad9.add (kb * 5)).off + 2, none⟩ = some (.slice B2 y.f2.length d2) ∧ w'.cell? ⟨(ad9.add (kb * 5)).block, (ad9.add (kb * 5)).off + 3, none⟩ = some (.slice B3 y.f3.length d3) ∧ w'.cell? ⟨(ad9.add (kb * 5)).block, (ad9.add (kb * 5)).off + 4, none⟩ = some (.slice B4 y.f4.length d4)) (ds := [15, 17]) (bb 18 0) (by kernel_rfl) rfl rfl ⟨CA0.out, CA1.out, CA2.out, CA3.out, CA4.out, CB0.out, CB1.out, CB2.out, CB3.out, CB4.out⟩ (fun hHeld => ?_)
      refine with_tabW hypercubelaw5_RunsSorted.tab16 hypercubelaw5_RunsSorted.bits16 (fun HT_ HW_ => ?_)
      have HN2' := Kd.N_below HMM.out (below_drew (Below.refl _ _))
      have HS2' := below_step HS57.out (below_drew (Below.refl w7.heap.size w7))
      have HO2' := Kd.N_below HOO.out (below_drew (Below.refl _ _))
      have FA2 := Kd.FK_below FA.out (below_drew (Below.refl _ _))
      have FB2 := Kd.FK_below FB.out (below_drew (Below.refl _ _))
      refine pu (i := 0) (N := some 54) (bb 18 1) HT_ ?_
      refine pu (i := 1) (N := some 55) (bb 18 3) HT_ ?_
      refine pu (i := 2) (N := some 56) (bb 18 7) HT_ ?_
      refine pu (i := 3) (N := some 57) (bb 18 15) HT_ ?_
      refine pu (i := 4) (N := some 58) (bb 18 31) HT_ ?_
      refine pu (i := 5) (N := some 59) (bb 18 63) HT_ ?_
      refine pu (i := 6) (N := some 60) (bb 18 127) HT_ ?_
      refine pu (i := 7) (N := some 61) (bb 18 255) HT_ ?_
      refine pu (i := 8) (N := some 62) (bb 18 511) HT_ ?_
      refine pu (i := 10) (N := some 64) (bb 18 1535) HT_ ?_
      refine pu (i := 11) (N := some 65) (bb 18 3583) HT_ ?_
      refine pu (i := 12) (N := some 66) (bb 18 7679) HT_ ?_
      refine tk (i := 9) (N := some 63) (bb 18 8191) HT_ HW_ hHeld ?_
      refine tk (i := 13) (N := some 67) (bb 18 16383) HT_ HW_ hHeld ?_
      refine pu (i := 14) (N := some 68) (bb 18 32767) HT_ ?_
      refine last_ (i := 15) (N := none) (bb 18 65535) rfl rfl (one_of HT_.out (by kernel_rfl)) (by decide) (fun K hK => ?_)
      refine skip_ (w1 := w7.drew.setCells g9 (kx * 5) [.slice B0 y.f0.length d0, .int .i64 y.f1, .slice B2 y.f2.length d2, .slice B3 y.f3.length d3, .slice B4 y.f4.length d4]) rfl rfl (put_run (t := 41) (p := .tmp 68) (x := .tmp 63) rfl HN2' kx HAX.out rfl (congrArg (fun q => Value.pointer (some q)) ADA.out) rfl rfl (by rfl) OB.out) ?_
      obtain ⟨HN3, HS3, HG3⟩ := N_put HN2' kx HAX.out (seg := [.slice B0 y.f0.length d0, .int .i64 y.f1, .slice B2 y.f2.length d2, .slice B3 y.f3.length d3, .slice B4 y.f4.length d4]) rfl FB2 (fun k hk => hk) HS2'
      have FA3 := Kd.FK_step FA2 (fun k hk hlt => HG3.block k hlt (fun e => hk.2 (Option.some.inj e)))
      have HO3 := Kd.N_grown HO2' HG3 HOG.out
      refine hK.out _ _ ?_
      clear hK K
      refine pu (i := 16) (N := some 69) (bb 18 131071) HT_ ?_
      refine last_ (i := 17) (N := none) (bb 18 262143) rfl rfl (one_of HT_.out (by kernel_rfl)) (by decide) (fun K hK => ?_)
      refine skip_ (w1 := (w7.drew.setCells g9 (kx * 5) [.slice B0 y.f0.length d0, .int .i64 y.f1, .slice B2 y.f2.length d2, .slice B3 y.f3.length d3, .slice B4 y.f4.length d4]).setCells g9 (kb * 5) [.slice A0 x.f0.length c0, .int .i64 x.f1, .slice A2 x.f2.length c2, .slice A3 x.f3.length c3, .slice A4 x.f4.length c4]) rfl rfl (put_run (t := 41) (p := .tmp 69) (x := .tmp 67) rfl HN3 kb HKN.out rfl (congrArg (fun q => Value.pointer (some q)) ADB.out) rfl rfl (by rfl) OA.out) ?_
      obtain ⟨HN5, HS5, HG5⟩ := N_put HN3 kb HKN.out (seg := [.slice A0 x.f0.length c0, .int .i64 x.f1, .slice A2 x.f2.length c2, .slice A3 x.f3.length c3, .slice A4 x.f4.length c4]) rfl FA3 (fun k hk => hk) HS3
      have HO5 := Kd.N_grown HO3 HG5 HOG.out
      refine hK.out _ _ ?_
      clear hK K
      refine done_ (done_of HT_.out (by kernel_rfl)) ?_
      have HO5 : Kd.N k41 41 ((w7.drew.setCells g9 (kx * 5) [.slice B0 y.f0.length d0, .int .i64 y.f1, .slice B2 y.f2.length d2, .slice B3 y.f3.length d3, .slice B4 y.f4.length d4]).setCells g9 (kb * 5) [.slice A0 x.f0.length c0, .int .i64 x.f1, .slice A2 x.f2.length c2, .slice A3 x.f3.length c3, .slice A4 x.f4.length c4]) w6.heap.size (fun k_ => some k_ ≠ (Value.slice (some ad9) l.length c9).ownBlock) (.slice (some ⟨g10, 0, none⟩) l.length c10) l := HO5
      have HN5 : Kd.N k41 41 ((w7.drew.setCells g9 (kx * 5) [.slice B0 y.f0.length d0, .int .i64 y.f1, .slice B2 y.f2.length d2, .slice B3 y.f3.length d3, .slice B4 y.f4.length d4]).setCells g9 (kb * 5) [.slice A0 x.f0.length c0, .int .i64 x.f1, .slice A2 x.f2.length c2, .slice A3 x.f3.length c3, .slice A4 x.f4.length c4]) w5.heap.size (fun k_ => True ∧ k_ < w6.heap.size) (.slice (some ⟨g9, 0, none⟩) l.length c9) ((l.set kx y).set kb x) := HN5
      have HS5 : Below w5.heap.size w5 ((w7.drew.setCells g9 (kx * 5) [.slice B0 y.f0.length d0, .int .i64 y.f1, .slice B2 y.f2.length d2, .slice B3 y.f3.length d3, .slice B4 y.f4.length d4]).setCells g9 (kb * 5) [.slice A0 x.f0.length c0, .int .i64 x.f1, .slice A2 x.f2.length c2, .slice A3 x.f3.length c3, .slice A4 x.f4.length c4]) := HS5
      clear HG3 HG5 HO3 HN3 HS3 FA3
      generalize (w7.drew.setCells g9 (kx * 5) [.slice B0 y.f0.length d0, .int .i64 y.f1, .slice B2 y.f2.length d2, .slice B3 y.f3.length d3, .slice B4 y.f4.length d4]).setCells g9 (kb * 5) [.slice A0 x.f0.length c0, .int .i64 x.f1, .slice A2 x.f2.length c2, .slice A3 x.f3.length c3, .slice A4 x.f4.length c4] = w8 at *
      obtain ⟨cc, lc, oc, fc, xc⟩ := N_at HO5 z41 kx HAX.out
      obtain ⟨ce, le, oe, fe, xe⟩ := N_at HO5 z41 kb HKN.out
      obtain ⟨D0, f0, D2, f2, D3, f3, D4, f4, ec, _⟩ := k41_openF fc
      subst ec
      rw [← HX.out] at fc xc oc
      have AD1 : Aside0 (ad10.add (kx * 5) = ⟨g10, kx * 5, none⟩) := ⟨by rw [HAD10.out, Addr.add_lit, Nat.zero_add]⟩
      have AD2 : Aside0 (ad10.add (kb * 5) = ⟨g10, kb * 5, none⟩) := ⟨by rw [HAD10.out, Addr.add_lit, Nat.zero_add]⟩
      have z0 : w8.cell? (ad10.add (kx * 5)) = some (.slice D0 x.f0.length f0) := by rw [AD1.out]; exact xc 0 _ rfl
      have z1 : w8.cell? ⟨(ad10.add (kx * 5)).block, (ad10.add (kx * 5)).off + 1, none⟩ = some (.int .i64 x.f1) := by rw [AD1.out]; exact xc 1 _ rfl
      have z2 : w8.cell? ⟨(ad10.add (kx * 5)).block, (ad10.add (kx * 5)).off + 2, none⟩ = some (.slice D2 x.f2.length f2) := by rw [AD1.out]; exact xc 2 _ rfl
      have z3 : w8.cell? ⟨(ad10.add (kx * 5)).block, (ad10.add (kx * 5)).off + 3, none⟩ = some (.slice D3 x.f3.length f3) := by rw [AD1.out]; exact xc 3 _ rfl
      have z4 : w8.cell? ⟨(ad10.add (kx * 5)).block, (ad10.add (kx * 5)).off + 4, none⟩ = some (.slice D4 x.f4.length f4) := by rw [AD1.out]; exact xc 4 _ rfl
      have HFC := am fc
      have HOC := am oc
      have HLE := am le
      have HXE := am xe
      have HOO5 := am (Kd.N_lower HO5 HB56.out.size)
      have HNN5 := am HN5
      have HSS5 := am HS5
      clear fc oc lc xc le oe fe xe HO5 HN5 HS5 HO2' HN2' HS2' FA2 FB2
      go_wp2_with (first
      | ((with_reducible refine gate_ (.store 41 (.tmp 77) (.tmp 76)) rfl ?_); refine Kd.N_store k41 (w0 := w5) w5.heap.size rfl rfl 41 (.tmp 77) (.tmp 76) rfl 41 (kb : Int) 0 l x (.agg #[.slice D0 x.f0.length f0, .int .i64 x.f1, .slice D2 x.f2.length f2, .slice D3 x.f3.length f3, .slice D4 x.f4.length f4]) [.slice D0 x.f0.length f0, .int .i64 x.f1, .slice D2 x.f2.length f2, .slice D3 x.f3.length f3, .slice D4 x.f4.length f4] ce (fun k_ => some k_ ≠ (Value.slice (some ad9) l.length c9).ownBlock) (fun k_ => some k_ ≠ (Value.slice (some ad9) l.length c9).ownBlock ∧ k_ ≠ g10) (congrArg (fun q => Value.pointer (some q)) AD2.out) rfl rfl rfl (by rfl) HOC.out HOO5.out HQB.out.1 HQB.out.2 HLE.out HXE.out (Nat.le_refl 5) (seg_all HLE.out HFC.out) (fun _ hk => hk) HSS5.out ?_; intro w9 ho hb hg; have HO9 := am ho; have HM9 := am (Kd.N_grown HNN5.out hg HNG.out); have HB59 := am hb; clear ho hb hg)
      | (go_at_call 20
         (with_reducible refine (HCM.out w9 HM9.out).mono ?_)
         rintro e w10 ⟨rfl, hb⟩
         have HO10 := am (Kd.N_below HO9.out hb)
         have HB10 := am (below_step HB59.out hb)
         clear hb)
      | (go_at_call 20
         (with_reducible refine (HCO.out w10 HO10.out).mono ?_)
         rintro e w11 ⟨rfl, hb⟩
         have HB11 := am (below_step HB10.out hb)
         clear hb))
      go_ret
      exact ⟨rfl, below_step HB5.out HB11.out⟩
theorem hypercubelaw5_RunsSorted.walk (P : hypercubelaw5_RunsSorted.Pure) (a0 : Option Addr) (len0 cap0 : Nat) (z0 : List Int) (a1 : Int) (w : World) (w0 : (a0 = none ∧ len0 = 0 ∧ cap0 = 0 ∧ z0 = []) ∨ ∃ x, a0 = some x ∧ len0 ≤ cap0 ∧ cap0 ≤ maxLen ∧ z0.length = cap0 ∧ (∀ i, i < z0.length → w.cell? (x.add i) = some (.int .i64 (z0.getD i 0))) ∧ ∀ n ∈ z0, (Lit.int .i64 n).wf = true) (y0 : len0 * 8 ≤ 140737488351232) (w1 : (Lit.int .i64 a1).wf = true) :
  Calls Try.prog 7 #[.slice a0 len0 cap0, .int .i64 a1] w fun e w' => e = .returned (.bool true) ∧ Below w.heap.size w w' := by
 obtain ⟨l0, rfl, hr0, hm0, hw0, hc0⟩ := ReadsInt.ofRowC w0
 obtain ⟨k, h1, h2, h3, h4, h5⟩ := P l0 a1 hm0 y0 hw0 w1
 exact hypercubelaw5_RunsSorted.calls k _ _ l0 a1 w (Kd.C_of_reads (d := (0 : Int)) (h1 := fun _ => rfl) hr0) hc0 h1 h2 h3 h4 h5
end Go.Proofs.Ytmnepkbmcnpjlaa.Q
