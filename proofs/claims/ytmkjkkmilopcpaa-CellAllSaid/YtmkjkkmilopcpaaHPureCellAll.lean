/- CellAll, in plain Lean: of any rows, any set, what they come to, one by one, joined, narrowed, grouped, is the document's; for every input. -/
import Derived.ArgAppend
import Derived.Below
import Derived.BigQuiet
import Derived.Deep.AppendLies
import Derived.Deep.CutBlock
import Derived.Deep.DeepCutAuto
import Derived.Deep.Draws
import Derived.Deep.LoopGhost
import Derived.Deep.OwnRows
import Derived.Deep.QuietTactic
import Derived.Deep.RegionHeld3
import Derived.KernelRfl
import Derived.Laws.BitsLemmas
import Derived.Laws.BytesArg
import Derived.Laws.EntriesVeiled
import Derived.Laws.Externs
import Derived.Laws.IdiomCopy
import Derived.Laws.MakeOwn
import Derived.Laws.OwnMore
import Derived.Laws.Rows
import Derived.Laws.Slices
import Derived.Lib.AppendStr
import Derived.Lib.AppendZeros
import Derived.Lib.AppendZerosOnto
import Derived.Lib.ConvBytes
import Derived.Lib.JoinLaws
import Derived.Lib.Overlaps
import Derived.Lib.SliceRun
import Derived.Lib.Walk
import Derived.LoopIn
import Derived.LoopNIn
import Derived.Maps.AppendAt
import Derived.OrdersHeld
import Derived.OrdersIn
import Derived.OwnWalk
import Derived.OwnWalkIn
import Derived.RangeFuncBound
import Derived.RangeFuncBox
import Derived.RangeFuncCalls
import Derived.RangeFuncLeaves
import Derived.RangeFuncNested
import Derived.RangeFuncOwn
import Derived.RowKit
import Derived.RowKit3
import Derived.Shelf.Abstract
import Derived.Shelf.RegionOpen
import Derived.Shelf.RegionOpenPlain
import Derived.Tactics
import Derived.TacticsInMore
import Derived.Test.YtmkjkkmilopcpaaProg
import Derived.WalkKit
import Derived.WalkSpells
import Derived.WideLaws
import Derived.Test.YtmkjkkmilopcpaaPCellAll1
import Derived.Test.YtmkjkkmilopcpaaPCellAll3
import Derived.Test.YtmkjkkmilopcpaaPCellAll4
import Derived.Test.YtmkjkkmilopcpaaPCellAll5
import Derived.Test.YtmkjkkmilopcpaaPCellAll6
import Derived.Test.YtmkjkkmilopcpaaPCellAll7
import Derived.Test.YtmkjkkmilopcpaaPCellAll8
import Derived.Test.YtmkjkkmilopcpaaPCellAll9
import Derived.Test.YtmkjkkmilopcpaaPCellAll10
import Derived.Test.YtmkjkkmilopcpaaPCellAll11
import Derived.Test.YtmkjkkmilopcpaaPCellAll12
import Derived.Test.YtmkjkkmilopcpaaPCellAll13
import Derived.Test.YtmkjkkmilopcpaaPCellAll14
import Derived.Test.YtmkjkkmilopcpaaPCellAll15
namespace Go.Proofs.Ytmkjkkmilopcpaa.Pure
open Go.RowKit Go.Proofs.Ytmkjkkmilopcpaa.Q Go.Proofs.YtmkjkkmilopcpaaW.PrintWords Go.Proofs.YtmkjkkmilopcpaaW.PrintLast Go.Proofs.YtmkjkkmilopcpaaW.PrintMore
theorem set_bd {cards : List Int} {meas : Int} (hc : checkP cards meas = true) (a : Int) {s : Int} (h : hypercubelaw2_Set.f cards meas a = some s) : s < ((2 ^ cards.length : Nat) : Int) := by
  obtain ⟨h1, h2, _⟩ := check_open hc
  have go : ∀ n : Int, 0 < n → n ≤ 16 → ((hypercubelaw2_within.f a n).bind fun t => some t) = some s → s < n := fun n h0 h16 e => by
    rw [within2_eq a n h0 (by omega), Option.bind_some] at e
    have e2 := Option.some.inj e
    have := Int.emod_lt_of_pos a h0
    omega
  unfold hypercubelaw2_Set.f at h
  have hl : cards.length = 1 ∨ cards.length = 2 ∨ cards.length = 3 ∨ cards.length = 4 := by omega
  rcases hl with e | e | e | e
  · rw [e, if_pos (by decide), show shl .i64 1 (IntKind.u64.wrap ((1 : Nat) : Int)) = 2 by decide] at h; rw [e]; exact go 2 (by omega) (by omega) h
  · rw [e, if_pos (by decide), show shl .i64 1 (IntKind.u64.wrap ((2 : Nat) : Int)) = 4 by decide] at h; rw [e]; exact go 4 (by omega) (by omega) h
  · rw [e, if_pos (by decide), show shl .i64 1 (IntKind.u64.wrap ((3 : Nat) : Int)) = 8 by decide] at h; rw [e]; exact go 8 (by omega) (by omega) h
  · rw [e, if_pos (by decide), show shl .i64 1 (IntKind.u64.wrap ((4 : Nat) : Int)) = 16 by decide] at h; rw [e]; exact go 16 (by omega) (by omega) h
theorem high_fin : ∀ s : Fin 16, ∀ L j : Fin 5, s.1 < 2 ^ L.1 → L.1 ≤ j.1 → bitOn (s.1 : Int) j.1 = false := by decide +kernel
theorem high_bits {s : Int} {L : Nat} (h0 : 0 ≤ s ∧ s < 16) (hL : L ≤ 4) (h : s < ((2 ^ L : Nat) : Int)) (j : Nat) (hj : L ≤ j) (hj4 : j < 4) : bitR s j = false := by
  rw [bitR_on s j (by omega)]
  have hh := high_fin ⟨s.toNat, by omega⟩ ⟨L, by omega⟩ ⟨j, by omega⟩ (by show s.toNat < 2 ^ L; omega) hj
  dsimp only at hh
  rw [show ((s.toNat : Nat) : Int) = s by omega] at hh
  exact hh
theorem u64_lt (i : Nat) (h : i < 10) : IntKind.u64.wrap (i : Int) = (i : Int) := by
  have e : IntKind.u64.wrap (i : Int) = (i : Int) % 18446744073709551616 := rfl
  rw [e]; omega
theorem ref_nar_l0 {a b : Int} (hb : ∀ i, i < 4 → bitR b i = true → bitR a i = true) (K : List Int) (f1 : Int) (f2 f3 f4 : List Int) (d : Nat) : ∀ (i : Nat) (l pre acc : List Int), 4 - i = d → i ≤ 4 → K = pre ++ keysR a i l → (∀ j, i + l.length ≤ j → j < 4 → bitR a j = false) → i + l.length ≤ 4 → acc.length ≤ i → pre.length ≤ i →
    Ev (fun k => hypercuberef2_Narrow.l0 k a b (pre.length : Int) (i : Int) K f1 f2 f3 f4 acc f1 f2 f3 f4) (acc ++ keysR b i l, f1, f2, f3, f4) := by
  induction d with
  | zero =>
    intro i l pre acc hd hi hK hz hl ha hp
    have e : i = 4 := by omega
    subst e
    have e2 : l = [] := List.eq_nil_of_length_eq_zero (by omega)
    subst e2
    refine Ev.step (f := fun _ => some (acc, f1, f2, f3, f4)) (fun k => by simp only [hypercuberef2_Narrow.l0]; rw [if_neg (by omega)]) (by simp only [keysR, List.append_nil]; exact Ev.now _)
  | succ d ih =>
    intro i l pre acc hd hi hK hz hl ha hp
    have hi4 : i < 4 := by omega
    have hu : IntKind.u64.wrap ((i : Int) + 1) = ((i + 1 : Nat) : Int) := by
      have := u64_lt (i + 1) (by omega)
      rw [← this]; rfl
    have hA : bitR a i = true ↔ Go.bits .and .i64 (shr .i64 a (i : Int)) 1 = 1 := by unfold bitR; rw [u64_lt i (by omega)]; simp
    have hB : bitR b i = true ↔ Go.bits .and .i64 (shr .i64 b (i : Int)) 1 = 1 := by unfold bitR; rw [u64_lt i (by omega)]; simp
    rcases l with _ | ⟨x, l⟩
    · have h1 : ¬ Go.bits .and .i64 (shr .i64 a (i : Int)) 1 = 1 := fun h => by have := hz i (by simp) hi4; rw [hA.2 h] at this; cases this
      have h2 := ih (i + 1) [] pre acc (by omega) (by omega) (by rw [hK]; rfl) (fun j hj hj4 => hz j (by simp at hj ⊢; omega) hj4) (by simp; omega) (by omega) (by omega)
      simp only [keysR] at h2 ⊢
      exact Ev.step (fun k => by simp only [hypercuberef2_Narrow.l0]; rw [if_pos (by omega), if_pos (by omega), if_neg h1, hu]) h2
    · simp only [List.length_cons] at hl hz
      by_cases ca : bitR a i = true
      · have hK2 : K = (pre ++ [x]) ++ keysR a (i + 1) l := by rw [hK]; simp [keysR, ca]
        have hw : wrap64 ((pre.length : Int) + 1) = ((pre ++ [x]).length : Int) := by rw [List.length_append]; simp only [List.length_cons, List.length_nil]; unfold wrap64; omega
        have hg : rd K (pre.length : Int) = x := by rw [hK2]; simp [rd]
        have hlt : (pre.length : Int) < (K.length : Int) := by rw [hK2]; simp; omega
        by_cases cb : bitR b i = true
        · have h2 := ih (i + 1) l (pre ++ [x]) (acc ++ [x]) (by omega) (by omega) hK2 (fun j hj hj4 => hz j (by omega) hj4) (by omega) (by simp; omega) (by simp; omega)
          have e : acc ++ keysR b i (x :: l) = (acc ++ [x]) ++ keysR b (i + 1) l := by simp [keysR, cb]
          rw [e]
          exact Ev.step (fun k => by simp only [hypercuberef2_Narrow.l0]; rw [if_pos (by omega), if_pos (by omega), if_pos (hA.1 ca), if_pos (hB.1 cb), if_pos (by omega), if_pos hlt, if_pos (by omega), hg, hw, hu]) h2
        · have h2 := ih (i + 1) l (pre ++ [x]) acc (by omega) (by omega) hK2 (fun j hj hj4 => hz j (by omega) hj4) (by omega) (by omega) (by simp; omega)
          have e : acc ++ keysR b i (x :: l) = acc ++ keysR b (i + 1) l := by simp [keysR, cb]
          rw [e]
          exact Ev.step (fun k => by simp only [hypercuberef2_Narrow.l0]; rw [if_pos (by omega), if_pos (by omega), if_pos (hA.1 ca), if_neg (fun h => cb (hB.2 h)), hw, hu]) h2
      · have cb : ¬ bitR b i = true := fun h => ca (hb i hi4 h)
        have h2 := ih (i + 1) l pre acc (by omega) (by omega) (by rw [hK]; simp [keysR, ca]) (fun j hj hj4 => hz j (by omega) hj4) (by omega) (by omega) (by omega)
        have e : acc ++ keysR b i (x :: l) = acc ++ keysR b (i + 1) l := by simp [keysR, cb]
        rw [e]
        exact Ev.step (fun k => by simp only [hypercuberef2_Narrow.l0]; rw [if_pos (by omega), if_pos (by omega), if_neg (fun h => ca (hA.2 h)), hu]) h2
theorem ref_nar_ev {n : Nat} (hn : n ≤ 100) {r : S45} (hr : RegR n r) {a b : Int} (hb : ∀ i, i < 4 → bitOn b i = true → bitOn a i = true) (hz : ∀ j, r.f0.length ≤ j → j < 4 → bitR a j = false) :
    Ev (fun k => hypercuberef2_Narrow.f k (ofR a r).f0 (ofR a r).f1 (ofR a r).f2 (ofR a r).f3 (ofR a r).f4 a b) (tupC (ofR b r)) := by
  have hsm := (ofR_reg hr a).small hn
  have h := ref_nar_l0 (fun i hi h => by rw [bitR_on _ _ (by omega)] at h ⊢; exact hb i hi h) (ofR a r).f0 (ofR a r).f1 (ofR a r).f2 (ofR a r).f3 (ofR a r).f4 4 0 r.f0 [] [] rfl (by omega) rfl (fun j hj hj4 => hz j (by omega) hj4) (by have := hr.1; omega) (by simp) (by simp)
  exact Ev.congr (fun k => by unfold hypercuberef2_Narrow.f; rw [ref_copy_eq hsm]; rfl) h
theorem CellAll : hypercubelaw2_CellAll.Pure := by
  intro a0 l1 a2 l3 a4 a5 _ _ _ _ _ _ _ _ _ _
  obtain ⟨cards, meas, rows, s, n, hf, hs, hc, hn, hl, hr, hs0, hro⟩ := facts_set a0 l1 a2 l3 a4
  have hlen := makeL_length s rows
  have hreg := makeL_reg hr s
  have hq : 0 ≤ a5 % 16 ∧ a5 % 16 < 16 := ⟨by omega, by omega⟩
  have hb := bits_sub hs0 hq
  have hgl := putAll_length (makeL s rows) []
  rw [← groupL_all, List.length_nil] at hgl
  have hsm := (regL_group hreg).small hn
  have hcl := (check_open hc).2.1
  have hbd := set_bd hc a4 hs
  obtain ⟨K1, e1⟩ := hf
  obtain ⟨K3, e3⟩ := ev_all (fun i k => AllAt k (rd_T45 rows (i : Int)) (rd_T30 (makeL s rows) (i : Int)) s (Go.bits .and .i64 s (a5 % 16))) rows.length (fun i hi => by
    have hri := hr _ (List.getElem_mem hi)
    have hx : rd_T30 (makeL s rows) (i : Int) = ofR s rows[i] := by
      rw [rdC_get (by omega)]
      simp [makeL]
    rw [hx, rdR_get hi]
    have hsx := (ofR_reg hri s).small hn
    have hkl : rows[i].f0.length = cards.length := (right_open (hro _ (List.getElem_mem hi)).1).1
    obtain ⟨K, hK⟩ := equal_true hsx
    obtain ⟨K', hK'⟩ := equal_true ((ofR_reg hri (Go.bits .and .i64 s (a5 % 16))).small hn)
    obtain ⟨K2, hK2⟩ := of_ev hn hri s
    obtain ⟨K3, hK3⟩ := ref_nar_ev hn hri hb (fun j hj hj4 => high_bits hs0 hcl hbd j (by omega) hj4)
    obtain ⟨K4, hK4⟩ := join_ev (ofR s rows[i]) (ofR s rows[i]) hsx
    obtain ⟨K5, hK5⟩ := ref_join_ev hn (ofR_reg hri s) (ofR_reg hri s)
    obtain ⟨K6, hK6⟩ := equal_true (joinC_small (b := ofR s rows[i]) hsx)
    refine ⟨K + K' + K2 + K3 + K4 + K5 + K6, fun k hk => ⟨ofR s rows[i], ofR (Go.bits .and .i64 s (a5 % 16)) rows[i], joinC (ofR s rows[i]) (ofR s rows[i]), of_eq hn hri s, hK2 k (by omega), hK k (by omega), ?_, hK3 k (by omega), hK' k (by omega), hK4 k (by omega), hK5 k (by omega), hK6 k (by omega)⟩⟩
    rw [nar_eq hsx, nar_of hb hri.1]; rfl)
  obtain ⟨K4, e4⟩ := group_ev (makeL s rows) (by omega) (hreg.small hn)
  obtain ⟨K5, e5⟩ := ref_group_ev hn hreg (by omega)
  obtain ⟨K6, e6⟩ := same_true (l := groupL (makeL s rows)) rfl (by omega) hsm
  obtain ⟨K7, e7⟩ := ref_facts_ev hn hr (by omega) s
  exact ⟨K1 + K3 + K4 + K5 + K6 + K7, cards, meas, rows, s, a5 % 16, makeL s rows, groupL (makeL s rows), e1 _ (by omega), hs, within2_eq a5 16 (by omega) (by omega), ⟨hlen, by omega⟩, e3 _ (by omega), e4 _ (by omega), e5 _ (by omega), e6 _ (by omega), e7 _ (by omega)⟩
end Go.Proofs.Ytmkjkkmilopcpaa.Pure
