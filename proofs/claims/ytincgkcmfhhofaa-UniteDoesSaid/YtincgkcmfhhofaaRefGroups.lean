/-
  THE WALK of quittanceref05.Sets.Groups: all groups, in new memory.
-/
import Derived.Test.YtincgkcmfhhofaaRefSame
set_option linter.unusedVariables false
set_option linter.unusedSimpArgs false
namespace Go.Proofs.Ytincgkcmfhhofaa
open Go.RowKit Go.Maps Go.ChangeShapes

theorem IntsIn.lt {p : Nat → Prop} {w : World} {v : Value} {zs : List Int} (h : IntsIn p w v zs) : IntsIn (fun k => p k ∧ k < w.heap.size) w v zs := by
  obtain ⟨a, cap, rfl, hm, hc⟩ := h
  refine ⟨a, cap, rfl, hm, fun h0 => ?_⟩
  obtain ⟨b, of, rfl, hp, hc⟩ := hc h0
  exact ⟨b, of, rfl, ⟨hp, World.block_lt_of_cell? w _ (hc 0 h0)⟩, hc⟩

set_option maxRecDepth 20000 in
set_option maxHeartbeats 2000000 in
theorem rgroups_any (p : Nat → Prop) (v : Value) (n : Nat) (L : Nat → Nat) (w : World) (h : RIs p w v n L) :
    Calls Try.prog 25 #[v] w fun e w' => (∃ v, e = .returned v ∧ GridIn (fun k => w.heap.size ≤ k) w' v (groups n L)) ∧ Only NoB w w' := by
  obtain ⟨hn, ht, s, cap, rfl, hc⟩ := h
  obtain ⟨i0, hi, hz0, hz1, hz2⟩ := info_parts Try.info3
  obtain ⟨j0, hj, hjz, hj1, hj2⟩ := info_parts Try.info28
  have HC := Lib.hid hc
  clear hc
  go_enter Try.func25, Try.ntmps25
  go_wp2_with fail
  have ob : Only NoB w (w.alloc (.cells #[.slice s n cap] 45)) := (Only.refl _ _).alloc _
  have hb := heap_alloc_new w (.cells #[.slice s n cap] 45)
  have zb : w.heap.size + 1 = (w.alloc (.cells #[.slice s n cap] 45)).heap.size := by simp
  generalize World.alloc w _ = W at *
  have bx : ∀ w', Only NoB W w' → w'.cell? ⟨w.heap.size, 0, none⟩ = some (.slice s n cap) := fun w' oo => Only.cell oo ((cell_in _ _ _ _ _ _ hb).trans rfl) (fun f => f)
  have BX := Lib.hid bx
  clear bx hb
  go_loopw [3, 4] (fun out s wr => ∃ (j : Nat) (vals : List Value), j ≤ n ∧ s = .int .i64 j ∧ GridOwn (w.heap.size + 1) wr out vals (groupsTo n L j) ∧ Only NoB W wr)
    (fun _ s _ => n - (intOf s).toNat)
  case atStart => exact ⟨0, [], Nat.zero_le _, rfl, GridOwn.nil _ _, Only.refl _ _⟩
  case round =>
    obtain ⟨j, vals, hjn, rfl, hg, oo⟩ := hrel
    have bx := BX.out _ oo
    by_cases ltj : j < n
    · have ltji : (j : Int) < n := by omega
      obtain ⟨b, o, rfl, hp, hc⟩ := HC.out (by omega)
      have ej := (ob.trans oo).cell (hc j ltj) (fun f => f)
      by_cases eL : L j = j
      · have eL2 : (((L j : Nat) : Int) != (j : Int)) = false := by simp [eL]
        have EL := Lib.hid eL
        rw [eL] at ej
        clear eL eL2 hc
        obtain ⟨wo, rfl⟩ : ∃ wo : World, wo = wr := ⟨_, rfl⟩
        go_wp2_with fail
        go_loopw [5, 6] (fun l s wr => ∃ (k : Nat), k ≤ n ∧ s = .int .i64 k ∧ wr.ownsInts (wo.heap.size + 1) 3 .i64 l (gat L j k) ∧ Only NoB wo wr)
          (fun _ s _ => n - (intOf s).toNat)
        case atStart => exact ⟨0, Nat.zero_le _, rfl, World.ownsInts_nil _ _ _ _, Only.refl _ _⟩
        case round =>
          obtain ⟨k, hk, rfl, hoi, o1⟩ := hrel
          have bx := BX.out _ (oo.trans o1)
          obtain ⟨b2, o2, hbo, hp, hc⟩ := HC.out (by omega)
          obtain ⟨rfl, rfl⟩ : b = b2 ∧ o = o2 := by cases hbo; exact ⟨rfl, rfl⟩
          have hn2 : n ≤ 1000 := hn
          by_cases ltk : k < n
          · have ltki : (k : Int) < n := by omega
            have ek := (ob.trans (oo.trans o1)).cell (hc k ltk) (fun f => f)
            have gl := gat_len L j k
            have s1 := o1.size
            clear hc hbo
            by_cases eq : L k = j
            · have eq2 : (((L k : Nat) : Int) == (j : Int)) = true := by simp [eq]
              have EQ := Lib.hid eq
              rw [eq] at ek
              clear eq eq2
              go_wp2_with (at_builtin; refine wpList_append_own_at _ rfl _ _ 28 rfl (wo.heap.size + 1) 3 i0 (.int .i64 0) 1 8 Try.underlying28 hi hz0 hz1 hz2 rfl (by decide) _ _ _ rfl (hoi.1.alloc _) ⟨wr.heap.size, 0, none⟩ 1 1 [.int .i64 k] rfl rfl (cell_one_new _ _ _) (ints_oneCell .i64 [(k : Int)]) (by unfold maxLen; omega) (by omega) (by simp; omega) ?_; intro v' w2 hown' hgrow hnil hloc)
              go_roundw
              case rel =>
                have g2 := gat_same L k
                rw [EQ.out] at g2
                exact ⟨k + 1, by omega, by go_num, by rw [g2]; exact hoi.appended hown' (WalkArith.wf_i64 (by omega)), (o1.alloc _).grown hgrow (fun q hq e => absurd (hoi.1.lt q e).1 (by omega))⟩
              case measure => simp [intOf]; omega
            · have eq2 : (((L k : Nat) : Int) == (j : Int)) = false := by simp; omega
              have EQ := Lib.hid eq
              generalize hlk : L k = lk at *
              have HLK := Lib.hid hlk
              clear eq hlk
              go_wp2_with fail
              go_roundw
              case rel => exact ⟨k + 1, by omega, by go_num, by rw [gat_other L j k (by rw [HLK.out]; exact EQ.out)]; exact hoi, o1⟩
              case measure => simp [intOf]; omega
          · obtain rfl : n = k := by omega
            have hg2 := hg.kept o1 (fun _ _ _ f => f)
            have hrow := hg2.1
            have zo := oo.size
            have s1 := o1.size
            have hvl : vals.length ≤ j := by rw [hg.2.1]; exact groupsTo_len _ _ _
            obtain ⟨la, lb, lc, rfl⟩ : ∃ a b c, u5 = .slice a b c := by
              rcases hoi.1.2 with ⟨rfl, _⟩ | ⟨g, cap, cur, rfl, _⟩
              · exact ⟨_, _, _, rfl⟩
              · exact ⟨_, _, _, rfl⟩
            clear hc hbo
            go_wp2_with (at_builtin; refine wpList_append_own_at _ rfl _ _ 23 rfl (w.heap.size + 1) 28 j0 (.slice none 0 0) 1 24 Try.underlying23 hj hjz hj1 hj2 rfl (by decide) _ _ _ rfl (hrow.alloc _) ⟨wr.heap.size, 0, none⟩ 1 1 [.slice la lb lc] rfl rfl (cell_one_new _ _ _) (by simp [Value.oneCell']) (by unfold maxLen; omega) (by omega) (by simp; omega) ?_; intro v' w2 hown' hgrow hnil hloc)
            go_roundw
            case rel =>
              have oa : Only NoB wr (wr.alloc (.cells #[.slice la lb lc] 28)) := (Only.refl _ _).alloc _
              have hx : IntsIn (fun k => w.heap.size + 1 ≤ k ∧ some k ≠ u3.ownBlock ∧ k < (wr.alloc (.cells #[.slice la lb lc] 28)).heap.size) (wr.alloc (.cells #[.slice la lb lc] 28)) (.slice la lb lc) (gat L j n) :=
                ((ints_of_owns hoi).kept oa (fun _ _ f => f)).lt.mono (fun b hb => ⟨by omega, fun e => by have := (hg.1.lt b e.symm).2; omega, hb.2⟩)
              have hgn := (hg2.kept oa (fun _ _ _ f => f)).snoc hx hown' hgrow (hloc.imp id (fun h => ⟨_, h, Nat.le_refl _⟩))
              exact ⟨j + 1, vals ++ [.slice la lb lc], by omega, by go_num, by rw [groupsTo_yes n L j EL.out]; exact hgn, ((oo.trans o1).alloc _).grown hgrow (fun q hq e => absurd (hg2.1.lt q e).1 (by omega))⟩
            case measure => simp [intOf]; omega
      · have eL2 : (((L j : Nat) : Int) != (j : Int)) = true := by simp; omega
        have EL := Lib.hid eL
        generalize hlj : L j = lj at *
        have HLJ := Lib.hid hlj
        clear eL hc hlj
        go_wp2_with fail
        go_roundw
        case rel => exact ⟨j + 1, vals, by omega, by go_num, by rw [groupsTo_no n L j (by rw [HLJ.out]; exact EL.out)]; exact hg, oo⟩
        case measure => simp [intOf]; omega
    · obtain rfl : n = j := by omega
      clear HC
      go_wp2_with fail
      go_ret
      exact ⟨⟨_, rfl, (hg.grid).mono (fun b hb => by show w.heap.size ≤ b; omega)⟩, ob.trans oo⟩
end Go.Proofs.Ytincgkcmfhhofaa
