/-
  THE WALK of the law UniteStars.
-/
import Derived.Test.YtincgkcmfhhofaaKnown
import Derived.Test.YtincgkcmfhhofaaStarMath
import Derived.Deep.CutRange
import Derived.Maps.AppendAt
set_option linter.unusedVariables false
set_option linter.unusedSimpArgs false
namespace Go.Proofs.Ytincgkcmfhhofaa
open Go.RowKit

theorem owns_at {w w' : World} {base : Nat} {e : TypeId} {q : IntKind} {S : Nat → Prop} {v : Value} {zs : List Int} (ho : w.ownsInts base e q v zs) (o : Only S w w') (hs : ∀ i, base ≤ i → i < w.heap.size → ¬ S i) : w'.ownsInts base e q v zs := by
  obtain ⟨⟨h1, h2⟩, h3⟩ := ho
  refine ⟨⟨h1, ?_⟩, h3⟩
  rcases h2 with h2 | ⟨g, cap, cur, rfl, hg, hh, rest⟩
  · exact .inl h2
  · exact .inr ⟨g, cap, cur, rfl, hg, by rw [o.block g (lt_of_heap hh) (hs g hg (lt_of_heap hh))]; exact hh, rest⟩

/-- two slices in two rows -/
def Apart (u v : Value) : Prop := ∀ g, u.ownBlock = some g → v.ownBlock ≠ some g
theorem Apart.symm {u v : Value} (h : Apart u v) : Apart v u := fun g hv hu => h g hu hv

/-- one of two slices grows by a number: the other stays -/
theorem grow_two {B : Nat} {W w3 : World} {u v v' : Value} {zu zv : List Int} {k : Nat} {X : Obj} (hk : k ≤ 1000) (hu : W.ownsInts B 3 .i64 u zu) (hv : W.ownsInts B 3 .i64 v zv) (hne : Apart u v)
    (hown' : w3.ownsRow B 3 1 v' (zu.length + 1) (zu.map (Value.int .i64) ++ [.int .i64 k])) (hgrow : (W.alloc X).grownBy w3 u.ownBlock)
    (hloc : v'.ownBlock = u.ownBlock ∨ v'.ownBlock = some (W.alloc X).heap.size) :
    w3.ownsInts B 3 .i64 v' (zu ++ [(k : Int)]) ∧ w3.ownsInts B 3 .i64 v zv ∧ Apart v' v ∧ Only (fun i => B ≤ i) W w3 := by
  refine ⟨hu.appended hown' (WalkArith.wf_i64 (by omega)), (hv.alloc X).kept hgrow ?_, ?_, ?_⟩
  · cases e : v.ownBlock with
    | none => exact .inl rfl
    | some g => exact .inr (fun q => hne g q.symm e)
  · intro g hg hvg
    have := (hv.1.lt g hvg).2
    rcases hloc with q | q
    · rw [q] at hg; exact hne g hg hvg
    · rw [q] at hg
      simp at hg
      omega
  · exact (((Only.refl _ W).alloc X).grown hgrow (fun q hq e => (hu.1.lt q e).1))

theorem owns_form {w : World} {base : Nat} {e : TypeId} {q : IntKind} {v : Value} {zs : List Int} (h : w.ownsInts base e q v zs) : ∃ a n c, v = .slice a n c := by
  rcases h.1.2 with ⟨rfl, _⟩ | ⟨g, cap, cur, rfl, _⟩
  · exact ⟨_, _, _, rfl⟩
  · exact ⟨_, _, _, rfl⟩

theorem lit_two (B : Nat) (w : World) (v1 v2 : Value) (z1 z2 : List Int) (h1 : IntsIn (fun k => B ≤ k) w v1 z1) (h2 : IntsIn (fun k => B ≤ k) w v2 z2) (hB : B ≤ w.heap.size) :
    GridIn (fun k => B ≤ k) (w.alloc (.cells #[v1, v2] 28)) (.slice (some ⟨w.heap.size, 0, none⟩) 2 2) [z1, z2] := by
  have o : Only NoB w (w.alloc (.cells #[v1, v2] 28)) := (Only.refl _ _).alloc _
  refine ⟨_, 2, rfl, by unfold maxLen; simp, fun _ => ⟨_, 0, rfl, hB, fun j hj => ?_⟩⟩
  have hj' : j < 2 := hj
  rw [Nat.zero_add, cell_in _ _ _ _ _ _ (heap_alloc_new w _)]
  match j, hj' with
  | 0, _ => exact ⟨_, rfl, h1.kept o (fun _ _ f => f)⟩
  | 1, _ => exact ⟨_, rfl, h2.kept o (fun _ _ f => f)⟩

set_option maxHeartbeats 2000000 in
theorem stars_walk (a : Option Addr) (len cap : Nat) (f : Nat → Int) (c : Int) (hc : 0 ≤ c ∧ c ≤ 255) (w : World) (h : BytesIn w a len f) :
    Calls Try.prog 4 #[.int .u8 c, .slice a len cap] w fun e w' => e = .returned (.bool true) ∧ Below w.heap.size w w' := by
  have hc0 := hc.1
  have hc1 := hc.2
  obtain ⟨hm, hf, hcl⟩ := h
  unfold maxLen at hm
  have HF := Lib.hid hf
  have HC := Lib.hid hcl
  clear hf hcl
  obtain ⟨i0, hi, hiz, hi1, hi2⟩ := info_parts Try.info3
  obtain ⟨t, ht⟩ : ∃ t : Nat, (t : Int) = c % 40 := ⟨(c % 40).toNat, by omega⟩
  have ht40 : t < 40 := by omega
  go_enter Try.func4, Try.ntmps4
  go_wp2_with fail
  rw [show (2 : Int) + c % 40 = ((2 + t : Nat) : Int) by omega]
  refine (new_any _ w).mono ?_
  rw [show clamp ((2 + t : Nat) : Int) = 2 + t by unfold clamp; omega]
  rintro e w1 ⟨rfl, h1, o1⟩
  clear ht
  have z1 := o1.size
  have q1 := h1.ltb
  obtain ⟨m, hm2⟩ : ∃ m, m = 2 + t := ⟨_, rfl⟩
  rw [← hm2] at h1 ⊢
  have hmb : 2 ≤ m := by omega
  have hmc : m ≤ 41 := by omega
  have HM := Lib.hid hm2
  clear hm2 ht40
  go_wp2_with fail
  go_loopw [7, 8, 9] (fun v7 v8 s wr => ∃ k : Nat, k ≤ m ∧ s = .int .i64 k ∧ Is wr (w.heap.size + 1) w.heap.size m (starL k) ∧ wr.ownsInts (w.heap.size + 2) 3 .i64 v7 (par 0 k) ∧ wr.ownsInts (w.heap.size + 2) 3 .i64 v8 (par 1 k) ∧
      Apart v7 v8 ∧ Only NoB w wr ∧ w.heap.size + 2 ≤ wr.heap.size)
    (fun _ _ s _ => m - (intOf s).toNat)
  case atStart => exact ⟨0, Nat.zero_le _, rfl, by rw [starL_zero]; exact h1, World.ownsInts_nil _ _ _ _, World.ownsInts_nil _ _ _ _, (fun g h => by cases h), o1, by omega⟩
  case round =>
    obtain ⟨k, hk, rfl, hs, h7, h8, hne, ho, hz⟩ := hrel
    by_cases lt : k < m
    · have lti : (k : Int) < m := by omega
      go_upto_if 31 with (fail)
      go_cut [10] from 21 to 70 (fun s10 wc => ∃ tt : Nat, s10 = .int .i64 tt ∧ tt ≤ k ∧ tt % 2 = k % 2 ∧ wc = wr)
      case first =>
        by_cases lk : k < len
        · obtain ⟨b, o, rfl, hcell⟩ := HC.out (by omega)
          have ck := ho.cell (hcell k lk) (fun f => f)
          have fk := HF.out k
          have lki : (k : Int) < len := by omega
          clear hcell
          generalize f k = y at *
          have r1 : 0 ≤ y % ((k : Int) + 1) ∧ y % ((k : Int) + 1) ≤ k := ⟨Int.emod_nonneg _ (by omega), by have := Int.emod_lt_of_pos y (show (0 : Int) < (k : Int) + 1 by omega); omega⟩
          go_wp2_with fail
          go_meet
          case rel =>
            generalize y % ((k : Int) + 1) = r at *
            exact ⟨(r / 2 * 2 + (k : Int) % 2).toNat, by rw [Int.toNat_of_nonneg (by omega)], by omega, by omega, rfl⟩
        · have lki : ¬ (k : Int) < len := by omega
          go_wp2_with fail
          go_meet
          case rel => exact ⟨k % 2, by rw [Int.natCast_emod]; rfl, by omega, by omega, rfl⟩
      case rest =>
        obtain ⟨tt, rfl, hto, hpar, rfl⟩ := hcut
        have fin : ∀ (wx : World), Is wx (w.heap.size + 1) w.heap.size m (starL (k + 1)) → Only (B2 (w.heap.size + 1) w.heap.size) wc wx →
            wx.ownsInts (w.heap.size + 2) 3 .i64 u7 (par 0 k) ∧ wx.ownsInts (w.heap.size + 2) 3 .i64 u8 (par 1 k) ∧ Only NoB w wx ∧ w.heap.size + 2 ≤ wx.heap.size := fun wx hx ox =>
          ⟨owns_at h7 ox (fun i hi _ e => by unfold B2 at e; omega), owns_at h8 ox (fun i hi _ e => by unfold B2 at e; omega), ho.then ox (fun i hi e => by unfold B2 at e; omega), Nat.le_trans hz ox.size⟩
        have FIN := Lib.hid fin
        clear fin
        by_cases ltt : tt < k
        · have lti2 : (tt : Int) < k := by omega
          have HST := Lib.hid (star_step m k tt lt hto hpar (.inl ltt))
          clear hpar
          go_wp2_with fail
          refine (join_any _ _ _ _ k tt wc hs).mono ?_
          rw [HST.out]
          rintro e w2 ⟨rfl, h2, o2⟩
          obtain ⟨g7, g8, gO, gz⟩ := FIN.out _ h2 o2
          have p0 := par_len 0 k
          have p1 := par_len 1 k
          by_cases ev : k % 2 = 0
          · have evi : ((k : Int) % 2 == 0) = true := by simp; omega
            have EV := Lib.hid ev
            clear ev
            go_wp2_with (at_builtin; refine wpList_append_own_at _ rfl _ _ 28 rfl (w.heap.size + 2) 3 i0 (.int .i64 0) 1 8 Try.underlying28 hi hiz hi1 hi2 rfl (by decide) _ _ _ rfl (g7.1.alloc _) ⟨w2.heap.size, 0, none⟩ 1 1 [.int .i64 k] rfl rfl (cell_one_new _ _ _) (ints_oneCell .i64 [(k : Int)]) (by unfold maxLen; omega) (by omega) (by simp; omega) ?_; intro v' w3 hown' hgrow hnil hloc)
            obtain ⟨e1, e2, e3, e4⟩ := grow_two (by omega) g7 g8 (hne) hown' hgrow hloc
            go_roundw
            case rel =>
              exact ⟨k + 1, by omega, by go_num, h2.kept e4 (by omega) (by omega), by rw [par_same 0 k EV.out]; exact e1, by rw [par_other 1 k (by have := EV.out; omega)]; exact e2, e3, gO.then e4 (fun i hi e => by omega), Nat.le_trans gz e4.size⟩
            case measure => simp [intOf]; omega
          · have evi : ((k : Int) % 2 == 0) = false := by simp; omega
            have EV := Lib.hid ev
            clear ev
            go_wp2_with (at_builtin; refine wpList_append_own_at _ rfl _ _ 28 rfl (w.heap.size + 2) 3 i0 (.int .i64 0) 1 8 Try.underlying28 hi hiz hi1 hi2 rfl (by decide) _ _ _ rfl (g8.1.alloc _) ⟨w2.heap.size, 0, none⟩ 1 1 [.int .i64 k] rfl rfl (cell_one_new _ _ _) (ints_oneCell .i64 [(k : Int)]) (by unfold maxLen; omega) (by omega) (by simp; omega) ?_; intro v' w3 hown' hgrow hnil hloc)
            obtain ⟨e1, e2, e3, e4⟩ := grow_two (by omega) g8 g7 (hne.symm) hown' hgrow hloc
            go_roundw
            case rel =>
              exact ⟨k + 1, by omega, by go_num, h2.kept e4 (by omega) (by omega), by rw [par_other 0 k EV.out]; exact e2, by rw [par_same 1 k (by have := EV.out; omega)]; exact e1, e3.symm, gO.then e4 (fun i hi e => by omega), Nat.le_trans gz e4.size⟩
            case measure => simp [intOf]; omega
        · obtain rfl : k = tt := by omega
          have HST := Lib.hid (star_step m k (k % 2) lt (by omega) (by omega) (by omega))
          clear hpar ltt
          go_wp2_with fail
          have J := join_any _ _ _ _ k ((k % 2 : Nat) : Int) wc hs
          rw [HST.out, Int.natCast_emod] at J
          refine J.mono ?_
          rintro e w2 ⟨rfl, h2, o2⟩
          clear J
          obtain ⟨g7, g8, gO, gz⟩ := FIN.out _ h2 o2
          have p0 := par_len 0 k
          have p1 := par_len 1 k
          by_cases ev : k % 2 = 0
          · have evi : ((k : Int) % 2 == 0) = true := by simp; omega
            have EV := Lib.hid ev
            clear ev
            go_wp2_with (at_builtin; refine wpList_append_own_at _ rfl _ _ 28 rfl (w.heap.size + 2) 3 i0 (.int .i64 0) 1 8 Try.underlying28 hi hiz hi1 hi2 rfl (by decide) _ _ _ rfl (g7.1.alloc _) ⟨w2.heap.size, 0, none⟩ 1 1 [.int .i64 k] rfl rfl (cell_one_new _ _ _) (ints_oneCell .i64 [(k : Int)]) (by unfold maxLen; omega) (by omega) (by simp; omega) ?_; intro v' w3 hown' hgrow hnil hloc)
            obtain ⟨e1, e2, e3, e4⟩ := grow_two (by omega) g7 g8 (hne) hown' hgrow hloc
            go_roundw
            case rel =>
              exact ⟨k + 1, by omega, by go_num, h2.kept e4 (by omega) (by omega), by rw [par_same 0 k EV.out]; exact e1, by rw [par_other 1 k (by have := EV.out; omega)]; exact e2, e3, gO.then e4 (fun i hi e => by omega), Nat.le_trans gz e4.size⟩
            case measure => simp [intOf]; omega
          · have evi : ((k : Int) % 2 == 0) = false := by simp; omega
            have EV := Lib.hid ev
            clear ev
            go_wp2_with (at_builtin; refine wpList_append_own_at _ rfl _ _ 28 rfl (w.heap.size + 2) 3 i0 (.int .i64 0) 1 8 Try.underlying28 hi hiz hi1 hi2 rfl (by decide) _ _ _ rfl (g8.1.alloc _) ⟨w2.heap.size, 0, none⟩ 1 1 [.int .i64 k] rfl rfl (cell_one_new _ _ _) (ints_oneCell .i64 [(k : Int)]) (by unfold maxLen; omega) (by omega) (by simp; omega) ?_; intro v' w3 hown' hgrow hnil hloc)
            obtain ⟨e1, e2, e3, e4⟩ := grow_two (by omega) g8 g7 (hne.symm) hown' hgrow hloc
            go_roundw
            case rel =>
              exact ⟨k + 1, by omega, by go_num, h2.kept e4 (by omega) (by omega), by rw [par_other 0 k EV.out]; exact e2, by rw [par_same 1 k (by have := EV.out; omega)]; exact e1, e3.symm, gO.then e4 (fun i hi e => by omega), Nat.le_trans gz e4.size⟩
            case measure => simp [intOf]; omega
    · obtain rfl : m = k := by omega
      obtain ⟨t', ht'⟩ : ∃ t', m = 2 + t' := ⟨t, HM.out⟩
      obtain ⟨a7, n7, c7, rfl⟩ := owns_form h7
      obtain ⟨a8, n8, c8, rfl⟩ := owns_form h8
      have l7 := ints_of_owns h7
      have l8 := ints_of_owns h8
      have HG := Lib.hid (ht' ▸ star_groups t' : groups m (starL m) = [par 0 m, par 1 m])
      have HJ := Lib.hid (ht' ▸ star_last t' : joins m (starL m) 0 1 = true)
      have HO := Lib.hid (ht' ▸ star_one t' : many m (joinI m (starL m) 0 1) = 1)
      have HL := Lib.hid (ht' ▸ star_least t' : leastI m (joinI m (starL m) 0 1) ((m : Int) - 1) = 0)
      clear ht'
      go_wp2_with fail
      refine (groups_any _ _ _ _ wr hs).mono ?_
      rintro e w2 ⟨⟨v, rfl, hv⟩, h2, o2⟩
      rw [HG.out] at hv
      have l7' := l7.kept o2 (fun b hb e => by unfold B1 at e; omega)
      have l8' := l8.kept o2 (fun b hb e => by unfold B1 at e; omega)
      have z2 := o2.size
      go_wp2_with fail
      have o3 : Only NoB w2 (w2.alloc (.cells #[.slice a7 n7 c7, .slice a8 n8 c8] 28)) := (Only.refl _ _).alloc _
      have hg := lit_two (w.heap.size + 2) w2 _ _ _ _ l7' l8' (by omega)
      have J := lists_any (fun _ => True) v _ _ _ _ ((hv.mono (fun _ _ => trivial)).kept o3 (fun _ _ f => f)) (hg.mono (fun _ _ => trivial))
      rw [beq_self_eq_true] at J
      refine J.mono ?_
      rintro e w4 ⟨rfl, o4⟩
      clear J
      have o24 := o3.then o4 (fun _ _ f => f)
      have h4 := h2.kept o24 (fun f => f) (fun f => f)
      clear o3 hg
      go_wp2_with fail
      have J := join_any _ _ _ _ 0 1 w4 h4
      rw [HJ.out] at J
      refine J.mono ?_
      rintro e w5 ⟨rfl, h5, o5⟩
      clear J
      go_wp2_with fail
      refine (known_any w5).mono ?_
      rintro e w6 ⟨rfl, o6⟩
      have h6 := h5.kept o6 (fun f => f) (fun f => f)
      go_wp2_with fail
      have J := many_any _ _ _ _ w6 h6
      rw [HO.out] at J
      refine J.mono ?_
      rintro e w7 ⟨rfl, rfl⟩
      clear J
      go_wp2_with fail
      have J := least_any _ _ _ _ ((m : Int) - 1) w6 h6
      rw [HL.out] at J
      refine J.mono ?_
      rintro e w8 ⟨rfl, h8, o8⟩
      clear J
      go_wp2_with fail
      go_ret
      refine ⟨rfl, Only.below ?_⟩
      exact ((((ho.then o2 (fun i hi e => by unfold B1 at e; omega)).then o24 (fun _ _ f => f)).then o5 (fun i hi e => by unfold B2 at e; omega)).then o6 (fun _ _ f => f)).then o8 (fun i hi e => by unfold B1 at e; omega)
end Go.Proofs.Ytincgkcmfhhofaa
