/-
  THE WALK of unite.Groups: all groups, in new memory.
-/
import Derived.Test.YtincgkcmfhhofaaSets
import Derived.Test.YtincgkcmfhhofaaGmap
set_option linter.unusedVariables false
set_option linter.unusedSimpArgs false
namespace Go.Proofs.Ytincgkcmfhhofaa
open Go.RowKit Go.Maps Go.ChangeShapes

theorem law : Keyed Try.prog 3 := int_keyed Try.underlying3
theorem zero28 (w : World) : (zeroValue 28).run Try.prog w = .ok (.slice none 0 0) w := by kernel_rfl

theorem look_zs {w : World} {base : Nat} {e : TypeId} {v : Value} {zs : List Int} (L : Nat → Nat) (r k : Nat) (ho : w.ownsInts base e .i64 v zs)
    (hat : (gmap L k).atKey (.int .i64 r) .nil = rowDatum .i64 v zs) : zs = gat L r k := by
  rw [gmap_at] at hat
  by_cases e : gat L r k = []
  · rw [if_pos e] at hat
    rcases ho.datum (H := Unit) with ⟨_, q2⟩ | q1
    · rw [q2, e]
    · rw [q1] at hat; cases hat
  · rw [if_neg e] at hat
    rcases ho.datum (H := Unit) with ⟨q1, _⟩ | q1
    · rw [q1] at hat; cases hat
    · rw [q1] at hat
      have h3 : lits (H := Unit) .i64 (gat L r k) = lits .i64 zs := by injection hat
      exact (lits_inj h3).symm

/-- the slices gathered so far: each owns its group -/
def Gathered (w : World) (base : Nat) (vals : List Value) (gs : List (List Int)) : Prop :=
  vals.length = gs.length ∧ ∀ j, j < gs.length → w.ownsInts base 3 .i64 (vals.getD j undef) (gs.getD j [])

theorem Gathered.snoc {w : World} {base : Nat} {vals : List Value} {gs : List (List Int)} {v : Value} {g : List Int} (h : Gathered w base vals gs) (hv : w.ownsInts base 3 .i64 v g) : Gathered w base (vals ++ [v]) (gs ++ [g]) := by
  obtain ⟨h1, h2⟩ := h
  refine ⟨by simp [h1], fun j hj => ?_⟩
  rw [List.length_append, List.length_singleton] at hj
  by_cases e : j < gs.length
  · have := h2 j e
    rw [List.getD, List.getD, List.getElem?_append_left (by omega), List.getElem?_append_left e]
    exact this
  · obtain rfl : gs.length = j := by omega
    rw [List.getD, List.getD, List.getElem?_append_right (by omega), List.getElem?_append_right (by omega), h1]
    simpa using hv

theorem grid_of_gathered {w wz wr : World} {n : Nat} {va : Value} {vals : List Value} {gs : List (List Int)} (hrow : wr.ownsRow wz.heap.size 28 1 va vals.length vals) (h : Gathered wz (w.heap.size + 1) vals gs) (o : Only NoB wz wr)
    (hz : w.heap.size ≤ wz.heap.size) (hl : gs.length ≤ n) (hn : n ≤ 1000) : GridIn (fun k => w.heap.size ≤ k) wr va gs := by
  obtain ⟨h1, h2⟩ := h
  rcases hrow.2 with ⟨rfl, h0⟩ | ⟨g, cap, cur, rfl, hg, hh, _⟩
  · exact ⟨none, 0, by rw [← h1, h0], by unfold maxLen; omega, fun h3 => by omega⟩
  · refine ⟨_, cap, by rw [h1], by unfold maxLen; omega, fun h3 => ⟨g, 0, rfl, by show w.heap.size ≤ g; omega, fun j hj => ?_⟩⟩
    refine ⟨vals.getD j undef, ?_, ?_⟩
    · rw [Nat.zero_add, hrow.cellAt j (by omega)]
      simp [List.getD, List.getElem?_eq_getElem (h1 ▸ hj : j < vals.length)]
    · have := ints_of_owns (owns_kept (h2 j hj) o (fun _ _ _ f => f))
      exact this.mono (fun b hb => by show w.heap.size ≤ b; omega)

set_option maxHeartbeats 1000000 in
theorem groups_any (b u n : Nat) (L : Nat → Nat) (w : World) (h : Is w b u n L) :
    Calls Try.prog 13 #[.pointer (some ⟨b, 0, none⟩)] w fun e w' => (∃ v, e = .returned v ∧ GridIn (fun k => w.heap.size ≤ k) w' v (groups n L)) ∧ Is w' b u n L ∧ Only (B1 u) w w' := by
  have hmm := @run_makeMap Try.prog
  have hn := h.small
  have c0 := h.c0
  have lb := h.ltb
  have lu := h.ltu
  obtain ⟨i0, hi, hz0, hz1, hz2⟩ := info_parts Try.info3
  go_enter Try.func13, Try.ntmps13
  go_wp2_with fail
  go_loopw [18] (fun s wr => ∃ k : Nat, k ≤ n ∧ s = .int .i64 k ∧ wr.ownsGroups Try.prog 3 (w.heap.size + 1) 3 .i64 w.heap.size k (gmap L k) ∧ Is wr b u n L ∧ Only (B1 u) w wr ∧ w.heap.size + 1 ≤ wr.heap.size)
    (fun s _ => n - (intOf s).toNat)
  case atStart => exact ⟨0, Nat.zero_le _, rfl, World.ownsGroups_made _ _ _ _ _, h.kept ((Only.refl NoB _).alloc _) (fun f => f) (fun f => f), (Only.refl _ _).alloc _, by simp⟩
  case round =>
    obtain ⟨k, hk, rfl, hown, hs, ho, hws⟩ := hrel
    by_cases lt : k < n
    · have lti : (k : Int) < n := by omega
      go_wp2_with fail
      refine (root_is b u n L k wr hs (by omega) (by omega)).mono ?_
      rintro e w1 ⟨rfl, hs1, ho1⟩
      have hown1 := groups_kept hown ho1 (fun i hi _ e => by unfold B1 at e; omega)
      have z1 := ho1.size
      have lk := hs.tidy.le k lt
      rw [Int.toNat_natCast]
      have hkey : keyOf Try.prog 3 (.int .i64 (L k)) = some (.int .i64 (L k)) := keyOf_int_mk Try.underlying3 (WalkArith.wf_i64 (by omega))
      go_wp2_with (first
        | (at_lookup; refine wpList_lookup_groups _ rfl _ _ 42 rfl 3 28 3 .i64 law Try.underlying42 (zero28 _) (w.heap.size + 1) w.heap.size k _ rfl hown1 (by unfold maxLen; omega) _ _ rfl hkey ?_; intro v zs hat hoi hzl hback)
        | (at_builtin; refine wpList_append_own_at _ rfl _ _ 28 rfl (w.heap.size + 1) 3 i0 (.int .i64 0) 1 8 Try.underlying28 hi hz0 hz1 hz2 rfl (by decide) _ _ _ rfl (hoi.1.alloc _) ⟨w1.heap.size, 0, none⟩ 1 1 [.int .i64 k] rfl rfl (cell_one_new _ _ _) (ints_oneCell .i64 [(k : Int)]) (by unfold maxLen; omega) (by omega) (by simp; omega) ?_; intro v' w2 hown' hgrow hnil hloc)
        | (at_mapUpdate; refine wpList_mapUpdate_back _ rfl _ _ _ 42 rfl hback rfl rfl rfl ((World.grownBy_alloc _ _ _).trans hgrow) (hoi.appended hown' (WalkArith.wf_i64 (by omega))) (by simp; omega) (hloc.imp id (fun h => ⟨_, h, by simp⟩)) ?_; intro w3 hown2 hgrow2))
      have H1 := Lib.hid hat
      clear hat
      have hall := (World.grownBy_alloc w1 (.cells #[.int .i64 k] 3) v.ownBlock).trans hgrow
      have o13 : Only (fun k => w.heap.size ≤ k) w1 w3 := ((Only.refl _ _).grown hall (fun k _ e => by have := (hoi.1.lt k e).1; show w.heap.size ≤ k; omega)).grown hgrow2 (fun k _ e => by cases e; exact Nat.le_refl _)
      have ho2 := (ho.trans ho1).then o13 (fun i hi s => absurd s (by omega))
      have hs3 := hs1.kept o13 (by omega) (by omega)
      go_roundw
      case rel =>
        have hzs := look_zs L (L k) k hoi H1.out
        refine ⟨k + 1, by omega, by go_num, ?_, hs3, ho2, by have := hall.size; have := hgrow2.size; omega⟩
        rw [gmap, gat_same, ← hzs, ← (hoi.appended hown' (WalkArith.wf_i64 (by omega))).datum_pos (by simp)]
        exact hown2
      case measure => simp [intOf]; omega
    · obtain rfl : n = k := by omega
      obtain ⟨wz, rfl⟩ : ∃ wz : World, wz = wr := ⟨_, rfl⟩
      obtain ⟨j0, hj, hjz, hj1, hj2⟩ := info_parts Try.info28
      have cz0 := hs.c0
      go_wp2_with fail
      go_loopw [6, 38] (fun va s wr => ∃ (j : Nat) (vals : List Value), j ≤ n ∧ s = .int .i64 j ∧ wr.ownsRow wz.heap.size 28 1 va vals.length vals ∧ Gathered wz (w.heap.size + 1) vals (groupsTo n L j) ∧ Only NoB wz wr)
        (fun _ s _ => n - (intOf s).toNat)
      case atStart => exact ⟨0, [], Nat.zero_le _, rfl, World.ownsRow_nil _ _ _ _, ⟨rfl, fun j hj => absurd hj (Nat.not_lt_zero _)⟩, Only.refl _ _⟩
      case round =>
        obtain ⟨j, vals, hjn, rfl, hrow, hgat, hoz⟩ := hrel
        have HG := Lib.hid hgat
        clear hgat
        by_cases ltj : j < n
        · have ltji : (j : Int) < n := by omega
          by_cases eL : L j = j
          · have e0 := gat_ne L n j ltj eL
            rcases groups_look law Try.underlying42 Try.underlying3 (zero28 _) hown hoz j (by omega) with ⟨e1, _⟩ | ⟨_, v, hrun, hv⟩
            · exact absurd e1 e0
            · have EL := Lib.hid eL
              have hvl := HG.out.1
              have hgl := groupsTo_len n L j
              obtain ⟨va, vb, vc, rfl⟩ : ∃ a b c, v = .slice a b c := by
                rcases hv.1.2 with ⟨rfl, _⟩ | ⟨g, cap, cur, rfl, _⟩
                · exact ⟨_, _, _, rfl⟩
                · exact ⟨_, _, _, rfl⟩
              have z2 := hoz.size
              have hvl2 : vals.length ≤ j := by omega
              clear eL e0 hvl hgl
              go_wp2_with (at_builtin; refine wpList_append_own _ rfl _ _ 23 rfl wz.heap.size 28 j0 (.slice none 0 0) 1 24 Try.underlying23 hj hjz hj1 hj2 rfl (by decide) _ _ _ rfl (hrow.alloc _) ⟨wr.heap.size, 0, none⟩ 1 1 [.slice va vb vc] rfl rfl (cell_one_new _ _ _) (by simp [Value.oneCell']) (by unfold maxLen; omega) (by omega) (by simp; omega) ?_; intro v' w2 hown' hgrow _)
              go_roundw
              case rel => exact ⟨j + 1, vals ++ [.slice va vb vc], by omega, by go_num, by simpa using hown', by rw [groupsTo_yes n L j EL.out]; exact HG.out.snoc hv, (hoz.alloc _).grown hgrow (fun k hk e => by have := (hrow.lt k e).1; omega)⟩
              case measure => simp [intOf]; omega
          · have e0 := gat_nil L n j hs.tidy eL ltj
            rcases groups_look law Try.underlying42 Try.underlying3 (zero28 _) hown hoz j (by omega) with ⟨_, hrun⟩ | ⟨ne, _⟩
            · have EL := Lib.hid eL
              clear eL e0
              go_wp2_with fail
              go_roundw
              case rel => exact ⟨j + 1, vals, by omega, by go_num, hrow, by rw [groupsTo_no n L j EL.out]; exact HG.out, hoz⟩
              case measure => simp [intOf]; omega
            · exact absurd e0 ne
        · obtain rfl : n = j := by omega
          go_wp2_with fail
          go_ret
          refine ⟨⟨_, rfl, ?_⟩, hs.kept hoz (fun f => f) (fun f => f), ho.then hoz (fun _ _ f => f.elim)⟩
          exact grid_of_gathered hrow HG.out hoz (by have := ho.size; omega) (groupsTo_len n L n) hn

end Go.Proofs.Ytincgkcmfhhofaa
