/-
  THE WALK of quittancelaw05.does: any joins of any numbers.
-/
import Derived.Test.YtincgkcmfhhofaaAlike
set_option linter.unusedVariables false
set_option linter.unusedSimpArgs false
namespace Go.Proofs.Ytincgkcmfhhofaa
open Go.RowKit

theorem RIs.form {p : Nat → Prop} {w : World} {v : Value} {n : Nat} {L : Nat → Nat} (h : RIs p w v n L) : ∃ s cap, v = .agg #[.slice s n cap] := by
  obtain ⟨_, _, s, cap, rfl, _⟩ := h
  exact ⟨s, cap, rfl⟩
/-- beside a Sets at b and u, and a box at R -/
def Off (b u R : Nat) : Nat → Prop := fun k => k ≠ b ∧ k ≠ u ∧ k ≠ R

set_option maxRecDepth 20000 in
set_option maxHeartbeats 4000000 in
theorem does_any (p : Nat → Prop) (n : Int) (v : Value) (gs : List (List Int)) (w : World) (hg : GridIn p w v gs) :
    Calls Try.prog 16 #[.int .i64 n, v] w fun e w' => e = .returned (.bool true) ∧ Only NoB w w' := by
  have hg := hg.lt
  obtain ⟨ga, gc, rfl⟩ := hg.len
  have hgl : gs.length ≤ maxLen := by obtain ⟨_, _, _, h, _⟩ := hg; exact h
  unfold maxLen at hgl
  obtain ⟨ga2, gc2, hge, _, hgc⟩ := hg
  obtain ⟨rfl, rfl⟩ : ga = ga2 ∧ gc = gc2 := by cases hge; exact ⟨rfl, rfl⟩
  have HG := Lib.hid hgc
  clear hge hgc
  go_enter Try.func16, Try.ntmps16
  go_wp2_with fail
  refine (new_any n w).mono ?_
  rintro e w1 ⟨rfl, hs, o1⟩
  have z1 := hs.ltb
  go_wp2_with fail
  refine (rnew_any n w1).mono ?_
  rintro e w2 ⟨⟨r, rfl, hr⟩, o2⟩
  have z2 := o2.size
  have hs := hs.kept o2 (fun f => f) (fun f => f)
  have o1 := o1.trans o2
  generalize clamp n = m at *
  obtain ⟨s, cap, rfl⟩ := hr.form
  go_wp2_with fail
  have o2 : Only NoB w2 (w2.alloc (.cells #[.slice s m cap] 45)) := (Only.refl _ _).alloc _
  have hb := heap_alloc_new w2 (.cells #[.slice s m cap] 45)
  have hs := hs.kept o2 (fun f => f) (fun f => f)
  have o1 := o1.trans o2
  have hr := (hr.lt.mono (q := Off (w.heap.size + 1) w.heap.size w2.heap.size) (fun k hk => ⟨by omega, by omega, by omega⟩)).kept o2 (fun _ _ f => f)
  generalize hR : w2.heap.size = R at *
  generalize World.alloc w2 _ = W at *
  clear o2
  have zR : w.heap.size + 1 < R := by omega
  clear z1 z2 hR
  go_loopw [7] (fun t wr => ∃ (k : Nat) (L : Nat → Nat) (s : Option Addr) (cap : Nat), k ≤ gs.length ∧ t = .int .i64 k ∧ Is wr (w.heap.size + 1) w.heap.size m L ∧ RIs (Off (w.heap.size + 1) w.heap.size R) wr (.agg #[.slice s m cap]) m L ∧ wr.heap[R]? = some (.cells #[.slice s m cap] 45 (0, 0)) ∧ Only NoB w wr)
    (fun t _ => gs.length - (intOf t).toNat)
  case atStart => exact ⟨0, _, s, cap, Nat.zero_le _, rfl, hs, hr, hb, o1⟩
  case round =>
    obtain ⟨k, L, s1, cap1, hk, rfl, js, jr, jb, oR⟩ := hrel
    by_cases lt : k < gs.length
    · have lti : (k : Int) < gs.length := by omega
      obtain ⟨gb, go, rfl, hp, hgc⟩ := HG.out (by omega)
      obtain ⟨x, hx, hi⟩ := hgc k lt
      obtain ⟨xa, xc, rfl, hxl, hxc⟩ := hi
      unfold maxLen at hxl
      have ex := oR.cell hx (fun f => f)
      have e0 : 2 ≤ (gs.getD k []).length → ∃ b o, xa = some ⟨b, o, none⟩ ∧ w.cell? ⟨b, o, none⟩ = some (.int .i64 ((gs.getD k []).getD 0 0)) ∧ w.cell? ⟨b, o + 1, none⟩ = some (.int .i64 ((gs.getD k []).getD 1 0)) := fun h => by
        obtain ⟨b, o, rfl, _, hc⟩ := hxc (by omega)
        exact ⟨b, o, rfl, by simpa using hc 0 (by omega), hc 1 (by omega)⟩
      have E0 := Lib.hid e0
      clear hgc hxc hx e0
      generalize gs.getD k [] = z at *
      by_cases l2 : z.length < 2
      · have l2i : (z.length : Int) < 2 := by omega
        go_wp2_with fail
        go_roundw
        case rel => exact ⟨k + 1, L, s1, cap1, by omega, by go_num, js, jr, jb, oR⟩
        case measure => simp [intOf]; omega
      · have l2i : ¬ (z.length : Int) < 2 := by omega
        have l20 : (0 : Int) < (z.length : Int) := by omega
        have l21 : (1 : Int) < (z.length : Int) := by omega
        have l22 : 1 < z.length := by omega
        have l23 : 0 < z.length := by omega
        obtain ⟨xb, xo, rfl, c0, c1⟩ := E0.out (by omega)
        have c0 := oR.cell c0 (fun f => f)
        have c1 := oR.cell c1 (fun f => f)
        have cR := (cell_in _ _ 0 _ _ _ jb).trans rfl
        generalize z.getD 0 0 = a at *
        generalize z.getD 1 0 = b at *
        clear E0
        go_wp2_with fail
        clear c0 c1 ex cR
        refine (rjoin_any _ _ m L a b _ jr).mono ?_
        rintro e w3 ⟨⟨r2, rfl, hr2⟩, o3⟩
        obtain ⟨s2, cap2, rfl⟩ := hr2.form
        have hs3 := js.kept o3 (fun f => f) (fun f => f)
        have hb3 := (o3.block R (lt_of_heap jb) (fun f => f)).trans jb
        have oo := oR.trans o3
        have zz := lt_of_heap jb
        have lub := js.ltb
        have hr3 := hr2.mono (q := Off (w.heap.size + 1) w.heap.size R) (fun t ht => by
          rcases ht with ht | ht
          · exact ht
          · exact ⟨by omega, by omega, by omega⟩)
        clear hr2 js jr o3
        go_wp2_with fail
        have o4 : Only NoB w3 (w3.alloc (.cells #[.slice s2 m cap2] 45)) := (Only.refl _ _).alloc _
        have hq := heap_alloc_new w3 (.cells #[.slice s2 m cap2] 45)
        have zq := lt_of_heap hb3
        have hs4 := hs3.kept o4 (fun f => f) (fun f => f)
        have hr4 := hr3.kept o4 (fun _ _ f => f)
        have hb4 := (o4.block R zq (fun f => f)).trans hb3
        have oo := oo.trans o4
        clear hs3 hr3 hb3 o4
        have lw3 := hs4.ltb
        change Calls _ _ _ (w3.alloc (.cells #[.slice s2 m cap2] 45)) _
        generalize hw4 : World.alloc w3 (.cells #[.slice s2 m cap2] 45) = w4 at *
        generalize w3.heap.size = Q at *
        clear hw4
        refine (join_any _ _ m L a b _ hs4).mono ?_
        rintro e w5 ⟨rfl, hs5, o5⟩
        have js5 := hs5
        have jr5 := hr4.kept o5 (fun t ht e => by unfold B2 at e; rcases e with e | e; exact ht.1 e; exact ht.2.1 e)
        have jb5 := (o5.block R (lt_of_heap hb4) (fun e => by unfold B2 at e; omega)).trans hb4
        have hq5 := (o5.block Q (lt_of_heap hq) (fun e => by unfold B2 at e; omega)).trans hq
        have oo := oo.then o5 (fun i hi e => by unfold B2 at e; omega)
        clear hr4 hb4 hq o5 hs5 hs4
        have cq := (cell_in _ _ 0 _ _ _ hq5).trans rfl
        have dR := (cell_in _ _ 0 _ _ _ jb5).trans rfl
        have fR := frozen_in _ _ 0 _ _ jb5
        have lR := lt_of_heap jb5
        go_wp2_with fail
        have o6 : Only (B1 R) w5 (w5.setCell ⟨R, 0, none⟩ (.slice s2 m cap2)) := Only.setCell (S := B1 R) (Only.refl _ _) (p := ⟨R, 0, none⟩) (fun _ => by unfold B1; rfl) _
        have jb6 : (w5.setCell ⟨R, 0, none⟩ (.slice s2 m cap2)).heap[R]? = some (.cells #[.slice s2 m cap2] 45 (0, 0)) := heap_setCell_at w5 R 0 (.slice s2 m cap2) _ _ _ jb5
        have js6 := js5.kept o6 (fun e => by unfold B1 at e; omega) (fun e => by unfold B1 at e; omega)
        have jr6 := jr5.kept o6 (fun t ht e => ht.2.2 e)
        have oo := oo.then o6 (fun i hi e => by unfold B1 at e; omega)
        generalize World.setCell w5 _ _ = w6 at *
        clear o6 jb5 hq5 js5 jr5 cq dR fR lR
        generalize joinI m L a b = L2 at *
        generalize joins m L a b = jj at *
        have HR := Lib.hid jr6
        have MK : Hid (∀ w', Only (B1 w.heap.size) w6 w' → w'.cell? ⟨R, 0, none⟩ = some (.slice s2 m cap2)) := fun w' oo => Only.cell oo ((cell_in _ _ 0 _ _ _ jb6).trans rfl) (fun e => by unfold B1 at e; omega)
        refine wp_region_along (fun w' => w'.cell? ⟨R, 0, none⟩ = some (.slice s2 m cap2)) [(0, true), (1, true), (2, true), (3, false), (4, true), (5, true), (6, true), (7, true), (8, true), (9, false), (10, true), (11, true), (12, true), (13, true), (14, true), (15, true), (17, true), (18, true), (19, true), (16, false), (20, false), (21, true), (22, true)] (by kernel_rfl) (by kernel_rfl) ?_ ?_
        rotate_left 1
        have o7 : Only (B1 w.heap.size) w6 w6.drew := (Only.refl _ _).drew
        have hs := js6.drew
        generalize w6.drew = Y at *
        repeat (first | (refine' along_take (by simp only [List.getElem?_cons_succ, List.getElem?_cons_zero]; rfl) (by rfl) ?_ ?_ ?_; rotate_left 2; (intro w' hS; go_simp; try rfl); (simp only [Act.put, List.setIfInBounds_toArray, List.set_cons_zero, List.set_cons_succ]; try rfl)) | (refine' along_skip (by simp only [List.getElem?_cons_succ, List.getElem?_cons_zero]; rfl) (by rfl) ?_ ?_; rotate_left 1; (simp only [Act.put, List.setIfInBounds_toArray, List.set_cons_zero, List.set_cons_succ]; try rfl)))
        (refine along_do (by simp only [List.getElem?_cons_succ, List.getElem?_cons_zero]; rfl) (by rfl) (fun K hK => ?_); go_simp)
        refine (alike_any _ _ _ m L2 _ a _ hs (HR.out.kept o7 (fun t ht e => ht.2.1 e)) (fun t ht => ht.2.1)).mono ?_
        rintro e w7 ⟨rfl, hs, o8⟩
        have o7 := o7.trans o8
        clear o8
        (refine hK _ _ (MK.out _ o7) ?_; clear hK K)
        repeat (first | (refine' along_take (by simp only [List.getElem?_cons_succ, List.getElem?_cons_zero]; rfl) (by rfl) ?_ ?_ ?_; rotate_left 2; (intro w' hS; go_simp; try rfl); (simp only [Act.put, List.setIfInBounds_toArray, List.set_cons_zero, List.set_cons_succ]; try rfl)) | (refine' along_skip (by simp only [List.getElem?_cons_succ, List.getElem?_cons_zero]; rfl) (by rfl) ?_ ?_; rotate_left 1; (simp only [Act.put, List.setIfInBounds_toArray, List.set_cons_zero, List.set_cons_succ]; try rfl)))
        (refine along_do (by simp only [List.getElem?_cons_succ, List.getElem?_cons_zero]; rfl) (by rfl) (fun K hK => ?_); go_simp)
        refine (alike_any _ _ _ m L2 _ b _ hs (HR.out.kept o7 (fun t ht e => ht.2.1 e)) (fun t ht => ht.2.1)).mono ?_
        rintro e w7 ⟨rfl, hs, o8⟩
        have o7 := o7.trans o8
        clear o8
        (refine hK _ _ (MK.out _ o7) ?_; clear hK K)
        repeat (first | (refine' along_take (by simp only [List.getElem?_cons_succ, List.getElem?_cons_zero]; rfl) (by rfl) ?_ ?_ ?_; rotate_left 2; (intro w' hS; go_simp; try rfl); (simp only [Act.put, List.setIfInBounds_toArray, List.set_cons_zero, List.set_cons_succ]; try rfl)) | (refine' along_skip (by simp only [List.getElem?_cons_succ, List.getElem?_cons_zero]; rfl) (by rfl) ?_ ?_; rotate_left 1; (simp only [Act.put, List.setIfInBounds_toArray, List.set_cons_zero, List.set_cons_succ]; try rfl)))
        (refine along_do (by simp only [List.getElem?_cons_succ, List.getElem?_cons_zero]; rfl) (by rfl) (fun K hK => ?_); go_simp)
        refine (same_any _ _ m L2 a b _ hs).mono ?_
        rintro e w7 ⟨rfl, hs, o8⟩
        have o7 := o7.trans o8
        clear o8
        (refine hK _ _ (MK.out _ o7) ?_; clear hK K)
        repeat (first | (refine' along_take (by simp only [List.getElem?_cons_succ, List.getElem?_cons_zero]; rfl) (by rfl) ?_ ?_ ?_; rotate_left 2; (intro w' hS; go_simp; try rfl); (simp only [Act.put, List.setIfInBounds_toArray, List.set_cons_zero, List.set_cons_succ]; try rfl)) | (refine' along_skip (by simp only [List.getElem?_cons_succ, List.getElem?_cons_zero]; rfl) (by rfl) ?_ ?_; rotate_left 1; (simp only [Act.put, List.setIfInBounds_toArray, List.set_cons_zero, List.set_cons_succ]; try rfl)))
        (refine along_do (by simp only [List.getElem?_cons_succ, List.getElem?_cons_zero]; rfl) (by rfl) (fun K hK => ?_); go_simp)
        refine (rsame_any _ _ m L2 a b _ (HR.out.kept o7 (fun t ht e => ht.2.1 e))).mono ?_
        rintro e w7 ⟨rfl, o8⟩
        have hs := hs.kept o8 (fun f => f) (fun f => f)
        have o7 := o7.then o8 (fun _ _ f => f.elim)
        clear o8
        (refine hK _ _ (MK.out _ o7) ?_; clear hK K)
        repeat (first | (refine' along_take (by simp only [List.getElem?_cons_succ, List.getElem?_cons_zero]; rfl) (by rfl) ?_ ?_ ?_; rotate_left 2; (intro w' hS; go_simp; try rfl); (simp only [Act.put, List.setIfInBounds_toArray, List.set_cons_zero, List.set_cons_succ]; try rfl)) | (refine' along_skip (by simp only [List.getElem?_cons_succ, List.getElem?_cons_zero]; rfl) (by rfl) ?_ ?_; rotate_left 1; (simp only [Act.put, List.setIfInBounds_toArray, List.set_cons_zero, List.set_cons_succ]; try rfl)))
        refine along_end ?_
        go_wp2_with fail
        rotate_left 1
        exact MK.out _ ((Only.refl _ _).drew)
        go_roundw
        case rel => exact ⟨k + 1, L2, s2, cap2, by omega, by go_num, hs, HR.out.kept o7 (fun t ht e => ht.2.1 e), (o7.block R (lt_of_heap jb6) (fun e => by unfold B1 at e; omega)).trans jb6, oo.then o7 (fun i hi e => by unfold B1 at e; omega)⟩
        case measure => simp [intOf]; omega
    · obtain rfl : gs.length = k := by omega
      have cR := (cell_in _ _ 0 _ _ _ jb).trans rfl
      go_wp2_with fail
      clear cR
      have HR := Lib.hid jr
      have MK : Hid (∀ w', Only (B1 w.heap.size) wr w' → w'.cell? ⟨R, 0, none⟩ = some (.slice s1 m cap1)) := fun w' oo => Only.cell oo ((cell_in _ _ 0 _ _ _ jb).trans rfl) (fun e => by unfold B1 at e; omega)
      refine wp_region_along (fun w' => w'.cell? ⟨R, 0, none⟩ = some (.slice s1 m cap1)) [(0, true), (1, true), (2, false), (3, true), (4, true), (6, true), (5, false), (7, false), (8, true), (9, true), (10, true)] (by kernel_rfl) (by kernel_rfl) ?_ ?_
      rotate_left 1
      have o7 : Only (B1 w.heap.size) wr wr.drew := (Only.refl _ _).drew
      have hs := js.drew
      generalize wr.drew = Y at *
      repeat (first | (refine' along_take (by simp only [List.getElem?_cons_succ, List.getElem?_cons_zero]; rfl) (by rfl) ?_ ?_ ?_; rotate_left 2; (intro w' hS; go_simp; try rfl); (simp only [Act.put, List.setIfInBounds_toArray, List.set_cons_zero, List.set_cons_succ]; try rfl)) | (refine' along_skip (by simp only [List.getElem?_cons_succ, List.getElem?_cons_zero]; rfl) (by rfl) ?_ ?_; rotate_left 1; (simp only [Act.put, List.setIfInBounds_toArray, List.set_cons_zero, List.set_cons_succ]; try rfl)))
      (refine along_do (by simp only [List.getElem?_cons_succ, List.getElem?_cons_zero]; rfl) (by rfl) (fun K hK => ?_); go_simp)
      refine (alike_any _ _ _ m L _ (-1) _ hs (HR.out.kept o7 (fun t ht e => ht.2.1 e)) (fun t ht => ht.2.1)).mono ?_
      rintro e w7 ⟨rfl, hs, o8⟩
      have o7 := o7.trans o8
      clear o8
      (refine hK _ _ (MK.out _ o7) ?_; clear hK K)
      repeat (first | (refine' along_take (by simp only [List.getElem?_cons_succ, List.getElem?_cons_zero]; rfl) (by rfl) ?_ ?_ ?_; rotate_left 2; (intro w' hS; go_simp; try rfl); (simp only [Act.put, List.setIfInBounds_toArray, List.set_cons_zero, List.set_cons_succ]; try rfl)) | (refine' along_skip (by simp only [List.getElem?_cons_succ, List.getElem?_cons_zero]; rfl) (by rfl) ?_ ?_; rotate_left 1; (simp only [Act.put, List.setIfInBounds_toArray, List.set_cons_zero, List.set_cons_succ]; try rfl)))
      (refine along_do (by simp only [List.getElem?_cons_succ, List.getElem?_cons_zero]; rfl) (by rfl) (fun K hK => ?_); go_simp)
      refine (same_any _ _ m L 0 1 _ hs).mono ?_
      rintro e w7 ⟨rfl, hs, o8⟩
      have o7 := o7.trans o8
      clear o8
      (refine hK _ _ (MK.out _ o7) ?_; clear hK K)
      repeat (first | (refine' along_take (by simp only [List.getElem?_cons_succ, List.getElem?_cons_zero]; rfl) (by rfl) ?_ ?_ ?_; rotate_left 2; (intro w' hS; go_simp; try rfl); (simp only [Act.put, List.setIfInBounds_toArray, List.set_cons_zero, List.set_cons_succ]; try rfl)) | (refine' along_skip (by simp only [List.getElem?_cons_succ, List.getElem?_cons_zero]; rfl) (by rfl) ?_ ?_; rotate_left 1; (simp only [Act.put, List.setIfInBounds_toArray, List.set_cons_zero, List.set_cons_succ]; try rfl)))
      (refine along_do (by simp only [List.getElem?_cons_succ, List.getElem?_cons_zero]; rfl) (by rfl) (fun K hK => ?_); go_simp)
      refine (rsame_any _ _ m L 0 1 _ (HR.out.kept o7 (fun t ht e => ht.2.1 e))).mono ?_
      rintro e w7 ⟨rfl, o8⟩
      have hs := hs.kept o8 (fun f => f) (fun f => f)
      have o7 := o7.then o8 (fun _ _ f => f.elim)
      clear o8
      (refine hK _ _ (MK.out _ o7) ?_; clear hK K)
      repeat (first | (refine' along_take (by simp only [List.getElem?_cons_succ, List.getElem?_cons_zero]; rfl) (by rfl) ?_ ?_ ?_; rotate_left 2; (intro w' hS; go_simp; try rfl); (simp only [Act.put, List.setIfInBounds_toArray, List.set_cons_zero, List.set_cons_succ]; try rfl)) | (refine' along_skip (by simp only [List.getElem?_cons_succ, List.getElem?_cons_zero]; rfl) (by rfl) ?_ ?_; rotate_left 1; (simp only [Act.put, List.setIfInBounds_toArray, List.set_cons_zero, List.set_cons_succ]; try rfl)))
      refine along_end ?_
      go_wp2_with fail
      rotate_left 1
      exact MK.out _ ((Only.refl _ _).drew)
      go_ret
      exact ⟨rfl, oR.then o7 (fun i hi e => by unfold B1 at e; omega)⟩
end Go.Proofs.Ytincgkcmfhhofaa
