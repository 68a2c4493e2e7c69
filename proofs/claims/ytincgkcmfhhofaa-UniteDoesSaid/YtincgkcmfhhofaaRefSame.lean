/-
  THE WALKS of quittanceref05.Sets: Least, Same.
-/
import Derived.Test.YtincgkcmfhhofaaGroups
import Derived.Test.YtincgkcmfhhofaaNew
import Derived.Test.YtincgkcmfhhofaaSched
import Derived.Deep.RegionHeld3
set_option linter.unusedVariables false
set_option linter.unusedSimpArgs false
namespace Go.Proofs.Ytincgkcmfhhofaa
open Go.RowKit

/-- v is the reference's Sets: of each of n numbers the least one, in blocks of p -/
def RIs (p : Nat → Prop) (w : World) (v : Value) (n : Nat) (L : Nat → Nat) : Prop :=
  n ≤ 1000 ∧ Tidy n L ∧ ∃ a cap, v = .agg #[.slice a n cap] ∧ (0 < n → ∃ b o, a = some ⟨b, o, none⟩ ∧ p b ∧ ∀ j, j < n → w.cell? ⟨b, o + j, none⟩ = some (.int .i64 (L j : Nat)))
theorem RIs.kept {p S : Nat → Prop} {w w' : World} {v : Value} {n : Nat} {L : Nat → Nat} (h : RIs p w v n L) (o : Only S w w') (hs : ∀ b, p b → ¬ S b) : RIs p w' v n L := by
  obtain ⟨hn, ht, a, cap, rfl, hc⟩ := h
  refine ⟨hn, ht, a, cap, rfl, fun h0 => ?_⟩
  obtain ⟨b, of, rfl, hp, hc⟩ := hc h0
  exact ⟨b, of, rfl, hp, fun j hj => o.cell (hc j hj) (hs b hp)⟩
theorem RIs.mono {p q : Nat → Prop} {w : World} {v : Value} {n : Nat} {L : Nat → Nat} (h : RIs p w v n L) (hs : ∀ b, p b → q b) : RIs q w v n L := by
  obtain ⟨hn, ht, a, cap, rfl, hc⟩ := h
  refine ⟨hn, ht, a, cap, rfl, fun h0 => ?_⟩
  obtain ⟨b, of, rfl, hp, hc⟩ := hc h0
  exact ⟨b, of, rfl, hs b hp, hc⟩
theorem RIs.lt {p : Nat → Prop} {w : World} {v : Value} {n : Nat} {L : Nat → Nat} (h : RIs p w v n L) : RIs (fun b => p b ∧ b < w.heap.size) w v n L := by
  obtain ⟨hn, ht, a, cap, rfl, hc⟩ := h
  refine ⟨hn, ht, a, cap, rfl, fun h0 => ?_⟩
  obtain ⟨b, of, rfl, hp, hc⟩ := hc h0
  exact ⟨b, of, rfl, ⟨hp, World.block_lt_of_cell? _ _ (hc 0 h0)⟩, hc⟩

set_option maxHeartbeats 800000 in
theorem rleast_any (p : Nat → Prop) (v : Value) (n : Nat) (L : Nat → Nat) (a : Int) (w : World) (h : RIs p w v n L) :
    Calls Try.prog 24 #[v, .int .i64 a] w fun e w' => e = .returned (.int .i64 (leastI n L a)) ∧ Only NoB w w' := by
  obtain ⟨hn, ht, s, cap, rfl, hc⟩ := h
  unfold leastI inB
  by_cases h0 : a < 0
  · have e0 : decide (0 ≤ a) = false := by simp; omega
    rw [e0]
    clear hc ht e0
    go_enter Try.func24, Try.ntmps24
    go_wp2_with fail
    go_ret
    exact ⟨rfl, (Only.refl _ _).alloc _⟩
  · have e0 : decide (0 ≤ a) = true := by simp; omega
    rw [e0]
    by_cases h1 : a < n
    · have e1 : decide (a < n) = true := by simp; omega
      rw [e1]
      simp only [Bool.and_self, ↓reduceIte]
      obtain ⟨m, rfl⟩ : ∃ m : Nat, a = m := ⟨a.toNat, by omega⟩
      obtain ⟨b, o, rfl, hp, hc⟩ := hc (by omega)
      have cm := hc m (by omega)
      have lm := World.block_lt_of_cell? _ _ cm
      have hm : m < n := by omega
      rw [Int.toNat_natCast]
      clear hc ht e0 e1
      go_enter Try.func24, Try.ntmps24
      go_wp2_with fail
      go_ret
      exact ⟨rfl, (Only.refl _ _).alloc _⟩
    · have e1 : decide (a < n) = false := by simp; omega
      rw [e1]
      clear hc ht e0 e1
      go_enter Try.func24, Try.ntmps24
      go_wp2_with fail
      go_ret
      exact ⟨rfl, (Only.refl _ _).alloc _⟩

set_option maxHeartbeats 800000 in
theorem rsame_any (p : Nat → Prop) (v : Value) (n : Nat) (L : Nat → Nat) (x y : Int) (w : World) (h : RIs p w v n L) :
    Calls Try.prog 23 #[v, .int .i64 x, .int .i64 y] w fun e w' => e = .returned (.bool (sameI n L x y)) ∧ Only NoB w w' := by
  have cx : ∀ W, Only NoB w W → Calls Try.prog 24 #[v, .int .i64 x] W fun e w' => e = .returned (.int .i64 (leastI n L x)) ∧ Only NoB W w' := fun W o => rleast_any p v n L x W (h.kept o (fun _ _ f => f))
  have cy : ∀ W, Only NoB w W → Calls Try.prog 24 #[v, .int .i64 y] W fun e w' => e = .returned (.int .i64 (leastI n L y)) ∧ Only NoB W w' := fun W o => rleast_any p v n L y W (h.kept o (fun _ _ f => f))
  obtain ⟨hn, ht, s, cap, rfl, hc⟩ := h
  clear hc hn ht
  cases q : inB n x
  · have e1 : leastI n L x = -1 := by unfold leastI; rw [q]; rfl
    have e2 : sameI n L x y = false := by unfold sameI; rw [q]; rfl
    rw [e1] at cx
    rw [e2]
    have CX := Lib.hid cx
    clear cx cy e1 e2 q
    go_enter Try.func23, Try.ntmps23
    go_wp2_with fail
    have ob : Only NoB w (w.alloc (.cells #[.slice s n cap] 45)) := (Only.refl _ _).alloc _
    have hb := heap_alloc_new w (.cells #[.slice s n cap] 45)
    generalize World.alloc w _ = W at *
    have MK : Hid (∀ w', Only NoB W w' → w'.cell? ⟨w.heap.size, 0, none⟩ = some (.slice s n cap)) := fun w' oo => Only.cell oo ((cell_in _ _ _ _ _ _ hb).trans rfl) (fun f => f)
    refine wp_region_along (fun w' => w'.cell? ⟨w.heap.size, 0, none⟩ = some (.slice s n cap)) [(0, true), (1, true), (2, false), (3, true), (4, true), (5, true), (6, true), (8, true), (9, true), (7, false), (10, false), (11, true), (12, true), (13, true)] (by kernel_rfl) (by kernel_rfl) ?_ ?_
    · exact MK.out _ ((Only.refl _ _).drew)
    · have oo : Only NoB W W.drew := (Only.refl _ _).drew
      generalize W.drew = Y at *
      repeat (first | (refine' along_take (by simp only [List.getElem?_cons_succ, List.getElem?_cons_zero]; rfl) (by rfl) ?_ ?_ ?_; rotate_left 2; (intro w' hS; go_simp; try rfl); (simp only [Act.put, List.setIfInBounds_toArray, List.set_cons_zero, List.set_cons_succ]; try rfl)) | (refine' along_skip (by simp only [List.getElem?_cons_succ, List.getElem?_cons_zero]; rfl) (by rfl) ?_ ?_; rotate_left 1; (simp only [Act.put, List.setIfInBounds_toArray, List.set_cons_zero, List.set_cons_succ]; try rfl)))
      (refine along_do (by simp only [List.getElem?_cons_succ, List.getElem?_cons_zero]; rfl) (by rfl) (fun K hK => ?_); go_simp)
      refine (CX.out _ (ob.trans oo)).mono ?_
      rintro e w1 ⟨rfl, o1⟩
      have oo := oo.trans o1
      (refine hK _ _ (MK.out _ oo) ?_; clear hK K)
      repeat (first | (refine' along_take (by simp only [List.getElem?_cons_succ, List.getElem?_cons_zero]; rfl) (by rfl) ?_ ?_ ?_; rotate_left 2; (intro w' hS; go_simp; try rfl); (simp only [Act.put, List.setIfInBounds_toArray, List.set_cons_zero, List.set_cons_succ]; try rfl)) | (refine' along_skip (by simp only [List.getElem?_cons_succ, List.getElem?_cons_zero]; rfl) (by rfl) ?_ ?_; rotate_left 1; (simp only [Act.put, List.setIfInBounds_toArray, List.set_cons_zero, List.set_cons_succ]; try rfl)))
      (refine' along_pass (by simp only [List.getElem?_cons_succ, List.getElem?_cons_zero]; rfl) (by rfl) (MK.out _ oo) ?_ ?_; rotate_left 1; (simp only [Act.put, List.setIfInBounds_toArray, List.set_cons_zero, List.set_cons_succ]; try rfl))
      repeat (first | (refine' along_take (by simp only [List.getElem?_cons_succ, List.getElem?_cons_zero]; rfl) (by rfl) ?_ ?_ ?_; rotate_left 2; (intro w' hS; go_simp; try rfl); (simp only [Act.put, List.setIfInBounds_toArray, List.set_cons_zero, List.set_cons_succ]; try rfl)) | (refine' along_skip (by simp only [List.getElem?_cons_succ, List.getElem?_cons_zero]; rfl) (by rfl) ?_ ?_; rotate_left 1; (simp only [Act.put, List.setIfInBounds_toArray, List.set_cons_zero, List.set_cons_succ]; try rfl)))
      (refine' along_pass (by simp only [List.getElem?_cons_succ, List.getElem?_cons_zero]; rfl) (by rfl) (MK.out _ oo) ?_ ?_; rotate_left 1; (simp only [Act.put, List.setIfInBounds_toArray, List.set_cons_zero, List.set_cons_succ]; try rfl))
      repeat (first | (refine' along_take (by simp only [List.getElem?_cons_succ, List.getElem?_cons_zero]; rfl) (by rfl) ?_ ?_ ?_; rotate_left 2; (intro w' hS; go_simp; try rfl); (simp only [Act.put, List.setIfInBounds_toArray, List.set_cons_zero, List.set_cons_succ]; try rfl)) | (refine' along_skip (by simp only [List.getElem?_cons_succ, List.getElem?_cons_zero]; rfl) (by rfl) ?_ ?_; rotate_left 1; (simp only [Act.put, List.setIfInBounds_toArray, List.set_cons_zero, List.set_cons_succ]; try rfl)))
      refine along_end ?_
      go_wp2_with fail
      go_ret
      exact ⟨rfl, ob.trans oo⟩
  · obtain ⟨m, e1⟩ : ∃ m : Nat, leastI n L x = m := ⟨L x.toNat, by unfold leastI; rw [q]; rfl⟩
    have e2 : ((m : Int) == leastI n L y) = sameI n L x y := by
      unfold leastI at e1 ⊢
      unfold sameI
      rw [q] at e1 ⊢
      simp only [↓reduceIte] at e1
      cases q2 : inB n y
      · simp
        try omega
      · rw [← e1]
        simp only [↓reduceIte, Bool.true_and]
        rw [Bool.eq_iff_iff]; simp
        try omega
    rw [e1] at cx
    generalize leastI n L y = l2 at *
    generalize sameI n L x y = r at *
    have CX := Lib.hid cx
    have CY := Lib.hid cy
    clear cx cy e1 q
    go_enter Try.func23, Try.ntmps23
    go_wp2_with fail
    have ob : Only NoB w (w.alloc (.cells #[.slice s n cap] 45)) := (Only.refl _ _).alloc _
    have hb := heap_alloc_new w (.cells #[.slice s n cap] 45)
    generalize World.alloc w _ = W at *
    have MK : Hid (∀ w', Only NoB W w' → w'.cell? ⟨w.heap.size, 0, none⟩ = some (.slice s n cap)) := fun w' oo => Only.cell oo ((cell_in _ _ _ _ _ _ hb).trans rfl) (fun f => f)
    refine wp_region_along (fun w' => w'.cell? ⟨w.heap.size, 0, none⟩ = some (.slice s n cap)) [(0, true), (1, true), (2, false), (3, true), (4, true), (5, true), (6, true), (8, true), (9, true), (7, false), (10, false), (11, true), (12, true), (13, true)] (by kernel_rfl) (by kernel_rfl) ?_ ?_
    · exact MK.out _ ((Only.refl _ _).drew)
    · have oo : Only NoB W W.drew := (Only.refl _ _).drew
      generalize W.drew = Y at *
      repeat (first | (refine' along_take (by simp only [List.getElem?_cons_succ, List.getElem?_cons_zero]; rfl) (by rfl) ?_ ?_ ?_; rotate_left 2; (intro w' hS; go_simp; try rfl); (simp only [Act.put, List.setIfInBounds_toArray, List.set_cons_zero, List.set_cons_succ]; try rfl)) | (refine' along_skip (by simp only [List.getElem?_cons_succ, List.getElem?_cons_zero]; rfl) (by rfl) ?_ ?_; rotate_left 1; (simp only [Act.put, List.setIfInBounds_toArray, List.set_cons_zero, List.set_cons_succ]; try rfl)))
      (refine along_do (by simp only [List.getElem?_cons_succ, List.getElem?_cons_zero]; rfl) (by rfl) (fun K hK => ?_); go_simp)
      refine (CX.out _ (ob.trans oo)).mono ?_
      rintro e w1 ⟨rfl, o1⟩
      have oo := oo.trans o1
      (refine hK _ _ (MK.out _ oo) ?_; clear hK K)
      repeat (first | (refine' along_take (by simp only [List.getElem?_cons_succ, List.getElem?_cons_zero]; rfl) (by rfl) ?_ ?_ ?_; rotate_left 2; (intro w' hS; go_simp; try rfl); (simp only [Act.put, List.setIfInBounds_toArray, List.set_cons_zero, List.set_cons_succ]; try rfl)) | (refine' along_skip (by simp only [List.getElem?_cons_succ, List.getElem?_cons_zero]; rfl) (by rfl) ?_ ?_; rotate_left 1; (simp only [Act.put, List.setIfInBounds_toArray, List.set_cons_zero, List.set_cons_succ]; try rfl)))
      (refine along_do (by simp only [List.getElem?_cons_succ, List.getElem?_cons_zero]; rfl) (by rfl) (fun K hK => ?_); go_simp)
      refine (CX.out _ (ob.trans oo)).mono ?_
      rintro e w1 ⟨rfl, o1⟩
      have oo := oo.trans o1
      (refine hK _ _ (MK.out _ oo) ?_; clear hK K)
      repeat (first | (refine' along_take (by simp only [List.getElem?_cons_succ, List.getElem?_cons_zero]; rfl) (by rfl) ?_ ?_ ?_; rotate_left 2; (intro w' hS; go_simp; try rfl); (simp only [Act.put, List.setIfInBounds_toArray, List.set_cons_zero, List.set_cons_succ]; try rfl)) | (refine' along_skip (by simp only [List.getElem?_cons_succ, List.getElem?_cons_zero]; rfl) (by rfl) ?_ ?_; rotate_left 1; (simp only [Act.put, List.setIfInBounds_toArray, List.set_cons_zero, List.set_cons_succ]; try rfl)))
      (refine along_do (by simp only [List.getElem?_cons_succ, List.getElem?_cons_zero]; rfl) (by rfl) (fun K hK => ?_); go_simp)
      refine (CY.out _ (ob.trans oo)).mono ?_
      rintro e w1 ⟨rfl, o1⟩
      have oo := oo.trans o1
      (refine hK _ _ (MK.out _ oo) ?_; clear hK K)
      repeat (first | (refine' along_take (by simp only [List.getElem?_cons_succ, List.getElem?_cons_zero]; rfl) (by rfl) ?_ ?_ ?_; rotate_left 2; (intro w' hS; go_simp; try rfl); (simp only [Act.put, List.setIfInBounds_toArray, List.set_cons_zero, List.set_cons_succ]; try rfl)) | (refine' along_skip (by simp only [List.getElem?_cons_succ, List.getElem?_cons_zero]; rfl) (by rfl) ?_ ?_; rotate_left 1; (simp only [Act.put, List.setIfInBounds_toArray, List.set_cons_zero, List.set_cons_succ]; try rfl)))
      refine along_end ?_
      go_wp2_with fail
      go_ret
      exact ⟨rfl, ob.trans oo⟩
end Go.Proofs.Ytincgkcmfhhofaa
