import Derived.Test.YtajihhmohokngaaOrderLaw
set_option linter.unusedVariables false
set_option linter.unusedSimpArgs false
namespace Go.Proofs.Ytajihhmohokngaa
open Go.RowKit

theorem cmpI_cases (a b : Int) : (cmpI a b = -1 ∧ cmpI b a = 1) ∨ (cmpI a b = 0 ∧ cmpI b a = 0) ∨ (cmpI a b = 1 ∧ cmpI b a = -1) := by
  unfold cmpI; repeat (first | omega | split)
theorem cmpI_self (a : Int) : cmpI a a = 0 := by unfold cmpI; repeat (first | omega | split)
theorem w128_back (a b : Int) (h : In128 a) : w128 (w128 (a + b) - b) = a := by unfold In128 at h; unfold w128; omega
theorem w128_neg (a : Int) (h : In128 a) : w128 (0 - w128 (0 - a)) = a := by unfold In128 at h; unfold w128; omega

set_option maxHeartbeats 2000000 in
theorem back_walk (a b n : Int) (w : World) (ha : In128 a) (hb : In128 b) (hn : In64 n) :
    Calls Try.prog 4 #[.agg #[.int .i64 (hi64 a), .int .u64 (lo64 a)], .agg #[.int .i64 (hi64 b), .int .u64 (lo64 b)], .int .i64 n] w fun e w' => e = .returned (.bool true) ∧ Below w.heap.size w w' := by
  have KK := Lib.hid (fun w => known_any w)
  have O1 := Lib.hid (fun w => of_any n w hn)
  have B1 := Lib.hid (fun w => back_yes n w hn)
  have P1 := Lib.hid (fun w => plus_any a b w ha hb)
  have P2 := fun w => plus_any b a w hb ha
  rw [Int.add_comm b a] at P2
  have P2 := Lib.hid P2
  have N1 := fun w => minus_any (w128 (a + b)) b w (w128_in _) hb
  rw [w128_back a b ha] at N1
  have N1 := Lib.hid N1
  have N2 := fun w => minus_any 0 a w (by unfold In128; omega) ha
  have N3 := fun w => minus_any 0 (w128 (0 - a)) w (by unfold In128; omega) (w128_in _)
  rw [w128_neg a ha] at N3
  have N4 := fun w => minus_any a a w ha ha
  have hz : w128 (a - a) = 0 := by rw [Int.sub_self]; rfl
  rw [hz] at N4
  simp only [hi64_zero, lo64_zero] at N2 N3 N4
  have N2 := Lib.hid N2
  have N3 := Lib.hid N3
  have N4 := Lib.hid N4
  have C1 := fun w => compare_any a a w
  rw [cmpI_self] at C1
  have C1 := Lib.hid C1
  have C2 := fun w => compare_any a b w
  have C3 := fun w => compare_any b a w
  have hcmp := cmpI_cases a b
  generalize cmpI a b = t1 at *
  generalize cmpI b a = t2 at *
  have C2 := Lib.hid C2
  have C3 := Lib.hid C3
  have bb := Below.refl w.heap.size w
  clear hz ha hb hn
  generalize w128 (a + b) = s at *
  generalize w128 (0 - a) = r at *
  rcases hcmp with ⟨rfl, rfl⟩ | ⟨rfl, rfl⟩ | ⟨rfl, rfl⟩
  · skip
    go_enter Try.func4, Try.ntmps4
    go_wp2_with fail
    have L1 := lay_ok w a
    have L2 := lay_ok (lay w a) b
    have e : (lay w a).heap.size = w.heap.size + 1 := by simp [lay]
    have bb := bb.trans (L1.1.mono bb.size)
    have bb := bb.trans (L2.1.mono bb.size)
    have i1 := L1.2.below L2.1
    have i2 := L2.2
    rw [e] at i2
    change Calls _ _ _ (lay (lay w a) b) _
    generalize lay (lay w a) b = X1 at *
    clear e L1 L2
    refine (O1.out _).mono ?_
    rintro e w1 ⟨rfl, b1⟩
    have bb := bb.trans (b1.mono bb.size)
    have i1 := i1.below b1
    have i2 := i2.below b1
    clear b1
    go_wp2_with fail
    refine (B1.out _).mono ?_
    rintro e W ⟨rfl, b1⟩
    have bb := bb.trans (b1.mono bb.size)
    have i1 := i1.below b1
    have i2 := i2.below b1
    clear b1
    go_wp2_with fail
    have mk : ∀ w', Below W.heap.size W w' → Below w.heap.size w w' ∧ WideAt w' w.heap.size a ∧ WideAt w' (w.heap.size + 1) b := fun w' h => ⟨bb.trans (h.mono bb.size), i1.below h, i2.below h⟩
    unfold WideAt at mk
    clear bb i1 i2
    have MK := Lib.hid mk
    clear mk
    refine wp_region_along (fun w' => Below w.heap.size w w' ∧ (w'.cell? ⟨w.heap.size, 0, none⟩ = some (.int .i64 (hi64 a)) ∧ w'.cell? ⟨w.heap.size, 1, none⟩ = some (.int .u64 (lo64 a)) ∧ w.heap.size < w'.heap.size) ∧ (w'.cell? ⟨w.heap.size + 1, 0, none⟩ = some (.int .i64 (hi64 b)) ∧ w'.cell? ⟨w.heap.size + 1, 1, none⟩ = some (.int .u64 (lo64 b)) ∧ w.heap.size + 1 < w'.heap.size)) [(0, false), (1, true), (2, true), (3, true), (5, true), (7, true), (4, false), (6, false), (8, true), (9, true), (10, true), (11, true), (12, true), (13, true), (16, true), (14, false), (15, false), (17, true), (18, true), (19, true), (20, true), (21, true), (23, true), (24, true), (22, false), (25, false), (26, true), (27, true), (28, true), (29, true), (30, true), (32, true), (31, false), (33, true), (34, true), (35, true), (36, true), (37, true), (38, true), (39, true), (40, true), (41, true), (42, true), (43, true), (44, true), (45, true), (46, false), (47, true), (48, true), (49, true), (50, true), (51, true), (53, true), (54, true), (52, false), (55, false), (56, true), (57, true), (58, true), (59, true)] (by kernel_rfl) (by kernel_rfl) ?_ ?_
    · exact MK.out _ (Below.drew (Below.refl _ _))
    · have tt := Below.drew (Below.refl W.heap.size W)
      generalize W.drew = Y at *
      repeat (first | (refine' along_take (by simp only [List.getElem?_cons_succ, List.getElem?_cons_zero]; rfl) (by rfl) ?_ ?_ ?_; rotate_left 2; (intro w' hS; go_simp; try rfl); (simp only [Act.put, List.setIfInBounds_toArray, List.set_cons_zero, List.set_cons_succ]; try rfl)) | (refine' along_skip (by simp only [List.getElem?_cons_succ, List.getElem?_cons_zero]; rfl) (by rfl) ?_ ?_; rotate_left 1; (simp only [Act.put, List.setIfInBounds_toArray, List.set_cons_zero, List.set_cons_succ]; try rfl)))
      (refine along_do (by simp only [List.getElem?_cons_succ, List.getElem?_cons_zero]; rfl) (by rfl) (fun K hK => ?_); go_simp)
      refine (KK.out _).mono ?_
      rintro e w' ⟨rfl, b1⟩
      have tt := tt.trans (b1.mono tt.size)
      clear b1
      (refine hK _ _ (MK.out _ tt) ?_; clear hK K)
      repeat (first | (refine' along_take (by simp only [List.getElem?_cons_succ, List.getElem?_cons_zero]; rfl) (by rfl) ?_ ?_ ?_; rotate_left 2; (intro w' hS; go_simp; try rfl); (simp only [Act.put, List.setIfInBounds_toArray, List.set_cons_zero, List.set_cons_succ]; try rfl)) | (refine' along_skip (by simp only [List.getElem?_cons_succ, List.getElem?_cons_zero]; rfl) (by rfl) ?_ ?_; rotate_left 1; (simp only [Act.put, List.setIfInBounds_toArray, List.set_cons_zero, List.set_cons_succ]; try rfl)))
      (refine along_do (by simp only [List.getElem?_cons_succ, List.getElem?_cons_zero]; rfl) (by rfl) (fun K hK => ?_); go_simp)
      refine (P1.out _).mono ?_
      rintro e w' ⟨rfl, b1⟩
      have tt := tt.trans (b1.mono tt.size)
      clear b1
      (refine hK _ _ (MK.out _ tt) ?_; clear hK K)
      repeat (first | (refine' along_take (by simp only [List.getElem?_cons_succ, List.getElem?_cons_zero]; rfl) (by rfl) ?_ ?_ ?_; rotate_left 2; (intro w' hS; go_simp; try rfl); (simp only [Act.put, List.setIfInBounds_toArray, List.set_cons_zero, List.set_cons_succ]; try rfl)) | (refine' along_skip (by simp only [List.getElem?_cons_succ, List.getElem?_cons_zero]; rfl) (by rfl) ?_ ?_; rotate_left 1; (simp only [Act.put, List.setIfInBounds_toArray, List.set_cons_zero, List.set_cons_succ]; try rfl)))
      (refine along_do (by simp only [List.getElem?_cons_succ, List.getElem?_cons_zero]; rfl) (by rfl) (fun K hK => ?_); go_simp)
      refine (N1.out _).mono ?_
      rintro e w' ⟨rfl, b1⟩
      have tt := tt.trans (b1.mono tt.size)
      clear b1
      (refine hK _ _ (MK.out _ tt) ?_; clear hK K)
      repeat (first | (refine' along_take (by simp only [List.getElem?_cons_succ, List.getElem?_cons_zero]; rfl) (by rfl) ?_ ?_ ?_; rotate_left 2; (intro w' hS; go_simp; try rfl); (simp only [Act.put, List.setIfInBounds_toArray, List.set_cons_zero, List.set_cons_succ]; try rfl)) | (refine' along_skip (by simp only [List.getElem?_cons_succ, List.getElem?_cons_zero]; rfl) (by rfl) ?_ ?_; rotate_left 1; (simp only [Act.put, List.setIfInBounds_toArray, List.set_cons_zero, List.set_cons_succ]; try rfl)))
      (refine along_do (by simp only [List.getElem?_cons_succ, List.getElem?_cons_zero]; rfl) (by rfl) (fun K hK => ?_); go_simp)
      refine (N2.out _).mono ?_
      rintro e w' ⟨rfl, b1⟩
      have tt := tt.trans (b1.mono tt.size)
      clear b1
      (refine hK _ _ (MK.out _ tt) ?_; clear hK K)
      repeat (first | (refine' along_take (by simp only [List.getElem?_cons_succ, List.getElem?_cons_zero]; rfl) (by rfl) ?_ ?_ ?_; rotate_left 2; (intro w' hS; go_simp; try rfl); (simp only [Act.put, List.setIfInBounds_toArray, List.set_cons_zero, List.set_cons_succ]; try rfl)) | (refine' along_skip (by simp only [List.getElem?_cons_succ, List.getElem?_cons_zero]; rfl) (by rfl) ?_ ?_; rotate_left 1; (simp only [Act.put, List.setIfInBounds_toArray, List.set_cons_zero, List.set_cons_succ]; try rfl)))
      (refine along_do (by simp only [List.getElem?_cons_succ, List.getElem?_cons_zero]; rfl) (by rfl) (fun K hK => ?_); go_simp)
      refine (N3.out _).mono ?_
      rintro e w' ⟨rfl, b1⟩
      have tt := tt.trans (b1.mono tt.size)
      clear b1
      (refine hK _ _ (MK.out _ tt) ?_; clear hK K)
      repeat (first | (refine' along_take (by simp only [List.getElem?_cons_succ, List.getElem?_cons_zero]; rfl) (by rfl) ?_ ?_ ?_; rotate_left 2; (intro w' hS; go_simp; try rfl); (simp only [Act.put, List.setIfInBounds_toArray, List.set_cons_zero, List.set_cons_succ]; try rfl)) | (refine' along_skip (by simp only [List.getElem?_cons_succ, List.getElem?_cons_zero]; rfl) (by rfl) ?_ ?_; rotate_left 1; (simp only [Act.put, List.setIfInBounds_toArray, List.set_cons_zero, List.set_cons_succ]; try rfl)))
      (refine along_do (by simp only [List.getElem?_cons_succ, List.getElem?_cons_zero]; rfl) (by rfl) (fun K hK => ?_); go_simp)
      refine (P1.out _).mono ?_
      rintro e w' ⟨rfl, b1⟩
      have tt := tt.trans (b1.mono tt.size)
      clear b1
      (refine hK _ _ (MK.out _ tt) ?_; clear hK K)
      repeat (first | (refine' along_take (by simp only [List.getElem?_cons_succ, List.getElem?_cons_zero]; rfl) (by rfl) ?_ ?_ ?_; rotate_left 2; (intro w' hS; go_simp; try rfl); (simp only [Act.put, List.setIfInBounds_toArray, List.set_cons_zero, List.set_cons_succ]; try rfl)) | (refine' along_skip (by simp only [List.getElem?_cons_succ, List.getElem?_cons_zero]; rfl) (by rfl) ?_ ?_; rotate_left 1; (simp only [Act.put, List.setIfInBounds_toArray, List.set_cons_zero, List.set_cons_succ]; try rfl)))
      (refine along_do (by simp only [List.getElem?_cons_succ, List.getElem?_cons_zero]; rfl) (by rfl) (fun K hK => ?_); go_simp)
      refine (P2.out _).mono ?_
      rintro e w' ⟨rfl, b1⟩
      have tt := tt.trans (b1.mono tt.size)
      clear b1
      (refine hK _ _ (MK.out _ tt) ?_; clear hK K)
      repeat (first | (refine' along_take (by simp only [List.getElem?_cons_succ, List.getElem?_cons_zero]; rfl) (by rfl) ?_ ?_ ?_; rotate_left 2; (intro w' hS; go_simp; try rfl); (simp only [Act.put, List.setIfInBounds_toArray, List.set_cons_zero, List.set_cons_succ]; try rfl)) | (refine' along_skip (by simp only [List.getElem?_cons_succ, List.getElem?_cons_zero]; rfl) (by rfl) ?_ ?_; rotate_left 1; (simp only [Act.put, List.setIfInBounds_toArray, List.set_cons_zero, List.set_cons_succ]; try rfl)))
      (refine along_do (by simp only [List.getElem?_cons_succ, List.getElem?_cons_zero]; rfl) (by rfl) (fun K hK => ?_); go_simp)
      refine (N4.out _).mono ?_
      rintro e w' ⟨rfl, b1⟩
      have tt := tt.trans (b1.mono tt.size)
      clear b1
      (refine hK _ _ (MK.out _ tt) ?_; clear hK K)
      repeat (first | (refine' along_take (by simp only [List.getElem?_cons_succ, List.getElem?_cons_zero]; rfl) (by rfl) ?_ ?_ ?_; rotate_left 2; (intro w' hS; go_simp; try rfl); (simp only [Act.put, List.setIfInBounds_toArray, List.set_cons_zero, List.set_cons_succ]; try rfl)) | (refine' along_skip (by simp only [List.getElem?_cons_succ, List.getElem?_cons_zero]; rfl) (by rfl) ?_ ?_; rotate_left 1; (simp only [Act.put, List.setIfInBounds_toArray, List.set_cons_zero, List.set_cons_succ]; try rfl)))
      (refine along_do (by simp only [List.getElem?_cons_succ, List.getElem?_cons_zero]; rfl) (by rfl) (fun K hK => ?_); go_simp)
      refine (C1.out _).mono ?_
      rintro e w' ⟨rfl, b1⟩
      have tt := tt.trans (b1.mono tt.size)
      clear b1
      (refine hK _ _ (MK.out _ tt) ?_; clear hK K)
      repeat (first | (refine' along_take (by simp only [List.getElem?_cons_succ, List.getElem?_cons_zero]; rfl) (by rfl) ?_ ?_ ?_; rotate_left 2; (intro w' hS; go_simp; try rfl); (simp only [Act.put, List.setIfInBounds_toArray, List.set_cons_zero, List.set_cons_succ]; try rfl)) | (refine' along_skip (by simp only [List.getElem?_cons_succ, List.getElem?_cons_zero]; rfl) (by rfl) ?_ ?_; rotate_left 1; (simp only [Act.put, List.setIfInBounds_toArray, List.set_cons_zero, List.set_cons_succ]; try rfl)))
      (refine along_do (by simp only [List.getElem?_cons_succ, List.getElem?_cons_zero]; rfl) (by rfl) (fun K hK => ?_); go_simp)
      refine (C2.out _).mono ?_
      rintro e w' ⟨rfl, b1⟩
      have tt := tt.trans (b1.mono tt.size)
      clear b1
      (refine hK _ _ (MK.out _ tt) ?_; clear hK K)
      repeat (first | (refine' along_take (by simp only [List.getElem?_cons_succ, List.getElem?_cons_zero]; rfl) (by rfl) ?_ ?_ ?_; rotate_left 2; (intro w' hS; go_simp; try rfl); (simp only [Act.put, List.setIfInBounds_toArray, List.set_cons_zero, List.set_cons_succ]; try rfl)) | (refine' along_skip (by simp only [List.getElem?_cons_succ, List.getElem?_cons_zero]; rfl) (by rfl) ?_ ?_; rotate_left 1; (simp only [Act.put, List.setIfInBounds_toArray, List.set_cons_zero, List.set_cons_succ]; try rfl)))
      (refine along_do (by simp only [List.getElem?_cons_succ, List.getElem?_cons_zero]; rfl) (by rfl) (fun K hK => ?_); go_simp)
      refine (C3.out _).mono ?_
      rintro e w' ⟨rfl, b1⟩
      have tt := tt.trans (b1.mono tt.size)
      clear b1
      (refine hK _ _ (MK.out _ tt) ?_; clear hK K)
      repeat (first | (refine' along_take (by simp only [List.getElem?_cons_succ, List.getElem?_cons_zero]; rfl) (by rfl) ?_ ?_ ?_; rotate_left 2; (intro w' hS; go_simp; try rfl); (simp only [Act.put, List.setIfInBounds_toArray, List.set_cons_zero, List.set_cons_succ]; try rfl)) | (refine' along_skip (by simp only [List.getElem?_cons_succ, List.getElem?_cons_zero]; rfl) (by rfl) ?_ ?_; rotate_left 1; (simp only [Act.put, List.setIfInBounds_toArray, List.set_cons_zero, List.set_cons_succ]; try rfl)))
      refine along_end ?_
      go_wp2_with fail
      go_ret
      exact ⟨rfl, (MK.out _ tt).1⟩
  · skip
    go_enter Try.func4, Try.ntmps4
    go_wp2_with fail
    have L1 := lay_ok w a
    have L2 := lay_ok (lay w a) b
    have e : (lay w a).heap.size = w.heap.size + 1 := by simp [lay]
    have bb := bb.trans (L1.1.mono bb.size)
    have bb := bb.trans (L2.1.mono bb.size)
    have i1 := L1.2.below L2.1
    have i2 := L2.2
    rw [e] at i2
    change Calls _ _ _ (lay (lay w a) b) _
    generalize lay (lay w a) b = X1 at *
    clear e L1 L2
    refine (O1.out _).mono ?_
    rintro e w1 ⟨rfl, b1⟩
    have bb := bb.trans (b1.mono bb.size)
    have i1 := i1.below b1
    have i2 := i2.below b1
    clear b1
    go_wp2_with fail
    refine (B1.out _).mono ?_
    rintro e W ⟨rfl, b1⟩
    have bb := bb.trans (b1.mono bb.size)
    have i1 := i1.below b1
    have i2 := i2.below b1
    clear b1
    go_wp2_with fail
    have mk : ∀ w', Below W.heap.size W w' → Below w.heap.size w w' ∧ WideAt w' w.heap.size a ∧ WideAt w' (w.heap.size + 1) b := fun w' h => ⟨bb.trans (h.mono bb.size), i1.below h, i2.below h⟩
    unfold WideAt at mk
    clear bb i1 i2
    have MK := Lib.hid mk
    clear mk
    refine wp_region_along (fun w' => Below w.heap.size w w' ∧ (w'.cell? ⟨w.heap.size, 0, none⟩ = some (.int .i64 (hi64 a)) ∧ w'.cell? ⟨w.heap.size, 1, none⟩ = some (.int .u64 (lo64 a)) ∧ w.heap.size < w'.heap.size) ∧ (w'.cell? ⟨w.heap.size + 1, 0, none⟩ = some (.int .i64 (hi64 b)) ∧ w'.cell? ⟨w.heap.size + 1, 1, none⟩ = some (.int .u64 (lo64 b)) ∧ w.heap.size + 1 < w'.heap.size)) [(0, false), (1, true), (2, true), (3, true), (5, true), (7, true), (4, false), (6, false), (8, true), (9, true), (10, true), (11, true), (12, true), (13, true), (16, true), (14, false), (15, false), (17, true), (18, true), (19, true), (20, true), (21, true), (23, true), (24, true), (22, false), (25, false), (26, true), (27, true), (28, true), (29, true), (30, true), (32, true), (31, false), (33, true), (34, true), (35, true), (36, true), (37, true), (38, true), (39, true), (40, true), (41, true), (42, true), (43, true), (44, true), (45, true), (46, false), (47, true), (48, true), (49, true), (50, true), (51, true), (53, true), (54, true), (52, false), (55, false), (56, true), (57, true), (58, true), (59, true)] (by kernel_rfl) (by kernel_rfl) ?_ ?_
    · exact MK.out _ (Below.drew (Below.refl _ _))
    · have tt := Below.drew (Below.refl W.heap.size W)
      generalize W.drew = Y at *
      repeat (first | (refine' along_take (by simp only [List.getElem?_cons_succ, List.getElem?_cons_zero]; rfl) (by rfl) ?_ ?_ ?_; rotate_left 2; (intro w' hS; go_simp; try rfl); (simp only [Act.put, List.setIfInBounds_toArray, List.set_cons_zero, List.set_cons_succ]; try rfl)) | (refine' along_skip (by simp only [List.getElem?_cons_succ, List.getElem?_cons_zero]; rfl) (by rfl) ?_ ?_; rotate_left 1; (simp only [Act.put, List.setIfInBounds_toArray, List.set_cons_zero, List.set_cons_succ]; try rfl)))
      (refine along_do (by simp only [List.getElem?_cons_succ, List.getElem?_cons_zero]; rfl) (by rfl) (fun K hK => ?_); go_simp)
      refine (KK.out _).mono ?_
      rintro e w' ⟨rfl, b1⟩
      have tt := tt.trans (b1.mono tt.size)
      clear b1
      (refine hK _ _ (MK.out _ tt) ?_; clear hK K)
      repeat (first | (refine' along_take (by simp only [List.getElem?_cons_succ, List.getElem?_cons_zero]; rfl) (by rfl) ?_ ?_ ?_; rotate_left 2; (intro w' hS; go_simp; try rfl); (simp only [Act.put, List.setIfInBounds_toArray, List.set_cons_zero, List.set_cons_succ]; try rfl)) | (refine' along_skip (by simp only [List.getElem?_cons_succ, List.getElem?_cons_zero]; rfl) (by rfl) ?_ ?_; rotate_left 1; (simp only [Act.put, List.setIfInBounds_toArray, List.set_cons_zero, List.set_cons_succ]; try rfl)))
      (refine along_do (by simp only [List.getElem?_cons_succ, List.getElem?_cons_zero]; rfl) (by rfl) (fun K hK => ?_); go_simp)
      refine (P1.out _).mono ?_
      rintro e w' ⟨rfl, b1⟩
      have tt := tt.trans (b1.mono tt.size)
      clear b1
      (refine hK _ _ (MK.out _ tt) ?_; clear hK K)
      repeat (first | (refine' along_take (by simp only [List.getElem?_cons_succ, List.getElem?_cons_zero]; rfl) (by rfl) ?_ ?_ ?_; rotate_left 2; (intro w' hS; go_simp; try rfl); (simp only [Act.put, List.setIfInBounds_toArray, List.set_cons_zero, List.set_cons_succ]; try rfl)) | (refine' along_skip (by simp only [List.getElem?_cons_succ, List.getElem?_cons_zero]; rfl) (by rfl) ?_ ?_; rotate_left 1; (simp only [Act.put, List.setIfInBounds_toArray, List.set_cons_zero, List.set_cons_succ]; try rfl)))
      (refine along_do (by simp only [List.getElem?_cons_succ, List.getElem?_cons_zero]; rfl) (by rfl) (fun K hK => ?_); go_simp)
      refine (N1.out _).mono ?_
      rintro e w' ⟨rfl, b1⟩
      have tt := tt.trans (b1.mono tt.size)
      clear b1
      (refine hK _ _ (MK.out _ tt) ?_; clear hK K)
      repeat (first | (refine' along_take (by simp only [List.getElem?_cons_succ, List.getElem?_cons_zero]; rfl) (by rfl) ?_ ?_ ?_; rotate_left 2; (intro w' hS; go_simp; try rfl); (simp only [Act.put, List.setIfInBounds_toArray, List.set_cons_zero, List.set_cons_succ]; try rfl)) | (refine' along_skip (by simp only [List.getElem?_cons_succ, List.getElem?_cons_zero]; rfl) (by rfl) ?_ ?_; rotate_left 1; (simp only [Act.put, List.setIfInBounds_toArray, List.set_cons_zero, List.set_cons_succ]; try rfl)))
      (refine along_do (by simp only [List.getElem?_cons_succ, List.getElem?_cons_zero]; rfl) (by rfl) (fun K hK => ?_); go_simp)
      refine (N2.out _).mono ?_
      rintro e w' ⟨rfl, b1⟩
      have tt := tt.trans (b1.mono tt.size)
      clear b1
      (refine hK _ _ (MK.out _ tt) ?_; clear hK K)
      repeat (first | (refine' along_take (by simp only [List.getElem?_cons_succ, List.getElem?_cons_zero]; rfl) (by rfl) ?_ ?_ ?_; rotate_left 2; (intro w' hS; go_simp; try rfl); (simp only [Act.put, List.setIfInBounds_toArray, List.set_cons_zero, List.set_cons_succ]; try rfl)) | (refine' along_skip (by simp only [List.getElem?_cons_succ, List.getElem?_cons_zero]; rfl) (by rfl) ?_ ?_; rotate_left 1; (simp only [Act.put, List.setIfInBounds_toArray, List.set_cons_zero, List.set_cons_succ]; try rfl)))
      (refine along_do (by simp only [List.getElem?_cons_succ, List.getElem?_cons_zero]; rfl) (by rfl) (fun K hK => ?_); go_simp)
      refine (N3.out _).mono ?_
      rintro e w' ⟨rfl, b1⟩
      have tt := tt.trans (b1.mono tt.size)
      clear b1
      (refine hK _ _ (MK.out _ tt) ?_; clear hK K)
      repeat (first | (refine' along_take (by simp only [List.getElem?_cons_succ, List.getElem?_cons_zero]; rfl) (by rfl) ?_ ?_ ?_; rotate_left 2; (intro w' hS; go_simp; try rfl); (simp only [Act.put, List.setIfInBounds_toArray, List.set_cons_zero, List.set_cons_succ]; try rfl)) | (refine' along_skip (by simp only [List.getElem?_cons_succ, List.getElem?_cons_zero]; rfl) (by rfl) ?_ ?_; rotate_left 1; (simp only [Act.put, List.setIfInBounds_toArray, List.set_cons_zero, List.set_cons_succ]; try rfl)))
      (refine along_do (by simp only [List.getElem?_cons_succ, List.getElem?_cons_zero]; rfl) (by rfl) (fun K hK => ?_); go_simp)
      refine (P1.out _).mono ?_
      rintro e w' ⟨rfl, b1⟩
      have tt := tt.trans (b1.mono tt.size)
      clear b1
      (refine hK _ _ (MK.out _ tt) ?_; clear hK K)
      repeat (first | (refine' along_take (by simp only [List.getElem?_cons_succ, List.getElem?_cons_zero]; rfl) (by rfl) ?_ ?_ ?_; rotate_left 2; (intro w' hS; go_simp; try rfl); (simp only [Act.put, List.setIfInBounds_toArray, List.set_cons_zero, List.set_cons_succ]; try rfl)) | (refine' along_skip (by simp only [List.getElem?_cons_succ, List.getElem?_cons_zero]; rfl) (by rfl) ?_ ?_; rotate_left 1; (simp only [Act.put, List.setIfInBounds_toArray, List.set_cons_zero, List.set_cons_succ]; try rfl)))
      (refine along_do (by simp only [List.getElem?_cons_succ, List.getElem?_cons_zero]; rfl) (by rfl) (fun K hK => ?_); go_simp)
      refine (P2.out _).mono ?_
      rintro e w' ⟨rfl, b1⟩
      have tt := tt.trans (b1.mono tt.size)
      clear b1
      (refine hK _ _ (MK.out _ tt) ?_; clear hK K)
      repeat (first | (refine' along_take (by simp only [List.getElem?_cons_succ, List.getElem?_cons_zero]; rfl) (by rfl) ?_ ?_ ?_; rotate_left 2; (intro w' hS; go_simp; try rfl); (simp only [Act.put, List.setIfInBounds_toArray, List.set_cons_zero, List.set_cons_succ]; try rfl)) | (refine' along_skip (by simp only [List.getElem?_cons_succ, List.getElem?_cons_zero]; rfl) (by rfl) ?_ ?_; rotate_left 1; (simp only [Act.put, List.setIfInBounds_toArray, List.set_cons_zero, List.set_cons_succ]; try rfl)))
      (refine along_do (by simp only [List.getElem?_cons_succ, List.getElem?_cons_zero]; rfl) (by rfl) (fun K hK => ?_); go_simp)
      refine (N4.out _).mono ?_
      rintro e w' ⟨rfl, b1⟩
      have tt := tt.trans (b1.mono tt.size)
      clear b1
      (refine hK _ _ (MK.out _ tt) ?_; clear hK K)
      repeat (first | (refine' along_take (by simp only [List.getElem?_cons_succ, List.getElem?_cons_zero]; rfl) (by rfl) ?_ ?_ ?_; rotate_left 2; (intro w' hS; go_simp; try rfl); (simp only [Act.put, List.setIfInBounds_toArray, List.set_cons_zero, List.set_cons_succ]; try rfl)) | (refine' along_skip (by simp only [List.getElem?_cons_succ, List.getElem?_cons_zero]; rfl) (by rfl) ?_ ?_; rotate_left 1; (simp only [Act.put, List.setIfInBounds_toArray, List.set_cons_zero, List.set_cons_succ]; try rfl)))
      (refine along_do (by simp only [List.getElem?_cons_succ, List.getElem?_cons_zero]; rfl) (by rfl) (fun K hK => ?_); go_simp)
      refine (C1.out _).mono ?_
      rintro e w' ⟨rfl, b1⟩
      have tt := tt.trans (b1.mono tt.size)
      clear b1
      (refine hK _ _ (MK.out _ tt) ?_; clear hK K)
      repeat (first | (refine' along_take (by simp only [List.getElem?_cons_succ, List.getElem?_cons_zero]; rfl) (by rfl) ?_ ?_ ?_; rotate_left 2; (intro w' hS; go_simp; try rfl); (simp only [Act.put, List.setIfInBounds_toArray, List.set_cons_zero, List.set_cons_succ]; try rfl)) | (refine' along_skip (by simp only [List.getElem?_cons_succ, List.getElem?_cons_zero]; rfl) (by rfl) ?_ ?_; rotate_left 1; (simp only [Act.put, List.setIfInBounds_toArray, List.set_cons_zero, List.set_cons_succ]; try rfl)))
      (refine along_do (by simp only [List.getElem?_cons_succ, List.getElem?_cons_zero]; rfl) (by rfl) (fun K hK => ?_); go_simp)
      refine (C2.out _).mono ?_
      rintro e w' ⟨rfl, b1⟩
      have tt := tt.trans (b1.mono tt.size)
      clear b1
      (refine hK _ _ (MK.out _ tt) ?_; clear hK K)
      repeat (first | (refine' along_take (by simp only [List.getElem?_cons_succ, List.getElem?_cons_zero]; rfl) (by rfl) ?_ ?_ ?_; rotate_left 2; (intro w' hS; go_simp; try rfl); (simp only [Act.put, List.setIfInBounds_toArray, List.set_cons_zero, List.set_cons_succ]; try rfl)) | (refine' along_skip (by simp only [List.getElem?_cons_succ, List.getElem?_cons_zero]; rfl) (by rfl) ?_ ?_; rotate_left 1; (simp only [Act.put, List.setIfInBounds_toArray, List.set_cons_zero, List.set_cons_succ]; try rfl)))
      (refine along_do (by simp only [List.getElem?_cons_succ, List.getElem?_cons_zero]; rfl) (by rfl) (fun K hK => ?_); go_simp)
      refine (C3.out _).mono ?_
      rintro e w' ⟨rfl, b1⟩
      have tt := tt.trans (b1.mono tt.size)
      clear b1
      (refine hK _ _ (MK.out _ tt) ?_; clear hK K)
      repeat (first | (refine' along_take (by simp only [List.getElem?_cons_succ, List.getElem?_cons_zero]; rfl) (by rfl) ?_ ?_ ?_; rotate_left 2; (intro w' hS; go_simp; try rfl); (simp only [Act.put, List.setIfInBounds_toArray, List.set_cons_zero, List.set_cons_succ]; try rfl)) | (refine' along_skip (by simp only [List.getElem?_cons_succ, List.getElem?_cons_zero]; rfl) (by rfl) ?_ ?_; rotate_left 1; (simp only [Act.put, List.setIfInBounds_toArray, List.set_cons_zero, List.set_cons_succ]; try rfl)))
      refine along_end ?_
      go_wp2_with fail
      go_ret
      exact ⟨rfl, (MK.out _ tt).1⟩
  · skip
    go_enter Try.func4, Try.ntmps4
    go_wp2_with fail
    have L1 := lay_ok w a
    have L2 := lay_ok (lay w a) b
    have e : (lay w a).heap.size = w.heap.size + 1 := by simp [lay]
    have bb := bb.trans (L1.1.mono bb.size)
    have bb := bb.trans (L2.1.mono bb.size)
    have i1 := L1.2.below L2.1
    have i2 := L2.2
    rw [e] at i2
    change Calls _ _ _ (lay (lay w a) b) _
    generalize lay (lay w a) b = X1 at *
    clear e L1 L2
    refine (O1.out _).mono ?_
    rintro e w1 ⟨rfl, b1⟩
    have bb := bb.trans (b1.mono bb.size)
    have i1 := i1.below b1
    have i2 := i2.below b1
    clear b1
    go_wp2_with fail
    refine (B1.out _).mono ?_
    rintro e W ⟨rfl, b1⟩
    have bb := bb.trans (b1.mono bb.size)
    have i1 := i1.below b1
    have i2 := i2.below b1
    clear b1
    go_wp2_with fail
    have mk : ∀ w', Below W.heap.size W w' → Below w.heap.size w w' ∧ WideAt w' w.heap.size a ∧ WideAt w' (w.heap.size + 1) b := fun w' h => ⟨bb.trans (h.mono bb.size), i1.below h, i2.below h⟩
    unfold WideAt at mk
    clear bb i1 i2
    have MK := Lib.hid mk
    clear mk
    refine wp_region_along (fun w' => Below w.heap.size w w' ∧ (w'.cell? ⟨w.heap.size, 0, none⟩ = some (.int .i64 (hi64 a)) ∧ w'.cell? ⟨w.heap.size, 1, none⟩ = some (.int .u64 (lo64 a)) ∧ w.heap.size < w'.heap.size) ∧ (w'.cell? ⟨w.heap.size + 1, 0, none⟩ = some (.int .i64 (hi64 b)) ∧ w'.cell? ⟨w.heap.size + 1, 1, none⟩ = some (.int .u64 (lo64 b)) ∧ w.heap.size + 1 < w'.heap.size)) [(0, false), (1, true), (2, true), (3, true), (5, true), (7, true), (4, false), (6, false), (8, true), (9, true), (10, true), (11, true), (12, true), (13, true), (16, true), (14, false), (15, false), (17, true), (18, true), (19, true), (20, true), (21, true), (23, true), (24, true), (22, false), (25, false), (26, true), (27, true), (28, true), (29, true), (30, true), (32, true), (31, false), (33, true), (34, true), (35, true), (36, true), (37, true), (38, true), (39, true), (40, true), (41, true), (42, true), (43, true), (44, true), (45, true), (46, false), (47, true), (48, true), (49, true), (50, true), (51, true), (53, true), (54, true), (52, false), (55, false), (56, true), (57, true), (58, true), (59, true)] (by kernel_rfl) (by kernel_rfl) ?_ ?_
    · exact MK.out _ (Below.drew (Below.refl _ _))
    · have tt := Below.drew (Below.refl W.heap.size W)
      generalize W.drew = Y at *
      repeat (first | (refine' along_take (by simp only [List.getElem?_cons_succ, List.getElem?_cons_zero]; rfl) (by rfl) ?_ ?_ ?_; rotate_left 2; (intro w' hS; go_simp; try rfl); (simp only [Act.put, List.setIfInBounds_toArray, List.set_cons_zero, List.set_cons_succ]; try rfl)) | (refine' along_skip (by simp only [List.getElem?_cons_succ, List.getElem?_cons_zero]; rfl) (by rfl) ?_ ?_; rotate_left 1; (simp only [Act.put, List.setIfInBounds_toArray, List.set_cons_zero, List.set_cons_succ]; try rfl)))
      (refine along_do (by simp only [List.getElem?_cons_succ, List.getElem?_cons_zero]; rfl) (by rfl) (fun K hK => ?_); go_simp)
      refine (KK.out _).mono ?_
      rintro e w' ⟨rfl, b1⟩
      have tt := tt.trans (b1.mono tt.size)
      clear b1
      (refine hK _ _ (MK.out _ tt) ?_; clear hK K)
      repeat (first | (refine' along_take (by simp only [List.getElem?_cons_succ, List.getElem?_cons_zero]; rfl) (by rfl) ?_ ?_ ?_; rotate_left 2; (intro w' hS; go_simp; try rfl); (simp only [Act.put, List.setIfInBounds_toArray, List.set_cons_zero, List.set_cons_succ]; try rfl)) | (refine' along_skip (by simp only [List.getElem?_cons_succ, List.getElem?_cons_zero]; rfl) (by rfl) ?_ ?_; rotate_left 1; (simp only [Act.put, List.setIfInBounds_toArray, List.set_cons_zero, List.set_cons_succ]; try rfl)))
      (refine along_do (by simp only [List.getElem?_cons_succ, List.getElem?_cons_zero]; rfl) (by rfl) (fun K hK => ?_); go_simp)
      refine (P1.out _).mono ?_
      rintro e w' ⟨rfl, b1⟩
      have tt := tt.trans (b1.mono tt.size)
      clear b1
      (refine hK _ _ (MK.out _ tt) ?_; clear hK K)
      repeat (first | (refine' along_take (by simp only [List.getElem?_cons_succ, List.getElem?_cons_zero]; rfl) (by rfl) ?_ ?_ ?_; rotate_left 2; (intro w' hS; go_simp; try rfl); (simp only [Act.put, List.setIfInBounds_toArray, List.set_cons_zero, List.set_cons_succ]; try rfl)) | (refine' along_skip (by simp only [List.getElem?_cons_succ, List.getElem?_cons_zero]; rfl) (by rfl) ?_ ?_; rotate_left 1; (simp only [Act.put, List.setIfInBounds_toArray, List.set_cons_zero, List.set_cons_succ]; try rfl)))
      (refine along_do (by simp only [List.getElem?_cons_succ, List.getElem?_cons_zero]; rfl) (by rfl) (fun K hK => ?_); go_simp)
      refine (N1.out _).mono ?_
      rintro e w' ⟨rfl, b1⟩
      have tt := tt.trans (b1.mono tt.size)
      clear b1
      (refine hK _ _ (MK.out _ tt) ?_; clear hK K)
      repeat (first | (refine' along_take (by simp only [List.getElem?_cons_succ, List.getElem?_cons_zero]; rfl) (by rfl) ?_ ?_ ?_; rotate_left 2; (intro w' hS; go_simp; try rfl); (simp only [Act.put, List.setIfInBounds_toArray, List.set_cons_zero, List.set_cons_succ]; try rfl)) | (refine' along_skip (by simp only [List.getElem?_cons_succ, List.getElem?_cons_zero]; rfl) (by rfl) ?_ ?_; rotate_left 1; (simp only [Act.put, List.setIfInBounds_toArray, List.set_cons_zero, List.set_cons_succ]; try rfl)))
      (refine along_do (by simp only [List.getElem?_cons_succ, List.getElem?_cons_zero]; rfl) (by rfl) (fun K hK => ?_); go_simp)
      refine (N2.out _).mono ?_
      rintro e w' ⟨rfl, b1⟩
      have tt := tt.trans (b1.mono tt.size)
      clear b1
      (refine hK _ _ (MK.out _ tt) ?_; clear hK K)
      repeat (first | (refine' along_take (by simp only [List.getElem?_cons_succ, List.getElem?_cons_zero]; rfl) (by rfl) ?_ ?_ ?_; rotate_left 2; (intro w' hS; go_simp; try rfl); (simp only [Act.put, List.setIfInBounds_toArray, List.set_cons_zero, List.set_cons_succ]; try rfl)) | (refine' along_skip (by simp only [List.getElem?_cons_succ, List.getElem?_cons_zero]; rfl) (by rfl) ?_ ?_; rotate_left 1; (simp only [Act.put, List.setIfInBounds_toArray, List.set_cons_zero, List.set_cons_succ]; try rfl)))
      (refine along_do (by simp only [List.getElem?_cons_succ, List.getElem?_cons_zero]; rfl) (by rfl) (fun K hK => ?_); go_simp)
      refine (N3.out _).mono ?_
      rintro e w' ⟨rfl, b1⟩
      have tt := tt.trans (b1.mono tt.size)
      clear b1
      (refine hK _ _ (MK.out _ tt) ?_; clear hK K)
      repeat (first | (refine' along_take (by simp only [List.getElem?_cons_succ, List.getElem?_cons_zero]; rfl) (by rfl) ?_ ?_ ?_; rotate_left 2; (intro w' hS; go_simp; try rfl); (simp only [Act.put, List.setIfInBounds_toArray, List.set_cons_zero, List.set_cons_succ]; try rfl)) | (refine' along_skip (by simp only [List.getElem?_cons_succ, List.getElem?_cons_zero]; rfl) (by rfl) ?_ ?_; rotate_left 1; (simp only [Act.put, List.setIfInBounds_toArray, List.set_cons_zero, List.set_cons_succ]; try rfl)))
      (refine along_do (by simp only [List.getElem?_cons_succ, List.getElem?_cons_zero]; rfl) (by rfl) (fun K hK => ?_); go_simp)
      refine (P1.out _).mono ?_
      rintro e w' ⟨rfl, b1⟩
      have tt := tt.trans (b1.mono tt.size)
      clear b1
      (refine hK _ _ (MK.out _ tt) ?_; clear hK K)
      repeat (first | (refine' along_take (by simp only [List.getElem?_cons_succ, List.getElem?_cons_zero]; rfl) (by rfl) ?_ ?_ ?_; rotate_left 2; (intro w' hS; go_simp; try rfl); (simp only [Act.put, List.setIfInBounds_toArray, List.set_cons_zero, List.set_cons_succ]; try rfl)) | (refine' along_skip (by simp only [List.getElem?_cons_succ, List.getElem?_cons_zero]; rfl) (by rfl) ?_ ?_; rotate_left 1; (simp only [Act.put, List.setIfInBounds_toArray, List.set_cons_zero, List.set_cons_succ]; try rfl)))
      (refine along_do (by simp only [List.getElem?_cons_succ, List.getElem?_cons_zero]; rfl) (by rfl) (fun K hK => ?_); go_simp)
      refine (P2.out _).mono ?_
      rintro e w' ⟨rfl, b1⟩
      have tt := tt.trans (b1.mono tt.size)
      clear b1
      (refine hK _ _ (MK.out _ tt) ?_; clear hK K)
      repeat (first | (refine' along_take (by simp only [List.getElem?_cons_succ, List.getElem?_cons_zero]; rfl) (by rfl) ?_ ?_ ?_; rotate_left 2; (intro w' hS; go_simp; try rfl); (simp only [Act.put, List.setIfInBounds_toArray, List.set_cons_zero, List.set_cons_succ]; try rfl)) | (refine' along_skip (by simp only [List.getElem?_cons_succ, List.getElem?_cons_zero]; rfl) (by rfl) ?_ ?_; rotate_left 1; (simp only [Act.put, List.setIfInBounds_toArray, List.set_cons_zero, List.set_cons_succ]; try rfl)))
      (refine along_do (by simp only [List.getElem?_cons_succ, List.getElem?_cons_zero]; rfl) (by rfl) (fun K hK => ?_); go_simp)
      refine (N4.out _).mono ?_
      rintro e w' ⟨rfl, b1⟩
      have tt := tt.trans (b1.mono tt.size)
      clear b1
      (refine hK _ _ (MK.out _ tt) ?_; clear hK K)
      repeat (first | (refine' along_take (by simp only [List.getElem?_cons_succ, List.getElem?_cons_zero]; rfl) (by rfl) ?_ ?_ ?_; rotate_left 2; (intro w' hS; go_simp; try rfl); (simp only [Act.put, List.setIfInBounds_toArray, List.set_cons_zero, List.set_cons_succ]; try rfl)) | (refine' along_skip (by simp only [List.getElem?_cons_succ, List.getElem?_cons_zero]; rfl) (by rfl) ?_ ?_; rotate_left 1; (simp only [Act.put, List.setIfInBounds_toArray, List.set_cons_zero, List.set_cons_succ]; try rfl)))
      (refine along_do (by simp only [List.getElem?_cons_succ, List.getElem?_cons_zero]; rfl) (by rfl) (fun K hK => ?_); go_simp)
      refine (C1.out _).mono ?_
      rintro e w' ⟨rfl, b1⟩
      have tt := tt.trans (b1.mono tt.size)
      clear b1
      (refine hK _ _ (MK.out _ tt) ?_; clear hK K)
      repeat (first | (refine' along_take (by simp only [List.getElem?_cons_succ, List.getElem?_cons_zero]; rfl) (by rfl) ?_ ?_ ?_; rotate_left 2; (intro w' hS; go_simp; try rfl); (simp only [Act.put, List.setIfInBounds_toArray, List.set_cons_zero, List.set_cons_succ]; try rfl)) | (refine' along_skip (by simp only [List.getElem?_cons_succ, List.getElem?_cons_zero]; rfl) (by rfl) ?_ ?_; rotate_left 1; (simp only [Act.put, List.setIfInBounds_toArray, List.set_cons_zero, List.set_cons_succ]; try rfl)))
      (refine along_do (by simp only [List.getElem?_cons_succ, List.getElem?_cons_zero]; rfl) (by rfl) (fun K hK => ?_); go_simp)
      refine (C2.out _).mono ?_
      rintro e w' ⟨rfl, b1⟩
      have tt := tt.trans (b1.mono tt.size)
      clear b1
      (refine hK _ _ (MK.out _ tt) ?_; clear hK K)
      repeat (first | (refine' along_take (by simp only [List.getElem?_cons_succ, List.getElem?_cons_zero]; rfl) (by rfl) ?_ ?_ ?_; rotate_left 2; (intro w' hS; go_simp; try rfl); (simp only [Act.put, List.setIfInBounds_toArray, List.set_cons_zero, List.set_cons_succ]; try rfl)) | (refine' along_skip (by simp only [List.getElem?_cons_succ, List.getElem?_cons_zero]; rfl) (by rfl) ?_ ?_; rotate_left 1; (simp only [Act.put, List.setIfInBounds_toArray, List.set_cons_zero, List.set_cons_succ]; try rfl)))
      (refine along_do (by simp only [List.getElem?_cons_succ, List.getElem?_cons_zero]; rfl) (by rfl) (fun K hK => ?_); go_simp)
      refine (C3.out _).mono ?_
      rintro e w' ⟨rfl, b1⟩
      have tt := tt.trans (b1.mono tt.size)
      clear b1
      (refine hK _ _ (MK.out _ tt) ?_; clear hK K)
      repeat (first | (refine' along_take (by simp only [List.getElem?_cons_succ, List.getElem?_cons_zero]; rfl) (by rfl) ?_ ?_ ?_; rotate_left 2; (intro w' hS; go_simp; try rfl); (simp only [Act.put, List.setIfInBounds_toArray, List.set_cons_zero, List.set_cons_succ]; try rfl)) | (refine' along_skip (by simp only [List.getElem?_cons_succ, List.getElem?_cons_zero]; rfl) (by rfl) ?_ ?_; rotate_left 1; (simp only [Act.put, List.setIfInBounds_toArray, List.set_cons_zero, List.set_cons_succ]; try rfl)))
      refine along_end ?_
      go_wp2_with fail
      go_ret
      exact ⟨rfl, (MK.out _ tt).1⟩
end Go.Proofs.Ytajihhmohokngaa
