import Derived.Test.YtajihhmohokngaaShort
set_option linter.unusedVariables false
set_option linter.unusedSimpArgs false
namespace Go.Proofs.Ytajihhmohokngaa
open Go.RowKit

theorem len_is (x : Int) (hx : In128 x) : ∃ s, (∀ w, Calls Try.prog 21 #[.agg #[.int .i64 (hi64 x), .int .u64 (lo64 x)]] w fun e w' => e = .returned (.string s) ∧ Below w.heap.size w w') ∧ (∀ w, Calls Try.prog 47 #[.agg #[.int .i64 (hi64 x), .int .u64 (lo64 x)]] w fun e w' => e = .returned (.string s) ∧ Below w.heap.size w w') := by
  by_cases h : ∃ n, Len x.natAbs n
  · obtain ⟨n, hn⟩ := h
    refine ⟨⟨(textL x n).toArray⟩, fun w => (text_any x w hx).mono ?_, fun w => (rtext_any x w hx).mono ?_⟩
    · rintro e w' ⟨⟨k, hk, rfl⟩, b⟩
      rw [len_one hn hk]
      exact ⟨rfl, b⟩
    · rintro e w' ⟨⟨k, hk, rfl⟩, b⟩
      rw [len_one hn hk]
      exact ⟨rfl, b⟩
  · refine ⟨⟨#[]⟩, fun w => (text_any x w hx).mono ?_, fun w => (rtext_any x w hx).mono ?_⟩
    · rintro e w' ⟨⟨k, hk, rfl⟩, b⟩
      exact absurd ⟨k, hk⟩ h
    · rintro e w' ⟨⟨k, hk, rfl⟩, b⟩
      exact absurd ⟨k, hk⟩ h

set_option maxHeartbeats 2000000 in
theorem wides_walk (a b : Int) (w : World) (ha : In128 a) (hb : In128 b) :
    Calls Try.prog 25 #[.agg #[.int .i64 (hi64 a), .int .u64 (lo64 a)], .agg #[.int .i64 (hi64 b), .int .u64 (lo64 b)]] w fun e w' => e = .returned (.bool true) ∧ Below w.heap.size w w' := by
  obtain ⟨n, ok, A1, A2⟩ := both_back a ha
  obtain ⟨tx, T1, T2⟩ := len_is a ha
  have A1 := Lib.hid A1
  have A2 := Lib.hid A2
  have T1 := Lib.hid T1
  have T2 := Lib.hid T2
  have P1 := Lib.hid (fun w => plus_any a b w ha hb)
  have P2 := Lib.hid (fun w => rplus_any a b w ha hb)
  have M1 := Lib.hid (fun w => minus_any a b w ha hb)
  have M2 := Lib.hid (fun w => rminus_any a b w ha hb)
  have C1 := Lib.hid (fun w => compare_any a b w)
  have C2 := Lib.hid (fun w => rcompare_any a b w)
  have bb := Below.refl w.heap.size w
  clear ha hb
  generalize w128 (a + b) = s at *
  generalize w128 (a - b) = r at *
  generalize cmpI a b = c at *
  go_enter Try.func25, Try.ntmps25
  go_wp2_with fail
  have L1 := lay_ok w a
  have L2 := lay_ok (lay w a) b
  have e : (lay w a).heap.size = w.heap.size + 1 := by simp [lay]
  have bb := bb.trans (L1.1.mono bb.size)
  have bb := bb.trans (L2.1.mono bb.size)
  have i1 := L1.2.below L2.1
  have i2 := L2.2
  rw [e] at i2
  change Calls _ _ _ (lay (lay w a) b) _
  generalize lay (lay w a) b = X1 at *
  clear e L1 L2
  refine (A1.out _).mono ?_
  rintro e w1 ⟨rfl, b1⟩
  have bb := bb.trans (b1.mono bb.size)
  have i1 := i1.below b1
  have i2 := i2.below b1
  clear b1
  have d0 := i1.1
  have d1 := i1.2.1
  go_wp2_with fail
  clear d0 d1
  refine (A2.out _).mono ?_
  rintro e W ⟨rfl, b1⟩
  have bb := bb.trans (b1.mono bb.size)
  have i1 := i1.below b1
  have i2 := i2.below b1
  clear b1
  go_wp2_with fail
  have mk : ∀ w', Below W.heap.size W w' → Below w.heap.size w w' ∧ WideAt w' w.heap.size a ∧ WideAt w' (w.heap.size + 1) b := fun w' h => ⟨bb.trans (h.mono bb.size), i1.below h, i2.below h⟩
  unfold WideAt at mk
  clear bb i1 i2
  have MK := Lib.hid mk
  clear mk
  refine wp_region_along (fun w' => Below w.heap.size w w' ∧ (w'.cell? ⟨w.heap.size, 0, none⟩ = some (.int .i64 (hi64 a)) ∧ w'.cell? ⟨w.heap.size, 1, none⟩ = some (.int .u64 (lo64 a)) ∧ w.heap.size < w'.heap.size) ∧ (w'.cell? ⟨w.heap.size + 1, 0, none⟩ = some (.int .i64 (hi64 b)) ∧ w'.cell? ⟨w.heap.size + 1, 1, none⟩ = some (.int .u64 (lo64 b)) ∧ w.heap.size + 1 < w'.heap.size)) [(0, true), (1, true), (3, true), (4, true), (2, false), (5, false), (6, true), (7, true), (8, true), (9, true), (11, true), (12, true), (10, false), (13, false), (14, true), (15, true), (16, true), (17, true), (18, true), (20, true), (21, true), (19, false), (22, false), (23, true), (24, true), (25, true), (26, true), (27, true), (28, true), (29, true), (30, true), (31, true), (32, true), (33, true), (34, true), (35, true), (36, true), (38, true), (37, false), (39, false), (40, true), (41, true), (42, true)] (by kernel_rfl) (by kernel_rfl) ?_ ?_
  · exact MK.out _ (Below.drew (Below.refl _ _))
  · have tt := Below.drew (Below.refl W.heap.size W)
    generalize W.drew = Y at *
    repeat (first | (refine' along_take (by simp only [List.getElem?_cons_succ, List.getElem?_cons_zero]; rfl) (by rfl) ?_ ?_ ?_; rotate_left 2; (intro w' hS; go_simp; try rfl); (simp only [Act.put, List.setIfInBounds_toArray, List.set_cons_zero, List.set_cons_succ]; try rfl)) | (refine' along_skip (by simp only [List.getElem?_cons_succ, List.getElem?_cons_zero]; rfl) (by rfl) ?_ ?_; rotate_left 1; (simp only [Act.put, List.setIfInBounds_toArray, List.set_cons_zero, List.set_cons_succ]; try rfl)))
    (refine along_do (by simp only [List.getElem?_cons_succ, List.getElem?_cons_zero]; rfl) (by rfl) (fun K hK => ?_); go_simp)
    refine (P1.out _).mono ?_
    rintro e w' ⟨rfl, b1⟩
    have tt := tt.trans (b1.mono tt.size)
    clear b1
    (refine hK _ _ (MK.out _ tt) ?_; clear hK K)
    repeat (first | (refine' along_take (by simp only [List.getElem?_cons_succ, List.getElem?_cons_zero]; rfl) (by rfl) ?_ ?_ ?_; rotate_left 2; (intro w' hS; go_simp; try rfl); (simp only [Act.put, List.setIfInBounds_toArray, List.set_cons_zero, List.set_cons_succ]; try rfl)) | (refine' along_skip (by simp only [List.getElem?_cons_succ, List.getElem?_cons_zero]; rfl) (by rfl) ?_ ?_; rotate_left 1; (simp only [Act.put, List.setIfInBounds_toArray, List.set_cons_zero, List.set_cons_succ]; try rfl)))
    (refine along_do (by simp only [List.getElem?_cons_succ, List.getElem?_cons_zero]; rfl) (by rfl) (fun K hK => ?_); go_simp)
    refine (P2.out _).mono ?_
    rintro e w' ⟨rfl, b1⟩
    have tt := tt.trans (b1.mono tt.size)
    clear b1
    (refine hK _ _ (MK.out _ tt) ?_; clear hK K)
    repeat (first | (refine' along_take (by simp only [List.getElem?_cons_succ, List.getElem?_cons_zero]; rfl) (by rfl) ?_ ?_ ?_; rotate_left 2; (intro w' hS; go_simp; try rfl); (simp only [Act.put, List.setIfInBounds_toArray, List.set_cons_zero, List.set_cons_succ]; try rfl)) | (refine' along_skip (by simp only [List.getElem?_cons_succ, List.getElem?_cons_zero]; rfl) (by rfl) ?_ ?_; rotate_left 1; (simp only [Act.put, List.setIfInBounds_toArray, List.set_cons_zero, List.set_cons_succ]; try rfl)))
    (refine along_do (by simp only [List.getElem?_cons_succ, List.getElem?_cons_zero]; rfl) (by rfl) (fun K hK => ?_); go_simp)
    refine (M1.out _).mono ?_
    rintro e w' ⟨rfl, b1⟩
    have tt := tt.trans (b1.mono tt.size)
    clear b1
    (refine hK _ _ (MK.out _ tt) ?_; clear hK K)
    repeat (first | (refine' along_take (by simp only [List.getElem?_cons_succ, List.getElem?_cons_zero]; rfl) (by rfl) ?_ ?_ ?_; rotate_left 2; (intro w' hS; go_simp; try rfl); (simp only [Act.put, List.setIfInBounds_toArray, List.set_cons_zero, List.set_cons_succ]; try rfl)) | (refine' along_skip (by simp only [List.getElem?_cons_succ, List.getElem?_cons_zero]; rfl) (by rfl) ?_ ?_; rotate_left 1; (simp only [Act.put, List.setIfInBounds_toArray, List.set_cons_zero, List.set_cons_succ]; try rfl)))
    (refine along_do (by simp only [List.getElem?_cons_succ, List.getElem?_cons_zero]; rfl) (by rfl) (fun K hK => ?_); go_simp)
    refine (M2.out _).mono ?_
    rintro e w' ⟨rfl, b1⟩
    have tt := tt.trans (b1.mono tt.size)
    clear b1
    (refine hK _ _ (MK.out _ tt) ?_; clear hK K)
    repeat (first | (refine' along_take (by simp only [List.getElem?_cons_succ, List.getElem?_cons_zero]; rfl) (by rfl) ?_ ?_ ?_; rotate_left 2; (intro w' hS; go_simp; try rfl); (simp only [Act.put, List.setIfInBounds_toArray, List.set_cons_zero, List.set_cons_succ]; try rfl)) | (refine' along_skip (by simp only [List.getElem?_cons_succ, List.getElem?_cons_zero]; rfl) (by rfl) ?_ ?_; rotate_left 1; (simp only [Act.put, List.setIfInBounds_toArray, List.set_cons_zero, List.set_cons_succ]; try rfl)))
    (refine along_do (by simp only [List.getElem?_cons_succ, List.getElem?_cons_zero]; rfl) (by rfl) (fun K hK => ?_); go_simp)
    refine (C1.out _).mono ?_
    rintro e w' ⟨rfl, b1⟩
    have tt := tt.trans (b1.mono tt.size)
    clear b1
    (refine hK _ _ (MK.out _ tt) ?_; clear hK K)
    repeat (first | (refine' along_take (by simp only [List.getElem?_cons_succ, List.getElem?_cons_zero]; rfl) (by rfl) ?_ ?_ ?_; rotate_left 2; (intro w' hS; go_simp; try rfl); (simp only [Act.put, List.setIfInBounds_toArray, List.set_cons_zero, List.set_cons_succ]; try rfl)) | (refine' along_skip (by simp only [List.getElem?_cons_succ, List.getElem?_cons_zero]; rfl) (by rfl) ?_ ?_; rotate_left 1; (simp only [Act.put, List.setIfInBounds_toArray, List.set_cons_zero, List.set_cons_succ]; try rfl)))
    (refine along_do (by simp only [List.getElem?_cons_succ, List.getElem?_cons_zero]; rfl) (by rfl) (fun K hK => ?_); go_simp)
    refine (C2.out _).mono ?_
    rintro e w' ⟨rfl, b1⟩
    have tt := tt.trans (b1.mono tt.size)
    clear b1
    (refine hK _ _ (MK.out _ tt) ?_; clear hK K)
    repeat (first | (refine' along_take (by simp only [List.getElem?_cons_succ, List.getElem?_cons_zero]; rfl) (by rfl) ?_ ?_ ?_; rotate_left 2; (intro w' hS; go_simp; try rfl); (simp only [Act.put, List.setIfInBounds_toArray, List.set_cons_zero, List.set_cons_succ]; try rfl)) | (refine' along_skip (by simp only [List.getElem?_cons_succ, List.getElem?_cons_zero]; rfl) (by rfl) ?_ ?_; rotate_left 1; (simp only [Act.put, List.setIfInBounds_toArray, List.set_cons_zero, List.set_cons_succ]; try rfl)))
    (refine along_do (by simp only [List.getElem?_cons_succ, List.getElem?_cons_zero]; rfl) (by rfl) (fun K hK => ?_); go_simp)
    refine (T1.out _).mono ?_
    rintro e w' ⟨rfl, b1⟩
    have tt := tt.trans (b1.mono tt.size)
    clear b1
    (refine hK _ _ (MK.out _ tt) ?_; clear hK K)
    repeat (first | (refine' along_take (by simp only [List.getElem?_cons_succ, List.getElem?_cons_zero]; rfl) (by rfl) ?_ ?_ ?_; rotate_left 2; (intro w' hS; go_simp; try rfl); (simp only [Act.put, List.setIfInBounds_toArray, List.set_cons_zero, List.set_cons_succ]; try rfl)) | (refine' along_skip (by simp only [List.getElem?_cons_succ, List.getElem?_cons_zero]; rfl) (by rfl) ?_ ?_; rotate_left 1; (simp only [Act.put, List.setIfInBounds_toArray, List.set_cons_zero, List.set_cons_succ]; try rfl)))
    (refine along_do (by simp only [List.getElem?_cons_succ, List.getElem?_cons_zero]; rfl) (by rfl) (fun K hK => ?_); go_simp)
    refine (T2.out _).mono ?_
    rintro e w' ⟨rfl, b1⟩
    have tt := tt.trans (b1.mono tt.size)
    clear b1
    (refine hK _ _ (MK.out _ tt) ?_; clear hK K)
    repeat (first | (refine' along_take (by simp only [List.getElem?_cons_succ, List.getElem?_cons_zero]; rfl) (by rfl) ?_ ?_ ?_; rotate_left 2; (intro w' hS; go_simp; try rfl); (simp only [Act.put, List.setIfInBounds_toArray, List.set_cons_zero, List.set_cons_succ]; try rfl)) | (refine' along_skip (by simp only [List.getElem?_cons_succ, List.getElem?_cons_zero]; rfl) (by rfl) ?_ ?_; rotate_left 1; (simp only [Act.put, List.setIfInBounds_toArray, List.set_cons_zero, List.set_cons_succ]; try rfl)))
    refine along_end ?_
    go_wp2_with fail
    go_ret
    exact ⟨rfl, (MK.out _ tt).1⟩
end Go.Proofs.Ytajihhmohokngaa
