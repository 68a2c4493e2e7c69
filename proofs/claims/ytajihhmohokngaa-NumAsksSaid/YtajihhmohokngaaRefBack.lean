import Derived.Test.YtajihhmohokngaaRefMinus
set_option linter.unusedVariables false
set_option linter.unusedSimpArgs false
namespace Go.Proofs.Ytajihhmohokngaa
open Go.RowKit

set_option maxHeartbeats 1000000 in
theorem rback_big (a : Int) (w : World) (ha : In128 a) (h : 9223372036854775807 < a) :
    Calls Try.prog 45 #[.agg #[.int .i64 (hi64 a), .int .u64 (lo64 a)]] w fun e w' => e = .returned (.tuple #[.int .i64 (0), .bool false]) ∧ Below w.heap.size w w' := by
  have O1 := Lib.hid (fun w => rof_any 9223372036854775807 w (by unfold In64; omega))
  have O2 := Lib.hid (fun w => rof_any (-9223372036854775808) w (by unfold In64; omega))
  have C1 := fun w => rcompare_any a 9223372036854775807 w
  have C2 := fun w => rcompare_any a (-9223372036854775808) w
  have k1 : cmpI a 9223372036854775807 = 1 := by skip; unfold cmpI; repeat (first | omega | split)
  rw [k1] at C1
  have C1 := Lib.hid C1
  have C2 := Lib.hid C2
  clear k1  h
  go_enter Try.func45, Try.ntmps45
  go_wp2_with fail
  have l1 := (lay_ok w a).1
  have i1 := WideIn.new w a
  have bb := l1
  refine at_world ?_
  intro W hW
  change W = lay w a at hW
  subst hW
  generalize lay w a = W at *
  clear l1
  refine wp_region_along (fun w' => (w'.cell? ⟨w.heap.size, 0, none⟩ = some (.int .i64 (hi64 a)) ∧ w'.cell? ⟨w.heap.size, 1, none⟩ = some (.int .u64 (lo64 a)))) [(0, true), (1, false), (2, false), (3, true), (4, true), (5, true), (6, false), (7, false), (8, true), (9, true)] (by kernel_rfl) (by kernel_rfl) ⟨i1.c0, i1.c1⟩ ?_
  have bb := Below.drew bb
  have i1 : WideIn W.drew w.heap.size a := i1
  generalize W.drew = Y at *
  repeat (first | (refine' along_take (by simp only [List.getElem?_cons_succ, List.getElem?_cons_zero]; rfl) (by rfl) ?_ ?_ ?_; rotate_left 2; (intro w' hS; go_simp; try rfl); (simp only [Act.put, List.setIfInBounds_toArray, List.set_cons_zero, List.set_cons_succ]; try rfl)) | (refine' along_skip (by simp only [List.getElem?_cons_succ, List.getElem?_cons_zero]; rfl) (by rfl) ?_ ?_; rotate_left 1; (simp only [Act.put, List.setIfInBounds_toArray, List.set_cons_zero, List.set_cons_succ]; try rfl)))
  (refine along_do (by simp only [List.getElem?_cons_succ, List.getElem?_cons_zero]; rfl) (by rfl) (fun K hK => ?_); go_simp)
  refine (O1.out _).mono ?_
  rintro e w' ⟨rfl, bq⟩
  have bb := bb.trans (bq.mono bb.size)
  have i1 := i1.kept (B := 0) bq
  clear bq
  refine hK _ _ ⟨i1.c0, i1.c1⟩ ?_
  clear hK K
  repeat (first | (refine' along_take (by simp only [List.getElem?_cons_succ, List.getElem?_cons_zero]; rfl) (by rfl) ?_ ?_ ?_; rotate_left 2; (intro w' hS; go_simp; try rfl); (simp only [Act.put, List.setIfInBounds_toArray, List.set_cons_zero, List.set_cons_succ]; try rfl)) | (refine' along_skip (by simp only [List.getElem?_cons_succ, List.getElem?_cons_zero]; rfl) (by rfl) ?_ ?_; rotate_left 1; (simp only [Act.put, List.setIfInBounds_toArray, List.set_cons_zero, List.set_cons_succ]; try rfl)))
  (refine along_do (by simp only [List.getElem?_cons_succ, List.getElem?_cons_zero]; rfl) (by rfl) (fun K hK => ?_); go_simp)
  refine (C1.out _).mono ?_
  rintro e w' ⟨rfl, bq⟩
  have bb := bb.trans (bq.mono bb.size)
  have i1 := i1.kept (B := 0) bq
  clear bq
  refine hK _ _ ⟨i1.c0, i1.c1⟩ ?_
  clear hK K
  repeat (first | (refine' along_take (by simp only [List.getElem?_cons_succ, List.getElem?_cons_zero]; rfl) (by rfl) ?_ ?_ ?_; rotate_left 2; (intro w' hS; go_simp; try rfl); (simp only [Act.put, List.setIfInBounds_toArray, List.set_cons_zero, List.set_cons_succ]; try rfl)) | (refine' along_skip (by simp only [List.getElem?_cons_succ, List.getElem?_cons_zero]; rfl) (by rfl) ?_ ?_; rotate_left 1; (simp only [Act.put, List.setIfInBounds_toArray, List.set_cons_zero, List.set_cons_succ]; try rfl)))
  (refine' along_pass (by simp only [List.getElem?_cons_succ, List.getElem?_cons_zero]; rfl) (by rfl) ⟨i1.c0, i1.c1⟩ ?_ ?_; rotate_left 1; (simp only [Act.put, List.setIfInBounds_toArray, List.set_cons_zero, List.set_cons_succ]; try rfl))
  (refine' along_pass (by simp only [List.getElem?_cons_succ, List.getElem?_cons_zero]; rfl) (by rfl) ⟨i1.c0, i1.c1⟩ ?_ ?_; rotate_left 1; (simp only [Act.put, List.setIfInBounds_toArray, List.set_cons_zero, List.set_cons_succ]; try rfl))
  repeat (first | (refine' along_take (by simp only [List.getElem?_cons_succ, List.getElem?_cons_zero]; rfl) (by rfl) ?_ ?_ ?_; rotate_left 2; (intro w' hS; go_simp; try rfl); (simp only [Act.put, List.setIfInBounds_toArray, List.set_cons_zero, List.set_cons_succ]; try rfl)) | (refine' along_skip (by simp only [List.getElem?_cons_succ, List.getElem?_cons_zero]; rfl) (by rfl) ?_ ?_; rotate_left 1; (simp only [Act.put, List.setIfInBounds_toArray, List.set_cons_zero, List.set_cons_succ]; try rfl)))
  refine along_end ?_
  have e0 := i1.c0
  have e1 := i1.c1
  go_wp2_with fail
  go_ret2
  exact ⟨rfl, bb⟩

set_option maxHeartbeats 1000000 in
theorem rback_small (a : Int) (w : World) (ha : In128 a) (h : a < -9223372036854775808) :
    Calls Try.prog 45 #[.agg #[.int .i64 (hi64 a), .int .u64 (lo64 a)]] w fun e w' => e = .returned (.tuple #[.int .i64 (0), .bool false]) ∧ Below w.heap.size w w' := by
  have O1 := Lib.hid (fun w => rof_any 9223372036854775807 w (by unfold In64; omega))
  have O2 := Lib.hid (fun w => rof_any (-9223372036854775808) w (by unfold In64; omega))
  have C1 := fun w => rcompare_any a 9223372036854775807 w
  have C2 := fun w => rcompare_any a (-9223372036854775808) w
  have k1 : cmpI a 9223372036854775807 = -1 := by skip; unfold cmpI; repeat (first | omega | split)
  rw [k1] at C1
  have k2 : cmpI a (-9223372036854775808) = -1 := by skip; unfold cmpI; repeat (first | omega | split)
  rw [k2] at C2
  have C1 := Lib.hid C1
  have C2 := Lib.hid C2
  clear k1 k2 h
  go_enter Try.func45, Try.ntmps45
  go_wp2_with fail
  have l1 := (lay_ok w a).1
  have i1 := WideIn.new w a
  have bb := l1
  refine at_world ?_
  intro W hW
  change W = lay w a at hW
  subst hW
  generalize lay w a = W at *
  clear l1
  refine wp_region_along (fun w' => (w'.cell? ⟨w.heap.size, 0, none⟩ = some (.int .i64 (hi64 a)) ∧ w'.cell? ⟨w.heap.size, 1, none⟩ = some (.int .u64 (lo64 a)))) [(0, true), (1, false), (2, false), (3, true), (4, true), (5, true), (6, false), (7, false), (8, true), (9, true)] (by kernel_rfl) (by kernel_rfl) ⟨i1.c0, i1.c1⟩ ?_
  have bb := Below.drew bb
  have i1 : WideIn W.drew w.heap.size a := i1
  generalize W.drew = Y at *
  repeat (first | (refine' along_take (by simp only [List.getElem?_cons_succ, List.getElem?_cons_zero]; rfl) (by rfl) ?_ ?_ ?_; rotate_left 2; (intro w' hS; go_simp; try rfl); (simp only [Act.put, List.setIfInBounds_toArray, List.set_cons_zero, List.set_cons_succ]; try rfl)) | (refine' along_skip (by simp only [List.getElem?_cons_succ, List.getElem?_cons_zero]; rfl) (by rfl) ?_ ?_; rotate_left 1; (simp only [Act.put, List.setIfInBounds_toArray, List.set_cons_zero, List.set_cons_succ]; try rfl)))
  (refine along_do (by simp only [List.getElem?_cons_succ, List.getElem?_cons_zero]; rfl) (by rfl) (fun K hK => ?_); go_simp)
  refine (O1.out _).mono ?_
  rintro e w' ⟨rfl, bq⟩
  have bb := bb.trans (bq.mono bb.size)
  have i1 := i1.kept (B := 0) bq
  clear bq
  refine hK _ _ ⟨i1.c0, i1.c1⟩ ?_
  clear hK K
  repeat (first | (refine' along_take (by simp only [List.getElem?_cons_succ, List.getElem?_cons_zero]; rfl) (by rfl) ?_ ?_ ?_; rotate_left 2; (intro w' hS; go_simp; try rfl); (simp only [Act.put, List.setIfInBounds_toArray, List.set_cons_zero, List.set_cons_succ]; try rfl)) | (refine' along_skip (by simp only [List.getElem?_cons_succ, List.getElem?_cons_zero]; rfl) (by rfl) ?_ ?_; rotate_left 1; (simp only [Act.put, List.setIfInBounds_toArray, List.set_cons_zero, List.set_cons_succ]; try rfl)))
  (refine along_do (by simp only [List.getElem?_cons_succ, List.getElem?_cons_zero]; rfl) (by rfl) (fun K hK => ?_); go_simp)
  refine (C1.out _).mono ?_
  rintro e w' ⟨rfl, bq⟩
  have bb := bb.trans (bq.mono bb.size)
  have i1 := i1.kept (B := 0) bq
  clear bq
  refine hK _ _ ⟨i1.c0, i1.c1⟩ ?_
  clear hK K
  repeat (first | (refine' along_take (by simp only [List.getElem?_cons_succ, List.getElem?_cons_zero]; rfl) (by rfl) ?_ ?_ ?_; rotate_left 2; (intro w' hS; go_simp; try rfl); (simp only [Act.put, List.setIfInBounds_toArray, List.set_cons_zero, List.set_cons_succ]; try rfl)) | (refine' along_skip (by simp only [List.getElem?_cons_succ, List.getElem?_cons_zero]; rfl) (by rfl) ?_ ?_; rotate_left 1; (simp only [Act.put, List.setIfInBounds_toArray, List.set_cons_zero, List.set_cons_succ]; try rfl)))
  (refine along_do (by simp only [List.getElem?_cons_succ, List.getElem?_cons_zero]; rfl) (by rfl) (fun K hK => ?_); go_simp)
  refine (O2.out _).mono ?_
  rintro e w' ⟨rfl, bq⟩
  have bb := bb.trans (bq.mono bb.size)
  have i1 := i1.kept (B := 0) bq
  clear bq
  refine hK _ _ ⟨i1.c0, i1.c1⟩ ?_
  clear hK K
  repeat (first | (refine' along_take (by simp only [List.getElem?_cons_succ, List.getElem?_cons_zero]; rfl) (by rfl) ?_ ?_ ?_; rotate_left 2; (intro w' hS; go_simp; try rfl); (simp only [Act.put, List.setIfInBounds_toArray, List.set_cons_zero, List.set_cons_succ]; try rfl)) | (refine' along_skip (by simp only [List.getElem?_cons_succ, List.getElem?_cons_zero]; rfl) (by rfl) ?_ ?_; rotate_left 1; (simp only [Act.put, List.setIfInBounds_toArray, List.set_cons_zero, List.set_cons_succ]; try rfl)))
  (refine along_do (by simp only [List.getElem?_cons_succ, List.getElem?_cons_zero]; rfl) (by rfl) (fun K hK => ?_); go_simp)
  refine (C2.out _).mono ?_
  rintro e w' ⟨rfl, bq⟩
  have bb := bb.trans (bq.mono bb.size)
  have i1 := i1.kept (B := 0) bq
  clear bq
  refine hK _ _ ⟨i1.c0, i1.c1⟩ ?_
  clear hK K
  repeat (first | (refine' along_take (by simp only [List.getElem?_cons_succ, List.getElem?_cons_zero]; rfl) (by rfl) ?_ ?_ ?_; rotate_left 2; (intro w' hS; go_simp; try rfl); (simp only [Act.put, List.setIfInBounds_toArray, List.set_cons_zero, List.set_cons_succ]; try rfl)) | (refine' along_skip (by simp only [List.getElem?_cons_succ, List.getElem?_cons_zero]; rfl) (by rfl) ?_ ?_; rotate_left 1; (simp only [Act.put, List.setIfInBounds_toArray, List.set_cons_zero, List.set_cons_succ]; try rfl)))
  refine along_end ?_
  have e0 := i1.c0
  have e1 := i1.c1
  go_wp2_with fail
  go_ret2
  exact ⟨rfl, bb⟩

set_option maxHeartbeats 1000000 in
theorem rback_in (a : Int) (w : World) (ha : In128 a) (h : In64 a) :
    Calls Try.prog 45 #[.agg #[.int .i64 (hi64 a), .int .u64 (lo64 a)]] w fun e w' => e = .returned (.tuple #[.int .i64 (a), .bool true]) ∧ Below w.heap.size w w' := by
  have O1 := Lib.hid (fun w => rof_any 9223372036854775807 w (by unfold In64; omega))
  have O2 := Lib.hid (fun w => rof_any (-9223372036854775808) w (by unfold In64; omega))
  have C1 := fun w => rcompare_any a 9223372036854775807 w
  have C2 := fun w => rcompare_any a (-9223372036854775808) w
  have g1 : decide (0 < cmpI a 9223372036854775807) = false := by unfold In64 at h; simp; unfold cmpI; repeat (first | omega | split)
  have g2 : decide (cmpI a (-9223372036854775808) < 0) = false := by unfold In64 at h; simp; unfold cmpI; repeat (first | omega | split)
  generalize cmpI a 9223372036854775807 = t1 at *
  generalize cmpI a (-9223372036854775808) = t2 at *
  have C1 := Lib.hid C1
  have C2 := Lib.hid C2
  have hb := Lib.hid (back_num h)
  have la := lo64_in a
  clear h
  go_enter Try.func45, Try.ntmps45
  go_wp2_with fail
  have l1 := (lay_ok w a).1
  have i1 := WideIn.new w a
  have bb := l1
  refine at_world ?_
  intro W hW
  change W = lay w a at hW
  subst hW
  generalize lay w a = W at *
  clear l1
  refine wp_region_along (fun w' => (w'.cell? ⟨w.heap.size, 0, none⟩ = some (.int .i64 (hi64 a)) ∧ w'.cell? ⟨w.heap.size, 1, none⟩ = some (.int .u64 (lo64 a)))) [(0, true), (1, false), (2, false), (3, true), (4, true), (5, true), (6, false), (7, false), (8, true), (9, true)] (by kernel_rfl) (by kernel_rfl) ⟨i1.c0, i1.c1⟩ ?_
  have bb := Below.drew bb
  have i1 : WideIn W.drew w.heap.size a := i1
  generalize W.drew = Y at *
  repeat (first | (refine' along_take (by simp only [List.getElem?_cons_succ, List.getElem?_cons_zero]; rfl) (by rfl) ?_ ?_ ?_; rotate_left 2; (intro w' hS; go_simp; try rfl); (simp only [Act.put, List.setIfInBounds_toArray, List.set_cons_zero, List.set_cons_succ]; try rfl)) | (refine' along_skip (by simp only [List.getElem?_cons_succ, List.getElem?_cons_zero]; rfl) (by rfl) ?_ ?_; rotate_left 1; (simp only [Act.put, List.setIfInBounds_toArray, List.set_cons_zero, List.set_cons_succ]; try rfl)))
  (refine along_do (by simp only [List.getElem?_cons_succ, List.getElem?_cons_zero]; rfl) (by rfl) (fun K hK => ?_); go_simp)
  refine (O1.out _).mono ?_
  rintro e w' ⟨rfl, bq⟩
  have bb := bb.trans (bq.mono bb.size)
  have i1 := i1.kept (B := 0) bq
  clear bq
  refine hK _ _ ⟨i1.c0, i1.c1⟩ ?_
  clear hK K
  repeat (first | (refine' along_take (by simp only [List.getElem?_cons_succ, List.getElem?_cons_zero]; rfl) (by rfl) ?_ ?_ ?_; rotate_left 2; (intro w' hS; go_simp; try rfl); (simp only [Act.put, List.setIfInBounds_toArray, List.set_cons_zero, List.set_cons_succ]; try rfl)) | (refine' along_skip (by simp only [List.getElem?_cons_succ, List.getElem?_cons_zero]; rfl) (by rfl) ?_ ?_; rotate_left 1; (simp only [Act.put, List.setIfInBounds_toArray, List.set_cons_zero, List.set_cons_succ]; try rfl)))
  (refine along_do (by simp only [List.getElem?_cons_succ, List.getElem?_cons_zero]; rfl) (by rfl) (fun K hK => ?_); go_simp)
  refine (C1.out _).mono ?_
  rintro e w' ⟨rfl, bq⟩
  have bb := bb.trans (bq.mono bb.size)
  have i1 := i1.kept (B := 0) bq
  clear bq
  refine hK _ _ ⟨i1.c0, i1.c1⟩ ?_
  clear hK K
  repeat (first | (refine' along_take (by simp only [List.getElem?_cons_succ, List.getElem?_cons_zero]; rfl) (by rfl) ?_ ?_ ?_; rotate_left 2; (intro w' hS; go_simp; try rfl); (simp only [Act.put, List.setIfInBounds_toArray, List.set_cons_zero, List.set_cons_succ]; try rfl)) | (refine' along_skip (by simp only [List.getElem?_cons_succ, List.getElem?_cons_zero]; rfl) (by rfl) ?_ ?_; rotate_left 1; (simp only [Act.put, List.setIfInBounds_toArray, List.set_cons_zero, List.set_cons_succ]; try rfl)))
  (refine along_do (by simp only [List.getElem?_cons_succ, List.getElem?_cons_zero]; rfl) (by rfl) (fun K hK => ?_); go_simp)
  refine (O2.out _).mono ?_
  rintro e w' ⟨rfl, bq⟩
  have bb := bb.trans (bq.mono bb.size)
  have i1 := i1.kept (B := 0) bq
  clear bq
  refine hK _ _ ⟨i1.c0, i1.c1⟩ ?_
  clear hK K
  repeat (first | (refine' along_take (by simp only [List.getElem?_cons_succ, List.getElem?_cons_zero]; rfl) (by rfl) ?_ ?_ ?_; rotate_left 2; (intro w' hS; go_simp; try rfl); (simp only [Act.put, List.setIfInBounds_toArray, List.set_cons_zero, List.set_cons_succ]; try rfl)) | (refine' along_skip (by simp only [List.getElem?_cons_succ, List.getElem?_cons_zero]; rfl) (by rfl) ?_ ?_; rotate_left 1; (simp only [Act.put, List.setIfInBounds_toArray, List.set_cons_zero, List.set_cons_succ]; try rfl)))
  (refine along_do (by simp only [List.getElem?_cons_succ, List.getElem?_cons_zero]; rfl) (by rfl) (fun K hK => ?_); go_simp)
  refine (C2.out _).mono ?_
  rintro e w' ⟨rfl, bq⟩
  have bb := bb.trans (bq.mono bb.size)
  have i1 := i1.kept (B := 0) bq
  clear bq
  refine hK _ _ ⟨i1.c0, i1.c1⟩ ?_
  clear hK K
  repeat (first | (refine' along_take (by simp only [List.getElem?_cons_succ, List.getElem?_cons_zero]; rfl) (by rfl) ?_ ?_ ?_; rotate_left 2; (intro w' hS; go_simp; try rfl); (simp only [Act.put, List.setIfInBounds_toArray, List.set_cons_zero, List.set_cons_succ]; try rfl)) | (refine' along_skip (by simp only [List.getElem?_cons_succ, List.getElem?_cons_zero]; rfl) (by rfl) ?_ ?_; rotate_left 1; (simp only [Act.put, List.setIfInBounds_toArray, List.set_cons_zero, List.set_cons_succ]; try rfl)))
  refine along_end ?_
  have e0 := i1.c0
  have e1 := i1.c1
  go_wp2_with fail
  go_ret2
  exact ⟨ret2_eq hb.out rfl, bb⟩
end Go.Proofs.Ytajihhmohokngaa
