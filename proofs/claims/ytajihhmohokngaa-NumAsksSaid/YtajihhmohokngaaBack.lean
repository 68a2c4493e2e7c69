import Derived.Test.YtajihhmohokngaaBase
set_option linter.unusedVariables false
set_option linter.unusedSimpArgs false
namespace Go.Proofs.Ytajihhmohokngaa
open Go.RowKit

theorem back_num {a : Int} (h : In64 a) : wrap64 (lo64 a) = a := by rw [wrap64_eq]; unfold In64 at h; unfold lo64; omega

set_option maxHeartbeats 400000 in
theorem back_yes (a : Int) (w : World) (h : In64 a) :
    Calls Try.prog 14 #[.agg #[.int .i64 (hi64 a), .int .u64 (lo64 a)]] w fun e w' => e = .returned (.tuple #[.int .i64 a, .bool true]) ∧ Below w.heap.size w w' := by
  have hn := back_num h
  have la := lo64_in a
  go_enter Try.func14, Try.ntmps14
  go_wp2_with fail
  refine wp_region_along (fun w' => w'.cell? ⟨w.heap.size, 0, none⟩ = some (.int .i64 (hi64 a)) ∧ w'.cell? ⟨w.heap.size, 1, none⟩ = some (.int .u64 (lo64 a))) [(0, true), (2, true), (1, false), (3, true)] (by kernel_rfl) (by kernel_rfl) ?_ ?_
  · exact ⟨by simp, by simp⟩
  · repeat (first | (refine' along_take (by simp only [List.getElem?_cons_succ, List.getElem?_cons_zero]; rfl) (by rfl) ?_ ?_ ?_; rotate_left 2; (intro w' hS; go_simp; try rfl); (simp only [Act.put, List.setIfInBounds_toArray, List.set_cons_zero, List.set_cons_succ]; try rfl)) | (refine' along_skip (by simp only [List.getElem?_cons_succ, List.getElem?_cons_zero]; rfl) (by rfl) ?_ ?_; rotate_left 1; (simp only [Act.put, List.setIfInBounds_toArray, List.set_cons_zero, List.set_cons_succ]; try rfl)))
    (refine along_do (by simp only [List.getElem?_cons_succ, List.getElem?_cons_zero]; rfl) (by rfl) (fun K hK => ?_); go_simp)
    refine (of_any _ _ h).mono ?_
    rintro e w1 ⟨rfl, b1⟩
    (refine hK _ _ ⟨(b1.cell (by simp)).trans (by simp), (b1.cell (by simp)).trans (by simp)⟩ ?_; clear hK K)
    repeat (first | (refine' along_take (by simp only [List.getElem?_cons_succ, List.getElem?_cons_zero]; rfl) (by rfl) ?_ ?_ ?_; rotate_left 2; (intro w' hS; go_simp; try rfl); (simp only [Act.put, List.setIfInBounds_toArray, List.set_cons_zero, List.set_cons_succ]; try rfl)) | (refine' along_skip (by simp only [List.getElem?_cons_succ, List.getElem?_cons_zero]; rfl) (by rfl) ?_ ?_; rotate_left 1; (simp only [Act.put, List.setIfInBounds_toArray, List.set_cons_zero, List.set_cons_succ]; try rfl)))
    refine along_end ?_
    go_wp2_with fail
    go_ret2
    refine ⟨rfl, Below.trans ?_ (b1.mono (by simp))⟩
    repeat (first | exact Below.refl _ _ | refine Below.setCell ?_ (by simp) _ | refine Below.alloc ?_ (by first | (simp; done) | (simp; omega)) _ | refine Below.drew ?_)
set_option maxHeartbeats 400000 in
theorem back_no (a : Int) (w : World) (ha : In128 a) (h : ¬ In64 a) :
    Calls Try.prog 14 #[.agg #[.int .i64 (hi64 a), .int .u64 (lo64 a)]] w fun e w' => e = .returned (.tuple #[.int .i64 0, .bool false]) ∧ Below w.heap.size w w' := by
  have h1 : In64 (wrap64 (lo64 a)) := by unfold In64; rw [wrap64_eq]; unfold lo64; omega
  have h2 : (hi64 (wrap64 (lo64 a)) == hi64 a) = false := by
    rw [beq_eq_false_iff_ne]
    intro e
    apply h
    rw [wrap64_eq] at e
    unfold In64 In128 hi64 lo64 at *
    omega
  obtain ⟨n, hn⟩ : ∃ n, wrap64 (lo64 a) = n := ⟨_, rfl⟩
  rw [hn] at h1 h2
  have la := lo64_in a
  clear h ha
  go_enter Try.func14, Try.ntmps14
  go_wp2_with fail
  refine wp_region_along (fun w' => w'.cell? ⟨w.heap.size, 0, none⟩ = some (.int .i64 (hi64 a)) ∧ w'.cell? ⟨w.heap.size, 1, none⟩ = some (.int .u64 (lo64 a))) [(0, true), (2, true), (1, false), (3, true)] (by kernel_rfl) (by kernel_rfl) ?_ ?_
  · exact ⟨by simp, by simp⟩
  · repeat (first | (refine' along_take (by simp only [List.getElem?_cons_succ, List.getElem?_cons_zero]; rfl) (by rfl) ?_ ?_ ?_; rotate_left 2; (intro w' hS; go_simp; try rfl); (simp only [Act.put, List.setIfInBounds_toArray, List.set_cons_zero, List.set_cons_succ]; try rfl)) | (refine' along_skip (by simp only [List.getElem?_cons_succ, List.getElem?_cons_zero]; rfl) (by rfl) ?_ ?_; rotate_left 1; (simp only [Act.put, List.setIfInBounds_toArray, List.set_cons_zero, List.set_cons_succ]; try rfl)))
    (refine along_do (by simp only [List.getElem?_cons_succ, List.getElem?_cons_zero]; rfl) (by rfl) (fun K hK => ?_); go_simp)
    refine (of_any _ _ h1).mono ?_
    rintro e w1 ⟨rfl, b1⟩
    (refine hK _ _ ⟨(b1.cell (by simp)).trans (by simp), (b1.cell (by simp)).trans (by simp)⟩ ?_; clear hK K)
    repeat (first | (refine' along_take (by simp only [List.getElem?_cons_succ, List.getElem?_cons_zero]; rfl) (by rfl) ?_ ?_ ?_; rotate_left 2; (intro w' hS; go_simp; try rfl); (simp only [Act.put, List.setIfInBounds_toArray, List.set_cons_zero, List.set_cons_succ]; try rfl)) | (refine' along_skip (by simp only [List.getElem?_cons_succ, List.getElem?_cons_zero]; rfl) (by rfl) ?_ ?_; rotate_left 1; (simp only [Act.put, List.setIfInBounds_toArray, List.set_cons_zero, List.set_cons_succ]; try rfl)))
    refine along_end ?_
    go_wp2_with fail
    go_ret2
    refine ⟨rfl, Below.trans ?_ (b1.mono (by simp))⟩
    repeat (first | exact Below.refl _ _ | refine Below.setCell ?_ (by simp) _ | refine Below.alloc ?_ (by first | (simp; done) | (simp; omega)) _ | refine Below.drew ?_)

end Go.Proofs.Ytajihhmohokngaa
