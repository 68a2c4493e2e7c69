/-
  THE WALK of quittancelaw05.known: the chapter example.
-/
import Derived.Test.YtincgkcmfhhofaaNew
import Derived.Test.YtincgkcmfhhofaaGroups
import Derived.Test.YtincgkcmfhhofaaLists
set_option linter.unusedVariables false
set_option linter.unusedSimpArgs false
namespace Go.Proofs.Ytincgkcmfhhofaa
open Go.RowKit

/-- the numbers 0 and 2 are put together -/
def kL : Nat → Nat := joinL (fun i => i) 0 2
theorem kj1 : joins 3 (fun i => i) 0 2 = true := by decide
theorem kj1' : joinI 3 (fun i => i) 0 2 = kL := joinI_yes kj1
theorem kj2 : joins 3 kL 2 0 = false := by decide
theorem kj2' : joinI 3 kL 2 0 = kL := joinI_no kj2
theorem kg : groups 3 kL = [[0, 2], [1]] := by decide
theorem km : many 3 kL = 2 := by decide
theorem kl1 : leastI 3 kL 2 = 0 := by decide
theorem kl2 : leastI 3 kL 3 = -1 := by decide
theorem kc : clamp 3 = 3 := by decide

theorem lit_grid (w : World) : GridIn (fun _ => True) (((w.alloc (.cells #[.int .i64 0, .int .i64 2] 3)).alloc (.cells #[.int .i64 1] 3)).alloc (.cells #[.slice (some ⟨w.heap.size, 0, none⟩) 2 2, .slice (some ⟨w.heap.size + 1, 0, none⟩) 1 1] 28))
    (.slice (some ⟨w.heap.size + 2, 0, none⟩) 2 2) [[0, 2], [1]] := by
  have a1 : (((w.alloc (.cells #[.int .i64 0, .int .i64 2] 3)).alloc (.cells #[.int .i64 1] 3)).alloc (.cells #[.slice (some ⟨w.heap.size, 0, none⟩) 2 2, .slice (some ⟨w.heap.size + 1, 0, none⟩) 1 1] 28)).heap[w.heap.size]? = some (.cells #[.int .i64 0, .int .i64 2] 3) := by
    rw [Below.heap_alloc _ _ _ (by simp; omega), Below.heap_alloc _ _ _ (by simp), heap_alloc_new]
  have a2 : (((w.alloc (.cells #[.int .i64 0, .int .i64 2] 3)).alloc (.cells #[.int .i64 1] 3)).alloc (.cells #[.slice (some ⟨w.heap.size, 0, none⟩) 2 2, .slice (some ⟨w.heap.size + 1, 0, none⟩) 1 1] 28)).heap[w.heap.size + 1]? = some (.cells #[.int .i64 1] 3) := by
    rw [Below.heap_alloc _ _ _ (by simp)]
    have h := heap_alloc_new (w.alloc (.cells #[.int .i64 0, .int .i64 2] 3)) (.cells #[.int .i64 1] 3)
    simpa using h
  have a3 : (((w.alloc (.cells #[.int .i64 0, .int .i64 2] 3)).alloc (.cells #[.int .i64 1] 3)).alloc (.cells #[.slice (some ⟨w.heap.size, 0, none⟩) 2 2, .slice (some ⟨w.heap.size + 1, 0, none⟩) 1 1] 28)).heap[w.heap.size + 2]? = some (.cells #[.slice (some ⟨w.heap.size, 0, none⟩) 2 2, .slice (some ⟨w.heap.size + 1, 0, none⟩) 1 1] 28) := by
    have h := heap_alloc_new ((w.alloc (.cells #[.int .i64 0, .int .i64 2] 3)).alloc (.cells #[.int .i64 1] 3)) (.cells #[.slice (some ⟨w.heap.size, 0, none⟩) 2 2, .slice (some ⟨w.heap.size + 1, 0, none⟩) 1 1] 28)
    simpa using h
  refine ⟨_, 2, rfl, by unfold maxLen; simp, fun _ => ⟨_, 0, rfl, trivial, fun j hj => ?_⟩⟩
  have hj' : j < 2 := hj
  rw [Nat.zero_add, cell_in _ _ _ _ _ _ a3]
  match j, hj' with
  | 0, _ =>
    refine ⟨_, rfl, _, 2, rfl, by unfold maxLen; simp, fun _ => ⟨_, 0, rfl, trivial, fun i hi => ?_⟩⟩
    have hi' : i < 2 := hi
    rw [Nat.zero_add, cell_in _ _ _ _ _ _ a1]
    match i, hi' with
    | 0, _ => rfl
    | 1, _ => rfl
  | 1, _ =>
    refine ⟨_, rfl, _, 1, rfl, by unfold maxLen; simp, fun _ => ⟨_, 0, rfl, trivial, fun i hi => ?_⟩⟩
    have hi' : i < 1 := hi
    rw [Nat.zero_add, cell_in _ _ _ _ _ _ a2]
    match i, hi' with
    | 0, _ => rfl

set_option maxHeartbeats 1000000 in
theorem known_any (w : World) : Calls Try.prog 11 #[] w fun e w' => e = .returned (.bool true) ∧ Only NoB w w' := by
  go_enter Try.func11, Try.ntmps11
  go_wp2_with fail
  refine (new_any 3 w).mono ?_
  rw [kc]
  rintro e w1 ⟨rfl, h1, o1⟩
  have z1 := o1.size
  go_wp2_with fail
  have J := join_any (w.heap.size + 1) w.heap.size 3 (fun i => i) 0 2 w1 h1
  rw [kj1, kj1'] at J
  refine J.mono ?_
  rintro e w2 ⟨rfl, h2, o2⟩
  clear J
  go_wp2_with fail
  have J := join_any (w.heap.size + 1) w.heap.size 3 kL 2 0 w2 h2
  rw [kj2, kj2'] at J
  refine J.mono ?_
  rintro e w3 ⟨rfl, h3, o3⟩
  clear J
  go_wp2_with fail
  refine (groups_any (w.heap.size + 1) w.heap.size 3 kL w3 h3).mono ?_
  rintro e w4 ⟨⟨v, rfl, hv⟩, h4, o4⟩
  rw [kg] at hv
  go_wp2_with fail
  have o5 : Only NoB w4 (((w4.alloc (.cells #[.int .i64 0, .int .i64 2] 3)).alloc (.cells #[.int .i64 1] 3)).alloc (.cells #[.slice (some ⟨w4.heap.size, 0, none⟩) 2 2, .slice (some ⟨w4.heap.size + 1, 0, none⟩) 1 1] 28)) := (((Only.refl _ _).alloc _).alloc _).alloc _
  refine (lists_any (fun _ => True) v _ [[0, 2], [1]] [[0, 2], [1]] _ ((hv.mono (fun _ _ => trivial)).kept o5 (fun _ _ f => f)) (lit_grid w4)).mono ?_
  rw [show (([[0, 2], [1]] : List (List Int)) == [[0, 2], [1]]) = true from by decide]
  rintro e w6 ⟨rfl, o6⟩
  have o7 := o5.then o6 (fun _ _ f => f)
  have h6 := h4.kept o7 (fun f => f) (fun f => f)
  clear o5 o6
  go_wp2_with fail
  have J := many_any _ _ _ _ w6 h6
  rw [km] at J
  refine J.mono ?_
  rintro e w6 ⟨rfl, rfl⟩
  clear J
  go_wp2_with fail
  have J := least_any _ _ _ _ 2 w6 h6
  rw [kl1] at J
  refine J.mono ?_
  rintro e w8 ⟨rfl, h8, o8⟩
  clear J
  go_wp2_with fail
  have J := least_any _ _ _ _ 3 w8 h8
  rw [kl2] at J
  refine J.mono ?_
  rintro e w9 ⟨rfl, h9, o9⟩
  clear J
  go_wp2_with fail
  go_ret
  refine ⟨rfl, ?_⟩
  refine (((((o1.then o2 ?_).then o3 ?_).then o4 ?_).then o7 (fun _ _ f => f)).then o8 ?_).then o9 ?_
  all_goals (intro i hi s; simp only [B1, B2] at s; omega)
end Go.Proofs.Ytincgkcmfhhofaa
