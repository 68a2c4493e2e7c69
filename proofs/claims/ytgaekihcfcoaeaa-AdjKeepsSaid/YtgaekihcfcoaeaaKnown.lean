/-
  THE WALK of quittancelaw04.known.
-/
import Derived.Test.YtgaekihcfcoaeaaInts
set_option linter.unusedVariables false
set_option linter.unusedSimpArgs false
namespace Go.Proofs.Ytgaekihcfcoaeaa
open Go.RowKit

def exA : Nat → A5 := fun _ => ⟨0, 1, 0, 0, 0⟩
theorem ex_out : outs exA 1 0 = [0] := rfl
theorem ex_in : ins exA 1 1 = [0] := rfl
theorem ex_at : touch exA 1 1 = [0] := rfl
theorem Made.c0 {p : Nat → Prop} {w : World} {gb n m : Nat} {A : Nat → A5} (h : Made p w gb n m A) : w.cell? ⟨gb, 0, none⟩ = some (.int .i64 n) := by
  obtain ⟨_, _, _, a, c, lb, lc, sb, sc, hb, _⟩ := h
  exact (cell_in _ _ 0 _ _ _ hb).trans rfl
/-- a list of one, as the call makes it -/
theorem lit_ls (w : World) (z : Int) : Ls (w.alloc (.cells #[.int .i64 z] 3)) (.slice (some ⟨w.heap.size, 0, none⟩) 1 1) [z] :=
  ⟨_, 1, rfl, fun _ => ⟨w.heap.size, 0, rfl, fun j hj => by
    obtain rfl : j = 0 := by simpa using hj
    exact (cell_in _ _ 0 _ _ _ (heap_alloc_new _ _)).trans rfl⟩⟩

set_option maxRecDepth 100000 in
set_option maxHeartbeats 4000000 in
theorem known_any (w : World) : Calls Try.prog 9 #[] w fun e w' => e = .returned (.bool true) ∧ Only NoB w w' := by
  have HNEW : Hid (∀ (W : World) (S T : Nat), W.heap[S]? = some (.cells #[.int .i64 0, .int .i64 0] 2 (0, 0)) → W.heap[T]? = some (.cells #[.int .i64 0, .int .i64 1, .int .i64 0, .int .i64 0, .int .i64 0] 31 (0, 0)) →
      Calls Try.prog 6 #[.agg #[.slice (some ⟨S, 0, none⟩) 2 2, .slice (some ⟨T, 0, none⟩) 1 1]] W fun e w' => (∃ gb, e = .returned (.pointer (some ⟨gb, 0, none⟩)) ∧ Made (fun k => W.heap.size ≤ k ∧ k < w'.heap.size) w' gb 2 1 exA) ∧ Only NoB W w') := fun W S T h1 h2 => by
    refine new_any (fun _ => True) (some ⟨S, 0, none⟩) (some ⟨T, 0, none⟩) 2 1 2 1 (fun _ => 0) exA (by decide) (by decide) (fun j hj => by simp [exA]) W (fun _ => ⟨S, 0, rfl, trivial, fun j hj => ?_⟩) (fun _ => ⟨T, 0, rfl, trivial, fun j hj => ?_⟩)
    · match j, hj with
      | 0, _ => exact (cell_in _ _ 0 _ _ _ h1).trans rfl
      | 1, _ => exact (cell_in _ _ 1 _ _ _ h1).trans rfl
    · obtain rfl : j = 0 := by omega
      exact ⟨(cell_in _ _ 0 _ _ _ h2).trans rfl, (cell_in _ _ 1 _ _ _ h2).trans rfl, (cell_in _ _ 2 _ _ _ h2).trans rfl, (cell_in _ _ 3 _ _ _ h2).trans rfl, (cell_in _ _ 4 _ _ _ h2).trans rfl⟩
  go_enter Try.func9, Try.ntmps9
  go_wp2_with fail
  have hS := (Below.heap_alloc (w.alloc (.cells #[.int .i64 0, .int .i64 0] 2)) (.cells #[.int .i64 0, .int .i64 1, .int .i64 0, .int .i64 0, .int .i64 0] 31) w.heap.size (by simp)).trans (heap_alloc_new w (.cells #[.int .i64 0, .int .i64 0] 2))
  have hT := heap_alloc_new (w.alloc (.cells #[.int .i64 0, .int .i64 0] 2)) (.cells #[.int .i64 0, .int .i64 1, .int .i64 0, .int .i64 0, .int .i64 0] 31)
  rw [show (w.alloc (.cells #[.int .i64 0, .int .i64 0] 2)).heap.size = w.heap.size + 1 by simp] at hT
  have oo : Only NoB w ((w.alloc (.cells #[.int .i64 0, .int .i64 0] 2)).alloc (.cells #[.int .i64 0, .int .i64 1, .int .i64 0, .int .i64 0, .int .i64 0] 31)) := ((Only.refl _ _).alloc _).alloc _
  refine (HNEW.out _ _ _ hS hT).mono ?_
  rintro e w1 ⟨⟨gb, rfl, hG⟩, o1⟩
  have oo := oo.trans o1
  clear hS hT o1
  obtain ⟨p, hG⟩ : ∃ p, Made p w1 gb 2 1 exA := ⟨_, hG⟩
  have c0 := hG.c0
  go_wp2_with fail
  refine (nodes_any gb 2 w1 c0).mono ?_
  rintro e w' ⟨rfl, rfl⟩
  clear c0
  go_wp2_with fail
  refine (out_told p gb 2 1 0 exA _ hG (by decide)).mono ?_
  rintro e x0 ⟨v0, rfl, h1, o1⟩
  rw [ex_out] at h1
  have hL := Ls.of_own (zs := [0]) h1
  have hG := hG.kept o1 (fun _ _ f => f)
  have oo := oo.trans o1
  clear h1 o1
  go_wp2_with fail
  have oa : Only NoB x0 (x0.alloc (.cells #[.int .i64 0] 3)) := (Only.refl _ _).alloc _
  have hL := hL.kept oa (fun _ _ f => f)
  have hM := lit_ls x0 0
  have hG := hG.kept oa (fun _ _ f => f)
  have oo := oo.trans oa
  clear oa
  generalize World.alloc x0 _ = y0 at *
  refine (ints_same v0 _ [0] (by decide) y0 hL hM).mono ?_
  rintro e z0 ⟨rfl, o1⟩
  have hG := hG.kept o1 (fun _ _ f => f)
  have oo := oo.trans o1
  clear o1 hL hM
  go_wp2_with fail
  refine (in_told p gb 2 1 1 exA _ hG (by decide)).mono ?_
  rintro e x1 ⟨v1, rfl, h1, o1⟩
  rw [ex_in] at h1
  have hL := Ls.of_own (zs := [0]) h1
  have hG := hG.kept o1 (fun _ _ f => f)
  have oo := oo.trans o1
  clear h1 o1
  go_wp2_with fail
  have oa : Only NoB x1 (x1.alloc (.cells #[.int .i64 0] 3)) := (Only.refl _ _).alloc _
  have hL := hL.kept oa (fun _ _ f => f)
  have hM := lit_ls x1 0
  have hG := hG.kept oa (fun _ _ f => f)
  have oo := oo.trans oa
  clear oa
  generalize World.alloc x1 _ = y1 at *
  refine (ints_same v1 _ [0] (by decide) y1 hL hM).mono ?_
  rintro e z1 ⟨rfl, o1⟩
  have hG := hG.kept o1 (fun _ _ f => f)
  have oo := oo.trans o1
  clear o1 hL hM
  go_wp2_with fail
  refine (at_told p gb 2 1 1 exA _ hG (by decide)).mono ?_
  rintro e x2 ⟨v2, rfl, h1, o1⟩
  rw [ex_at] at h1
  have hL := Ls.of_own (zs := [0]) h1
  have hG := hG.kept o1 (fun _ _ f => f)
  have oo := oo.trans o1
  clear h1 o1
  go_wp2_with fail
  have oa : Only NoB x2 (x2.alloc (.cells #[.int .i64 0] 3)) := (Only.refl _ _).alloc _
  have hL := hL.kept oa (fun _ _ f => f)
  have hM := lit_ls x2 0
  have hG := hG.kept oa (fun _ _ f => f)
  have oo := oo.trans oa
  clear oa
  generalize World.alloc x2 _ = y2 at *
  refine (ints_same v2 _ [0] (by decide) y2 hL hM).mono ?_
  rintro e z2 ⟨rfl, o1⟩
  have hG := hG.kept o1 (fun _ _ f => f)
  have oo := oo.trans o1
  clear o1 hL hM
  go_wp2_with fail
  refine (other_any p gb 2 1 0 1 exA _ hG (by decide)).mono ?_
  rintro e q0 ⟨rfl, o1⟩
  have hG := hG.kept o1 (fun _ _ f => f)
  have oo := oo.trans o1
  clear o1
  rw [show otherI (exA 0) 1 = 0 from rfl]
  go_wp2_with fail
  refine (other_any p gb 2 1 0 5 exA _ hG (by decide)).mono ?_
  rintro e q1 ⟨rfl, o1⟩
  have hG := hG.kept o1 (fun _ _ f => f)
  have oo := oo.trans o1
  clear o1
  rw [show otherI (exA 0) 5 = -1 from rfl]
  go_wp2_with fail
  go_ret
  exact ⟨rfl, oo⟩
end Go.Proofs.Ytgaekihcfcoaeaa

