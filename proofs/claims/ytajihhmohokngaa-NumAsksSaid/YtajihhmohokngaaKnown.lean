import Derived.Test.YtajihhmohokngaaText
import Derived.Test.YtajihhmohokngaaCompare
set_option linter.unusedVariables false
set_option linter.unusedSimpArgs false
namespace Go.Proofs.Ytajihhmohokngaa
open Go.RowKit

theorem len_known {n : Nat} (h : Len (-18446744073709551616 : Int).natAbs n) : n = 20 := by
  refine len_one h ⟨by decide, by decide, ?_⟩
  intro k h1 h2
  have : k = 1 ∨ k = 2 ∨ k = 3 ∨ k = 4 ∨ k = 5 ∨ k = 6 ∨ k = 7 ∨ k = 8 ∨ k = 9 ∨ k = 10 ∨ k = 11 ∨ k = 12 ∨ k = 13 ∨ k = 14 ∨ k = 15 ∨ k = 16 ∨ k = 17 ∨ k = 18 ∨ k = 19 := by omega
  rcases this with rfl | rfl | rfl | rfl | rfl | rfl | rfl | rfl | rfl | rfl | rfl | rfl | rfl | rfl | rfl | rfl | rfl | rfl | rfl <;> decide
theorem text_known : (textL (-18446744073709551616) 20).toArray = #[45, 49, 56, 52, 52, 54, 55, 52, 52, 48, 55, 51, 55, 48, 57, 53, 53, 49, 54, 49, 54] := by decide +kernel

set_option maxHeartbeats 1000000 in
theorem known_any (w : World) :
    Calls Try.prog 16 #[] w fun e w' => e = .returned (.bool true) ∧ Below w.heap.size w w' := by
  have A := Lib.hid (fun w => add_no 9223372036854775807 1 w (by unfold In64; omega) (by unfold In64; omega) (by unfold In64; omega))
  have M := Lib.hid (fun w => mul_yes (-3) 5 w (by unfold In64; omega) (by unfold In64; omega) (by unfold In64; omega))
  have T := Lib.hid (fun w => times_any (-9223372036854775808) 2 w (by unfold In64; omega) (by unfold In64; omega))
  have X := Lib.hid (fun w => text_any (-18446744073709551616) w (by unfold In128; omega))
  have O1 := Lib.hid (fun w => of_any (-1) w (by unfold In64; omega))
  have O2 := Lib.hid (fun w => of_any 1 w (by unfold In64; omega))
  have C := Lib.hid (fun w => compare_any (-1) 1 w)
  go_enter Try.func16, Try.ntmps16
  go_wp2_with fail
  refine (A.out _).mono ?_
  rintro e w1 ⟨rfl, rfl⟩
  go_wp2_with fail
  refine (M.out _).mono ?_
  rintro e w2 ⟨rfl, b2⟩
  go_wp2_with fail
  refine (T.out _).mono ?_
  rintro e w3 ⟨rfl, b3⟩
  go_wp2_with fail
  refine (X.out _).mono ?_
  rintro e w4 ⟨⟨n, hn, rfl⟩, b4⟩
  obtain rfl := len_known hn
  rw [text_known]
  go_wp2_with fail
  refine (O1.out _).mono ?_
  rintro e w5 ⟨rfl, b5⟩
  go_wp2_with fail
  refine (O2.out _).mono ?_
  rintro e w6 ⟨rfl, b6⟩
  go_wp2_with fail
  refine (C.out _).mono ?_
  rintro e w7 ⟨rfl, b7⟩
  have hc : cmpI (-1) 1 = -1 := by decide
  rw [hc]
  go_wp2_with fail
  go_ret
  refine ⟨rfl, ?_⟩
  have s2 := b2.size
  have s3 := b3.size
  have s4 := b4.size
  have s5 := b5.size
  have s6 := b6.size
  exact b2.trans ((b3.mono (by omega)).trans ((b4.mono (by omega)).trans ((b5.mono (by omega)).trans ((b6.mono (by omega)).trans (b7.mono (by omega))))))
end Go.Proofs.Ytajihhmohokngaa
