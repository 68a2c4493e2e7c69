import Derived.Test.YtajihhmohokngaaTimes
import Derived.Test.YtajihhmohokngaaBack
set_option linter.unusedVariables false
set_option linter.unusedSimpArgs false
namespace Go.Proofs.Ytajihhmohokngaa
open Go.RowKit

set_option maxHeartbeats 400000 in
theorem mul_yes (a b : Int) (w : World) (ha : In64 a) (hb : In64 b) (h : In64 (a * b)) :
    Calls Try.prog 13 #[.int .i64 a, .int .i64 b] w fun e w' => e = .returned (.tuple #[.int .i64 (a * b), .bool true]) ∧ Below w.heap.size w w' := by
  have T := Lib.hid (fun w => times_any a b w ha hb)
  have B := Lib.hid (fun w => back_yes (a * b) w h)
  generalize a * b = p at *
  clear ha hb h
  go_enter Try.func13, Try.ntmps13
  go_wp2_with fail
  refine (T.out _).mono ?_
  rintro e w1 ⟨rfl, b1⟩
  go_wp2_with fail
  refine (B.out _).mono ?_
  rintro e w2 ⟨rfl, b2⟩
  go_wp2_with fail
  go_ret2
  exact ⟨rfl, b1.trans (b2.mono b1.size)⟩
set_option maxHeartbeats 400000 in
theorem mul_no (a b : Int) (w : World) (ha : In64 a) (hb : In64 b) (h : ¬ In64 (a * b)) :
    Calls Try.prog 13 #[.int .i64 a, .int .i64 b] w fun e w' => e = .returned (.tuple #[.int .i64 0, .bool false]) ∧ Below w.heap.size w w' := by
  have T := Lib.hid (fun w => times_any a b w ha hb)
  have B := Lib.hid (fun w => back_no (a * b) w (prod_in ha hb) h)
  generalize a * b = p at *
  clear ha hb h
  go_enter Try.func13, Try.ntmps13
  go_wp2_with fail
  refine (T.out _).mono ?_
  rintro e w1 ⟨rfl, b1⟩
  go_wp2_with fail
  refine (B.out _).mono ?_
  rintro e w2 ⟨rfl, b2⟩
  go_wp2_with fail
  go_ret2
  exact ⟨rfl, b1.trans (b2.mono b1.size)⟩
set_option maxHeartbeats 400000 in
theorem nan_i (a : Int) (w : World) :
    Calls Try.prog 48 #[.int .i64 a] w fun e w' => e = .returned (.bool false) ∧ w = w' := by
  go_enter Try.func48, Try.ntmps48
  go_wp2_with fail
  go_ret
  exact ⟨by simp, rfl⟩
set_option maxHeartbeats 400000 in
theorem nan_u (a : Int) (w : World) :
    Calls Try.prog 49 #[.int .u64 a] w fun e w' => e = .returned (.bool false) ∧ w = w' := by
  go_enter Try.func49, Try.ntmps49
  go_wp2_with fail
  go_ret
  exact ⟨by simp, rfl⟩
/-- which is greater -/
def cmpI (a b : Int) : Int := if a < b then -1 else if b < a then 1 else 0
set_option maxHeartbeats 400000 in
theorem cmp_i (a b : Int) (w : World) :
    Calls Try.prog 33 #[.int .i64 a, .int .i64 b] w fun e w' => e = .returned (.int .i64 (cmpI a b)) ∧ w = w' := by
  have A := Lib.hid (fun w => nan_i a w)
  have B := Lib.hid (fun w => nan_i b w)
  unfold cmpI
  by_cases h1 : a < b
  · rw [if_pos h1]
    go_enter Try.func33, Try.ntmps33
    go_wp2_with fail
    refine (A.out _).mono ?_
    rintro e w1 ⟨rfl, rfl⟩
    go_wp2_with fail
    refine (B.out _).mono ?_
    rintro e w1 ⟨rfl, rfl⟩
    go_wp2_with fail
    go_ret
    exact ⟨rfl, rfl⟩
  · rw [if_neg h1]
    by_cases h2 : b < a
    · rw [if_pos h2]
      go_enter Try.func33, Try.ntmps33
      go_wp2_with fail
      refine (A.out _).mono ?_
      rintro e w1 ⟨rfl, rfl⟩
      go_wp2_with fail
      refine (B.out _).mono ?_
      rintro e w1 ⟨rfl, rfl⟩
      go_wp2_with fail
      go_ret
      exact ⟨rfl, rfl⟩
    · rw [if_neg h2]
      go_enter Try.func33, Try.ntmps33
      go_wp2_with fail
      refine (A.out _).mono ?_
      rintro e w1 ⟨rfl, rfl⟩
      go_wp2_with fail
      refine (B.out _).mono ?_
      rintro e w1 ⟨rfl, rfl⟩
      go_wp2_with fail
      go_ret
      exact ⟨rfl, rfl⟩
set_option maxHeartbeats 400000 in
theorem cmp_u (a b : Int) (w : World) :
    Calls Try.prog 34 #[.int .u64 a, .int .u64 b] w fun e w' => e = .returned (.int .i64 (cmpI a b)) ∧ w = w' := by
  have A := Lib.hid (fun w => nan_u a w)
  have B := Lib.hid (fun w => nan_u b w)
  unfold cmpI
  by_cases h1 : a < b
  · rw [if_pos h1]
    go_enter Try.func34, Try.ntmps34
    go_wp2_with fail
    refine (A.out _).mono ?_
    rintro e w1 ⟨rfl, rfl⟩
    go_wp2_with fail
    refine (B.out _).mono ?_
    rintro e w1 ⟨rfl, rfl⟩
    go_wp2_with fail
    go_ret
    exact ⟨rfl, rfl⟩
  · rw [if_neg h1]
    by_cases h2 : b < a
    · rw [if_pos h2]
      go_enter Try.func34, Try.ntmps34
      go_wp2_with fail
      refine (A.out _).mono ?_
      rintro e w1 ⟨rfl, rfl⟩
      go_wp2_with fail
      refine (B.out _).mono ?_
      rintro e w1 ⟨rfl, rfl⟩
      go_wp2_with fail
      go_ret
      exact ⟨rfl, rfl⟩
    · rw [if_neg h2]
      go_enter Try.func34, Try.ntmps34
      go_wp2_with fail
      refine (A.out _).mono ?_
      rintro e w1 ⟨rfl, rfl⟩
      go_wp2_with fail
      refine (B.out _).mono ?_
      rintro e w1 ⟨rfl, rfl⟩
      go_wp2_with fail
      go_ret
      exact ⟨rfl, rfl⟩
theorem cmpI_halves (a b : Int) : cmpI a b = if hi64 a = hi64 b then cmpI (lo64 a) (lo64 b) else cmpI (hi64 a) (hi64 b) := by
  unfold cmpI hi64 lo64
  split
  · repeat (first | omega | split)
  · repeat (first | omega | split)
set_option maxHeartbeats 400000 in
theorem compare_any (a b : Int) (w : World) :
    Calls Try.prog 20 #[.agg #[.int .i64 (hi64 a), .int .u64 (lo64 a)], .agg #[.int .i64 (hi64 b), .int .u64 (lo64 b)]] w fun e w' => e = .returned (.int .i64 (cmpI a b)) ∧ Below w.heap.size w w' := by
  rw [cmpI_halves a b]
  have A := Lib.hid (fun w => cmp_i (hi64 a) (hi64 b) w)
  have B := Lib.hid (fun w => cmp_u (lo64 a) (lo64 b) w)
  by_cases h : hi64 a = hi64 b
  · rw [if_pos h]
    rw [h]
    clear A h
    go_enter Try.func20, Try.ntmps20
    go_wp2_with fail
    refine (B.out _).mono ?_
    rintro e w1 ⟨rfl, rfl⟩
    go_wp2_with fail
    go_ret
    refine ⟨rfl, ?_⟩
    repeat (first | exact Below.refl _ _ | refine Below.setCell ?_ (by simp) _ | refine Below.alloc ?_ (by first | (simp; done) | (simp; omega)) _ | refine Below.drew ?_)
  · rw [if_neg h]
    have h' : (hi64 a == hi64 b) = false := by simpa using h
    clear B h
    go_enter Try.func20, Try.ntmps20
    go_wp2_with fail
    refine (A.out _).mono ?_
    rintro e w1 ⟨rfl, rfl⟩
    go_wp2_with fail
    go_ret
    refine ⟨rfl, ?_⟩
    repeat (first | exact Below.refl _ _ | refine Below.setCell ?_ (by simp) _ | refine Below.alloc ?_ (by first | (simp; done) | (simp; omega)) _ | refine Below.drew ?_)
end Go.Proofs.Ytajihhmohokngaa
