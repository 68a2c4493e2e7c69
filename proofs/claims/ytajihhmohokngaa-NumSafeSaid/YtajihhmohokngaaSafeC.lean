import Derived.Test.YtajihhmohokngaaSafeB
set_option linter.unusedVariables false
set_option linter.unusedSimpArgs false
namespace Go.Proofs.Ytajihhmohokngaa
open Go.RowKit

set_option maxHeartbeats 1000000 in
theorem safe_pn_yes_yes_yes (a b : Int) (w : World) (ha : In64 a) (hb : In64 b) (sa : 0 < a) (sb : b ≤ 0) (h1 : In64 (a + b)) (h2 : In64 (a - b)) (h3 : In64 (a * b)) :
    Calls Try.prog 3 #[.int .i64 a, .int .i64 b] w fun e w' => e = .returned (.bool true) ∧ Below w.heap.size w w' := by
  have K := Lib.hid (fun w => known_any w)
  have A := Lib.hid (fun w => add_yes a b w ha hb h1)
  have S := Lib.hid (fun w => sub_yes a b w ha hb h2)
  have M := Lib.hid (fun w => mul_yes a b w ha hb h3)
  have T := Lib.hid (fun w => times_any a b w ha hb)
  have B := Lib.hid (fun w => back_yes (a * b) w h3)
  obtain ⟨p, hp⟩ : ∃ p, a * b = p := ⟨_, rfl⟩
  simp only [hp] at M T B h3
  have hw : wrap64 (a * b) = p := by rw [hp, wrap64_eq]; unfold In64 at h3; omega
  clear hp
  unfold In64 at *
  have bb := Below.refl w.heap.size w
  go_enter Try.func3, Try.ntmps3
  go_wp2_with fail
  refine (A.out _).mono ?_
  rintro e w' ⟨rfl, rfl⟩
  go_wp2_with fail
  refine (S.out _).mono ?_
  rintro e w' ⟨rfl, rfl⟩
  go_wp2_with fail
  refine (M.out _).mono ?_
  rintro e w' ⟨rfl, b1⟩
  have bb := bb.trans (b1.mono bb.size)
  clear b1
  go_wp2_with fail
  refine (T.out _).mono ?_
  rintro e w' ⟨rfl, b1⟩
  have bb := bb.trans (b1.mono bb.size)
  clear b1
  go_wp2_with fail
  refine (B.out _).mono ?_
  rintro e w' ⟨rfl, b1⟩
  have bb := bb.trans (b1.mono bb.size)
  clear b1
  go_wp2_with fail
  refine (K.out _).mono ?_
  rintro e w' ⟨rfl, b1⟩
  have bb := bb.trans (b1.mono bb.size)
  clear b1
  go_wp2_with fail
  go_ret
  exact ⟨rfl, bb⟩
set_option maxHeartbeats 1000000 in
theorem safe_pn_yes_yes_no (a b : Int) (w : World) (ha : In64 a) (hb : In64 b) (sa : 0 < a) (sb : b ≤ 0) (h1 : In64 (a + b)) (h2 : In64 (a - b)) (h3 : ¬ In64 (a * b)) :
    Calls Try.prog 3 #[.int .i64 a, .int .i64 b] w fun e w' => e = .returned (.bool true) ∧ Below w.heap.size w w' := by
  have K := Lib.hid (fun w => known_any w)
  have A := Lib.hid (fun w => add_yes a b w ha hb h1)
  have S := Lib.hid (fun w => sub_yes a b w ha hb h2)
  have M := Lib.hid (fun w => mul_no a b w ha hb h3)
  have T := Lib.hid (fun w => times_any a b w ha hb)
  have B := Lib.hid (fun w => back_no (a * b) w (prod_in ha hb) h3)
  obtain ⟨p, hp⟩ : ∃ p, a * b = p := ⟨_, rfl⟩
  simp only [hp] at M T B h3
  clear hp
  unfold In64 at *
  clear h3
  have bb := Below.refl w.heap.size w
  go_enter Try.func3, Try.ntmps3
  go_wp2_with fail
  refine (A.out _).mono ?_
  rintro e w' ⟨rfl, rfl⟩
  go_wp2_with fail
  refine (S.out _).mono ?_
  rintro e w' ⟨rfl, rfl⟩
  go_wp2_with fail
  refine (M.out _).mono ?_
  rintro e w' ⟨rfl, b1⟩
  have bb := bb.trans (b1.mono bb.size)
  clear b1
  go_wp2_with fail
  refine (T.out _).mono ?_
  rintro e w' ⟨rfl, b1⟩
  have bb := bb.trans (b1.mono bb.size)
  clear b1
  go_wp2_with fail
  refine (B.out _).mono ?_
  rintro e w' ⟨rfl, b1⟩
  have bb := bb.trans (b1.mono bb.size)
  clear b1
  go_wp2_with fail
  refine (K.out _).mono ?_
  rintro e w' ⟨rfl, b1⟩
  have bb := bb.trans (b1.mono bb.size)
  clear b1
  go_wp2_with fail
  go_ret
  exact ⟨rfl, bb⟩
set_option maxHeartbeats 1000000 in
theorem safe_pn_yes_no_yes (a b : Int) (w : World) (ha : In64 a) (hb : In64 b) (sa : 0 < a) (sb : b ≤ 0) (h1 : In64 (a + b)) (h2 : ¬ In64 (a - b)) (h3 : In64 (a * b)) :
    Calls Try.prog 3 #[.int .i64 a, .int .i64 b] w fun e w' => e = .returned (.bool true) ∧ Below w.heap.size w w' := by
  have K := Lib.hid (fun w => known_any w)
  have A := Lib.hid (fun w => add_yes a b w ha hb h1)
  have S := Lib.hid (fun w => sub_no a b w ha hb h2)
  have M := Lib.hid (fun w => mul_yes a b w ha hb h3)
  have T := Lib.hid (fun w => times_any a b w ha hb)
  have B := Lib.hid (fun w => back_yes (a * b) w h3)
  clear h2
  obtain ⟨p, hp⟩ : ∃ p, a * b = p := ⟨_, rfl⟩
  simp only [hp] at M T B h3
  have hw : wrap64 (a * b) = p := by rw [hp, wrap64_eq]; unfold In64 at h3; omega
  clear hp
  unfold In64 at *
  have bb := Below.refl w.heap.size w
  go_enter Try.func3, Try.ntmps3
  go_wp2_with fail
  refine (A.out _).mono ?_
  rintro e w' ⟨rfl, rfl⟩
  go_wp2_with fail
  refine (S.out _).mono ?_
  rintro e w' ⟨rfl, rfl⟩
  go_wp2_with fail
  refine (M.out _).mono ?_
  rintro e w' ⟨rfl, b1⟩
  have bb := bb.trans (b1.mono bb.size)
  clear b1
  go_wp2_with fail
  refine (T.out _).mono ?_
  rintro e w' ⟨rfl, b1⟩
  have bb := bb.trans (b1.mono bb.size)
  clear b1
  go_wp2_with fail
  refine (B.out _).mono ?_
  rintro e w' ⟨rfl, b1⟩
  have bb := bb.trans (b1.mono bb.size)
  clear b1
  go_wp2_with fail
  refine (K.out _).mono ?_
  rintro e w' ⟨rfl, b1⟩
  have bb := bb.trans (b1.mono bb.size)
  clear b1
  go_wp2_with fail
  go_ret
  exact ⟨rfl, bb⟩
set_option maxHeartbeats 1000000 in
theorem safe_pn_yes_no_no (a b : Int) (w : World) (ha : In64 a) (hb : In64 b) (sa : 0 < a) (sb : b ≤ 0) (h1 : In64 (a + b)) (h2 : ¬ In64 (a - b)) (h3 : ¬ In64 (a * b)) :
    Calls Try.prog 3 #[.int .i64 a, .int .i64 b] w fun e w' => e = .returned (.bool true) ∧ Below w.heap.size w w' := by
  have K := Lib.hid (fun w => known_any w)
  have A := Lib.hid (fun w => add_yes a b w ha hb h1)
  have S := Lib.hid (fun w => sub_no a b w ha hb h2)
  have M := Lib.hid (fun w => mul_no a b w ha hb h3)
  have T := Lib.hid (fun w => times_any a b w ha hb)
  have B := Lib.hid (fun w => back_no (a * b) w (prod_in ha hb) h3)
  clear h2
  obtain ⟨p, hp⟩ : ∃ p, a * b = p := ⟨_, rfl⟩
  simp only [hp] at M T B h3
  clear hp
  unfold In64 at *
  clear h3
  have bb := Below.refl w.heap.size w
  go_enter Try.func3, Try.ntmps3
  go_wp2_with fail
  refine (A.out _).mono ?_
  rintro e w' ⟨rfl, rfl⟩
  go_wp2_with fail
  refine (S.out _).mono ?_
  rintro e w' ⟨rfl, rfl⟩
  go_wp2_with fail
  refine (M.out _).mono ?_
  rintro e w' ⟨rfl, b1⟩
  have bb := bb.trans (b1.mono bb.size)
  clear b1
  go_wp2_with fail
  refine (T.out _).mono ?_
  rintro e w' ⟨rfl, b1⟩
  have bb := bb.trans (b1.mono bb.size)
  clear b1
  go_wp2_with fail
  refine (B.out _).mono ?_
  rintro e w' ⟨rfl, b1⟩
  have bb := bb.trans (b1.mono bb.size)
  clear b1
  go_wp2_with fail
  refine (K.out _).mono ?_
  rintro e w' ⟨rfl, b1⟩
  have bb := bb.trans (b1.mono bb.size)
  clear b1
  go_wp2_with fail
  go_ret
  exact ⟨rfl, bb⟩
set_option maxHeartbeats 1000000 in
theorem safe_z_yes_yes_yes (a b : Int) (w : World) (ha : In64 a) (hb : In64 b) (sa : a = 0) (sb : True) (h1 : In64 (a + b)) (h2 : In64 (a - b)) (h3 : In64 (a * b)) :
    Calls Try.prog 3 #[.int .i64 a, .int .i64 b] w fun e w' => e = .returned (.bool true) ∧ Below w.heap.size w w' := by
  have K := Lib.hid (fun w => known_any w)
  have A := Lib.hid (fun w => add_yes a b w ha hb h1)
  have S := Lib.hid (fun w => sub_yes a b w ha hb h2)
  have M := Lib.hid (fun w => mul_yes a b w ha hb h3)
  have T := Lib.hid (fun w => times_any a b w ha hb)
  have B := Lib.hid (fun w => back_yes (a * b) w h3)
  obtain ⟨p, hp⟩ : ∃ p, a * b = p := ⟨_, rfl⟩
  simp only [hp] at M T B h3
  have hw : wrap64 (a * b) = p := by rw [hp, wrap64_eq]; unfold In64 at h3; omega
  clear hp
  unfold In64 at *
  have d1 : decide (0 < a) = false := by simp; omega
  have d2 : decide (a < 0) = false := by simp; omega
  clear sa sb
  have bb := Below.refl w.heap.size w
  go_enter Try.func3, Try.ntmps3
  go_wp2_with fail
  refine (A.out _).mono ?_
  rintro e w' ⟨rfl, rfl⟩
  go_wp2_with fail
  refine (S.out _).mono ?_
  rintro e w' ⟨rfl, rfl⟩
  go_wp2_with fail
  refine (M.out _).mono ?_
  rintro e w' ⟨rfl, b1⟩
  have bb := bb.trans (b1.mono bb.size)
  clear b1
  go_wp2_with fail
  refine (T.out _).mono ?_
  rintro e w' ⟨rfl, b1⟩
  have bb := bb.trans (b1.mono bb.size)
  clear b1
  go_wp2_with fail
  refine (B.out _).mono ?_
  rintro e w' ⟨rfl, b1⟩
  have bb := bb.trans (b1.mono bb.size)
  clear b1
  go_wp2_with fail
  refine (K.out _).mono ?_
  rintro e w' ⟨rfl, b1⟩
  have bb := bb.trans (b1.mono bb.size)
  clear b1
  go_wp2_with fail
  go_ret
  exact ⟨rfl, bb⟩
set_option maxHeartbeats 1000000 in
theorem safe_z_yes_yes_no (a b : Int) (w : World) (ha : In64 a) (hb : In64 b) (sa : a = 0) (sb : True) (h1 : In64 (a + b)) (h2 : In64 (a - b)) (h3 : ¬ In64 (a * b)) :
    Calls Try.prog 3 #[.int .i64 a, .int .i64 b] w fun e w' => e = .returned (.bool true) ∧ Below w.heap.size w w' := by
  have K := Lib.hid (fun w => known_any w)
  have A := Lib.hid (fun w => add_yes a b w ha hb h1)
  have S := Lib.hid (fun w => sub_yes a b w ha hb h2)
  have M := Lib.hid (fun w => mul_no a b w ha hb h3)
  have T := Lib.hid (fun w => times_any a b w ha hb)
  have B := Lib.hid (fun w => back_no (a * b) w (prod_in ha hb) h3)
  obtain ⟨p, hp⟩ : ∃ p, a * b = p := ⟨_, rfl⟩
  simp only [hp] at M T B h3
  clear hp
  unfold In64 at *
  clear h3
  have d1 : decide (0 < a) = false := by simp; omega
  have d2 : decide (a < 0) = false := by simp; omega
  clear sa sb
  have bb := Below.refl w.heap.size w
  go_enter Try.func3, Try.ntmps3
  go_wp2_with fail
  refine (A.out _).mono ?_
  rintro e w' ⟨rfl, rfl⟩
  go_wp2_with fail
  refine (S.out _).mono ?_
  rintro e w' ⟨rfl, rfl⟩
  go_wp2_with fail
  refine (M.out _).mono ?_
  rintro e w' ⟨rfl, b1⟩
  have bb := bb.trans (b1.mono bb.size)
  clear b1
  go_wp2_with fail
  refine (T.out _).mono ?_
  rintro e w' ⟨rfl, b1⟩
  have bb := bb.trans (b1.mono bb.size)
  clear b1
  go_wp2_with fail
  refine (B.out _).mono ?_
  rintro e w' ⟨rfl, b1⟩
  have bb := bb.trans (b1.mono bb.size)
  clear b1
  go_wp2_with fail
  refine (K.out _).mono ?_
  rintro e w' ⟨rfl, b1⟩
  have bb := bb.trans (b1.mono bb.size)
  clear b1
  go_wp2_with fail
  go_ret
  exact ⟨rfl, bb⟩
set_option maxHeartbeats 1000000 in
theorem safe_z_yes_no_yes (a b : Int) (w : World) (ha : In64 a) (hb : In64 b) (sa : a = 0) (sb : True) (h1 : In64 (a + b)) (h2 : ¬ In64 (a - b)) (h3 : In64 (a * b)) :
    Calls Try.prog 3 #[.int .i64 a, .int .i64 b] w fun e w' => e = .returned (.bool true) ∧ Below w.heap.size w w' := by
  have K := Lib.hid (fun w => known_any w)
  have A := Lib.hid (fun w => add_yes a b w ha hb h1)
  have S := Lib.hid (fun w => sub_no a b w ha hb h2)
  have M := Lib.hid (fun w => mul_yes a b w ha hb h3)
  have T := Lib.hid (fun w => times_any a b w ha hb)
  have B := Lib.hid (fun w => back_yes (a * b) w h3)
  clear h2
  obtain ⟨p, hp⟩ : ∃ p, a * b = p := ⟨_, rfl⟩
  simp only [hp] at M T B h3
  have hw : wrap64 (a * b) = p := by rw [hp, wrap64_eq]; unfold In64 at h3; omega
  clear hp
  unfold In64 at *
  have d1 : decide (0 < a) = false := by simp; omega
  have d2 : decide (a < 0) = false := by simp; omega
  clear sa sb
  have bb := Below.refl w.heap.size w
  go_enter Try.func3, Try.ntmps3
  go_wp2_with fail
  refine (A.out _).mono ?_
  rintro e w' ⟨rfl, rfl⟩
  go_wp2_with fail
  refine (S.out _).mono ?_
  rintro e w' ⟨rfl, rfl⟩
  go_wp2_with fail
  refine (M.out _).mono ?_
  rintro e w' ⟨rfl, b1⟩
  have bb := bb.trans (b1.mono bb.size)
  clear b1
  go_wp2_with fail
  refine (T.out _).mono ?_
  rintro e w' ⟨rfl, b1⟩
  have bb := bb.trans (b1.mono bb.size)
  clear b1
  go_wp2_with fail
  refine (B.out _).mono ?_
  rintro e w' ⟨rfl, b1⟩
  have bb := bb.trans (b1.mono bb.size)
  clear b1
  go_wp2_with fail
  refine (K.out _).mono ?_
  rintro e w' ⟨rfl, b1⟩
  have bb := bb.trans (b1.mono bb.size)
  clear b1
  go_wp2_with fail
  go_ret
  exact ⟨rfl, bb⟩
set_option maxHeartbeats 1000000 in
theorem safe_z_yes_no_no (a b : Int) (w : World) (ha : In64 a) (hb : In64 b) (sa : a = 0) (sb : True) (h1 : In64 (a + b)) (h2 : ¬ In64 (a - b)) (h3 : ¬ In64 (a * b)) :
    Calls Try.prog 3 #[.int .i64 a, .int .i64 b] w fun e w' => e = .returned (.bool true) ∧ Below w.heap.size w w' := by
  have K := Lib.hid (fun w => known_any w)
  have A := Lib.hid (fun w => add_yes a b w ha hb h1)
  have S := Lib.hid (fun w => sub_no a b w ha hb h2)
  have M := Lib.hid (fun w => mul_no a b w ha hb h3)
  have T := Lib.hid (fun w => times_any a b w ha hb)
  have B := Lib.hid (fun w => back_no (a * b) w (prod_in ha hb) h3)
  clear h2
  obtain ⟨p, hp⟩ : ∃ p, a * b = p := ⟨_, rfl⟩
  simp only [hp] at M T B h3
  clear hp
  unfold In64 at *
  clear h3
  have d1 : decide (0 < a) = false := by simp; omega
  have d2 : decide (a < 0) = false := by simp; omega
  clear sa sb
  have bb := Below.refl w.heap.size w
  go_enter Try.func3, Try.ntmps3
  go_wp2_with fail
  refine (A.out _).mono ?_
  rintro e w' ⟨rfl, rfl⟩
  go_wp2_with fail
  refine (S.out _).mono ?_
  rintro e w' ⟨rfl, rfl⟩
  go_wp2_with fail
  refine (M.out _).mono ?_
  rintro e w' ⟨rfl, b1⟩
  have bb := bb.trans (b1.mono bb.size)
  clear b1
  go_wp2_with fail
  refine (T.out _).mono ?_
  rintro e w' ⟨rfl, b1⟩
  have bb := bb.trans (b1.mono bb.size)
  clear b1
  go_wp2_with fail
  refine (B.out _).mono ?_
  rintro e w' ⟨rfl, b1⟩
  have bb := bb.trans (b1.mono bb.size)
  clear b1
  go_wp2_with fail
  refine (K.out _).mono ?_
  rintro e w' ⟨rfl, b1⟩
  have bb := bb.trans (b1.mono bb.size)
  clear b1
  go_wp2_with fail
  go_ret
  exact ⟨rfl, bb⟩
set_option maxHeartbeats 1000000 in
theorem safe_np_yes_yes_yes (a b : Int) (w : World) (ha : In64 a) (hb : In64 b) (sa : a < 0) (sb : 0 ≤ b) (h1 : In64 (a + b)) (h2 : In64 (a - b)) (h3 : In64 (a * b)) :
    Calls Try.prog 3 #[.int .i64 a, .int .i64 b] w fun e w' => e = .returned (.bool true) ∧ Below w.heap.size w w' := by
  have K := Lib.hid (fun w => known_any w)
  have A := Lib.hid (fun w => add_yes a b w ha hb h1)
  have S := Lib.hid (fun w => sub_yes a b w ha hb h2)
  have M := Lib.hid (fun w => mul_yes a b w ha hb h3)
  have T := Lib.hid (fun w => times_any a b w ha hb)
  have B := Lib.hid (fun w => back_yes (a * b) w h3)
  obtain ⟨p, hp⟩ : ∃ p, a * b = p := ⟨_, rfl⟩
  simp only [hp] at M T B h3
  have hw : wrap64 (a * b) = p := by rw [hp, wrap64_eq]; unfold In64 at h3; omega
  clear hp
  unfold In64 at *
  have bb := Below.refl w.heap.size w
  go_enter Try.func3, Try.ntmps3
  go_wp2_with fail
  refine (A.out _).mono ?_
  rintro e w' ⟨rfl, rfl⟩
  go_wp2_with fail
  refine (S.out _).mono ?_
  rintro e w' ⟨rfl, rfl⟩
  go_wp2_with fail
  refine (M.out _).mono ?_
  rintro e w' ⟨rfl, b1⟩
  have bb := bb.trans (b1.mono bb.size)
  clear b1
  go_wp2_with fail
  refine (T.out _).mono ?_
  rintro e w' ⟨rfl, b1⟩
  have bb := bb.trans (b1.mono bb.size)
  clear b1
  go_wp2_with fail
  refine (B.out _).mono ?_
  rintro e w' ⟨rfl, b1⟩
  have bb := bb.trans (b1.mono bb.size)
  clear b1
  go_wp2_with fail
  refine (K.out _).mono ?_
  rintro e w' ⟨rfl, b1⟩
  have bb := bb.trans (b1.mono bb.size)
  clear b1
  go_wp2_with fail
  go_ret
  exact ⟨rfl, bb⟩
set_option maxHeartbeats 1000000 in
theorem safe_np_yes_yes_no (a b : Int) (w : World) (ha : In64 a) (hb : In64 b) (sa : a < 0) (sb : 0 ≤ b) (h1 : In64 (a + b)) (h2 : In64 (a - b)) (h3 : ¬ In64 (a * b)) :
    Calls Try.prog 3 #[.int .i64 a, .int .i64 b] w fun e w' => e = .returned (.bool true) ∧ Below w.heap.size w w' := by
  have K := Lib.hid (fun w => known_any w)
  have A := Lib.hid (fun w => add_yes a b w ha hb h1)
  have S := Lib.hid (fun w => sub_yes a b w ha hb h2)
  have M := Lib.hid (fun w => mul_no a b w ha hb h3)
  have T := Lib.hid (fun w => times_any a b w ha hb)
  have B := Lib.hid (fun w => back_no (a * b) w (prod_in ha hb) h3)
  obtain ⟨p, hp⟩ : ∃ p, a * b = p := ⟨_, rfl⟩
  simp only [hp] at M T B h3
  clear hp
  unfold In64 at *
  clear h3
  have bb := Below.refl w.heap.size w
  go_enter Try.func3, Try.ntmps3
  go_wp2_with fail
  refine (A.out _).mono ?_
  rintro e w' ⟨rfl, rfl⟩
  go_wp2_with fail
  refine (S.out _).mono ?_
  rintro e w' ⟨rfl, rfl⟩
  go_wp2_with fail
  refine (M.out _).mono ?_
  rintro e w' ⟨rfl, b1⟩
  have bb := bb.trans (b1.mono bb.size)
  clear b1
  go_wp2_with fail
  refine (T.out _).mono ?_
  rintro e w' ⟨rfl, b1⟩
  have bb := bb.trans (b1.mono bb.size)
  clear b1
  go_wp2_with fail
  refine (B.out _).mono ?_
  rintro e w' ⟨rfl, b1⟩
  have bb := bb.trans (b1.mono bb.size)
  clear b1
  go_wp2_with fail
  refine (K.out _).mono ?_
  rintro e w' ⟨rfl, b1⟩
  have bb := bb.trans (b1.mono bb.size)
  clear b1
  go_wp2_with fail
  go_ret
  exact ⟨rfl, bb⟩
set_option maxHeartbeats 1000000 in
theorem safe_np_yes_no_yes (a b : Int) (w : World) (ha : In64 a) (hb : In64 b) (sa : a < 0) (sb : 0 ≤ b) (h1 : In64 (a + b)) (h2 : ¬ In64 (a - b)) (h3 : In64 (a * b)) :
    Calls Try.prog 3 #[.int .i64 a, .int .i64 b] w fun e w' => e = .returned (.bool true) ∧ Below w.heap.size w w' := by
  have K := Lib.hid (fun w => known_any w)
  have A := Lib.hid (fun w => add_yes a b w ha hb h1)
  have S := Lib.hid (fun w => sub_no a b w ha hb h2)
  have M := Lib.hid (fun w => mul_yes a b w ha hb h3)
  have T := Lib.hid (fun w => times_any a b w ha hb)
  have B := Lib.hid (fun w => back_yes (a * b) w h3)
  clear h2
  obtain ⟨p, hp⟩ : ∃ p, a * b = p := ⟨_, rfl⟩
  simp only [hp] at M T B h3
  have hw : wrap64 (a * b) = p := by rw [hp, wrap64_eq]; unfold In64 at h3; omega
  clear hp
  unfold In64 at *
  have bb := Below.refl w.heap.size w
  go_enter Try.func3, Try.ntmps3
  go_wp2_with fail
  refine (A.out _).mono ?_
  rintro e w' ⟨rfl, rfl⟩
  go_wp2_with fail
  refine (S.out _).mono ?_
  rintro e w' ⟨rfl, rfl⟩
  go_wp2_with fail
  refine (M.out _).mono ?_
  rintro e w' ⟨rfl, b1⟩
  have bb := bb.trans (b1.mono bb.size)
  clear b1
  go_wp2_with fail
  refine (T.out _).mono ?_
  rintro e w' ⟨rfl, b1⟩
  have bb := bb.trans (b1.mono bb.size)
  clear b1
  go_wp2_with fail
  refine (B.out _).mono ?_
  rintro e w' ⟨rfl, b1⟩
  have bb := bb.trans (b1.mono bb.size)
  clear b1
  go_wp2_with fail
  refine (K.out _).mono ?_
  rintro e w' ⟨rfl, b1⟩
  have bb := bb.trans (b1.mono bb.size)
  clear b1
  go_wp2_with fail
  go_ret
  exact ⟨rfl, bb⟩
set_option maxHeartbeats 1000000 in
theorem safe_np_yes_no_no (a b : Int) (w : World) (ha : In64 a) (hb : In64 b) (sa : a < 0) (sb : 0 ≤ b) (h1 : In64 (a + b)) (h2 : ¬ In64 (a - b)) (h3 : ¬ In64 (a * b)) :
    Calls Try.prog 3 #[.int .i64 a, .int .i64 b] w fun e w' => e = .returned (.bool true) ∧ Below w.heap.size w w' := by
  have K := Lib.hid (fun w => known_any w)
  have A := Lib.hid (fun w => add_yes a b w ha hb h1)
  have S := Lib.hid (fun w => sub_no a b w ha hb h2)
  have M := Lib.hid (fun w => mul_no a b w ha hb h3)
  have T := Lib.hid (fun w => times_any a b w ha hb)
  have B := Lib.hid (fun w => back_no (a * b) w (prod_in ha hb) h3)
  clear h2
  obtain ⟨p, hp⟩ : ∃ p, a * b = p := ⟨_, rfl⟩
  simp only [hp] at M T B h3
  clear hp
  unfold In64 at *
  clear h3
  have bb := Below.refl w.heap.size w
  go_enter Try.func3, Try.ntmps3
  go_wp2_with fail
  refine (A.out _).mono ?_
  rintro e w' ⟨rfl, rfl⟩
  go_wp2_with fail
  refine (S.out _).mono ?_
  rintro e w' ⟨rfl, rfl⟩
  go_wp2_with fail
  refine (M.out _).mono ?_
  rintro e w' ⟨rfl, b1⟩
  have bb := bb.trans (b1.mono bb.size)
  clear b1
  go_wp2_with fail
  refine (T.out _).mono ?_
  rintro e w' ⟨rfl, b1⟩
  have bb := bb.trans (b1.mono bb.size)
  clear b1
  go_wp2_with fail
  refine (B.out _).mono ?_
  rintro e w' ⟨rfl, b1⟩
  have bb := bb.trans (b1.mono bb.size)
  clear b1
  go_wp2_with fail
  refine (K.out _).mono ?_
  rintro e w' ⟨rfl, b1⟩
  have bb := bb.trans (b1.mono bb.size)
  clear b1
  go_wp2_with fail
  go_ret
  exact ⟨rfl, bb⟩
theorem safe_walk (a b : Int) (w : World) (ha : In64 a) (hb : In64 b) :
    Calls Try.prog 3 #[.int .i64 a, .int .i64 b] w fun e w' => e = .returned (.bool true) ∧ Below w.heap.size w w' := by
  have hs : (0 < a ∧ 0 < b) ∨ (a < 0 ∧ b < 0) ∨ (0 < a ∧ b ≤ 0) ∨ (a = 0 ∧ True) ∨ (a < 0 ∧ 0 ≤ b) := by
    by_cases p : 0 < a
    · by_cases q : 0 < b
      · exact .inl ⟨p, q⟩
      · exact .inr (.inr (.inl ⟨p, by omega⟩))
    · by_cases n : a < 0
      · by_cases q : b < 0
        · exact .inr (.inl ⟨n, q⟩)
        · exact .inr (.inr (.inr (.inr ⟨n, by omega⟩)))
      · exact .inr (.inr (.inr (.inl ⟨by omega, trivial⟩)))
  by_cases h2 : In64 (a - b) <;> by_cases h3 : In64 (a * b) <;> by_cases h1 : In64 (a + b) <;> rcases hs with ⟨sa, sb⟩ | ⟨sa, sb⟩ | ⟨sa, sb⟩ | ⟨sa, sb⟩ | ⟨sa, sb⟩
  all_goals first
    | exact safe_pp_yes_yes_yes a b w ha hb sa sb h1 h2 h3
    | exact safe_pp_yes_yes_no a b w ha hb sa sb h1 h2 h3
    | exact safe_pp_yes_no_yes a b w ha hb sa sb h1 h2 h3
    | exact safe_pp_yes_no_no a b w ha hb sa sb h1 h2 h3
    | exact safe_pp_no_yes_yes a b w ha hb sa sb h1 h2 h3
    | exact safe_pp_no_yes_no a b w ha hb sa sb h1 h2 h3
    | exact safe_pp_no_no_yes a b w ha hb sa sb h1 h2 h3
    | exact safe_pp_no_no_no a b w ha hb sa sb h1 h2 h3
    | exact safe_nn_yes_yes_yes a b w ha hb sa sb h1 h2 h3
    | exact safe_nn_yes_yes_no a b w ha hb sa sb h1 h2 h3
    | exact safe_nn_yes_no_yes a b w ha hb sa sb h1 h2 h3
    | exact safe_nn_yes_no_no a b w ha hb sa sb h1 h2 h3
    | exact safe_nn_no_yes_yes a b w ha hb sa sb h1 h2 h3
    | exact safe_nn_no_yes_no a b w ha hb sa sb h1 h2 h3
    | exact safe_nn_no_no_yes a b w ha hb sa sb h1 h2 h3
    | exact safe_nn_no_no_no a b w ha hb sa sb h1 h2 h3
    | exact safe_pn_yes_yes_yes a b w ha hb sa sb h1 h2 h3
    | exact safe_pn_yes_yes_no a b w ha hb sa sb h1 h2 h3
    | exact safe_pn_yes_no_yes a b w ha hb sa sb h1 h2 h3
    | exact safe_pn_yes_no_no a b w ha hb sa sb h1 h2 h3
    | exact safe_z_yes_yes_yes a b w ha hb sa sb h1 h2 h3
    | exact safe_z_yes_yes_no a b w ha hb sa sb h1 h2 h3
    | exact safe_z_yes_no_yes a b w ha hb sa sb h1 h2 h3
    | exact safe_z_yes_no_no a b w ha hb sa sb h1 h2 h3
    | exact safe_np_yes_yes_yes a b w ha hb sa sb h1 h2 h3
    | exact safe_np_yes_yes_no a b w ha hb sa sb h1 h2 h3
    | exact safe_np_yes_no_yes a b w ha hb sa sb h1 h2 h3
    | exact safe_np_yes_no_no a b w ha hb sa sb h1 h2 h3
    | (unfold In64 at ha hb h1; omega)
end Go.Proofs.Ytajihhmohokngaa
