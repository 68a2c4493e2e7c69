import Derived.Test.YtajihhmohokngaaBase
set_option linter.unusedVariables false
set_option linter.unusedSimpArgs false
namespace Go.Proofs.Ytajihhmohokngaa
open Go.RowKit

theorem ret2_eq {a b : Int} {p q : Bool} (h : a = b) (k : p = q) : Ending.returned (.tuple #[.int .i64 a, .bool p]) = .returned (.tuple #[.int .i64 b, .bool q]) := by rw [h, k]

set_option maxHeartbeats 400000 in
theorem add_yes (a b : Int) (w : World) (ha : In64 a) (hb : In64 b) (h : In64 (a + b)) :
    Calls Try.prog 11 #[.int .i64 a, .int .i64 b] w fun e w' => e = .returned (.tuple #[.int .i64 (a + b), .bool true]) ∧ w = w' := by
  unfold In64 at *
  obtain ⟨h1, h2⟩ := h
  clear ha hb
  by_cases hb : 0 ≤ b
  · have h3 : a ≤ a + b := by omega
    go_enter Try.func11, Try.ntmps11
    go_wp2_with fail
    go_ret2
    exact ⟨rfl, rfl⟩
  · have h3 : ¬ a ≤ a + b := by omega
    go_enter Try.func11, Try.ntmps11
    go_wp2_with fail
    go_ret2
    exact ⟨rfl, rfl⟩
set_option maxHeartbeats 400000 in
theorem add_no (a b : Int) (w : World) (ha : In64 a) (hb : In64 b) (h : ¬ In64 (a + b)) :
    Calls Try.prog 11 #[.int .i64 a, .int .i64 b] w fun e w' => e = .returned (.tuple #[.int .i64 0, .bool false]) ∧ w = w' := by
  have e := wrap64_eq (a + b)
  unfold In64 at *
  obtain ⟨s, hs⟩ : ∃ s, wrap64 (a + b) = s := ⟨_, rfl⟩
  rw [hs] at e
  by_cases hb0 : 0 ≤ b
  · have h3 : ¬ a ≤ s := by omega
    clear e h ha hb
    go_enter Try.func11, Try.ntmps11
    go_wp2_with fail
    go_ret2
    exact ⟨rfl, rfl⟩
  · have h3 : a ≤ s := by omega
    clear e h ha hb
    go_enter Try.func11, Try.ntmps11
    go_wp2_with fail
    go_ret2
    exact ⟨rfl, rfl⟩
set_option maxHeartbeats 400000 in
theorem sub_yes (a b : Int) (w : World) (ha : In64 a) (hb : In64 b) (h : In64 (a - b)) :
    Calls Try.prog 12 #[.int .i64 a, .int .i64 b] w fun e w' => e = .returned (.tuple #[.int .i64 (a - b), .bool true]) ∧ w = w' := by
  unfold In64 at *
  obtain ⟨h1, h2⟩ := h
  clear ha hb
  by_cases hb : 0 < b
  · have h3 : a - b < a := by omega
    go_enter Try.func12, Try.ntmps12
    go_wp2_with fail
    go_ret2
    exact ⟨rfl, rfl⟩
  · have h3 : ¬ a - b < a := by omega
    go_enter Try.func12, Try.ntmps12
    go_wp2_with fail
    go_ret2
    exact ⟨rfl, rfl⟩
set_option maxHeartbeats 400000 in
theorem sub_no (a b : Int) (w : World) (ha : In64 a) (hb : In64 b) (h : ¬ In64 (a - b)) :
    Calls Try.prog 12 #[.int .i64 a, .int .i64 b] w fun e w' => e = .returned (.tuple #[.int .i64 0, .bool false]) ∧ w = w' := by
  have e := wrap64_eq (a - b)
  unfold In64 at *
  obtain ⟨s, hs⟩ : ∃ s, wrap64 (a - b) = s := ⟨_, rfl⟩
  rw [hs] at e
  by_cases hb0 : 0 < b
  · have h3 : ¬ s < a := by omega
    clear e h ha hb
    go_enter Try.func12, Try.ntmps12
    go_wp2_with fail
    go_ret2
    exact ⟨rfl, rfl⟩
  · have h3 : s < a := by omega
    clear e h ha hb
    go_enter Try.func12, Try.ntmps12
    go_wp2_with fail
    go_ret2
    exact ⟨rfl, rfl⟩

/-- a number without its sign -/
def mag (a : Int) : Int := if a < 0 then -a else a
theorem mag_in {a : Int} (h : In64 a) : 0 ≤ mag a ∧ mag a ≤ 9223372036854775808 := by unfold In64 at h; unfold mag; split <;> omega

theorem ret_int {k : IntKind} {a b : Int} (h : a = b) : Ending.returned (.int k a) = .returned (.int k b) := by rw [h]
set_option maxHeartbeats 400000 in
theorem size_any (a : Int) (w : World) (h : In64 a) :
    Calls Try.prog 30 #[.int .i64 a] w fun e w' => e = .returned (.int .u64 (mag a)) ∧ w = w' := by
  by_cases h1 : a < 0
  · have e : IntKind.u64.wrap (-IntKind.u64.wrap a) = mag a := by
      rw [u64_eq, u64_eq]; unfold mag; rw [if_pos h1]; unfold In64 at h; unfold lo64; omega
    clear h
    go_enter Try.func30, Try.ntmps30
    go_wp2_with fail
    go_ret
    exact ⟨ret_int (by first | rfl | exact e | simpa using e), rfl⟩
  · have e : mag a = a := by unfold mag; rw [if_neg h1]
    unfold In64 at h
    rw [e]
    clear e
    go_enter Try.func30, Try.ntmps30
    go_wp2_with fail
    go_ret
    exact ⟨rfl, rfl⟩

theorem and_mod (z : Int) : bits .and .u64 (z % 18446744073709551616) 4294967295 = z % 18446744073709551616 % 4294967296 := and_low32 _ (by omega) (by omega)
theorem ret_two {k l : IntKind} {a b c d : Int} (h : a = b) (q : c = d) : Ending.returned (.tuple #[.int k a, .int l c]) = .returned (.tuple #[.int k b, .int l d]) := by rw [h, q]

set_option maxHeartbeats 400000 in
theorem mul64_any (x y : Int) (w : World) (hx0 : 0 ≤ x) (hx : x < 18446744073709551616) (hy0 : 0 ≤ y) (hy : y < 18446744073709551616) :
    Calls Try.prog 29 #[.int .u64 x, .int .u64 y] w fun e w' => e = .returned (.tuple #[.int .u64 (hi64 (x * y)), .int .u64 (lo64 (x * y))]) ∧ w = w' := by
  have hm := Lib.hid (mul64_arith x y hx0 hx hy0 hy)
  have ax := Lib.hid (and_low32 x hx0 hx)
  have ay := Lib.hid (and_low32 y hy0 hy)
  clear hx hy
  go_enter Try.func29, Try.ntmps29
  go_wp2_with fail
  go_ret2
  refine ⟨ret_two ?_ ?_, rfl⟩
  · simp only [IntKind.wrap_u64, ax.out, ay.out, and_mod]
    exact hm.out
  · rw [IntKind.wrap_u64]
    rfl

theorem times_mag (a b : Int) (h : (a < 0) = (b < 0)) : mag a * mag b = a * b := by
  unfold mag
  by_cases h1 : a < 0
  · rw [if_pos h1, if_pos (h ▸ h1)]; rw [Int.neg_mul_neg]
  · rw [if_neg h1, if_neg (fun q => h1 (h ▸ q))]
theorem times_mag_neg (a b : Int) (h : ¬ ((a < 0) = (b < 0))) : 0 - mag a * mag b = a * b := by
  unfold mag
  by_cases h1 : a < 0
  · have h2 : ¬ b < 0 := fun q => h (by simp [h1, q])
    rw [if_pos h1, if_neg h2, Int.neg_mul]; omega
  · have h2 : b < 0 := by
      by_cases q : b < 0
      · exact q
      · exact absurd (by simp [h1, q]) h
    rw [if_neg h1, if_pos h2, Int.mul_neg]; omega
theorem mag_mul (a b : Int) (ha : In64 a) (hb : In64 b) : 0 ≤ mag a * mag b ∧ mag a * mag b ≤ 85070591730234615865843651857942052864 := by
  obtain ⟨a0, a1⟩ := mag_in ha
  obtain ⟨b0, b1⟩ := mag_in hb
  refine ⟨Int.mul_nonneg a0 b0, ?_⟩
  have := Int.mul_le_mul a1 b1 b0 (by omega : (0 : Int) ≤ 9223372036854775808)
  simpa using this
theorem hi_prod (p : Int) (h0 : 0 ≤ p) (h1 : p ≤ 85070591730234615865843651857942052864) : wrap64 (hi64 p) = hi64 p := by
  rw [wrap64_eq]; unfold hi64; omega

set_option maxHeartbeats 800000 in
theorem times_nn (a b : Int) (w : World) (ha : In64 a) (hb : In64 b) (h1 : a < 0) (h2 : b < 0) :
    Calls Try.prog 15 #[.int .i64 a, .int .i64 b] w fun e w' => e = .returned (.agg #[.int .i64 (hi64 (a * b)), .int .u64 (lo64 (a * b))]) ∧ Below w.heap.size w w' := by
  obtain ⟨a0, a1⟩ := mag_in ha
  obtain ⟨b0, b1⟩ := mag_in hb
  obtain ⟨p0, p1⟩ := mag_mul a b ha hb
  have hp := hi_prod _ p0 p1
  have tm := times_mag a b (by simp [h1, h2])
  have SA := Lib.hid (fun w => size_any a w ha)
  have SB := Lib.hid (fun w => size_any b w hb)
  have SM := Lib.hid (fun w => mul64_any (mag a) (mag b) w a0 (by omega) b0 (by omega))
  rw [← tm]
  clear ha hb tm
  generalize mag a * mag b = p at *
  generalize mag a = ma at *
  generalize mag b = mb at *
  go_enter Try.func15, Try.ntmps15
  go_wp2_with fail
  refine (SA.out _).mono ?_
  rintro e w' ⟨rfl, rfl⟩
  go_wp2_with fail
  refine (SB.out _).mono ?_
  rintro e w' ⟨rfl, rfl⟩
  go_wp2_with fail
  refine (SM.out _).mono ?_
  rintro e w' ⟨rfl, rfl⟩
  go_wp2_with fail
  refine bodyPost_ret (v := .agg #[.int .i64 (hi64 p), .int .u64 (lo64 p)]) (by simp [results, Try.results15, go_sem]) rfl ⟨rfl, ?_⟩
  repeat (first | exact Below.refl _ _ | refine Below.setCell ?_ (by simp) _ | refine Below.alloc ?_ (by first | (simp; done) | (simp; omega)) _ | refine Below.drew ?_)
set_option maxHeartbeats 800000 in
theorem times_pp (a b : Int) (w : World) (ha : In64 a) (hb : In64 b) (h1 : ¬ a < 0) (h2 : ¬ b < 0) :
    Calls Try.prog 15 #[.int .i64 a, .int .i64 b] w fun e w' => e = .returned (.agg #[.int .i64 (hi64 (a * b)), .int .u64 (lo64 (a * b))]) ∧ Below w.heap.size w w' := by
  obtain ⟨a0, a1⟩ := mag_in ha
  obtain ⟨b0, b1⟩ := mag_in hb
  obtain ⟨p0, p1⟩ := mag_mul a b ha hb
  have hp := hi_prod _ p0 p1
  have tm := times_mag a b (by simp [h1, h2])
  have SA := Lib.hid (fun w => size_any a w ha)
  have SB := Lib.hid (fun w => size_any b w hb)
  have SM := Lib.hid (fun w => mul64_any (mag a) (mag b) w a0 (by omega) b0 (by omega))
  rw [← tm]
  have g1 : decide (a < 0) = false := by simp [h1]
  have g2 : decide (b < 0) = false := by simp [h2]
  clear ha hb tm
  generalize mag a * mag b = p at *
  generalize mag a = ma at *
  generalize mag b = mb at *
  clear h1 h2
  go_enter Try.func15, Try.ntmps15
  go_wp2_with fail
  refine (SA.out _).mono ?_
  rintro e w' ⟨rfl, rfl⟩
  go_wp2_with fail
  refine (SB.out _).mono ?_
  rintro e w' ⟨rfl, rfl⟩
  go_wp2_with fail
  refine (SM.out _).mono ?_
  rintro e w' ⟨rfl, rfl⟩
  go_wp2_with fail
  refine bodyPost_ret (v := .agg #[.int .i64 (hi64 p), .int .u64 (lo64 p)]) (by simp [results, Try.results15, go_sem]) rfl ⟨rfl, ?_⟩
  repeat (first | exact Below.refl _ _ | refine Below.setCell ?_ (by simp) _ | refine Below.alloc ?_ (by first | (simp; done) | (simp; omega)) _ | refine Below.drew ?_)
set_option maxHeartbeats 800000 in
theorem times_np (a b : Int) (w : World) (ha : In64 a) (hb : In64 b) (h1 : a < 0) (h2 : ¬ b < 0) :
    Calls Try.prog 15 #[.int .i64 a, .int .i64 b] w fun e w' => e = .returned (.agg #[.int .i64 (hi64 (a * b)), .int .u64 (lo64 (a * b))]) ∧ Below w.heap.size w w' := by
  obtain ⟨a0, a1⟩ := mag_in ha
  obtain ⟨b0, b1⟩ := mag_in hb
  obtain ⟨p0, p1⟩ := mag_mul a b ha hb
  have hp := hi_prod _ p0 p1
  have tm := times_mag_neg a b (by simp [h1, h2])
  have SA := Lib.hid (fun w => size_any a w ha)
  have SB := Lib.hid (fun w => size_any b w hb)
  have SM := Lib.hid (fun w => mul64_any (mag a) (mag b) w a0 (by omega) b0 (by omega))
  rw [← tm]
  clear ha hb tm
  generalize mag a * mag b = p at *
  generalize mag a = ma at *
  generalize mag b = mb at *
  have hmin : Hid (∀ w, Calls Try.prog 18 #[.agg #[.int .i64 0, .int .u64 0], .agg #[.int .i64 (hi64 p), .int .u64 (lo64 p)]] w fun e w' => e = .returned (.agg #[.int .i64 (hi64 (0 - p)), .int .u64 (lo64 (0 - p))]) ∧ Below w.heap.size w w') := fun w => by
    have J := minus_any 0 p w (by unfold In128; omega) (by unfold In128; omega)
    rw [w128_of (by unfold In128; omega)] at J
    exact J
  have g1 : decide (a < 0) = true := by simp [h1]
  have g2 : decide (b < 0) = false := by simp [h2]
  clear p0 p1 a0 a1 b0 b1
  go_enter Try.func15, Try.ntmps15
  go_wp2_with fail
  refine (SA.out _).mono ?_
  rintro e w' ⟨rfl, rfl⟩
  go_wp2_with fail
  refine (SB.out _).mono ?_
  rintro e w' ⟨rfl, rfl⟩
  go_wp2_with fail
  refine (SM.out _).mono ?_
  rintro e w' ⟨rfl, rfl⟩
  go_wp2_with fail
  refine (hmin.out _).mono ?_
  rintro e w1 ⟨rfl, b1⟩
  have q1 : w1.cell? ⟨w.heap.size, 0, none⟩ = some (.int .i64 0) := (b1.cell (by first | (simp; done) | (simp; omega))).trans (by simp)
  have q2 : w1.cell? ⟨w.heap.size, 1, none⟩ = some (.int .u64 0) := (b1.cell (by first | (simp; done) | (simp; omega))).trans (by simp)
  have q3 : w1.frozen? ⟨w.heap.size, 0, none⟩ = false := (b1.frozen (by first | (simp; done) | (simp; omega))).trans (by simp)
  have q4 : w1.frozen? ⟨w.heap.size, 1, none⟩ = false := (b1.frozen (by first | (simp; done) | (simp; omega))).trans (by simp)
  go_wp2_with fail
  refine bodyPost_ret (v := .agg #[.int .i64 (hi64 (0 - p)), .int .u64 (lo64 (0 - p))]) (by simp [results, Try.results15, go_sem, q1, q2, q3, q4]) rfl ⟨rfl, ?_⟩
  refine Below.setCell (Below.setCell (Below.trans ?_ (b1.mono (by first | (simp; done) | (simp; omega)))) (by simp) _) (by simp) _
  repeat (first | exact Below.refl _ _ | refine Below.setCell ?_ (by simp) _ | refine Below.alloc ?_ (by first | (simp; done) | (simp; omega)) _ | refine Below.drew ?_)
set_option maxHeartbeats 800000 in
theorem times_pn (a b : Int) (w : World) (ha : In64 a) (hb : In64 b) (h1 : ¬ a < 0) (h2 : b < 0) :
    Calls Try.prog 15 #[.int .i64 a, .int .i64 b] w fun e w' => e = .returned (.agg #[.int .i64 (hi64 (a * b)), .int .u64 (lo64 (a * b))]) ∧ Below w.heap.size w w' := by
  obtain ⟨a0, a1⟩ := mag_in ha
  obtain ⟨b0, b1⟩ := mag_in hb
  obtain ⟨p0, p1⟩ := mag_mul a b ha hb
  have hp := hi_prod _ p0 p1
  have tm := times_mag_neg a b (by simp [h1, h2])
  have SA := Lib.hid (fun w => size_any a w ha)
  have SB := Lib.hid (fun w => size_any b w hb)
  have SM := Lib.hid (fun w => mul64_any (mag a) (mag b) w a0 (by omega) b0 (by omega))
  rw [← tm]
  clear ha hb tm
  generalize mag a * mag b = p at *
  generalize mag a = ma at *
  generalize mag b = mb at *
  have hmin : Hid (∀ w, Calls Try.prog 18 #[.agg #[.int .i64 0, .int .u64 0], .agg #[.int .i64 (hi64 p), .int .u64 (lo64 p)]] w fun e w' => e = .returned (.agg #[.int .i64 (hi64 (0 - p)), .int .u64 (lo64 (0 - p))]) ∧ Below w.heap.size w w') := fun w => by
    have J := minus_any 0 p w (by unfold In128; omega) (by unfold In128; omega)
    rw [w128_of (by unfold In128; omega)] at J
    exact J
  have g1 : decide (a < 0) = false := by simp [h1]
  have g2 : decide (b < 0) = true := by simp [h2]
  clear p0 p1 a0 a1 b0 b1
  go_enter Try.func15, Try.ntmps15
  go_wp2_with fail
  refine (SA.out _).mono ?_
  rintro e w' ⟨rfl, rfl⟩
  go_wp2_with fail
  refine (SB.out _).mono ?_
  rintro e w' ⟨rfl, rfl⟩
  go_wp2_with fail
  refine (SM.out _).mono ?_
  rintro e w' ⟨rfl, rfl⟩
  go_wp2_with fail
  refine (hmin.out _).mono ?_
  rintro e w1 ⟨rfl, b1⟩
  have q1 : w1.cell? ⟨w.heap.size, 0, none⟩ = some (.int .i64 0) := (b1.cell (by first | (simp; done) | (simp; omega))).trans (by simp)
  have q2 : w1.cell? ⟨w.heap.size, 1, none⟩ = some (.int .u64 0) := (b1.cell (by first | (simp; done) | (simp; omega))).trans (by simp)
  have q3 : w1.frozen? ⟨w.heap.size, 0, none⟩ = false := (b1.frozen (by first | (simp; done) | (simp; omega))).trans (by simp)
  have q4 : w1.frozen? ⟨w.heap.size, 1, none⟩ = false := (b1.frozen (by first | (simp; done) | (simp; omega))).trans (by simp)
  go_wp2_with fail
  refine bodyPost_ret (v := .agg #[.int .i64 (hi64 (0 - p)), .int .u64 (lo64 (0 - p))]) (by simp [results, Try.results15, go_sem, q1, q2, q3, q4]) rfl ⟨rfl, ?_⟩
  refine Below.setCell (Below.setCell (Below.trans ?_ (b1.mono (by first | (simp; done) | (simp; omega)))) (by simp) _) (by simp) _
  repeat (first | exact Below.refl _ _ | refine Below.setCell ?_ (by simp) _ | refine Below.alloc ?_ (by first | (simp; done) | (simp; omega)) _ | refine Below.drew ?_)

theorem times_any (a b : Int) (w : World) (ha : In64 a) (hb : In64 b) :
    Calls Try.prog 15 #[.int .i64 a, .int .i64 b] w fun e w' => e = .returned (.agg #[.int .i64 (hi64 (a * b)), .int .u64 (lo64 (a * b))]) ∧ Below w.heap.size w w' := by
  by_cases h1 : a < 0
  · by_cases h2 : b < 0
    · exact times_nn a b w ha hb h1 h2
    · exact times_np a b w ha hb h1 h2
  · by_cases h2 : b < 0
    · exact times_pn a b w ha hb h1 h2
    · exact times_pp a b w ha hb h1 h2
theorem prod_in {a b : Int} (ha : In64 a) (hb : In64 b) : In128 (a * b) := by
  obtain ⟨p0, p1⟩ := mag_mul a b ha hb
  unfold In128
  by_cases h : (a < 0) = (b < 0)
  · have := times_mag a b h; omega
  · have := times_mag_neg a b h; omega
end Go.Proofs.Ytajihhmohokngaa
