import Derived.Test.YtajihhmohokngaaHalvesLaw
set_option linter.unusedVariables false
set_option linter.unusedSimpArgs false
namespace Go.Proofs.Ytajihhmohokngaa
open Go.RowKit


set_option maxHeartbeats 400000 in
theorem rplus_no (a b : Int) (w : World) (ha : In128 a) (hb : In128 b) (h : lo64 a + lo64 b < 18446744073709551616) :
    Calls Try.prog 36 #[.agg #[.int .i64 (hi64 a), .int .u64 (lo64 a)], .agg #[.int .i64 (hi64 b), .int .u64 (lo64 b)]] w fun e w' => e = .returned (.agg #[.int .i64 (hi64 (w128 (a + b))), .int .u64 (lo64 (w128 (a + b)))]) ∧ Below w.heap.size w w' := by
  obtain ⟨la0, la1⟩ := lo64_in a
  obtain ⟨lb0, lb1⟩ := lo64_in b
  have PL : IntKind.u64.wrap (lo64 a + lo64 b) = lo64 (w128 (a + b)) := by rw [u64_eq]; unfold lo64 w128; omega
  have PH : wrap64 (hi64 a + hi64 b) = hi64 (w128 (a + b)) := by rw [wrap64_eq]; unfold In128 at *; unfold hi64 lo64 w128 at *; omega
  have g : decide (lo64 (w128 (a + b)) < lo64 a) = false := by simp; rw [← PL, u64_eq]; unfold lo64 at *; omega
  generalize lo64 (w128 (a + b)) = L at *
  generalize hi64 (w128 (a + b)) = H at *
  have PHH := Lib.hid PH
  clear la1 lb1 ha hb h PH
  go_enter Try.func36, Try.ntmps36
  go_wp2_with fail
  skip
  refine bodyPost_ret (v := .agg #[.int .i64 (wrap64 (hi64 a + hi64 b)), .int .u64 L]) (by simp [results, Try.results36, go_sem]) rfl ⟨by rw [PHH.out], ?_⟩
  repeat (first | exact Below.refl _ _ | refine Below.setCell ?_ (by simp) _ | refine Below.alloc ?_ (by first | (simp; done) | (simp; omega)) _ | refine Below.drew ?_ | refine below_drewN ?_ _)

set_option maxHeartbeats 400000 in
theorem rplus_yes (a b : Int) (w : World) (ha : In128 a) (hb : In128 b) (h : 18446744073709551616 ≤ lo64 a + lo64 b) :
    Calls Try.prog 36 #[.agg #[.int .i64 (hi64 a), .int .u64 (lo64 a)], .agg #[.int .i64 (hi64 b), .int .u64 (lo64 b)]] w fun e w' => e = .returned (.agg #[.int .i64 (hi64 (w128 (a + b))), .int .u64 (lo64 (w128 (a + b)))]) ∧ Below w.heap.size w w' := by
  obtain ⟨la0, la1⟩ := lo64_in a
  obtain ⟨lb0, lb1⟩ := lo64_in b
  have PL : IntKind.u64.wrap (lo64 a + lo64 b) = lo64 (w128 (a + b)) := by rw [u64_eq]; unfold lo64 w128; omega
  have PH : wrap64 (wrap64 (hi64 a + hi64 b) + 1) = hi64 (w128 (a + b)) := by rw [wrap64_eq, wrap64_eq]; unfold In128 at *; unfold hi64 lo64 w128 at *; omega
  have g : decide (lo64 (w128 (a + b)) < lo64 a) = true := by simp; rw [← PL, u64_eq]; unfold lo64 at *; omega
  generalize lo64 (w128 (a + b)) = L at *
  generalize hi64 (w128 (a + b)) = H at *
  have PHH := Lib.hid PH
  clear la1 lb1 ha hb h PH
  go_enter Try.func36, Try.ntmps36
  go_wp2_with fail
  skip
  refine bodyPost_ret (v := .agg #[.int .i64 (wrap64 (wrap64 (hi64 a + hi64 b) + 1)), .int .u64 L]) (by simp [results, Try.results36, go_sem]) rfl ⟨by rw [PHH.out], ?_⟩
  repeat (first | exact Below.refl _ _ | refine Below.setCell ?_ (by simp) _ | refine Below.alloc ?_ (by first | (simp; done) | (simp; omega)) _ | refine Below.drew ?_ | refine below_drewN ?_ _)

theorem rplus_any (a b : Int) (w : World) (ha : In128 a) (hb : In128 b) :
    Calls Try.prog 36 #[.agg #[.int .i64 (hi64 a), .int .u64 (lo64 a)], .agg #[.int .i64 (hi64 b), .int .u64 (lo64 b)]] w fun e w' => e = .returned (.agg #[.int .i64 (hi64 (w128 (a + b))), .int .u64 (lo64 (w128 (a + b)))]) ∧ Below w.heap.size w w' := by
  by_cases h : lo64 a + lo64 b < 18446744073709551616
  · exact rplus_no a b w ha hb h
  · exact rplus_yes a b w ha hb (by omega)

set_option maxHeartbeats 400000 in
theorem rof_neg (a : Int) (w : World) (h : In64 a) (h0 : a < 0) :
    Calls Try.prog 27 #[.int .i64 a] w fun e w' => e = .returned (.agg #[.int .i64 (hi64 a), .int .u64 (lo64 a)]) ∧ Below w.heap.size w w' := by
  have h1 : hi64 a = (-1) := by unfold In64 at h; unfold hi64; omega
  have u1 := u64_eq a
  rw [h1]
  clear h h1
  go_enter Try.func27, Try.ntmps27
  go_wp2_with fail
  refine bodyPost_ret (v := .agg #[.int .i64 (-1), .int .u64 (lo64 a)]) (by simp [results, Try.results27, go_sem]) rfl ⟨rfl, ?_⟩
  repeat (first | exact Below.refl _ _ | refine Below.setCell ?_ (by simp) _ | refine Below.alloc ?_ (by first | (simp; done) | (simp; omega)) _ | refine Below.drew ?_ | refine below_drewN ?_ _)

set_option maxHeartbeats 400000 in
theorem rof_pos (a : Int) (w : World) (h : In64 a) (h0 : ¬ a < 0) :
    Calls Try.prog 27 #[.int .i64 a] w fun e w' => e = .returned (.agg #[.int .i64 (hi64 a), .int .u64 (lo64 a)]) ∧ Below w.heap.size w w' := by
  have h1 : hi64 a = 0 := by unfold In64 at h; unfold hi64; omega
  have u1 := u64_eq a
  rw [h1]
  clear h h1
  go_enter Try.func27, Try.ntmps27
  go_wp2_with fail
  refine bodyPost_ret (v := .agg #[.int .i64 0, .int .u64 (lo64 a)]) (by simp [results, Try.results27, go_sem]) rfl ⟨rfl, ?_⟩
  repeat (first | exact Below.refl _ _ | refine Below.setCell ?_ (by simp) _ | refine Below.alloc ?_ (by first | (simp; done) | (simp; omega)) _ | refine Below.drew ?_ | refine below_drewN ?_ _)

theorem rof_any (a : Int) (w : World) (h : In64 a) :
    Calls Try.prog 27 #[.int .i64 a] w fun e w' => e = .returned (.agg #[.int .i64 (hi64 a), .int .u64 (lo64 a)]) ∧ Below w.heap.size w w' := by
  by_cases h0 : a < 0
  · exact rof_neg a w h h0
  · exact rof_pos a w h h0
set_option maxHeartbeats 400000 in
theorem rtwice_any (a : Int) (w : World) (ha : In128 a) :
    Calls Try.prog 39 #[.agg #[.int .i64 (hi64 a), .int .u64 (lo64 a)]] w fun e w' => e = .returned (.agg #[.int .i64 (hi64 (w128 (a + a))), .int .u64 (lo64 (w128 (a + a)))]) ∧ Below w.heap.size w w' := by
  have P := Lib.hid (fun w => rplus_any a a w ha ha)
  generalize w128 (a + a) = s at *
  go_enter Try.func39, Try.ntmps39
  go_wp2_with fail
  refine (P.out _).mono ?_
  rintro e w1 ⟨rfl, b1⟩
  have e : (lay w a).heap.size = w.heap.size + 1 := by simp [lay]
  have i2 := WideIn.new (lay w a) 0
  rw [e] at i2
  have i2 : WideIn w1 (w.heap.size + 1) 0 := i2.kept (B := 0) b1
  have c0 := i2.c0
  have c1 := i2.c1
  have f0 := i2.f0 0
  have f1 := i2.f0 1
  have lt := i2.lt
  clear e i2
  go_wp2_with fail
  refine bodyPost_ret (v := .agg #[.int .i64 (hi64 s), .int .u64 (lo64 s)]) (by simp [results, Try.results39, go_sem, c0, c1, f0, f1]) rfl ⟨rfl, ?_⟩
  refine Below.setCell (Below.setCell (Below.trans ?_ (b1.mono (by first | (simp; done) | (simp; omega)))) (by simp) _) (by simp) _
  repeat (first | exact Below.refl _ _ | refine Below.setCell ?_ (by simp) _ | refine Below.alloc ?_ (by first | (simp; done) | (simp; omega)) _ | refine Below.drew ?_ | refine below_drewN ?_ _)
end Go.Proofs.Ytajihhmohokngaa
