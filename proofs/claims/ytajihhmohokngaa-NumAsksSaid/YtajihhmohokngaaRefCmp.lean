import Derived.Test.YtajihhmohokngaaRefLess
set_option linter.unusedVariables false
set_option linter.unusedSimpArgs false
namespace Go.Proofs.Ytajihhmohokngaa
open Go.RowKit


set_option maxHeartbeats 400000 in
theorem rcmp_a (a b : Int) (w : World) (h1 : (hi64 a == hi64 b) = false) (h2 : hi64 a < hi64 b) :
    Calls Try.prog 46 #[.agg #[.int .i64 (hi64 a), .int .u64 (lo64 a)], .agg #[.int .i64 (hi64 b), .int .u64 (lo64 b)]] w fun e w' => e = .returned (.int .i64 (-1)) ∧ Below w.heap.size w w' := by
  generalize hi64 a = p at *
  generalize hi64 b = q at *
  generalize lo64 a = r at *
  generalize lo64 b = s at *
  go_enter Try.func46, Try.ntmps46
  go_wp2_with fail
  go_ret
  refine ⟨rfl, ?_⟩
  repeat (first | exact Below.refl _ _ | refine Below.setCell ?_ (by simp) _ | refine Below.alloc ?_ (by first | (simp; done) | (simp; omega)) _ | refine Below.drew ?_ | refine below_drewN ?_ _)

set_option maxHeartbeats 400000 in
theorem rcmp_b (a b : Int) (w : World) (h1 : (hi64 a == hi64 b) = false) (h2 : ¬ hi64 a < hi64 b) :
    Calls Try.prog 46 #[.agg #[.int .i64 (hi64 a), .int .u64 (lo64 a)], .agg #[.int .i64 (hi64 b), .int .u64 (lo64 b)]] w fun e w' => e = .returned (.int .i64 (1)) ∧ Below w.heap.size w w' := by
  generalize hi64 a = p at *
  generalize hi64 b = q at *
  generalize lo64 a = r at *
  generalize lo64 b = s at *
  go_enter Try.func46, Try.ntmps46
  go_wp2_with fail
  go_ret
  refine ⟨rfl, ?_⟩
  repeat (first | exact Below.refl _ _ | refine Below.setCell ?_ (by simp) _ | refine Below.alloc ?_ (by first | (simp; done) | (simp; omega)) _ | refine Below.drew ?_ | refine below_drewN ?_ _)

set_option maxHeartbeats 400000 in
theorem rcmp_c (a b : Int) (w : World) (h1 : (hi64 a == hi64 b) = true) (h2 : (lo64 a == lo64 b) = false) (h3 : lo64 a < lo64 b) :
    Calls Try.prog 46 #[.agg #[.int .i64 (hi64 a), .int .u64 (lo64 a)], .agg #[.int .i64 (hi64 b), .int .u64 (lo64 b)]] w fun e w' => e = .returned (.int .i64 (-1)) ∧ Below w.heap.size w w' := by
  generalize hi64 a = p at *
  generalize hi64 b = q at *
  generalize lo64 a = r at *
  generalize lo64 b = s at *
  go_enter Try.func46, Try.ntmps46
  go_wp2_with fail
  go_ret
  refine ⟨rfl, ?_⟩
  repeat (first | exact Below.refl _ _ | refine Below.setCell ?_ (by simp) _ | refine Below.alloc ?_ (by first | (simp; done) | (simp; omega)) _ | refine Below.drew ?_ | refine below_drewN ?_ _)

set_option maxHeartbeats 400000 in
theorem rcmp_d (a b : Int) (w : World) (h1 : (hi64 a == hi64 b) = true) (h2 : (lo64 a == lo64 b) = false) (h3 : ¬ lo64 a < lo64 b) :
    Calls Try.prog 46 #[.agg #[.int .i64 (hi64 a), .int .u64 (lo64 a)], .agg #[.int .i64 (hi64 b), .int .u64 (lo64 b)]] w fun e w' => e = .returned (.int .i64 (1)) ∧ Below w.heap.size w w' := by
  generalize hi64 a = p at *
  generalize hi64 b = q at *
  generalize lo64 a = r at *
  generalize lo64 b = s at *
  go_enter Try.func46, Try.ntmps46
  go_wp2_with fail
  go_ret
  refine ⟨rfl, ?_⟩
  repeat (first | exact Below.refl _ _ | refine Below.setCell ?_ (by simp) _ | refine Below.alloc ?_ (by first | (simp; done) | (simp; omega)) _ | refine Below.drew ?_ | refine below_drewN ?_ _)

set_option maxHeartbeats 400000 in
theorem rcmp_e (a b : Int) (w : World) (h1 : (hi64 a == hi64 b) = true) (h2 : (lo64 a == lo64 b) = true) :
    Calls Try.prog 46 #[.agg #[.int .i64 (hi64 a), .int .u64 (lo64 a)], .agg #[.int .i64 (hi64 b), .int .u64 (lo64 b)]] w fun e w' => e = .returned (.int .i64 (0)) ∧ Below w.heap.size w w' := by
  generalize hi64 a = p at *
  generalize hi64 b = q at *
  generalize lo64 a = r at *
  generalize lo64 b = s at *
  go_enter Try.func46, Try.ntmps46
  go_wp2_with fail
  go_ret
  refine ⟨rfl, ?_⟩
  repeat (first | exact Below.refl _ _ | refine Below.setCell ?_ (by simp) _ | refine Below.alloc ?_ (by first | (simp; done) | (simp; omega)) _ | refine Below.drew ?_ | refine below_drewN ?_ _)

theorem rcompare_any (a b : Int) (w : World) :
    Calls Try.prog 46 #[.agg #[.int .i64 (hi64 a), .int .u64 (lo64 a)], .agg #[.int .i64 (hi64 b), .int .u64 (lo64 b)]] w fun e w' => e = .returned (.int .i64 (cmpI a b)) ∧ Below w.heap.size w w' := by
  rw [cmpI_halves a b]
  by_cases h1 : hi64 a = hi64 b
  · rw [if_pos h1]
    by_cases h2 : lo64 a = lo64 b
    · have e : cmpI (lo64 a) (lo64 b) = 0 := by unfold cmpI; repeat (first | omega | split)
      rw [e]
      exact rcmp_e a b w (by simp [h1]) (by simp [h2])
    · by_cases h3 : lo64 a < lo64 b
      · have e : cmpI (lo64 a) (lo64 b) = -1 := by unfold cmpI; rw [if_pos h3]
        rw [e]
        exact rcmp_c a b w (by simp [h1]) (by simp [h2]) h3
      · have e : cmpI (lo64 a) (lo64 b) = 1 := by unfold cmpI; repeat (first | omega | split)
        rw [e]
        exact rcmp_d a b w (by simp [h1]) (by simp [h2]) h3
  · rw [if_neg h1]
    by_cases h3 : hi64 a < hi64 b
    · have e : cmpI (hi64 a) (hi64 b) = -1 := by unfold cmpI; rw [if_pos h3]
      rw [e]
      exact rcmp_a a b w (by simp [h1]) h3
    · have e : cmpI (hi64 a) (hi64 b) = 1 := by unfold cmpI; repeat (first | omega | split)
      rw [e]
      exact rcmp_b a b w (by simp [h1]) h3
end Go.Proofs.Ytajihhmohokngaa
