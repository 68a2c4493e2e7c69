import Derived.Test.YtajihhmohokngaaBase
import Derived.BigQuiet
import Derived.Laws.BitsAllLaws
import Derived.LoopN
set_option linter.unusedVariables false
set_option linter.unusedSimpArgs false
namespace Go.Proofs.Ytajihhmohokngaa
open Go.RowKit

set_option maxRecDepth 100000 in
set_option maxHeartbeats 1000000 in
theorem len_ten (w : World) :
    Calls Try.prog 52 #[.int .u64 10] w fun e w' => e = .returned (.int .i64 4) ∧ w = w' := by
  go_enter Try.func52, Try.ntmps52
  go_wp2_with fail
  go_ret
  refine ⟨?_, rfl⟩
  simp only [Act.tmps]
  rw [len8tab_get 10 (by decide)]
  have hb : bitLen 10 = 4 := by decide
  rw [hb]
  simp [wrap64]
set_option maxHeartbeats 400000 in
theorem lead_ten (w : World) :
    Calls Try.prog 50 #[.int .u64 10] w fun e w' => e = .returned (.int .i64 60) ∧ w = w' := by
  go_enter Try.func50, Try.ntmps50
  go_wp2_with fail
  refine (len_ten _).mono ?_
  rintro e w1 ⟨rfl, rfl⟩
  go_wp2_with fail
  go_ret
  exact ⟨rfl, rfl⟩
theorem ret_two {k l : IntKind} {a b c d : Int} (h : a = b) (q : c = d) : Ending.returned (.tuple #[.int k a, .int l c]) = .returned (.tuple #[.int k b, .int l d]) := by rw [h, q]
set_option maxHeartbeats 400000 in
theorem div_low (x : Int) (w : World) (h0 : 0 ≤ x) (h1 : x < 18446744073709551616) :
    Calls Try.prog 35 #[.int .u64 0, .int .u64 x, .int .u64 10] w fun e w' => e = .returned (.tuple #[.int .u64 (x / 10), .int .u64 (x % 10)]) ∧ Below w.heap.size w w' := by
  go_enter Try.func35, Try.ntmps35
  go_wp2_with fail
  go_quiet (fail)
  go_wp2_with fail
  go_ret2
  exact ⟨rfl, below_drewN (Below.refl _ _) _⟩

theorem bits_or_sum (r x : Int) (h0 : 0 ≤ x) (h1 : x < 1152921504606846976) (r0 : 0 ≤ r) (r1 : r < 10) : bits .or .u64 (r * 1152921504606846976) x = r * 1152921504606846976 + x := by
  rw [u64_or _ _ (by omega) (by omega) h0 (by omega)]
  have e : (r * 1152921504606846976).toNat = r.toNat <<< 60 := by rw [Nat.shiftLeft_eq]; omega
  rw [e, ← Nat.shiftLeft_add_eq_or_of_lt (by omega), Nat.shiftLeft_eq]
  omega
set_option maxHeartbeats 800000 in
theorem div_high (r x : Int) (w : World) (h0 : 0 ≤ x) (h1 : x < 18446744073709551616) (r0 : 0 < r) (r1 : r < 10) :
    Calls Try.prog 35 #[.int .u64 r, .int .u64 x, .int .u64 10] w fun e w' => e = .returned (.tuple #[.int .u64 ((r * 18446744073709551616 + x) / 10), .int .u64 ((r * 18446744073709551616 + x) % 10)]) ∧ w = w' := by
  have A : bits .and .u64 11529215046068469760 4294967295 = 0 := by rw [and_low32 _ (by omega) (by omega)]; rfl
  have B := bits_or_sum r (x / 16) (by omega) (by omega) (by omega) r1
  have C : IntKind.u64.wrap (x * 1152921504606846976) = x % 16 * 1152921504606846976 := by rw [IntKind.wrap_u64]; omega
  have D : bits .and .u64 (x % 16 * 1152921504606846976) 4294967295 = 0 := by rw [and_low32 _ (by omega) (by omega)]; omega
  have hr : ¬ (10 ≤ r) := by omega
  obtain ⟨s, hs⟩ : ∃ s, r * 1152921504606846976 + x / 16 = s := ⟨_, rfl⟩
  obtain ⟨t, ht⟩ : ∃ t, x % 16 * 1152921504606846976 = t := ⟨_, rfl⟩
  rw [hs] at B
  rw [ht] at C D
  have s0 : 0 ≤ s := by omega
  have s1 : s < 11529215046068469760 := by omega
  have t0 : 0 ≤ t := by omega
  have t1 : t ≤ 17293822569102704640 := by omega
  have e1 : (r * 18446744073709551616 + x) / 10 = s / 2684354560 * 4294967296 + (s % 2684354560 * 4294967296 + t / 4294967296) / 2684354560 := by omega
  have e2 : (r * 18446744073709551616 + x) % 10 = (s % 2684354560 * 4294967296 + t / 4294967296) % 2684354560 / 268435456 := by omega
  rw [e1, e2]
  clear hs ht e1 e2 
  have F1 : IntKind.u64.wrap (s - IntKind.u64.wrap (s / 2684354560 * 2684354560)) = s % 2684354560 := by rw [IntKind.wrap_u64, IntKind.wrap_u64]; omega
  have g1 : ¬ 4294967296 ≤ s / 2684354560 := by omega
  obtain ⟨v, hv⟩ : ∃ v, s % 2684354560 * 4294967296 + t / 4294967296 = v := ⟨_, rfl⟩
  have F2 : IntKind.u64.wrap (IntKind.u64.wrap (IntKind.u64.wrap (s * 4294967296) + t / 4294967296) - IntKind.u64.wrap (s / 2684354560 * 11529215046068469760)) = v := by simp only [IntKind.wrap_u64]; omega
  have v0 : 0 ≤ v := by omega
  have v1 : v < 11529215046068469760 := by omega
  rw [hv]
  clear hv
  have g2 : ¬ 4294967296 ≤ v / 2684354560 := by omega
  have F3 : Hid (IntKind.u64.wrap (IntKind.u64.wrap (v * 4294967296) - IntKind.u64.wrap (v / 2684354560 * 11529215046068469760)) / 1152921504606846976 = v % 2684354560 / 268435456) := by change _ = _; simp only [IntKind.wrap_u64]; omega
  have F4 : Hid (s / 2684354560 * 4294967296 + v / 2684354560 = IntKind.u64.wrap (s / 2684354560 * 4294967296 + v / 2684354560)) := by change _ = _; simp only [IntKind.wrap_u64]; omega
  go_enter Try.func35, Try.ntmps35
  go_wp2_with fail
  refine (lead_ten _).mono ?_
  rintro e w1 ⟨rfl, rfl⟩
  go_wp2_with fail
  refine wp_loop_rounds 1 ?_
  rw [rounds_succ]
  go_wp2_with fail
  refine wp_loop_rounds 1 ?_
  rw [rounds_succ]
  go_wp2_with fail
  go_ret2
  exact ⟨ret_two (by first | rfl | exact F4.out.symm) (by first | exact F3.out | (simp only [IntKind.wrap_u64]; omega)), rfl⟩
end Go.Proofs.Ytajihhmohokngaa
