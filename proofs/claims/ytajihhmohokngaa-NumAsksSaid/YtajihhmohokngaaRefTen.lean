import Derived.Test.YtajihhmohokngaaTimesLaw
set_option linter.unusedVariables false
set_option linter.unusedSimpArgs false
namespace Go.Proofs.Ytajihhmohokngaa
open Go.RowKit

/-- of 128 bits, r of them not yet read: H, L the tenth part so far, E what is left -/
def Ten (m : Int) (r : Nat) (H L E : Int) : Prop := 0 ≤ E ∧ E < 10 ∧ 0 ≤ H ∧ H < 18446744073709551616 ∧ 0 ≤ L ∧ L < 18446744073709551616 ∧ (H * 18446744073709551616 + L) * 10 + E = m / 2 ^ r

theorem bits_or_even (x y : Int) (x0 : 0 ≤ x) (x1 : x < 9223372036854775808) (y0 : 0 ≤ y) (y1 : y < 2) : bits .or .u64 (x * 2) y = x * 2 + y := by
  rw [u64_or _ _ (by omega) (by omega) y0 (by omega)]
  have e : (x * 2).toNat = x.toNat <<< 1 := by rw [Nat.shiftLeft_eq]; omega
  rw [e, ← Nat.shiftLeft_add_eq_or_of_lt (by omega), Nat.shiftLeft_eq]
  omega
theorem div_pow_step (m : Int) (p : Nat) : m / 2 ^ p = 2 * (m / 2 ^ (p + 1)) + m / 2 ^ p % 2 := by
  have h4 : m / 2 ^ (p + 1) = m / 2 ^ p / 2 := by rw [Int.pow_succ]; exact (Int.ediv_ediv_of_nonneg (Int.le_of_lt (Int.pow_pos (by omega)))).symm
  rw [h4]; omega
theorem div_pow_lt (m : Int) (p : Nat) (hp : p < 128) (h : m < 340282366920938463463374607431768211456) (h0 : 0 ≤ m) : m / 2 ^ (p + 1) < 170141183460469231731687303715884105728 := by
  have : m / 2 ^ (p + 1) = m / 2 / 2 ^ p := by rw [Int.pow_succ, Int.mul_comm]; exact (Int.ediv_ediv_of_nonneg (by omega)).symm
  rw [this]
  have : m / 2 / 2 ^ p ≤ m / 2 := Int.ediv_le_self _ (by omega)
  omega
theorem ten_step (m H L E T : Int) (p : Nat) (hp : p < 128) (h : m < 340282366920938463463374607431768211456) (h0 : 0 ≤ m) (ht : Ten m (p + 1) H L E) (hT : T = m / 2 ^ p % 2) :
    wrap64 (2 * E + wrap64 T) = 2 * E + T ∧ wrap64 (2 * E + T - 10) = 2 * E + T - 10 ∧
    (2 * E + T < 10 → Ten m p (bits .or .u64 (IntKind.u64.wrap (H * 2)) (L / 9223372036854775808)) (IntKind.u64.wrap (L * 2)) (2 * E + T)) ∧
    (10 ≤ 2 * E + T → Ten m p (bits .or .u64 (IntKind.u64.wrap (H * 2)) (L / 9223372036854775808)) (bits .or .u64 (IntKind.u64.wrap (L * 2)) 1) (2 * E + T - 10)) := by
  obtain ⟨e0, e1, i0, i1, l0, l1, hq⟩ := ht
  have s := div_pow_step m p
  have b := div_pow_lt m p hp h h0
  rw [← hT] at s
  have t01 : 0 ≤ T ∧ T < 2 := by omega
  unfold Ten
  generalize m / 2 ^ (p + 1) = q1 at *
  generalize m / 2 ^ p = q at *
  clear hT h h0
  have H63 : H < 9223372036854775808 := by omega
  have w1 : IntKind.u64.wrap (H * 2) = H * 2 := by rw [IntKind.wrap_u64]; omega
  have w2 : IntKind.u64.wrap (L * 2) = L % 9223372036854775808 * 2 := by rw [IntKind.wrap_u64]; omega
  rw [w1, w2, bits_or_even H _ i0 H63 (by omega) (by omega), bits_or_even (L % 9223372036854775808) 1 (by omega) (by omega) (by omega) (by omega)]
  have z0 : wrap64 T = T := by rw [wrap64_eq]; omega
  have z1 : wrap64 (2 * E + T) = 2 * E + T := by rw [wrap64_eq]; omega
  have z2 : wrap64 (2 * E + T - 10) = 2 * E + T - 10 := by rw [wrap64_eq]; omega
  rw [z0, z1, z2]
  refine ⟨rfl, rfl, fun c => ?_, fun c => ?_⟩
  · refine ⟨by omega, by omega, by omega, by omega, by omega, by omega, ?_⟩
    omega
  · refine ⟨by omega, by omega, by omega, by omega, by omega, by omega, ?_⟩
    omega
theorem bit_low (a b m : Int) (p : Nat) (hp : p < 64) (hb : 0 ≤ b ∧ b < 18446744073709551616) (hm : m = a * 18446744073709551616 + b) : (b / 2 ^ (p % 64)).tmod 2 = m / 2 ^ p % 2 := by
  have e : p % 64 = p := Nat.mod_eq_of_lt hp
  have P : (0 : Int) < 2 ^ p := Int.pow_pos (by omega)
  rw [e, Int.tmod_eq_emod_of_nonneg (Int.ediv_nonneg hb.1 (Int.le_of_lt P)), hm]
  have e2 : (18446744073709551616 : Int) = 2 ^ p * (2 * 2 ^ (63 - p)) := by
    have : (2 : Int) ^ p * (2 * 2 ^ (63 - p)) = 2 ^ (p + (63 - p) + 1) := by rw [Int.pow_succ, Int.pow_add]; grind
    rw [this, show p + (63 - p) + 1 = 64 by omega]; rfl
  rw [e2]
  have e3 : a * (2 ^ p * (2 * 2 ^ (63 - p))) + b = b + a * (2 * 2 ^ (63 - p)) * 2 ^ p := by grind
  rw [e3, Int.add_mul_ediv_right _ _ (by omega)]
  have e4 : b / 2 ^ p + a * (2 * 2 ^ (63 - p)) = b / 2 ^ p + 2 * (a * 2 ^ (63 - p)) := by grind
  rw [e4]; omega
theorem bit_high (a b m : Int) (p k : Nat) (hk : p = k + 64) (ha : 0 ≤ a) (hb : 0 ≤ b ∧ b < 18446744073709551616) (hm : m = a * 18446744073709551616 + b) : (a / 2 ^ k).tmod 2 = m / 2 ^ p % 2 := by
  have P : (0 : Int) < 2 ^ k := Int.pow_pos (by omega)
  rw [Int.tmod_eq_emod_of_nonneg (Int.ediv_nonneg ha (Int.le_of_lt P)), hm, hk, Int.pow_add, Int.mul_comm (2 ^ k), ← Int.ediv_ediv_of_nonneg (by omega)]
  have : (a * 18446744073709551616 + b) / 2 ^ 64 = a := by
    have n : (2 : Int) ^ 64 = 18446744073709551616 := rfl
    rw [n]; omega
  rw [this]

set_option maxHeartbeats 4000000 in
theorem tenth_any (a b m : Int) (w : World) (ha : 0 ≤ a ∧ a < 18446744073709551616) (hb : 0 ≤ b ∧ b < 18446744073709551616) (hm : m = a * 18446744073709551616 + b) :
    Calls Try.prog 51 #[.int .u64 a, .int .u64 b] w fun e w' => ∃ H L E, Ten m 0 H L E ∧ e = .returned (.tuple #[.int .u64 H, .int .u64 L, .int .i64 E]) ∧ w' = w := by
  go_enter Try.func51, Try.ntmps51
  go_wp2_with fail
  go_loopw [7, 8, 9, 10] (fun v7 v8 v9 v10 wr => ∃ (r : Nat) (H L E : Int), r ≤ 128 ∧ v7 = .int .u64 H ∧ v8 = .int .u64 L ∧ v9 = .int .i64 E ∧ v10 = .int .i64 ((r : Int) - 1) ∧ Ten m r H L E ∧ wr = w) (fun _ _ _ v _ => 1 + (1 + intOf v).toNat)
  case atStart =>
    refine ⟨128, 0, 0, 0, by omega, rfl, rfl, rfl, rfl, ?_, rfl⟩
    refine ⟨by omega, by omega, by omega, by omega, by omega, by omega, ?_⟩
    have n : (2 : Int) ^ 128 = 340282366920938463463374607431768211456 := rfl
    rw [n]; omega
  case round =>
    obtain ⟨r, H, L, E, hr, rfl, rfl, rfl, rfl, ht, rfl⟩ := hrel
    by_cases z : r = 0
    · subst z
      have e : ((0 : Nat) : Int) - 1 = -1 := rfl
      rw [e]
      clear e
      go_wp2_with fail
      refine bodyPost_ret (v := .tuple #[.int .u64 H, .int .u64 L, .int .i64 E]) (by simp [results, Try.results51, go_sem]) rfl ⟨H, L, E, ht, rfl, rfl⟩
    · obtain ⟨p, rfl⟩ : ∃ p, r = p + 1 := ⟨r - 1, by omega⟩
      have ep : ((p + 1 : Nat) : Int) - 1 = (p : Int) := by omega
      rw [ep]
      have hm2 : m < 340282366920938463463374607431768211456 := by omega
      have hm0 : 0 ≤ m := by omega
      have ST := fun T => ten_step m H L E T p (by omega) hm2 hm0 ht
      obtain ⟨e0, e1, h0, h1, l0, l1, hq⟩ := ht
      by_cases c : p < 64
      · obtain ⟨z0, z1, z2, z3⟩ := ST _ (bit_low a b m p c hb hm)
        have Z0 := Lib.hid z0
        have Z1 := Lib.hid z1
        clear hq ST hm2 hm0 hm z0 z1 ep
        go_wp2_with fail
        all_goals go_roundw
        all_goals try (case measure => simp [intOf]; omega)
        all_goals (refine ⟨p, _, _, _, by omega, rfl, rfl, rfl, rfl, ?_, trivial⟩)
        · rename_i hd
          rw [Z0.out] at hd ⊢
          rw [Z1.out]
          exact z3 hd
        · rename_i hd
          rw [Z0.out] at hd ⊢
          exact z2 hd
      · obtain ⟨k, hk⟩ : ∃ k, p = k + 64 := ⟨p - 64, by omega⟩
        obtain ⟨z0, z1, z2, z3⟩ := ST _ (bit_high a b m p k hk ha.1 hb hm)
        have Z0 := Lib.hid z0
        have Z1 := Lib.hid z1
        clear hq ST hm2 hm0 hm z0 z1 ep
        subst hk
        go_wp2_with fail
        all_goals go_roundw
        all_goals try (case measure => simp [intOf]; omega)
        all_goals (refine ⟨k + 64, _, _, _, by omega, rfl, rfl, rfl, by go_num, ?_, trivial⟩)
        · rename_i hd
          rw [Z0.out] at hd ⊢
          rw [Z1.out]
          exact z3 hd
        · rename_i hd
          rw [Z0.out] at hd ⊢
          exact z2 hd
end Go.Proofs.Ytajihhmohokngaa
