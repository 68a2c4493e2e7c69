import Derived.Test.YtajihhmohokngaaRefPlus
import Derived.Laws.BitsAllLaws
import Derived.Laws.DeepNot64
set_option linter.unusedVariables false
set_option linter.unusedSimpArgs false
namespace Go.Proofs.Ytajihhmohokngaa
open Go.RowKit

theorem not_u64 (l : Int) (h0 : 0 ≤ l) (h1 : l < 18446744073709551616) : bits .xor .u64 18446744073709551615 l = 18446744073709551615 - l := by
  rw [u64_xor _ _ (by omega) (by omega) h0 h1]
  have e : (18446744073709551615 : Int).toNat ^^^ l.toNat = 18446744073709551615 - l.toNat := by
    have q : l.toNat < 2 ^ 64 := by omega
    have r : (18446744073709551615 : Int).toNat = 2 ^ 64 - 1 := rfl
    rw [r, Nat.xor_comm]
    apply Nat.eq_of_testBit_eq
    intro i
    rw [Nat.testBit_xor, Nat.testBit_two_pow_sub_one, show 18446744073709551615 - l.toNat = 2 ^ 64 - (l.toNat + 1) by omega, Nat.testBit_two_pow_sub_succ q]
    by_cases hi : i < 64
    · simp [hi]
    · have : l.toNat.testBit i = false := Nat.testBit_lt_two_pow (Nat.lt_of_lt_of_le q (Nat.pow_le_pow_right (by omega) (by omega)))
      simp [hi, this]
  rw [e]
  omega

theorem not_i64 (h : Int) (h0 : -9223372036854775808 ≤ h) (h1 : h < 9223372036854775808) : bits .xor .i64 (-1) h = -1 - h := by
  show IntKind.i64.wrap ((BitVec.ofInt 64 (-1) ^^^ BitVec.ofInt 64 h).toNat : Int) = _
  have e : BitVec.ofInt 64 (-1) = BitVec.allOnes 64 := by decide
  rw [e, BitVec.allOnes_xor, BitVec.toNat_not, BitVec.toNat_ofInt]
  simp [IntKind.wrap, IntKind.bits, IntKind.signed]
  omega

set_option maxHeartbeats 400000 in
theorem rless_any (a : Int) (w : World) (ha : In128 a) :
    Calls Try.prog 38 #[.agg #[.int .i64 (hi64 a), .int .u64 (lo64 a)]] w fun e w' => e = .returned (.agg #[.int .i64 (hi64 (w128 (0 - a))), .int .u64 (lo64 (w128 (0 - a)))]) ∧ Below w.heap.size w w' := by
  have n1 : In128 (-1 - a) := by unfold In128 at *; omega
  have P := fun w => rplus_any (-1 - a) 1 w n1 (by unfold In128; omega)
  rw [show -1 - a + 1 = 0 - a by omega] at P
  have o0 : hi64 1 = 0 := rfl
  have o1 : lo64 1 = 1 := rfl
  simp only [o0, o1] at P
  have P := Lib.hid P
  have hh := hi64_in ha
  unfold In64 at hh
  have X1 : bits .xor .i64 (-1) (hi64 a) = hi64 (-1 - a) := by rw [not_i64 _ hh.1 hh.2]; unfold hi64; omega
  have X2 : bits .xor .u64 18446744073709551615 (lo64 a) = lo64 (-1 - a) := by rw [not_u64 _ (lo64_in a).1 (lo64_in a).2]; unfold lo64; omega
  have hm : IntKind.u64.max = 18446744073709551615 := rfl
  clear ha hh n1
  generalize w128 (0 - a) = s at *
  generalize hi64 (-1 - a) = p at *
  generalize lo64 (-1 - a) = q at *
  go_enter Try.func38, Try.ntmps38
  go_wp2_with fail
  refine (P.out _).mono ?_
  rintro e w1 ⟨rfl, b1⟩
  have e : (lay w a).heap.size = w.heap.size + 1 := by simp [lay]
  have i2 := WideIn.new (lay w a) 0
  rw [e] at i2
  have i2 : WideIn w1 (w.heap.size + 1) 0 := i2.kept (B := 0) b1
  have c0 := i2.c0
  have c1 := i2.c1
  have f0 := i2.f0 0
  have f1 := i2.f0 1
  have lt := i2.lt
  clear e i2
  go_wp2_with fail
  refine bodyPost_ret (v := .agg #[.int .i64 (hi64 s), .int .u64 (lo64 s)]) (by simp [results, Try.results38, go_sem, c0, c1, f0, f1]) rfl ⟨rfl, ?_⟩
  refine Below.setCell (Below.setCell (Below.trans ?_ (b1.mono (by first | (simp; done) | (simp; omega)))) (by simp) _) (by simp) _
  repeat (first | exact Below.refl _ _ | refine Below.setCell ?_ (by simp) _ | refine Below.alloc ?_ (by first | (simp; done) | (simp; omega)) _ | refine Below.drew ?_ | refine below_drewN ?_ _)
end Go.Proofs.Ytajihhmohokngaa
