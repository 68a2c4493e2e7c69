/-
  THE WALKS of package num: Plus, Minus, Of: what each answers, as a number.
-/
import Derived.Test.YtajihhmohokngaaRows
import Derived.Test.YtajihhmohokngaaSched
import Derived.WalkKit
import Derived.Below
import Derived.WalkSpells
import Derived.WalkLawsBesides
import Derived.Lib.Hide
import Derived.Laws.Externs
import Derived.Laws.MathBits
set_option linter.unusedVariables false
set_option linter.unusedSimpArgs false
namespace Go.Proofs.Ytajihhmohokngaa
open Go.RowKit

/-- the low and the high word of a number -/
def lo64 (x : Int) : Int := x % 18446744073709551616
def hi64 (x : Int) : Int := x / 18446744073709551616
/-- a number that fits a wide one, and what a wide one makes of any -/
def In128 (x : Int) : Prop := -170141183460469231731687303715884105728 ≤ x ∧ x < 170141183460469231731687303715884105728
def w128 (x : Int) : Int := (x + 170141183460469231731687303715884105728) % 340282366920938463463374607431768211456 - 170141183460469231731687303715884105728
/-- a number that fits an int64 -/
def In64 (x : Int) : Prop := -9223372036854775808 ≤ x ∧ x < 9223372036854775808

theorem w128_in (x : Int) : In128 (w128 x) := by unfold In128 w128; omega
theorem w128_of {x : Int} (h : In128 x) : w128 x = x := by unfold In128 at h; unfold w128; omega
theorem In64.wide {x : Int} (h : In64 x) : In128 x := by unfold In64 at h; unfold In128; omega
theorem hi64_in {x : Int} (h : In128 x) : In64 (hi64 x) := by unfold In128 at h; unfold In64 hi64; omega
theorem lo64_in (x : Int) : 0 ≤ lo64 x ∧ lo64 x < 18446744073709551616 := by unfold lo64; omega
theorem halves (x y : Int) (h : hi64 x = hi64 y) (l : lo64 x = lo64 y) : x = y := by unfold hi64 at h; unfold lo64 at l; omega
theorem hi64_zero : hi64 0 = 0 := rfl
theorem lo64_zero : lo64 0 = 0 := rfl

theorem add64 (x y c : Int) (hx : 0 ≤ x) (hy : 0 ≤ y) (h0 : 0 ≤ c) (hc : c ≤ 1) (w : World) :
    (callFunc 32 #[.int .u64 x, .int .u64 y, .int .u64 c]).run Try.prog w = .ok (.value (.tuple #[.int .u64 (lo64 (x + y + c)), .int .u64 (hi64 (x + y + c))])) w := by
  rw [run_callFunc_extern Try.func32 (by kernel_rfl) (by kernel_rfl) (by kernel_rfl) (e := add64Entry) (by kernel_rfl), run_add64 x y c hx hy h0 hc]
  rfl
def sub64Entry : Array Value → Sem Value := fun args => do
  let (x, y, b) ← Extern.MathBitsCarry.three "Sub64" args
  pure (Extern.MathBitsCarry.pair ((x + Extern.MathBitsCarry.m64 - y - b) % Extern.MathBitsCarry.m64) (if x < y + b then 1 else 0))
theorem sub64N (x y b : Nat) (hb : b ≤ 1) (w : World) :
    (callFunc 31 #[.int .u64 x, .int .u64 y, .int .u64 b]).run Try.prog w =
      .ok (.value (.tuple #[.int .u64 (((x + 18446744073709551616 - y - b) % 18446744073709551616 : Nat) : Int), .int .u64 ((if x < y + b then 1 else 0 : Nat) : Int)])) w := by
  rw [run_callFunc_extern Try.func31 (by kernel_rfl) (by kernel_rfl) (by kernel_rfl) (e := sub64Entry) (by kernel_rfl)]
  have : b = 0 ∨ b = 1 := by omega
  rcases this with rfl | rfl <;> rfl
theorem sub64 (x y c : Int) (hx : 0 ≤ x) (hx2 : x < 18446744073709551616) (hy : 0 ≤ y) (hy2 : y < 18446744073709551616) (h0 : 0 ≤ c) (hc : c ≤ 1) (w : World) :
    (callFunc 31 #[.int .u64 x, .int .u64 y, .int .u64 c]).run Try.prog w = .ok (.value (.tuple #[.int .u64 (lo64 (x - y - c)), .int .u64 (- hi64 (x - y - c))])) w := by
  obtain ⟨x, rfl⟩ := Int.eq_ofNat_of_zero_le hx
  obtain ⟨y, rfl⟩ := Int.eq_ofNat_of_zero_le hy
  obtain ⟨c, rfl⟩ := Int.eq_ofNat_of_zero_le h0
  rw [sub64N x y c (by omega) w]
  have e1 : (((x + 18446744073709551616 - y - c) % 18446744073709551616 : Nat) : Int) = lo64 ((x : Int) - y - c) := by unfold lo64; omega
  have e2 : ((if x < y + c then 1 else 0 : Nat) : Int) = - hi64 ((x : Int) - y - c) := by unfold hi64; split <;> omega
  rw [e1, e2]

theorem wrap64_eq (x : Int) : wrap64 x = (x + 9223372036854775808) % 18446744073709551616 - 9223372036854775808 := by
  unfold wrap64; omega
theorem u64_eq (x : Int) : IntKind.u64.wrap x = lo64 x := by rw [IntKind.wrap_u64]; rfl

theorem plus_hi (a b : Int) (ha : In128 a) (hb : In128 b) : wrap64 (lo64 (lo64 (hi64 a) + lo64 (hi64 b) + hi64 (lo64 a + lo64 b))) = hi64 (w128 (a + b)) := by
  rw [wrap64_eq]; unfold In128 at *; unfold lo64 hi64 w128; omega
theorem plus_lo (a b : Int) (ha : In128 a) (hb : In128 b) : lo64 (lo64 a + lo64 b) = lo64 (w128 (a + b)) := by
  unfold In128 at *; unfold lo64 w128; omega
theorem minus_hi (a b : Int) (ha : In128 a) (hb : In128 b) : wrap64 (lo64 (lo64 (hi64 a) - lo64 (hi64 b) - - hi64 (lo64 a - lo64 b))) = hi64 (w128 (a - b)) := by
  rw [wrap64_eq]; unfold In128 at *; unfold lo64 hi64 w128; omega
theorem minus_lo (a b : Int) (ha : In128 a) (hb : In128 b) : lo64 (lo64 a - lo64 b) = lo64 (w128 (a - b)) := by
  unfold In128 at *; unfold lo64 w128; omega

set_option maxHeartbeats 400000 in
theorem plus_any (a b : Int) (w : World) (ha : In128 a) (hb : In128 b) :
    Calls Try.prog 19 #[.agg #[.int .i64 (hi64 a), .int .u64 (lo64 a)], .agg #[.int .i64 (hi64 b), .int .u64 (lo64 b)]] w fun e w' => e = .returned (.agg #[.int .i64 (hi64 (w128 (a + b))), .int .u64 (lo64 (w128 (a + b)))]) ∧ Below w.heap.size w w' := by
  have PH := Lib.hid (plus_hi a b ha hb)
  have PL := Lib.hid (plus_lo a b ha hb)
  obtain ⟨la0, la1⟩ := lo64_in a
  obtain ⟨lb0, lb1⟩ := lo64_in b
  have d1 := (lo64_in (hi64 a)).1
  have d2 := (lo64_in (hi64 b)).1
  have c0 : 0 ≤ hi64 (lo64 a + lo64 b) := by unfold hi64; omega
  have c1 : hi64 (lo64 a + lo64 b) ≤ 1 := by unfold hi64; omega
  have h1 := fun w => add64 (lo64 a) (lo64 b) 0 la0 lb0 (by omega) (by omega) w
  have h2 := fun w => add64 (lo64 (hi64 a)) (lo64 (hi64 b)) (hi64 (lo64 a + lo64 b)) d1 d2 c0 c1 w
  have u1 := u64_eq (hi64 a)
  have u2 := u64_eq (hi64 b)
  simp only [Int.add_zero] at h1
  clear la1 lb1 ha hb
  go_enter Try.func19, Try.ntmps19
  go_wp2_with fail
  refine bodyPost_ret (v := .agg #[.int .i64 (wrap64 (lo64 (lo64 (hi64 a) + lo64 (hi64 b) + hi64 (lo64 a + lo64 b)))), .int .u64 (lo64 (lo64 a + lo64 b))]) (by simp [results, Try.results19, go_sem]) rfl ⟨by rw [PH.out, PL.out], ?_⟩
  repeat (first | exact Below.refl _ _ | refine Below.setCell ?_ (by simp) _ | refine Below.alloc ?_ (by first | (simp; done) | (simp; omega)) _ | refine Below.drew ?_)

set_option maxHeartbeats 400000 in
theorem minus_any (a b : Int) (w : World) (ha : In128 a) (hb : In128 b) :
    Calls Try.prog 18 #[.agg #[.int .i64 (hi64 a), .int .u64 (lo64 a)], .agg #[.int .i64 (hi64 b), .int .u64 (lo64 b)]] w fun e w' => e = .returned (.agg #[.int .i64 (hi64 (w128 (a - b))), .int .u64 (lo64 (w128 (a - b)))]) ∧ Below w.heap.size w w' := by
  have PH := Lib.hid (minus_hi a b ha hb)
  have PL := Lib.hid (minus_lo a b ha hb)
  obtain ⟨la0, la1⟩ := lo64_in a
  obtain ⟨lb0, lb1⟩ := lo64_in b
  obtain ⟨d1, d3⟩ := lo64_in (hi64 a)
  obtain ⟨d2, d4⟩ := lo64_in (hi64 b)
  have c0 : 0 ≤ - hi64 (lo64 a - lo64 b) := by unfold hi64; omega
  have c1 : - hi64 (lo64 a - lo64 b) ≤ 1 := by unfold hi64; omega
  have h1 := fun w => sub64 (lo64 a) (lo64 b) 0 la0 la1 lb0 lb1 (by omega) (by omega) w
  have h2 := fun w => sub64 (lo64 (hi64 a)) (lo64 (hi64 b)) (- hi64 (lo64 a - lo64 b)) d1 d3 d2 d4 c0 c1 w
  have u1 := u64_eq (hi64 a)
  have u2 := u64_eq (hi64 b)
  simp only [Int.sub_zero] at h1
  clear la1 lb1 ha hb d3 d4
  go_enter Try.func18, Try.ntmps18
  go_wp2_with fail
  refine bodyPost_ret (v := .agg #[.int .i64 (wrap64 (lo64 (lo64 (hi64 a) - lo64 (hi64 b) - - hi64 (lo64 a - lo64 b)))), .int .u64 (lo64 (lo64 a - lo64 b))]) (by simp [results, Try.results18, go_sem]) rfl ⟨by rw [PH.out, PL.out], ?_⟩
  repeat (first | exact Below.refl _ _ | refine Below.setCell ?_ (by simp) _ | refine Below.alloc ?_ (by first | (simp; done) | (simp; omega)) _ | refine Below.drew ?_)

set_option maxHeartbeats 400000 in
theorem of_any (a : Int) (w : World) (h : In64 a) :
    Calls Try.prog 17 #[.int .i64 a] w fun e w' => e = .returned (.agg #[.int .i64 (hi64 a), .int .u64 (lo64 a)]) ∧ Below w.heap.size w w' := by
  have h1 : a / 9223372036854775808 = hi64 a := by unfold In64 at h; unfold hi64; omega
  have H1 := Lib.hid h1
  have u1 := u64_eq a
  clear h h1
  go_enter Try.func17, Try.ntmps17
  go_wp2_with fail
  refine bodyPost_ret (v := .agg #[.int .i64 (a / 9223372036854775808), .int .u64 (lo64 a)]) (by simp [results, Try.results17, go_sem]) rfl ⟨by rw [H1.out], ?_⟩
  repeat (first | exact Below.refl _ _ | refine Below.setCell ?_ (by simp) _ | refine Below.alloc ?_ (by first | (simp; done) | (simp; omega)) _ | refine Below.drew ?_)

end Go.Proofs.Ytajihhmohokngaa
