import Derived.Test.YtajihhmohokngaaKnown
set_option linter.unusedVariables false
set_option linter.unusedSimpArgs false
namespace Go.Proofs.Ytajihhmohokngaa
open Go.RowKit

theorem i64_wf {a : Int} (h : (Lit.int .i64 a).wf = true) : -9223372036854775808 ≤ a ∧ a < 9223372036854775808 := by
  have e1 : IntKind.i64.min = -9223372036854775808 := rfl
  have e2 : IntKind.i64.max = 9223372036854775807 := rfl
  simp [Lit.wf, e1, e2] at h
  omega
theorem i32_wf {a : Int} (h : (Lit.int .i32 a).wf = true) : -2147483648 ≤ a ∧ a < 2147483648 := by
  have e1 : IntKind.i32.min = -2147483648 := rfl
  have e2 : IntKind.i32.max = 2147483647 := rfl
  simp [Lit.wf, e1, e2] at h
  omega
theorem u32_wf {a : Int} (h : (Lit.int .u32 a).wf = true) : 0 ≤ a ∧ a < 4294967296 := by
  have e1 : IntKind.u32.min = 0 := rfl
  have e2 : IntKind.u32.max = 4294967295 := rfl
  simp [Lit.wf, e1, e2] at h
  omega
theorem u16_wf {a : Int} (h : (Lit.int .u16 a).wf = true) : 0 ≤ a ∧ a < 65536 := by
  have e1 : IntKind.u16.min = 0 := rfl
  have e2 : IntKind.u16.max = 65535 := rfl
  simp [Lit.wf, e1, e2] at h
  omega
theorem u8_wf {a : Int} (h : (Lit.int .u8 a).wf = true) : 0 ≤ a ∧ a < 256 := by
  have e1 : IntKind.u8.min = 0 := rfl
  have e2 : IntKind.u8.max = 255 := rfl
  simp [Lit.wf, e1, e2] at h
  omega

set_option maxHeartbeats 1000000 in
theorem times_walk (a b c n : Int) (w : World) (ha : In64 a) (hb : -2147483648 ≤ b ∧ b < 2147483648) (hc : -2147483648 ≤ c ∧ c < 2147483648) (hn : In64 n) :
    Calls Try.prog 5 #[.int .i64 a, .int .i32 b, .int .i32 c, .int .i64 n] w fun e w' => e = .returned (.bool true) ∧ Below w.heap.size w w' := by
  have hb64 : In64 b := by unfold In64; omega
  have hc64 : In64 c := by unfold In64; omega
  have hs64 : In64 (b + c) := by unfold In64; omega
  have K := Lib.hid (fun w => known_any w)
  have M1 := Lib.hid (fun w => times_any a (b + c) w ha hs64)
  have M2 := Lib.hid (fun w => times_any a b w ha hb64)
  have M3 := Lib.hid (fun w => times_any a c w ha hc64)
  have P1 := fun w => plus_any (a * b) (a * c) w (prod_in ha hb64) (prod_in ha hc64)
  rw [← Int.mul_add, w128_of (prod_in ha hs64)] at P1
  have P1 := Lib.hid P1
  have M4 := Lib.hid (fun w => times_any a n w ha hn)
  have M5 := fun w => times_any n a w hn ha
  rw [Int.mul_comm n a] at M5
  have M5 := Lib.hid M5
  have M6 := fun w => times_any n 1 w hn (by unfold In64; omega)
  rw [Int.mul_one] at M6
  have M6 := Lib.hid M6
  have O1 := Lib.hid (fun w => of_any n w hn)
  have M7 := fun w => times_any n 0 w hn (by unfold In64; omega)
  rw [Int.mul_zero, hi64_zero, lo64_zero] at M7
  have M7 := Lib.hid M7
  have M8 := fun w => times_any n (-1) w hn (by unfold In64; omega)
  rw [Int.mul_neg_one] at M8
  have M8 := Lib.hid M8
  have N1 := fun w => minus_any 0 n w (by unfold In128; omega) hn.wide
  rw [hi64_zero, lo64_zero, Int.zero_sub, w128_of (by unfold In64 at hn; unfold In128; omega)] at N1
  have N1 := Lib.hid N1
  have hbc : In64 (b + c) := hs64
  unfold In64 at hbc
  clear hn ha hb64 hc64 hs64
  generalize a * (b + c) = p1 at *
  generalize a * b = p2 at *
  generalize a * c = p3 at *
  generalize a * n = p4 at *
  have bb := Below.refl w.heap.size w
  go_enter Try.func5, Try.ntmps5
  go_wp2_with fail
  refine (K.out _).mono ?_
  rintro e w' ⟨rfl, b1⟩
  have bb := bb.trans (b1.mono bb.size)
  clear b1
  go_wp2_with fail
  refine (M1.out _).mono ?_
  rintro e w' ⟨rfl, b1⟩
  have bb := bb.trans (b1.mono bb.size)
  clear b1
  go_wp2_with fail
  refine (M2.out _).mono ?_
  rintro e w' ⟨rfl, b1⟩
  have bb := bb.trans (b1.mono bb.size)
  clear b1
  go_wp2_with fail
  refine (M3.out _).mono ?_
  rintro e w' ⟨rfl, b1⟩
  have bb := bb.trans (b1.mono bb.size)
  clear b1
  go_wp2_with fail
  refine (P1.out _).mono ?_
  rintro e w' ⟨rfl, b1⟩
  have bb := bb.trans (b1.mono bb.size)
  clear b1
  go_wp2_with fail
  refine (M4.out _).mono ?_
  rintro e w' ⟨rfl, b1⟩
  have bb := bb.trans (b1.mono bb.size)
  clear b1
  go_wp2_with fail
  refine (M5.out _).mono ?_
  rintro e w' ⟨rfl, b1⟩
  have bb := bb.trans (b1.mono bb.size)
  clear b1
  go_wp2_with fail
  refine (M6.out _).mono ?_
  rintro e w' ⟨rfl, b1⟩
  have bb := bb.trans (b1.mono bb.size)
  clear b1
  go_wp2_with fail
  refine (O1.out _).mono ?_
  rintro e w' ⟨rfl, b1⟩
  have bb := bb.trans (b1.mono bb.size)
  clear b1
  go_wp2_with fail
  refine (M7.out _).mono ?_
  rintro e w' ⟨rfl, b1⟩
  have bb := bb.trans (b1.mono bb.size)
  clear b1
  go_wp2_with fail
  refine (M8.out _).mono ?_
  rintro e w' ⟨rfl, b1⟩
  have bb := bb.trans (b1.mono bb.size)
  clear b1
  go_wp2_with fail
  refine (O1.out _).mono ?_
  rintro e w' ⟨rfl, b1⟩
  have bb := bb.trans (b1.mono bb.size)
  clear b1
  go_wp2_with fail
  refine (N1.out _).mono ?_
  rintro e w' ⟨rfl, b1⟩
  have bb := bb.trans (b1.mono bb.size)
  clear b1
  go_wp2_with fail
  go_ret
  exact ⟨rfl, bb⟩
end Go.Proofs.Ytajihhmohokngaa
