import Derived.Test.YtajihhmohokngaaRefBack
set_option linter.unusedVariables false
set_option linter.unusedSimpArgs false
namespace Go.Proofs.Ytajihhmohokngaa
open Go.RowKit

theorem rback_no (a : Int) (w : World) (ha : In128 a) (h : ¬ In64 a) :
    Calls Try.prog 45 #[.agg #[.int .i64 (hi64 a), .int .u64 (lo64 a)]] w fun e w' => e = .returned (.tuple #[.int .i64 0, .bool false]) ∧ Below w.heap.size w w' := by
  by_cases g : 9223372036854775807 < a
  · exact rback_big a w ha g
  · exact rback_small a w ha (by unfold In64 at h; omega)

set_option maxHeartbeats 400000 in
theorem radd_yes (a b : Int) (w : World) (ha : In64 a) (hb : In64 b) (h : In64 (a + b)) :
    Calls Try.prog 40 #[.int .i64 a, .int .i64 b] w fun e w' => e = .returned (.tuple #[.int .i64 (a + b), .bool true]) ∧ Below w.heap.size w w' := by
  have n1 : In128 (a + b) := by unfold In64 at *; unfold In128; omega
  have B := Lib.hid (fun w => rback_in (a + b) w n1 h)
  have O1 := Lib.hid (fun w => rof_any a w ha)
  have O2 := Lib.hid (fun w => rof_any b w hb)
  have P := fun w => rplus_any a b w ha.wide hb.wide
  rw [w128_of n1] at P
  have P := Lib.hid P
  have bb := Below.refl w.heap.size w
  clear h n1 ha hb
  generalize a + b = s at *
  go_enter Try.func40, Try.ntmps40
  go_wp2_with fail
  refine (O1.out _).mono ?_
  rintro e w' ⟨rfl, b1⟩
  have bb := bb.trans (b1.mono bb.size)
  clear b1
  go_wp2_with fail
  refine (O2.out _).mono ?_
  rintro e w' ⟨rfl, b1⟩
  have bb := bb.trans (b1.mono bb.size)
  clear b1
  go_wp2_with fail
  refine (P.out _).mono ?_
  rintro e w' ⟨rfl, b1⟩
  have bb := bb.trans (b1.mono bb.size)
  clear b1
  go_wp2_with fail
  refine (B.out _).mono ?_
  rintro e w' ⟨rfl, b1⟩
  have bb := bb.trans (b1.mono bb.size)
  clear b1
  go_wp2_with fail
  go_ret2
  exact ⟨rfl, bb⟩

set_option maxHeartbeats 400000 in
theorem radd_no (a b : Int) (w : World) (ha : In64 a) (hb : In64 b) (h : ¬ In64 (a + b)) :
    Calls Try.prog 40 #[.int .i64 a, .int .i64 b] w fun e w' => e = .returned (.tuple #[.int .i64 0, .bool false]) ∧ Below w.heap.size w w' := by
  have n1 : In128 (a + b) := by unfold In64 at *; unfold In128; omega
  have B := Lib.hid (fun w => rback_no (a + b) w n1 h)
  have O1 := Lib.hid (fun w => rof_any a w ha)
  have O2 := Lib.hid (fun w => rof_any b w hb)
  have P := fun w => rplus_any a b w ha.wide hb.wide
  rw [w128_of n1] at P
  have P := Lib.hid P
  have bb := Below.refl w.heap.size w
  clear h n1 ha hb
  generalize a + b = s at *
  go_enter Try.func40, Try.ntmps40
  go_wp2_with fail
  refine (O1.out _).mono ?_
  rintro e w' ⟨rfl, b1⟩
  have bb := bb.trans (b1.mono bb.size)
  clear b1
  go_wp2_with fail
  refine (O2.out _).mono ?_
  rintro e w' ⟨rfl, b1⟩
  have bb := bb.trans (b1.mono bb.size)
  clear b1
  go_wp2_with fail
  refine (P.out _).mono ?_
  rintro e w' ⟨rfl, b1⟩
  have bb := bb.trans (b1.mono bb.size)
  clear b1
  go_wp2_with fail
  refine (B.out _).mono ?_
  rintro e w' ⟨rfl, b1⟩
  have bb := bb.trans (b1.mono bb.size)
  clear b1
  go_wp2_with fail
  go_ret2
  exact ⟨rfl, bb⟩

set_option maxHeartbeats 400000 in
theorem rsub_yes (a b : Int) (w : World) (ha : In64 a) (hb : In64 b) (h : In64 (a - b)) :
    Calls Try.prog 41 #[.int .i64 a, .int .i64 b] w fun e w' => e = .returned (.tuple #[.int .i64 (a - b), .bool true]) ∧ Below w.heap.size w w' := by
  have n1 : In128 (a - b) := by unfold In64 at *; unfold In128; omega
  have B := Lib.hid (fun w => rback_in (a - b) w n1 h)
  have O1 := Lib.hid (fun w => rof_any a w ha)
  have O2 := Lib.hid (fun w => rof_any b w hb)
  have P := fun w => rminus_any a b w ha.wide hb.wide
  rw [w128_of n1] at P
  have P := Lib.hid P
  have bb := Below.refl w.heap.size w
  clear h n1 ha hb
  generalize a - b = s at *
  go_enter Try.func41, Try.ntmps41
  go_wp2_with fail
  refine (O1.out _).mono ?_
  rintro e w' ⟨rfl, b1⟩
  have bb := bb.trans (b1.mono bb.size)
  clear b1
  go_wp2_with fail
  refine (O2.out _).mono ?_
  rintro e w' ⟨rfl, b1⟩
  have bb := bb.trans (b1.mono bb.size)
  clear b1
  go_wp2_with fail
  refine (P.out _).mono ?_
  rintro e w' ⟨rfl, b1⟩
  have bb := bb.trans (b1.mono bb.size)
  clear b1
  go_wp2_with fail
  refine (B.out _).mono ?_
  rintro e w' ⟨rfl, b1⟩
  have bb := bb.trans (b1.mono bb.size)
  clear b1
  go_wp2_with fail
  go_ret2
  exact ⟨rfl, bb⟩

set_option maxHeartbeats 400000 in
theorem rsub_no (a b : Int) (w : World) (ha : In64 a) (hb : In64 b) (h : ¬ In64 (a - b)) :
    Calls Try.prog 41 #[.int .i64 a, .int .i64 b] w fun e w' => e = .returned (.tuple #[.int .i64 0, .bool false]) ∧ Below w.heap.size w w' := by
  have n1 : In128 (a - b) := by unfold In64 at *; unfold In128; omega
  have B := Lib.hid (fun w => rback_no (a - b) w n1 h)
  have O1 := Lib.hid (fun w => rof_any a w ha)
  have O2 := Lib.hid (fun w => rof_any b w hb)
  have P := fun w => rminus_any a b w ha.wide hb.wide
  rw [w128_of n1] at P
  have P := Lib.hid P
  have bb := Below.refl w.heap.size w
  clear h n1 ha hb
  generalize a - b = s at *
  go_enter Try.func41, Try.ntmps41
  go_wp2_with fail
  refine (O1.out _).mono ?_
  rintro e w' ⟨rfl, b1⟩
  have bb := bb.trans (b1.mono bb.size)
  clear b1
  go_wp2_with fail
  refine (O2.out _).mono ?_
  rintro e w' ⟨rfl, b1⟩
  have bb := bb.trans (b1.mono bb.size)
  clear b1
  go_wp2_with fail
  refine (P.out _).mono ?_
  rintro e w' ⟨rfl, b1⟩
  have bb := bb.trans (b1.mono bb.size)
  clear b1
  go_wp2_with fail
  refine (B.out _).mono ?_
  rintro e w' ⟨rfl, b1⟩
  have bb := bb.trans (b1.mono bb.size)
  clear b1
  go_wp2_with fail
  go_ret2
  exact ⟨rfl, bb⟩

set_option maxHeartbeats 400000 in
theorem rneg_yes (a : Int) (w : World) (ha : In64 a) (h : In64 (0 - a)) :
    Calls Try.prog 44 #[.int .i64 a] w fun e w' => e = .returned (.tuple #[.int .i64 (0 - a), .bool true]) ∧ Below w.heap.size w w' := by
  have n1 : In128 (0 - a) := by unfold In64 at *; unfold In128; omega
  have B := Lib.hid (fun w => rback_in (0 - a) w n1 h)
  have O1 := Lib.hid (fun w => rof_any a w ha)
  have P := fun w => rless_any a w ha.wide
  rw [w128_of n1] at P
  have P := Lib.hid P
  have bb := Below.refl w.heap.size w
  clear h n1 ha 
  generalize 0 - a = s at *
  go_enter Try.func44, Try.ntmps44
  go_wp2_with fail
  refine (O1.out _).mono ?_
  rintro e w' ⟨rfl, b1⟩
  have bb := bb.trans (b1.mono bb.size)
  clear b1
  go_wp2_with fail
  refine (P.out _).mono ?_
  rintro e w' ⟨rfl, b1⟩
  have bb := bb.trans (b1.mono bb.size)
  clear b1
  go_wp2_with fail
  refine (B.out _).mono ?_
  rintro e w' ⟨rfl, b1⟩
  have bb := bb.trans (b1.mono bb.size)
  clear b1
  go_wp2_with fail
  go_ret2
  exact ⟨rfl, bb⟩

set_option maxHeartbeats 400000 in
theorem rneg_no (a : Int) (w : World) (ha : In64 a) (h : ¬ In64 (0 - a)) :
    Calls Try.prog 44 #[.int .i64 a] w fun e w' => e = .returned (.tuple #[.int .i64 0, .bool false]) ∧ Below w.heap.size w w' := by
  have n1 : In128 (0 - a) := by unfold In64 at *; unfold In128; omega
  have B := Lib.hid (fun w => rback_no (0 - a) w n1 h)
  have O1 := Lib.hid (fun w => rof_any a w ha)
  have P := fun w => rless_any a w ha.wide
  rw [w128_of n1] at P
  have P := Lib.hid P
  have bb := Below.refl w.heap.size w
  clear h n1 ha 
  generalize 0 - a = s at *
  go_enter Try.func44, Try.ntmps44
  go_wp2_with fail
  refine (O1.out _).mono ?_
  rintro e w' ⟨rfl, b1⟩
  have bb := bb.trans (b1.mono bb.size)
  clear b1
  go_wp2_with fail
  refine (P.out _).mono ?_
  rintro e w' ⟨rfl, b1⟩
  have bb := bb.trans (b1.mono bb.size)
  clear b1
  go_wp2_with fail
  refine (B.out _).mono ?_
  rintro e w' ⟨rfl, b1⟩
  have bb := bb.trans (b1.mono bb.size)
  clear b1
  go_wp2_with fail
  go_ret2
  exact ⟨rfl, bb⟩
end Go.Proofs.Ytajihhmohokngaa
