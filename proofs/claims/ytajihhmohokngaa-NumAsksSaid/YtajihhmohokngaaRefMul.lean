import Derived.Test.YtajihhmohokngaaRefTimes
import Derived.Test.YtajihhmohokngaaRefAdd
set_option linter.unusedVariables false
set_option linter.unusedSimpArgs false
namespace Go.Proofs.Ytajihhmohokngaa
open Go.RowKit


set_option maxHeartbeats 400000 in
theorem rmul_yes (a b : Int) (w : World) (ha : In64 a) (hb : In64 b) (h : In64 (a * b)) :
    Calls Try.prog 42 #[.int .i64 a, .int .i64 b] w fun e w' => e = .returned (.tuple #[.int .i64 (a * b), .bool true]) ∧ Below w.heap.size w w' := by
  have n1 : In128 (a * b) := prod_in ha hb
  have B := Lib.hid (fun w => rback_in (a * b) w n1 h)
  have T := Lib.hid (fun w => rtimes_any a b w ha hb)
  have bb := Below.refl w.heap.size w
  clear h n1 ha hb
  generalize a * b = s at *
  go_enter Try.func42, Try.ntmps42
  go_wp2_with fail
  refine (T.out _).mono ?_
  rintro e w' ⟨rfl, b1⟩
  have bb := bb.trans (b1.mono bb.size)
  clear b1
  go_wp2_with fail
  refine (B.out _).mono ?_
  rintro e w' ⟨rfl, b1⟩
  have bb := bb.trans (b1.mono bb.size)
  clear b1
  go_wp2_with fail
  go_ret2
  exact ⟨rfl, bb⟩

set_option maxHeartbeats 400000 in
theorem rmul_no (a b : Int) (w : World) (ha : In64 a) (hb : In64 b) (h : ¬ In64 (a * b)) :
    Calls Try.prog 42 #[.int .i64 a, .int .i64 b] w fun e w' => e = .returned (.tuple #[.int .i64 0, .bool false]) ∧ Below w.heap.size w w' := by
  have n1 : In128 (a * b) := prod_in ha hb
  have B := Lib.hid (fun w => rback_no (a * b) w n1 h)
  have T := Lib.hid (fun w => rtimes_any a b w ha hb)
  have bb := Below.refl w.heap.size w
  clear h n1 ha hb
  generalize a * b = s at *
  go_enter Try.func42, Try.ntmps42
  go_wp2_with fail
  refine (T.out _).mono ?_
  rintro e w' ⟨rfl, b1⟩
  have bb := bb.trans (b1.mono bb.size)
  clear b1
  go_wp2_with fail
  refine (B.out _).mono ?_
  rintro e w' ⟨rfl, b1⟩
  have bb := bb.trans (b1.mono bb.size)
  clear b1
  go_wp2_with fail
  go_ret2
  exact ⟨rfl, bb⟩
end Go.Proofs.Ytajihhmohokngaa
