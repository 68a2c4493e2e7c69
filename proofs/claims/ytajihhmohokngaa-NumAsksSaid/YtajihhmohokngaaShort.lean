import Derived.Test.YtajihhmohokngaaRefText
import Derived.Test.YtajihhmohokngaaRefMul
import Derived.Test.YtajihhmohokngaaRefTimes
set_option linter.unusedVariables false
set_option linter.unusedSimpArgs false
namespace Go.Proofs.Ytajihhmohokngaa
open Go.RowKit

theorem neg_yes (a : Int) (w : World) (ha : In64 a) (h : In64 (0 - a)) :
    Calls Try.prog 43 #[.int .i64 a] w fun e w' => e = .returned (.tuple #[.int .i64 (0 - a), .bool true]) ∧ w = w' := by
  have S := Lib.hid (fun w => sub_yes 0 a w (by unfold In64; omega) ha h)
  clear ha h
  generalize (0 : Int) - a = d at *
  go_enter Try.func43, Try.ntmps43
  go_wp2_with fail
  refine (S.out _).mono ?_
  rintro e w1 ⟨rfl, rfl⟩
  go_wp2_with fail
  go_ret2
  exact ⟨rfl, rfl⟩
theorem neg_no (a : Int) (w : World) (ha : In64 a) (h : ¬ In64 (0 - a)) :
    Calls Try.prog 43 #[.int .i64 a] w fun e w' => e = .returned (.tuple #[.int .i64 0, .bool false]) ∧ w = w' := by
  have S := Lib.hid (fun w => sub_no 0 a w (by unfold In64; omega) ha h)
  clear ha h
  go_enter Try.func43, Try.ntmps43
  go_wp2_with fail
  refine (S.out _).mono ?_
  rintro e w1 ⟨rfl, rfl⟩
  go_wp2_with fail
  go_ret2
  exact ⟨rfl, rfl⟩
/-- two functions tell the same: a number, and whether it fits -/
def Both (f g : Nat) (args : Array Value) : Prop := ∃ (n : Int) (ok : Bool),
  (∀ w, Calls Try.prog f args w fun e w' => e = .returned (.tuple #[.int .i64 n, .bool ok]) ∧ Below w.heap.size w w') ∧
  (∀ w, Calls Try.prog g args w fun e w' => e = .returned (.tuple #[.int .i64 n, .bool ok]) ∧ Below w.heap.size w w')
theorem still_below {f : Nat} {args : Array Value} {w : World} {e0 : Ending} (h : Calls Try.prog f args w fun e w' => e = e0 ∧ w = w') : Calls Try.prog f args w fun e w' => e = e0 ∧ Below w.heap.size w w' := by
  refine h.mono ?_
  rintro e w' ⟨rfl, rfl⟩
  exact ⟨rfl, Below.refl _ _⟩
theorem both_add (a b : Int) (ha : In64 a) (hb : In64 b) : Both 11 40 #[.int .i64 a, .int .i64 b] := by
  by_cases h : In64 (a + b)
  · exact ⟨_, _, fun w => still_below (add_yes a b w ha hb h), fun w => radd_yes a b w ha hb h⟩
  · exact ⟨_, _, fun w => still_below (add_no a b w ha hb h), fun w => radd_no a b w ha hb h⟩
theorem both_sub (a b : Int) (ha : In64 a) (hb : In64 b) : Both 12 41 #[.int .i64 a, .int .i64 b] := by
  by_cases h : In64 (a - b)
  · exact ⟨_, _, fun w => still_below (sub_yes a b w ha hb h), fun w => rsub_yes a b w ha hb h⟩
  · exact ⟨_, _, fun w => still_below (sub_no a b w ha hb h), fun w => rsub_no a b w ha hb h⟩
theorem both_mul (a b : Int) (ha : In64 a) (hb : In64 b) : Both 13 42 #[.int .i64 a, .int .i64 b] := by
  by_cases h : In64 (a * b)
  · exact ⟨_, _, fun w => mul_yes a b w ha hb h, fun w => rmul_yes a b w ha hb h⟩
  · exact ⟨_, _, fun w => mul_no a b w ha hb h, fun w => rmul_no a b w ha hb h⟩
theorem both_neg (a : Int) (ha : In64 a) : Both 43 44 #[.int .i64 a] := by
  by_cases h : In64 (0 - a)
  · exact ⟨_, _, fun w => still_below (neg_yes a w ha h), fun w => rneg_yes a w ha h⟩
  · exact ⟨_, _, fun w => still_below (neg_no a w ha h), fun w => rneg_no a w ha h⟩
theorem both_back (a : Int) (ha : In128 a) : Both 14 45 #[.agg #[.int .i64 (hi64 a), .int .u64 (lo64 a)]] := by
  by_cases h : In64 a
  · exact ⟨_, _, fun w => back_yes a w h, fun w => rback_in a w ha h⟩
  · exact ⟨_, _, fun w => back_no a w ha h, fun w => rback_no a w ha h⟩

set_option maxHeartbeats 2000000 in
theorem short_walk (a b : Int) (w : World) (ha : In64 a) (hb : In64 b) :
    Calls Try.prog 24 #[.int .i64 a, .int .i64 b] w fun e w' => e = .returned (.bool true) ∧ Below w.heap.size w w' := by
  obtain ⟨n1, k1, A1, A2⟩ := both_add a b ha hb
  obtain ⟨n2, k2, B1, B2⟩ := both_sub a b ha hb
  obtain ⟨n3, k3, C1, C2⟩ := both_mul a b ha hb
  obtain ⟨n4, k4, D1, D2⟩ := both_neg a ha
  have A1 := Lib.hid A1
  have A2 := Lib.hid A2
  have B1 := Lib.hid B1
  have B2 := Lib.hid B2
  have C1 := Lib.hid C1
  have C2 := Lib.hid C2
  have D1 := Lib.hid D1
  have D2 := Lib.hid D2
  clear ha hb
  have bb := Below.refl w.heap.size w
  go_enter Try.func24, Try.ntmps24
  go_wp2_with fail
  refine ((A1).out _).mono ?_
  rintro e w1 ⟨rfl, bq⟩
  have bb := bb.trans (bq.mono bb.size)
  clear bq
  go_wp2_with fail
  refine ((A2).out _).mono ?_
  rintro e w2 ⟨rfl, bq⟩
  have bb := bb.trans (bq.mono bb.size)
  clear bq
  go_wp2_with fail
  refine ((B1).out _).mono ?_
  rintro e w3 ⟨rfl, bq⟩
  have bb := bb.trans (bq.mono bb.size)
  clear bq
  go_wp2_with fail
  refine ((B2).out _).mono ?_
  rintro e w4 ⟨rfl, bq⟩
  have bb := bb.trans (bq.mono bb.size)
  clear bq
  go_wp2_with fail
  refine ((C1).out _).mono ?_
  rintro e w5 ⟨rfl, bq⟩
  have bb := bb.trans (bq.mono bb.size)
  clear bq
  go_wp2_with fail
  refine ((C2).out _).mono ?_
  rintro e w6 ⟨rfl, bq⟩
  have bb := bb.trans (bq.mono bb.size)
  clear bq
  go_wp2_with fail
  refine ((D1).out _).mono ?_
  rintro e w7 ⟨rfl, bq⟩
  have bb := bb.trans (bq.mono bb.size)
  clear bq
  go_wp2_with fail
  refine ((D2).out _).mono ?_
  rintro e w8 ⟨rfl, bq⟩
  have bb := bb.trans (bq.mono bb.size)
  clear bq
  go_wp2_with fail
  go_ret
  exact ⟨rfl, bb⟩
end Go.Proofs.Ytajihhmohokngaa
