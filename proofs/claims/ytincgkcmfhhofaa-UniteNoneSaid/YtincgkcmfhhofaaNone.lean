/-
  THE WALK of the law UniteNone, and of package unite at a nil Sets.
-/
import Derived.Test.YtincgkcmfhhofaaKnown
set_option linter.unusedVariables false
set_option linter.unusedSimpArgs false
namespace Go.Proofs.Ytincgkcmfhhofaa
open Go.RowKit

theorem has_nil (a : Int) (w : World) : Calls Try.prog 18 #[.pointer none, .int .i64 a] w fun e w' => e = .returned (.bool false) ∧ w = w' := by
  go_enter Try.func18, Try.ntmps18
  go_wp2
  go_ret
  exact ⟨rfl, rfl⟩
theorem join_nil (a b : Int) (w : World) : Calls Try.prog 10 #[.pointer none, .int .i64 a, .int .i64 b] w fun e w' => e = .returned (.bool false) ∧ w = w' := by
  go_enter Try.func10, Try.ntmps10
  go_wp2_with (go_at_call 18; refine (has_nil _ _).mono ?_; rintro e w' ⟨rfl, rfl⟩)
  go_ret
  exact ⟨rfl, rfl⟩
theorem same_nil (a b : Int) (w : World) : Calls Try.prog 17 #[.pointer none, .int .i64 a, .int .i64 b] w fun e w' => e = .returned (.bool false) ∧ w = w' := by
  go_enter Try.func17, Try.ntmps17
  go_wp2_with (go_at_call 18; refine (has_nil _ _).mono ?_; rintro e w' ⟨rfl, rfl⟩)
  go_ret
  exact ⟨rfl, rfl⟩
theorem least_nil (a : Int) (w : World) : Calls Try.prog 15 #[.pointer none, .int .i64 a] w fun e w' => e = .returned (.int .i64 (-1)) ∧ w = w' := by
  go_enter Try.func15, Try.ntmps15
  go_wp2_with (go_at_call 18; refine (has_nil _ _).mono ?_; rintro e w' ⟨rfl, rfl⟩)
  go_ret
  exact ⟨rfl, rfl⟩
theorem many_nil (w : World) : Calls Try.prog 14 #[.pointer none] w fun e w' => e = .returned (.int .i64 0) ∧ w = w' := by
  go_enter Try.func14, Try.ntmps14
  go_wp2
  go_ret
  exact ⟨rfl, rfl⟩
theorem groups_nil (w : World) : Calls Try.prog 13 #[.pointer none] w fun e w' => e = .returned (.slice none 0 0) ∧ w = w' := by
  go_enter Try.func13, Try.ntmps13
  go_wp2
  go_ret
  exact ⟨rfl, rfl⟩

theorem clamp_nat (n : Nat) (h : n ≤ 1000) : clamp n = n := by unfold clamp; omega
theorem clamp_neg (n : Nat) : clamp (-(n : Int)) = 0 := by unfold clamp; omega
theorem same_id (n : Nat) (a : Int) : sameI n (fun i => i) a a = inB n a := by
  unfold sameI
  cases inB n a <;> simp
theorem least_id_in {n : Nat} {a : Int} (h : inB n a = true) : leastI n (fun i => i) a = a := by
  obtain ⟨h1, h2⟩ := inB_yes h
  unfold leastI
  rw [if_pos h]
  show ((a.toNat : Nat) : Int) = a
  omega
theorem least_id_out {n : Nat} {a : Int} (h : inB n a = false) : leastI n (fun i => i) a = -1 := by
  unfold leastI
  rw [if_neg (by simp [h])]

set_option maxHeartbeats 1000000 in
theorem none_in (a b : Int) (n : Nat) (hn : n ≤ 255) (hv : inB n a = true) (w : World) :
    Calls Try.prog 7 #[.int .i64 a, .int .i64 b, .int .u8 n] w fun e w' => e = .returned (.bool true) ∧ Below w.heap.size w w' := by
  obtain ⟨h1, h2⟩ := inB_yes hv
  have HS := Lib.hid (hv ▸ same_id n a : sameI n (fun i => i) a a = true)
  have HL := Lib.hid (least_id_in hv)
  clear hv
  go_enter Try.func7, Try.ntmps7
  go_wp2_with fail
  refine (new_any _ w).mono ?_
  rw [clamp_nat n (by omega)]
  rintro e w1 ⟨rfl, g1, o1⟩
  go_wp2_with fail
  refine (known_any _).mono ?_
  rintro e w2 ⟨rfl, o2⟩
  have g2 := g1.kept o2 (fun f => f) (fun f => f)
  go_wp2_with fail
  refine (join_nil _ _ _).mono ?_
  rintro e w' ⟨rfl, rfl⟩
  go_wp2_with fail
  refine (same_nil _ _ _).mono ?_
  rintro e w' ⟨rfl, rfl⟩
  go_wp2_with fail
  refine (least_nil _ _).mono ?_
  rintro e w' ⟨rfl, rfl⟩
  go_wp2_with fail
  refine (many_nil _).mono ?_
  rintro e w' ⟨rfl, rfl⟩
  go_wp2_with fail
  refine (groups_nil _).mono ?_
  rintro e w' ⟨rfl, rfl⟩
  go_wp2_with fail
  have J := same_any _ _ _ _ a a w2 g2
  rw [HS.out] at J
  refine J.mono ?_
  rintro e w3 ⟨rfl, g3, o3⟩
  clear J
  go_wp2_with fail
  have J := least_any _ _ _ _ a w3 g3
  rw [HL.out] at J
  refine J.mono ?_
  rintro e w4 ⟨rfl, g4, o4⟩
  clear J
  go_wp2_with fail
  have J := many_any _ _ _ _ w4 g4
  rw [many_id] at J
  refine J.mono ?_
  rintro e w' ⟨rfl, rfl⟩
  clear J
  go_wp2_with fail
  have J := new_any (-(n : Int)) w4
  rw [clamp_neg] at J
  refine J.mono ?_
  rintro e w5 ⟨rfl, g5, o5⟩
  clear J
  go_wp2_with fail
  have J := many_any _ _ _ _ w5 g5
  rw [many_id] at J
  refine J.mono ?_
  rintro e w' ⟨rfl, rfl⟩
  clear J
  go_wp2_with fail
  go_ret
  exact ⟨rfl, Only.below (((((o1.then o2 (fun _ _ f => f)).then o3 (fun i hi e => by unfold B1 at e; omega)).then o4 (fun i hi e => by unfold B1 at e; omega)).then o5 (fun _ _ f => f)))⟩

set_option maxHeartbeats 1000000 in
theorem none_low (a b : Int) (n : Nat) (hn : n ≤ 255) (hv : inB n a = false) (h1 : a < 0) (h2 : a ≠ -1) (w : World) :
    Calls Try.prog 7 #[.int .i64 a, .int .i64 b, .int .u8 n] w fun e w' => e = .returned (.bool true) ∧ Below w.heap.size w w' := by
  have e1 : ((-1 : Int) == a) = false := by simp; omega
  have e2 : (a == (-1 : Int)) = false := by simp; omega
  have HS := Lib.hid (hv ▸ same_id n a : sameI n (fun i => i) a a = false)
  have HL := Lib.hid (least_id_out hv)
  clear hv
  go_enter Try.func7, Try.ntmps7
  go_wp2_with fail
  refine (new_any _ w).mono ?_
  rw [clamp_nat n (by omega)]
  rintro e w1 ⟨rfl, g1, o1⟩
  go_wp2_with fail
  refine (known_any _).mono ?_
  rintro e w2 ⟨rfl, o2⟩
  have g2 := g1.kept o2 (fun f => f) (fun f => f)
  go_wp2_with fail
  refine (join_nil _ _ _).mono ?_
  rintro e w' ⟨rfl, rfl⟩
  go_wp2_with fail
  refine (same_nil _ _ _).mono ?_
  rintro e w' ⟨rfl, rfl⟩
  go_wp2_with fail
  refine (least_nil _ _).mono ?_
  rintro e w' ⟨rfl, rfl⟩
  go_wp2_with fail
  refine (many_nil _).mono ?_
  rintro e w' ⟨rfl, rfl⟩
  go_wp2_with fail
  refine (groups_nil _).mono ?_
  rintro e w' ⟨rfl, rfl⟩
  go_wp2_with fail
  have J := same_any _ _ _ _ a a w2 g2
  rw [HS.out] at J
  refine J.mono ?_
  rintro e w3 ⟨rfl, g3, o3⟩
  clear J
  go_wp2_with fail
  have J := least_any _ _ _ _ a w3 g3
  rw [HL.out] at J
  refine J.mono ?_
  rintro e w4 ⟨rfl, g4, o4⟩
  clear J
  go_wp2_with fail
  have J := many_any _ _ _ _ w4 g4
  rw [many_id] at J
  refine J.mono ?_
  rintro e w' ⟨rfl, rfl⟩
  clear J
  go_wp2_with fail
  have J := new_any (-(n : Int)) w4
  rw [clamp_neg] at J
  refine J.mono ?_
  rintro e w5 ⟨rfl, g5, o5⟩
  clear J
  go_wp2_with fail
  have J := many_any _ _ _ _ w5 g5
  rw [many_id] at J
  refine J.mono ?_
  rintro e w' ⟨rfl, rfl⟩
  clear J
  go_wp2_with fail
  go_ret
  exact ⟨rfl, Only.below (((((o1.then o2 (fun _ _ f => f)).then o3 (fun i hi e => by unfold B1 at e; omega)).then o4 (fun i hi e => by unfold B1 at e; omega)).then o5 (fun _ _ f => f)))⟩

set_option maxHeartbeats 1000000 in
theorem none_one (a b : Int) (n : Nat) (hn : n ≤ 255) (hv : inB n a = false) (h1 : a = -1) (w : World) :
    Calls Try.prog 7 #[.int .i64 a, .int .i64 b, .int .u8 n] w fun e w' => e = .returned (.bool true) ∧ Below w.heap.size w w' := by
  subst h1
  have HS := Lib.hid (hv ▸ same_id n (-1) : sameI n (fun i => i) (-1) (-1) = false)
  have HL := Lib.hid (least_id_out hv)
  clear hv
  go_enter Try.func7, Try.ntmps7
  go_wp2_with fail
  refine (new_any _ w).mono ?_
  rw [clamp_nat n (by omega)]
  rintro e w1 ⟨rfl, g1, o1⟩
  go_wp2_with fail
  refine (known_any _).mono ?_
  rintro e w2 ⟨rfl, o2⟩
  have g2 := g1.kept o2 (fun f => f) (fun f => f)
  go_wp2_with fail
  refine (join_nil _ _ _).mono ?_
  rintro e w' ⟨rfl, rfl⟩
  go_wp2_with fail
  refine (same_nil _ _ _).mono ?_
  rintro e w' ⟨rfl, rfl⟩
  go_wp2_with fail
  refine (least_nil _ _).mono ?_
  rintro e w' ⟨rfl, rfl⟩
  go_wp2_with fail
  refine (many_nil _).mono ?_
  rintro e w' ⟨rfl, rfl⟩
  go_wp2_with fail
  refine (groups_nil _).mono ?_
  rintro e w' ⟨rfl, rfl⟩
  go_wp2_with fail
  have J := same_any _ _ _ _ (-1) (-1) w2 g2
  rw [HS.out] at J
  refine J.mono ?_
  rintro e w3 ⟨rfl, g3, o3⟩
  clear J
  go_wp2_with fail
  have J := least_any _ _ _ _ (-1) w3 g3
  rw [HL.out] at J
  refine J.mono ?_
  rintro e w4 ⟨rfl, g4, o4⟩
  clear J
  go_wp2_with fail
  have J := many_any _ _ _ _ w4 g4
  rw [many_id] at J
  refine J.mono ?_
  rintro e w' ⟨rfl, rfl⟩
  clear J
  go_wp2_with fail
  have J := new_any (-(n : Int)) w4
  rw [clamp_neg] at J
  refine J.mono ?_
  rintro e w5 ⟨rfl, g5, o5⟩
  clear J
  go_wp2_with fail
  have J := many_any _ _ _ _ w5 g5
  rw [many_id] at J
  refine J.mono ?_
  rintro e w' ⟨rfl, rfl⟩
  clear J
  go_wp2_with fail
  go_ret
  exact ⟨rfl, Only.below (((((o1.then o2 (fun _ _ f => f)).then o3 (fun i hi e => by unfold B1 at e; omega)).then o4 (fun i hi e => by unfold B1 at e; omega)).then o5 (fun _ _ f => f)))⟩

set_option maxHeartbeats 1000000 in
theorem none_high (a b : Int) (n : Nat) (hn : n ≤ 255) (hv : inB n a = false) (h1 : (n : Int) ≤ a) (w : World) :
    Calls Try.prog 7 #[.int .i64 a, .int .i64 b, .int .u8 n] w fun e w' => e = .returned (.bool true) ∧ Below w.heap.size w w' := by
  have h0 : 0 ≤ a := by omega
  have h4 : decide (a < (n : Int)) = false := by simpa using h1
  have e1 : ((-1 : Int) == a) = false := by simp; omega
  have e2 : (a == (-1 : Int)) = false := by simp; omega
  have HS := Lib.hid (hv ▸ same_id n a : sameI n (fun i => i) a a = false)
  have HL := Lib.hid (least_id_out hv)
  clear hv
  go_enter Try.func7, Try.ntmps7
  go_wp2_with fail
  refine (new_any _ w).mono ?_
  rw [clamp_nat n (by omega)]
  rintro e w1 ⟨rfl, g1, o1⟩
  go_wp2_with fail
  refine (known_any _).mono ?_
  rintro e w2 ⟨rfl, o2⟩
  have g2 := g1.kept o2 (fun f => f) (fun f => f)
  go_wp2_with fail
  refine (join_nil _ _ _).mono ?_
  rintro e w' ⟨rfl, rfl⟩
  go_wp2_with fail
  refine (same_nil _ _ _).mono ?_
  rintro e w' ⟨rfl, rfl⟩
  go_wp2_with fail
  refine (least_nil _ _).mono ?_
  rintro e w' ⟨rfl, rfl⟩
  go_wp2_with fail
  refine (many_nil _).mono ?_
  rintro e w' ⟨rfl, rfl⟩
  go_wp2_with fail
  refine (groups_nil _).mono ?_
  rintro e w' ⟨rfl, rfl⟩
  go_wp2_with fail
  have J := same_any _ _ _ _ a a w2 g2
  rw [HS.out] at J
  refine J.mono ?_
  rintro e w3 ⟨rfl, g3, o3⟩
  clear J
  go_wp2_with fail
  have J := least_any _ _ _ _ a w3 g3
  rw [HL.out] at J
  refine J.mono ?_
  rintro e w4 ⟨rfl, g4, o4⟩
  clear J
  go_wp2_with fail
  have J := many_any _ _ _ _ w4 g4
  rw [many_id] at J
  refine J.mono ?_
  rintro e w' ⟨rfl, rfl⟩
  clear J
  go_wp2_with fail
  have J := new_any (-(n : Int)) w4
  rw [clamp_neg] at J
  refine J.mono ?_
  rintro e w5 ⟨rfl, g5, o5⟩
  clear J
  go_wp2_with fail
  have J := many_any _ _ _ _ w5 g5
  rw [many_id] at J
  refine J.mono ?_
  rintro e w' ⟨rfl, rfl⟩
  clear J
  go_wp2_with fail
  go_ret
  exact ⟨rfl, Only.below (((((o1.then o2 (fun _ _ f => f)).then o3 (fun i hi e => by unfold B1 at e; omega)).then o4 (fun i hi e => by unfold B1 at e; omega)).then o5 (fun _ _ f => f)))⟩

theorem none_walk (a b : Int) (c : Int) (hc : 0 ≤ c ∧ c ≤ 255) (w : World) :
    Calls Try.prog 7 #[.int .i64 a, .int .i64 b, .int .u8 c] w fun e w' => e = .returned (.bool true) ∧ Below w.heap.size w w' := by
  obtain ⟨n, rfl⟩ := Int.eq_ofNat_of_zero_le hc.1
  have hn : n ≤ 255 := by omega
  cases hv : inB n a
  · by_cases h1 : a = -1
    · exact none_one a b n hn hv h1 w
    · rcases inB_no hv with h2 | h2
      · exact none_low a b n hn hv h2 h1 w
      · exact none_high a b n hn hv h2 w
  · exact none_in a b n hn hv w

end Go.Proofs.Ytincgkcmfhhofaa
