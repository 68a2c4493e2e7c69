/-
  PLAIN LAW, no program in sight: two kinds of numbers, put together one by one.
-/
import Derived.Test.YtincgkcmfhhofaaFine
set_option linter.unusedVariables false
set_option linter.unusedSimpArgs false
namespace Go.Proofs.Ytincgkcmfhhofaa

/-- behind k rounds: each of the first k numbers is of the group of its kind -/
def starL (k : Nat) : Nat → Nat := fun i => if i < k then i % 2 else i
theorem starL_zero : starL 0 = fun i => i := by funext i; simp [starL]
theorem star_step (m k to : Nat) (hk : k < m) (ht : to ≤ k) (hp : to % 2 = k % 2) (hs : to < k ∨ to = k % 2) : joinI m (starL k) k to = starL (k + 1) := by
  have ik : inB m (k : Int) = true := by simp [inB]; omega
  have it : inB m (to : Int) = true := by simp [inB]; omega
  rw [joinI_in ik it]
  simp only [Int.toNat_natCast]
  have e1 : starL k k = k := by simp [starL]
  rw [e1]
  funext i
  unfold joinL
  have e2 : starL k to = to % 2 := by
    unfold starL
    rcases hs with h | h
    · rw [if_pos h]
    · split <;> omega
  have hle : to % 2 ≤ k := by omega
  rw [e2, Nat.max_eq_left hle, Nat.min_eq_right hle]
  unfold starL
  by_cases a : i < k
  · rw [if_pos a, if_pos (show i < k + 1 by omega)]
    split <;> omega
  · rw [if_neg a]
    by_cases b : i < k + 1
    · rw [if_pos b]
      obtain rfl : i = k := by omega
      split <;> omega
    · rw [if_neg b]
      split <;> omega

/-- those of one kind among the first k -/
def par (r k : Nat) : List Int := ((List.range k).filter fun a => a % 2 == r).map fun (a : Nat) => (a : Int)
theorem par_same (r k : Nat) (h : k % 2 = r) : par r (k + 1) = par r k ++ [(k : Int)] := by
  simp [par, List.range_succ, List.filter_append, List.filter_cons, h]
theorem par_other (r k : Nat) (h : k % 2 ≠ r) : par r (k + 1) = par r k := by
  simp [par, List.range_succ, List.filter_append, List.filter_cons, h]
theorem par_len (r k : Nat) : (par r k).length ≤ k := by
  unfold par
  rw [List.length_map]
  exact Nat.le_trans (List.length_filter_le _ _) (by simp)

theorem star_roots (t : Nat) : (List.range (2 + t)).filter (fun r => starL (2 + t) r == r) = [0, 1] := by
  rw [List.range_add, List.filter_append]
  have e1 : (List.range 2).filter (fun r => starL (2 + t) r == r) = [0, 1] := by
    have : List.range 2 = [0, 1] := rfl
    rw [this]
    simp [List.filter_cons, starL, show (0 : Nat) < 2 + t by omega, show (1 : Nat) < 2 + t by omega]
  have e2 : ((List.range t).map (2 + ·)).filter (fun r => starL (2 + t) r == r) = [] := by
    rw [List.filter_eq_nil_iff]
    intro r hr
    obtain ⟨q, hq, rfl⟩ := List.mem_map.1 hr
    have := List.mem_range.1 hq
    simp [starL]
    omega
  rw [e1, e2, List.append_nil]
theorem star_gat (m r : Nat) : gat (starL m) r m = par r m := by
  unfold gat par
  congr 1
  apply List.filter_congr
  intro a ha
  have := List.mem_range.1 ha
  simp [starL, this]
theorem star_groups (t : Nat) : groups (2 + t) (starL (2 + t)) = [par 0 (2 + t), par 1 (2 + t)] := by
  unfold groups
  rw [star_roots]
  simp [star_gat]
theorem star_many (t : Nat) : many (2 + t) (starL (2 + t)) = 2 := by
  rw [← groups_len, star_groups]
  rfl
theorem star_last (t : Nat) : joins (2 + t) (starL (2 + t)) 0 1 = true := by
  simp [joins, inB, starL]
  omega
theorem star_one (t : Nat) : many (2 + t) (joinI (2 + t) (starL (2 + t)) 0 1) = 1 := by
  have hj : joinI (2 + t) (starL (2 + t)) 0 1 = joinL (starL (2 + t)) 0 1 := by
    rw [joinI_in (by simp [inB]; omega) (by simp [inB]; omega)]
    simp [starL, show (1 : Nat) < 2 + t by omega]
  have hT : Tidy (2 + t) (starL (2 + t)) := by
    refine ⟨fun i hi => ?_, fun i hi => ?_⟩
    · unfold starL; rw [if_pos hi]; omega
    · unfold starL; rw [if_pos hi, if_pos (by omega)]; omega
  have h := many_join hT 0 1 (by omega) (by omega) (by simp [starL]) (by simp [starL]) (by omega)
  rw [hj]
  rw [star_many] at h
  omega
theorem star_least (t : Nat) : leastI (2 + t) (joinI (2 + t) (starL (2 + t)) 0 1) (((2 + t : Nat) : Int) - 1) = 0 := by
  have hj : joinI (2 + t) (starL (2 + t)) 0 1 = joinL (starL (2 + t)) 0 1 := by
    rw [joinI_in (by simp [inB]; omega) (by simp [inB]; omega)]
    simp [starL, show (1 : Nat) < 2 + t by omega]
  rw [hj]
  unfold leastI
  rw [if_pos (by simp [inB]; omega)]
  have e : ((((2 + t : Nat) : Int) - 1).toNat) = 1 + t := by omega
  rw [e]
  have e2 : starL (2 + t) (1 + t) = (1 + t) % 2 := by unfold starL; rw [if_pos (by omega)]
  have e3 : joinL (starL (2 + t)) 0 1 (1 + t) = 0 := by
    unfold joinL
    rw [e2]
    have q1 : max 0 1 = 1 := rfl
    have q2 : min 0 1 = 0 := rfl
    rw [q1, q2]
    split <;> omega
  rw [e3]
  rfl

end Go.Proofs.Ytincgkcmfhhofaa
