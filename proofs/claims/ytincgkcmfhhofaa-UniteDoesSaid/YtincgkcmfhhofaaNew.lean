/-
  THE WALK of unite.New.
-/
import Derived.Test.YtincgkcmfhhofaaSets
set_option linter.unusedVariables false
set_option linter.unusedSimpArgs false
namespace Go.Proofs.Ytincgkcmfhhofaa
open Go.RowKit


theorem made_ints (k : Nat) : madeCells #[.int .i64 0] k = cellsOf k (fun _ => 0) := by
  apply Array.ext_getElem?
  intro i
  by_cases h : i < k
  · rw [cellsOf_get _ _ _ h]
    simp [madeCells, h, Nat.mod_one]
  · rw [Array.getElem?_eq_none (by simp [madeCells]; omega), Array.getElem?_eq_none (by rw [cellsOf_size]; omega)]

theorem make_ints (k : Nat) (hk : k ≤ 1048576) (u : World) : (Instr.makeSlice 28 (.int .i64 k) (.int .i64 k)).run Try.prog u =
      .ok (.slice (some ⟨u.heap.size, 0, none⟩) k k) (u.alloc (.cells (cellsOf k (fun _ => 0)) 3)) := by
  obtain ⟨i0, hi, hz0, hz1, hz2⟩ := info_parts Try.info3
  have h := run_make (P := Try.prog) u 28 3 i0 (.int .i64 0) Try.underlying28 hi hz0 .i64 .i64 (k : Int) (k : Int) (by omega) (Int.le_refl _) (by rw [hz2]; omega) (by omega)
  have e : (k : Int).toNat = k := by omega
  rw [e] at h
  simpa [hz1, Value.cells, made_ints] using h

def clamp (n : Int) : Nat := (min (max n 0) 1000).toNat

/-- k of n numbers point to themselves, the others to 0 -/
def upTo (k : Nat) : Nat → Nat := fun i => if i < k then i else 0

theorem new_state (w : World) (n : Nat) (hn : n ≤ 1000) : SetsAt ((w.alloc (.cells (cellsOf n (fun _ => 0)) 3)).alloc (.cells #[.slice (some ⟨w.heap.size, 0, none⟩) n n, .int .i64 n] 40)) (w.heap.size + 1) w.heap.size n (upTo 0) n := by
  refine ⟨?_, ?_, by omega, hn⟩
  · have := heap_alloc_new (w.alloc (.cells (cellsOf n (fun _ => 0)) 3)) (.cells #[.slice (some ⟨w.heap.size, 0, none⟩) n n, .int .i64 n] 40)
    simpa using this
  · rw [Below.heap_alloc _ _ _ (by simp), heap_alloc_new]
    rfl

theorem SetsAt.up {w : World} {b u n : Nat} {up up' : Nat → Nat} {many : Int} (h : SetsAt w b u n up many) (e : ∀ i, i < n → up i = up' i) : SetsAt w b u n up' many :=
  ⟨h.box, by
    have : cellsOf n up = cellsOf n up' := by
      unfold cellsOf
      congr 1
      apply List.map_congr_left
      intro i hi
      rw [e i (List.mem_range.1 hi)]
    rw [← this]; exact h.row, h.ne, h.len⟩
theorem upTo_succ {n : Nat} (k : Nat) : ∀ i, i < n → upd (upTo k) k k i = upTo (k + 1) i := by
  intro i _
  unfold upd upTo
  by_cases e : i = k
  · rw [if_pos e, if_pos (by omega)]; exact e.symm
  · rw [if_neg e]
    by_cases l : i < k
    · rw [if_pos l, if_pos (by omega)]
    · rw [if_neg l, if_neg (by omega)]
theorem upTo_all (n : Nat) : ∀ i, i < n → upTo n i = i := by
  intro i hi
  unfold upTo
  rw [if_pos hi]

set_option maxHeartbeats 400000 in
theorem new_any (n : Int) (w : World) :
    Calls Try.prog 9 #[.int .i64 n] w fun e w' => e = .returned (.pointer (some ⟨w.heap.size + 1, 0, none⟩)) ∧ Is w' (w.heap.size + 1) w.heap.size (clamp n) (fun i => i) ∧ Only NoB w w' := by
  by_cases h1 : n < 0
  · have hk : clamp n = 0 := by unfold clamp; omega
    rw [hk]
    clear hk
    have hmk : ∀ u : World, (Instr.makeSlice 28 (.int .i64 0) (.int .i64 0)).run Try.prog u = .ok (.slice (some ⟨u.heap.size, 0, none⟩) 0 0) (u.alloc (.cells (cellsOf 0 (fun _ => 0)) 3)) := fun u => make_ints 0 (by omega) u
    go_enter Try.func9, Try.ntmps9
    go_wp2_with fail
    go_loopw [14] (fun s wr => ∃ k : Nat, k ≤ 0 ∧ s = .int .i64 k ∧ SetsAt wr (w.heap.size + 1) w.heap.size 0 (upTo k) 0 ∧ Only NoB w wr)
      (fun s _ => 0 - (intOf s).toNat)
    case atStart => exact ⟨0, Nat.zero_le _, rfl, new_state w 0 (by omega), (((Only.refl _ _).alloc _).alloc _)⟩
    case round =>
      obtain ⟨k, hk, rfl, hs, ho⟩ := hrel
      have c0 := hs.c0
      have fz := hs.fz k
      by_cases lt : k < 0
      · exact absurd lt (Nat.not_lt_zero _)
      · obtain rfl : 0 = k := by omega
        have lti : ¬ ((0 : Nat) : Int) < 0 := by omega
        go_wp2_with fail
        go_ret
        exact ⟨rfl, ⟨_, Rep.id _, by rw [many_id]; exact hs.up (upTo_all _)⟩, ho⟩
  by_cases h2 : 1000 < n
  · have hk : clamp n = 1000 := by unfold clamp; omega
    rw [hk]
    clear hk
    have hmk : ∀ u : World, (Instr.makeSlice 28 (.int .i64 1000) (.int .i64 1000)).run Try.prog u = .ok (.slice (some ⟨u.heap.size, 0, none⟩) 1000 1000) (u.alloc (.cells (cellsOf 1000 (fun _ => 0)) 3)) := fun u => make_ints 1000 (by omega) u
    go_enter Try.func9, Try.ntmps9
    go_wp2_with fail
    go_loopw [14] (fun s wr => ∃ k : Nat, k ≤ 1000 ∧ s = .int .i64 k ∧ SetsAt wr (w.heap.size + 1) w.heap.size 1000 (upTo k) 1000 ∧ Only NoB w wr)
      (fun s _ => 1000 - (intOf s).toNat)
    case atStart => exact ⟨0, Nat.zero_le _, rfl, new_state w 1000 (by omega), (((Only.refl _ _).alloc _).alloc _)⟩
    case round =>
      obtain ⟨k, hk, rfl, hs, ho⟩ := hrel
      have c0 := hs.c0
      have fz := hs.fz k
      by_cases lt : k < 1000
      · have ck := hs.at k lt
        have ss := (hs.set k k).up (upTo_succ k)
        have lti : (k : Int) < 1000 := by omega
        go_wp2_with fail
        go_roundw
        case rel => exact ⟨k + 1, by omega, by go_num, ss, ho.setCell (p := ⟨w.heap.size, k, none⟩) (fun h => absurd h (Nat.lt_irrefl _)) _⟩
        case measure => simp [intOf]; omega
      · obtain rfl : 1000 = k := by omega
        have lti : ¬ ((1000 : Nat) : Int) < 1000 := by omega
        go_wp2_with fail
        go_ret
        exact ⟨rfl, ⟨_, Rep.id _, by rw [many_id]; exact hs.up (upTo_all _)⟩, ho⟩
  · obtain ⟨m, rfl⟩ := Int.eq_ofNat_of_zero_le (by omega : 0 ≤ n)
    have hk : clamp m = m := by unfold clamp; omega
    rw [hk]
    clear hk
    have hmk : ∀ u : World, (Instr.makeSlice 28 (.int .i64 m) (.int .i64 m)).run Try.prog u = .ok (.slice (some ⟨u.heap.size, 0, none⟩) m m) (u.alloc (.cells (cellsOf m (fun _ => 0)) 3)) := fun u => make_ints m (by omega) u
    go_enter Try.func9, Try.ntmps9
    go_wp2_with fail
    go_loopw [14] (fun s wr => ∃ k : Nat, k ≤ m ∧ s = .int .i64 k ∧ SetsAt wr (w.heap.size + 1) w.heap.size m (upTo k) m ∧ Only NoB w wr)
      (fun s _ => m - (intOf s).toNat)
    case atStart => exact ⟨0, Nat.zero_le _, rfl, new_state w m (by omega), (((Only.refl _ _).alloc _).alloc _)⟩
    case round =>
      obtain ⟨k, hk, rfl, hs, ho⟩ := hrel
      have c0 := hs.c0
      have fz := hs.fz k
      by_cases lt : k < m
      · have ck := hs.at k lt
        have ss := (hs.set k k).up (upTo_succ k)
        have lti : (k : Int) < m := by omega
        go_wp2_with fail
        go_roundw
        case rel => exact ⟨k + 1, by omega, by go_num, ss, ho.setCell (p := ⟨w.heap.size, k, none⟩) (fun h => absurd h (Nat.lt_irrefl _)) _⟩
        case measure => simp [intOf]; omega
      · obtain rfl : m = k := by omega
        have lti : ¬ ((m : Nat) : Int) < m := by omega
        go_wp2_with fail
        go_ret
        exact ⟨rfl, ⟨_, Rep.id _, by rw [many_id]; exact hs.up (upTo_all _)⟩, ho⟩

end Go.Proofs.Ytincgkcmfhhofaa
