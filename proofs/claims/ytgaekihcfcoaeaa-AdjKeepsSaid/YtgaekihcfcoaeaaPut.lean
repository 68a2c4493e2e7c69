/-
  THE WALK of adj.New's put.
-/
import Derived.Test.YtgaekihcfcoaeaaNewMath
import Derived.Test.YtgaekihcfcoaeaaCopy
set_option linter.unusedVariables false
set_option linter.unusedSimpArgs false
namespace Go.Proofs.Ytgaekihcfcoaeaa
open Go.RowKit

/-- block b begins with the len numbers s -/
def RowS (w : World) (b len : Nat) (s : Nat → Nat) : Prop := ∃ cur, w.heap[b]? = some (.cells cur 3 (0, 0)) ∧ len ≤ cur.size ∧ ∀ j, j < len → cur[j]? = some (.int .i64 (s j : Nat))
theorem RowS.at {w : World} {b len : Nat} {s : Nat → Nat} (h : RowS w b len s) (j : Nat) (hj : j < len) : w.cell? ⟨b, j, none⟩ = some (.int .i64 (s j : Nat)) := by
  obtain ⟨cur, h1, h2, h3⟩ := h
  rw [cell_in _ _ _ _ _ _ h1, h3 j hj]
theorem RowS.lt {w : World} {b len : Nat} {s : Nat → Nat} (h : RowS w b len s) : b < w.heap.size := by
  obtain ⟨cur, h1, h2, h3⟩ := h
  exact lt_of_heap h1
theorem RowS.fz {w : World} {b len : Nat} {s : Nat → Nat} (h : RowS w b len s) (j : Nat) : w.frozen? ⟨b, j, none⟩ = false := by
  obtain ⟨cur, h1, h2, h3⟩ := h
  exact frozen_in _ _ _ _ _ h1
theorem RowS.kept {S : Nat → Prop} {w w' : World} {b len : Nat} {s : Nat → Nat} (h : RowS w b len s) (o : Only S w w') (hs : ¬ S b) : RowS w' b len s := by
  obtain ⟨cur, h1, h2, h3⟩ := h
  exact ⟨cur, (o.block b (lt_of_heap h1) hs).trans h1, h2, h3⟩
theorem RowS.set {w : World} {b len : Nat} {s : Nat → Nat} (h : RowS w b len s) (j y : Nat) : RowS (w.setCell ⟨b, j, none⟩ (.int .i64 (y : Nat))) b len (upd s j y) := by
  obtain ⟨cur, h1, h2, h3⟩ := h
  refine ⟨_, heap_setCell_at _ _ _ _ _ _ _ h1, by simpa using h2, fun i hi => ?_⟩
  rw [Array.getElem?_setIfInBounds]
  unfold upd
  by_cases c : j = i
  · rw [if_pos c, if_pos (by omega), if_pos c.symm]
  · rw [if_neg c, if_neg (fun e => c e.symm)]
    exact h3 i hi
theorem RowS.congr {w : World} {b len : Nat} {s s' : Nat → Nat} (h : RowS w b len s) (e : ∀ j, j < len → s j = s' j) : RowS w b len s' := by
  obtain ⟨cur, h1, h2, h3⟩ := h
  exact ⟨cur, h1, h2, fun j hj => by rw [h3 j hj, e j hj]⟩
theorem RowS.of_cells {w : World} {b len : Nat} {s : Nat → Nat} (h : w.heap[b]? = some (.cells (cellsOf len s) 3 (0, 0))) : RowS w b len s :=
  ⟨_, h, by rw [cellsOf_size]; exact Nat.le_refl _, fun j hj => cellsOf_get _ _ _ hj⟩

set_option maxHeartbeats 2000000 in
theorem put_any (h h8 gb lb nb n m k a lc nc : Nat) (ls s : Nat → Nat) (w : World) (hh : w.cell? ⟨h, 0, none⟩ = some (.pointer (some ⟨gb, 0, none⟩))) (hg : w.cell? ⟨gb, 2, none⟩ = some (.slice (some ⟨lb, 0, none⟩) (2 * m) lc)) (lg : gb < w.heap.size)
    (h8c : w.cell? ⟨h8, 0, none⟩ = some (.slice (some ⟨nb, 0, none⟩) (2 * n + 1) nc)) (hl : RowS w lb (2 * m) ls) (hs : RowS w nb (2 * n + 1) s)
    (k1 : lb ≠ h) (k2 : lb ≠ gb) (k3 : lb ≠ h8) (k4 : lb ≠ nb) (hk : k < 2 * n + 1) (hx : s k < 2 * m) (hm : m ≤ 40) (hn : n ≤ 20) :
    Calls Try.prog 19 #[.int .i64 k, .int .i64 a, .pointer (some ⟨h, 0, none⟩), .pointer (some ⟨h8, 0, none⟩)] w fun e w' => e = .returned (.tuple #[]) ∧ RowS w' lb (2 * m) (upd ls (s k) a) ∧ RowS w' nb (2 * n + 1) (upd s k (s k + 1)) ∧ Only (B2 lb nb) w w' := by
  have ck := hs.at k hk
  have lh := World.block_lt_of_cell? _ _ hh
  have l8 := World.block_lt_of_cell? _ _ h8c
  have hki : (k : Int) < 2 * (n : Int) + 1 := by omega
  have hk0 : (0 : Int) ≤ k := Int.natCast_nonneg _
  generalize hxx : s k = x at *
  have hxi : (x : Int) < 2 * (m : Int) := by omega
  have hx0 : (0 : Int) ≤ x := Int.natCast_nonneg _
  have wr1 := IntWalk.i64_in ((x : Int) + 1) (by omega)
  go_enter Try.func19, Try.ntmps19
  go_upto_region 0 with fail
  have MK : Hid (∀ w', Only (B1 lb) w w' → w'.cell? ⟨h, 0, none⟩ = some (.pointer (some ⟨gb, 0, none⟩)) ∧ w'.cell? ⟨gb, 2, none⟩ = some (.slice (some ⟨lb, 0, none⟩) (2 * m) lc) ∧ w'.cell? ⟨h8, 0, none⟩ = some (.slice (some ⟨nb, 0, none⟩) (2 * n + 1) nc) ∧ w'.cell? ⟨nb, k, none⟩ = some (.int .i64 x)) := fun w' oo => ⟨oo.cell hh (fun e => by unfold B1 at e; omega), oo.cell hg (fun e => by unfold B1 at e; omega), oo.cell h8c (fun e => by unfold B1 at e; omega), oo.cell ck (fun e => by unfold B1 at e; omega)⟩
  refine wp_region_along (fun w' => w'.cell? ⟨h, 0, none⟩ = some (.pointer (some ⟨gb, 0, none⟩)) ∧ w'.cell? ⟨gb, 2, none⟩ = some (.slice (some ⟨lb, 0, none⟩) (2 * m) lc) ∧ w'.cell? ⟨h8, 0, none⟩ = some (.slice (some ⟨nb, 0, none⟩) (2 * n + 1) nc) ∧ w'.cell? ⟨nb, k, none⟩ = some (.int .i64 x)) [(0, true), (1, true), (2, true), (3, true), (4, true), (5, true), (6, true), (7, true), (8, true), (9, true), (10, false)] (by kernel_rfl) (by kernel_rfl) ?_ ?_
  · exact MK.out _ ((Only.refl _ _).drew)
  have oo : Only NoB w w.drew := (Only.refl _ _).drew
  have hl := hl.kept oo (fun f => f)
  have hs := hs.kept oo (fun f => f)
  have zY : w.drew.heap.size = w.heap.size := rfl
  clear hh hg h8c ck
  generalize w.drew = Y at *
  repeat (first | (refine' along_take (by simp only [List.getElem?_cons_succ, List.getElem?_cons_zero]; rfl) (by rfl) ?_ ?_ ?_; rotate_left 2; (intro w' hS; go_simp; try rfl); (simp only [Act.put, List.setIfInBounds_toArray, List.set_cons_zero, List.set_cons_succ]; try rfl)) | (refine' along_skip (by simp only [List.getElem?_cons_succ, List.getElem?_cons_zero]; rfl) (by rfl) ?_ ?_; rotate_left 1; (simp only [Act.put, List.setIfInBounds_toArray, List.set_cons_zero, List.set_cons_succ]; try rfl)))
  have cl := hl.at x hx
  have fz := hl.fz x
  have lz := hl.lt
  (refine along_do (by simp only [List.getElem?_cons_succ, List.getElem?_cons_zero]; rfl) (by rfl) (fun K hK => ?_); go_simp)
  have oS : Only (B1 lb) Y (World.setCell Y ⟨lb, x, none⟩ (.int .i64 (a : Nat))) := Only.setCell (S := B1 lb) (Only.refl _ _) (p := ⟨lb, x, none⟩) (fun _ => by unfold B1; rfl) _
  have hl := hl.set x a
  have hs := hs.kept oS (fun e => by unfold B1 at e; omega)
  have oo := (oo.mono (T := B1 lb) (fun _ _ f => f.elim)).trans oS
  (refine hK _ _ (MK.out _ oo) ?_; clear hK K)
  clear fz lz oS cl
  generalize World.setCell Y _ _ = X at *
  repeat (first | (refine' along_take (by simp only [List.getElem?_cons_succ, List.getElem?_cons_zero]; rfl) (by rfl) ?_ ?_ ?_; rotate_left 2; (intro w' hS; go_simp; try rfl); (simp only [Act.put, List.setIfInBounds_toArray, List.set_cons_zero, List.set_cons_succ]; try rfl)) | (refine' along_skip (by simp only [List.getElem?_cons_succ, List.getElem?_cons_zero]; rfl) (by rfl) ?_ ?_; rotate_left 1; (simp only [Act.put, List.setIfInBounds_toArray, List.set_cons_zero, List.set_cons_succ]; try rfl)))
  refine along_end ?_
  obtain ⟨e0, e1, e2, e3⟩ := MK.out _ oo
  have fz := hs.fz k
  have ln := hs.lt
  go_wp2_with fail
  have oS : Only (B1 nb) X (World.setCell X ⟨nb, k, none⟩ (.int .i64 ((x : Int) + 1))) := Only.setCell (S := B1 nb) (Only.refl _ _) (p := ⟨nb, k, none⟩) (fun _ => by unfold B1; rfl) _
  have hs := hs.set k (x + 1)
  have hl := hl.kept oS (fun e => by unfold B1 at e; omega)

  refine bodyPost_end (v := .tuple #[]) (results_none rfl _ _ _) rfl ?_
  exact ⟨rfl, hl, hs, (oo.mono (T := B2 lb nb) (fun _ _ e => .inl e)).trans (oS.mono (fun _ _ e => .inr e))⟩
end Go.Proofs.Ytgaekihcfcoaeaa
