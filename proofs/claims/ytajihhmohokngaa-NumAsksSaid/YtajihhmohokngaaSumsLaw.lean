import Derived.Test.YtajihhmohokngaaSum
set_option linter.unusedVariables false
set_option linter.unusedSimpArgs false
namespace Go.Proofs.Ytajihhmohokngaa
open Go.RowKit

set_option maxHeartbeats 2000000 in
theorem sums_long (a : Option Addr) (n cap : Nat) (k : Int) (w : World) (h : 200 < n) (hm : n ≤ maxLen) :
    Calls Try.prog 9 #[.slice a n cap, .int .u8 k] w fun e w' => e = .returned (.bool true) ∧ Below w.heap.size w w' := by
  unfold maxLen at hm
  have h' : (200 : Int) < n := by omega
  have KK := Lib.hid (fun w => known_any w)
  go_enter Try.func9, Try.ntmps9
  go_wp2_with fail
  refine (KK.out _).mono ?_
  rintro e w1 ⟨rfl, b1⟩
  go_wp2_with fail
  go_ret
  exact ⟨rfl, b1⟩

def revC (f : Nat → Int) (n j : Nat) : List Value := (List.range j).map fun i => Value.int .i64 (f (n - 1 - i))
theorem revC_len (f : Nat → Int) (n j : Nat) : (revC f n j).length = j := by simp [revC]
theorem revC_succ (f : Nat → Int) (n j : Nat) : revC f n (j + 1) = revC f n j ++ [.int .i64 (f (n - 1 - j))] := by simp [revC, List.range_succ]
theorem sumZ_add (f : Nat → Int) (m k : Nat) : sumZ f (m + k) = sumZ f m + sumZ (fun i => f (m + i)) k := by
  induction k with
  | zero => simp [sumZ]
  | succ k ih => rw [← Nat.add_assoc]; simp only [sumZ, ih]; omega
theorem sumZ_first (f : Nat → Int) (n : Nat) : sumZ f (n + 1) = f 0 + sumZ (fun i => f (i + 1)) n := by
  rw [Nat.add_comm, sumZ_add f 1 n]
  simp only [sumZ, Int.zero_add]
  congr 2
  funext i
  rw [Nat.add_comm]
theorem sumZ_same (f g : Nat → Int) (n : Nat) (h : ∀ i, i < n → f i = g i) : sumZ f n = sumZ g n := by
  induction n with
  | zero => rfl
  | succ n ih => simp only [sumZ]; rw [ih (fun i hi => h i (by omega)), h n (by omega)]
theorem sumZ_rev (f : Nat → Int) (n : Nat) : sumZ (fun i => f (n - 1 - i)) n = sumZ f n := by
  induction n with
  | zero => rfl
  | succ n ih =>
    rw [sumZ_first]
    show f (n + 1 - 1 - 0) + sumZ (fun i => f (n + 1 - 1 - (i + 1))) n = sumZ f n + f n
    rw [sumZ_same _ (fun i => f (n - 1 - i)) n (fun i hi => by congr 1; omega), ih]
    simp
    omega
theorem Try.info2 : (Try.prog.info? 2).map (fun i => (i.zero, i.size, i.bytes)) = some (some (.int .i64 0), 1, 8) := by kernel_rfl
theorem IntsAt.head {w : World} {a : Option Addr} {n m : Nat} {f : Nat → Int} (h : IntsAt w a n f) (hm : m ≤ n) : IntsAt w a m f :=
  ⟨h.fit, Nat.le_trans hm h.len, fun h0 => by
    obtain ⟨b, o, e, hc⟩ := h.cells (by omega)
    exact ⟨b, o, e, fun k hk => hc k (by omega)⟩⟩

theorem own_ints {w : World} {base : Nat} {v : Value} {f : Nat → Int} {j : Nat} (ho : w.ownsRow base 2 1 v (revC f j j).length (revC f j j)) (fit : ∀ k, In64 (f k)) (hj : j ≤ 400) : ∃ av cv, v = .slice av j cv ∧ IntsAt w av j (fun i => f (j - 1 - i)) := by
  have hl := revC_len f j j
  rcases ho.2 with ⟨e, hx⟩ | ⟨g, cap', cur, e, _, _, _, _, _, _⟩
  · have z : j = 0 := by rw [← hl, hx]
    subst z
    exact ⟨none, 0, e, fun k => fit _, by omega, fun h => absurd h (by omega)⟩
  · subst e
    rw [hl] at ho ⊢
    refine ⟨some ⟨g, 0, none⟩, cap', rfl, fun k => fit _, hj, fun h0 => ⟨g, 0, rfl, fun k hk => ?_⟩⟩
    have := ho.cells (g := g) rfl k (.int .i64 (f (j - 1 - k))) (by simp [revC, hk])
    rw [← this]
    simp only [Addr.add]
    split
    · simp_all
    · simp
theorem add_flat (b o m : Nat) : (⟨b, o, none⟩ : Addr).add m = ⟨b, o + m, none⟩ := by
  simp only [Addr.add]
  split
  · simp_all
  · rfl
theorem IntsAt.tail {w : World} {a : Option Addr} {n m cap : Nat} {f : Nat → Int} (h : IntsAt w a n f) (hm : m ≤ n) (hc : n ≤ cap) : IntsAt w (if cap = m then a else Option.map (fun x => x.add m) a) (n - m) (fun i => f (m + i)) :=
  ⟨fun k => h.fit _, Nat.le_trans (Nat.sub_le _ _) h.len, fun h0 => by
    obtain ⟨b, o, e, hk⟩ := h.cells (by omega)
    refine ⟨b, o + m, ?_, fun k q => ?_⟩
    · rw [if_neg (by omega), e]; exact congrArg some (add_flat b o m)
    · have := hk (m + k) (by omega)
      rw [← Nat.add_assoc] at this
      exact this⟩

set_option maxHeartbeats 2000000 in
theorem sums_short (a : Option Addr) (n cap : Nat) (k : Int) (f : Nat → Int) (w : World) (hk0 : 0 ≤ k) (hk1 : k < 256) (hn : n ≤ 200) (hcap : n ≤ cap) (hcm : cap ≤ maxLen) (hi : IntsAt w a n f) :
    Calls Try.prog 9 #[.slice a n cap, .int .u8 k] w fun e w' => e = .returned (.bool true) ∧ Below w.heap.size w w' := by
  unfold maxLen at hcm
  have KK := Lib.hid (fun w => known_any w)
  obtain ⟨m, hm⟩ : ∃ m : Nat, (m : Int) = k % (n + 1) := ⟨(k % (n + 1)).toNat, by rw [Int.toNat_of_nonneg (Int.emod_nonneg _ (by omega))]⟩
  have hmn : m ≤ n := by have := Int.emod_lt_of_pos k (show (0 : Int) < n + 1 by omega); omega
  have ht : k.tmod (n + 1) = m := by rw [Int.tmod_eq_emod_of_nonneg hk0]; exact hm.symm
  have hw1 : (n : Int) + 1 ≠ 0 := by omega
  have hni : (n : Int) ≤ 200 := by omega
  go_enter Try.func9, Try.ntmps9
  go_wp2_with fail
  rw [← hm]
  obtain ⟨j0, hj, hjz, hj1, hj2⟩ := info_parts Try.info2
  have HI := Lib.hid hi
  clear hm ht hi
  go_loopw [6, 7] (fun v s wr => ∃ j : Nat, j ≤ n ∧ s = .int .i64 ((n : Int) - 1 - j) ∧ wr.ownsRow w.heap.size 2 1 v (revC f n j).length (revC f n j) ∧ Below w.heap.size w wr) (fun _ s _ => (intOf s + 1).toNat)
  case atStart => exact ⟨0, by omega, by simp, World.ownsRow_nil _ _ _ _, Below.refl _ _⟩
  case round =>
    obtain ⟨j, hjn, rfl, ho, bb⟩ := hrel
    by_cases lt : j < n
    · have hge : (0 : Int) ≤ (n : Int) - 1 - j := by omega
      obtain ⟨b, o, rfl, hc⟩ := (HI.out.below bb).cells (by omega)
      obtain ⟨p, hp⟩ : ∃ p, p = n - 1 - j := ⟨_, rfl⟩
      have hpi : (n : Int) - 1 - j = p := by omega
      have cp := hc p (by omega)
      have fp := HI.out.fit p
      unfold In64 at fp
      have hpn : (p : Int) < n := by omega
      have hrl : (revC f n j).length ≤ 200 := by rw [revC_len]; omega
      have HP := Lib.hid hp
      rw [hpi]
      clear hc hp hge
      generalize hfp : f p = fp' at *
      go_wp2_with (at_builtin; refine wpList_append_own _ rfl _ _ 43 rfl w.heap.size 2 j0 (.int .i64 0) 1 8 Try.underlying43 hj hjz hj1 hj2 rfl (by decide) _ _ _ rfl (ho.alloc _) ⟨wr.heap.size, 0, none⟩ 1 1 [.int .i64 fp'] rfl rfl (cell_one_new _ _ _) (by simp [Value.oneCell']) (by unfold maxLen; omega) (by omega) (by have := bb.size; first | (simp; done) | (simp; omega)) ?_; intro v' w2 hown' hgrow _)
      go_roundw
      case rel =>
        refine ⟨j + 1, by omega, by (first | (simp; done) | (simp; omega) | (congr 1; omega)), ?_, ?_⟩
        · rw [revC_succ, ← HP.out, hfp, List.length_append]
          exact hown'
        · exact (Below.alloc bb bb.size _).grown hgrow (by have := bb.size; first | (simp; done) | (simp; omega)) (fun q e => (ho.lt q e).1)
      case measure => first | (simp [intOf]; done) | (simp [intOf]; omega)
    · obtain rfl : j = n := by omega
      have hlt : (j : Int) - 1 - j < 0 := by omega
      obtain ⟨av, cv, rfl, hav⟩ := own_ints ho HI.out.fit (by omega)
      have HV := Lib.hid hav
      have hmc : (m : Int) ≤ cap := by omega
      have hm0 : (0 : Int) ≤ m := by omega
      have hmn2 : (m : Int) ≤ j := by omega
      clear ho hav
      go_wp2_with fail
      have mk : ∀ w', Below wr.heap.size wr w' → Below w.heap.size w w' := fun w' h => bb.trans (h.mono bb.size)
      have hir : IntsAt wr a j f := HI.out.below bb
      have C1 := fun w' (h : Below wr.heap.size wr w') => sum_any a j cap f w' (hir.below h)
      have C2 := fun w' (h : Below wr.heap.size wr w') => sum_any a m cap f w' ((hir.head hmn).below h)
      have C3 := fun w' (h : Below wr.heap.size wr w') => sum_any _ (j - m) (cap - m) (fun i => f (m + i)) w' ((hir.tail hmn hcap).below h)
      have C4 := fun w' (h : Below wr.heap.size wr w') => sum_any av j cv (fun i => f (j - 1 - i)) w' (HV.out.below h)
      have C5 := fun w' (h : Below wr.heap.size wr w') => sum_any none 0 0 f w' (IntsAt.mk HI.out.fit (by omega) (fun h => absurd h (by omega)))
      have PP := fun w' (h : Below wr.heap.size wr w') => plus_any (sumZ f m) (sumZ (fun i => f (m + i)) (j - m)) w' (sumZ_wide f HI.out.fit m (by omega)) (sumZ_wide _ (fun k => HI.out.fit _) (j - m) (by omega))
      rw [← sumZ_add, show m + (j - m) = j by omega, w128_of (sumZ_wide f HI.out.fit j (by omega))] at PP
      rw [sumZ_rev] at C4
      have z0 : sumZ f 0 = 0 := rfl
      rw [z0, hi64_zero, lo64_zero] at C5
      have C1 := Lib.hid C1
      have C2 := Lib.hid C2
      have C3 := Lib.hid C3
      have C4 := Lib.hid C4
      have C5 := Lib.hid C5
      have PP := Lib.hid PP
      have MK := Lib.hid mk
      clear hir mk z0
      refine wp_region_along (fun _ => True) [(0, false), (1, true), (2, true), (4, true), (5, true), (6, true), (8, true), (9, true), (10, true), (3, false), (7, false), (11, false), (12, false), (13, true), (14, true), (15, true), (16, true), (18, true), (17, false), (19, false), (20, true), (21, true), (22, true), (24, true), (23, false), (25, true), (26, true), (27, true)] (by kernel_rfl) (by kernel_rfl) trivial ?_
      have tt := Below.drew (Below.refl wr.heap.size wr)
      generalize wr.drew = Y at *
      repeat (first | (refine' along_take (by simp only [List.getElem?_cons_succ, List.getElem?_cons_zero]; rfl) (by rfl) ?_ ?_ ?_; rotate_left 2; (intro w' hS; go_simp; try rfl); (simp only [Act.put, List.setIfInBounds_toArray, List.set_cons_zero, List.set_cons_succ]; try rfl)) | (refine' along_skip (by simp only [List.getElem?_cons_succ, List.getElem?_cons_zero]; rfl) (by rfl) ?_ ?_; rotate_left 1; (simp only [Act.put, List.setIfInBounds_toArray, List.set_cons_zero, List.set_cons_succ]; try rfl)))
      (refine along_do (by simp only [List.getElem?_cons_succ, List.getElem?_cons_zero]; rfl) (by rfl) (fun K hK => ?_); go_simp)
      refine (KK.out _).mono ?_
      rintro e w' ⟨rfl, b1⟩
      have tt := tt.trans (b1.mono tt.size)
      clear b1
      (refine hK _ _ trivial ?_; clear hK K)
      repeat (first | (refine' along_take (by simp only [List.getElem?_cons_succ, List.getElem?_cons_zero]; rfl) (by rfl) ?_ ?_ ?_; rotate_left 2; (intro w' hS; go_simp; try rfl); (simp only [Act.put, List.setIfInBounds_toArray, List.set_cons_zero, List.set_cons_succ]; try rfl)) | (refine' along_skip (by simp only [List.getElem?_cons_succ, List.getElem?_cons_zero]; rfl) (by rfl) ?_ ?_; rotate_left 1; (simp only [Act.put, List.setIfInBounds_toArray, List.set_cons_zero, List.set_cons_succ]; try rfl)))
      (refine along_do (by simp only [List.getElem?_cons_succ, List.getElem?_cons_zero]; rfl) (by rfl) (fun K hK => ?_); go_simp)
      refine (C1.out _ tt).mono ?_
      rintro e w' ⟨rfl, b1⟩
      have tt := tt.trans (b1.mono tt.size)
      clear b1
      (refine hK _ _ trivial ?_; clear hK K)
      repeat (first | (refine' along_take (by simp only [List.getElem?_cons_succ, List.getElem?_cons_zero]; rfl) (by rfl) ?_ ?_ ?_; rotate_left 2; (intro w' hS; go_simp; try rfl); (simp only [Act.put, List.setIfInBounds_toArray, List.set_cons_zero, List.set_cons_succ]; try rfl)) | (refine' along_skip (by simp only [List.getElem?_cons_succ, List.getElem?_cons_zero]; rfl) (by rfl) ?_ ?_; rotate_left 1; (simp only [Act.put, List.setIfInBounds_toArray, List.set_cons_zero, List.set_cons_succ]; try rfl)))
      (refine along_do (by simp only [List.getElem?_cons_succ, List.getElem?_cons_zero]; rfl) (by rfl) (fun K hK => ?_); go_simp)
      refine (C2.out _ tt).mono ?_
      rintro e w' ⟨rfl, b1⟩
      have tt := tt.trans (b1.mono tt.size)
      clear b1
      (refine hK _ _ trivial ?_; clear hK K)
      repeat (first | (refine' along_take (by simp only [List.getElem?_cons_succ, List.getElem?_cons_zero]; rfl) (by rfl) ?_ ?_ ?_; rotate_left 2; (intro w' hS; go_simp; try rfl); (simp only [Act.put, List.setIfInBounds_toArray, List.set_cons_zero, List.set_cons_succ]; try rfl)) | (refine' along_skip (by simp only [List.getElem?_cons_succ, List.getElem?_cons_zero]; rfl) (by rfl) ?_ ?_; rotate_left 1; (simp only [Act.put, List.setIfInBounds_toArray, List.set_cons_zero, List.set_cons_succ]; try rfl)))
      (refine along_do (by simp only [List.getElem?_cons_succ, List.getElem?_cons_zero]; rfl) (by rfl) (fun K hK => ?_); go_simp)
      refine (C3.out _ tt).mono ?_
      rintro e w' ⟨rfl, b1⟩
      have tt := tt.trans (b1.mono tt.size)
      clear b1
      (refine hK _ _ trivial ?_; clear hK K)
      repeat (first | (refine' along_take (by simp only [List.getElem?_cons_succ, List.getElem?_cons_zero]; rfl) (by rfl) ?_ ?_ ?_; rotate_left 2; (intro w' hS; go_simp; try rfl); (simp only [Act.put, List.setIfInBounds_toArray, List.set_cons_zero, List.set_cons_succ]; try rfl)) | (refine' along_skip (by simp only [List.getElem?_cons_succ, List.getElem?_cons_zero]; rfl) (by rfl) ?_ ?_; rotate_left 1; (simp only [Act.put, List.setIfInBounds_toArray, List.set_cons_zero, List.set_cons_succ]; try rfl)))
      (refine along_do (by simp only [List.getElem?_cons_succ, List.getElem?_cons_zero]; rfl) (by rfl) (fun K hK => ?_); go_simp)
      refine (PP.out _ tt).mono ?_
      rintro e w' ⟨rfl, b1⟩
      have tt := tt.trans (b1.mono tt.size)
      clear b1
      (refine hK _ _ trivial ?_; clear hK K)
      repeat (first | (refine' along_take (by simp only [List.getElem?_cons_succ, List.getElem?_cons_zero]; rfl) (by rfl) ?_ ?_ ?_; rotate_left 2; (intro w' hS; go_simp; try rfl); (simp only [Act.put, List.setIfInBounds_toArray, List.set_cons_zero, List.set_cons_succ]; try rfl)) | (refine' along_skip (by simp only [List.getElem?_cons_succ, List.getElem?_cons_zero]; rfl) (by rfl) ?_ ?_; rotate_left 1; (simp only [Act.put, List.setIfInBounds_toArray, List.set_cons_zero, List.set_cons_succ]; try rfl)))
      (refine along_do (by simp only [List.getElem?_cons_succ, List.getElem?_cons_zero]; rfl) (by rfl) (fun K hK => ?_); go_simp)
      refine (C4.out _ tt).mono ?_
      rintro e w' ⟨rfl, b1⟩
      have tt := tt.trans (b1.mono tt.size)
      clear b1
      (refine hK _ _ trivial ?_; clear hK K)
      repeat (first | (refine' along_take (by simp only [List.getElem?_cons_succ, List.getElem?_cons_zero]; rfl) (by rfl) ?_ ?_ ?_; rotate_left 2; (intro w' hS; go_simp; try rfl); (simp only [Act.put, List.setIfInBounds_toArray, List.set_cons_zero, List.set_cons_succ]; try rfl)) | (refine' along_skip (by simp only [List.getElem?_cons_succ, List.getElem?_cons_zero]; rfl) (by rfl) ?_ ?_; rotate_left 1; (simp only [Act.put, List.setIfInBounds_toArray, List.set_cons_zero, List.set_cons_succ]; try rfl)))
      (refine along_do (by simp only [List.getElem?_cons_succ, List.getElem?_cons_zero]; rfl) (by rfl) (fun K hK => ?_); go_simp)
      refine (C1.out _ tt).mono ?_
      rintro e w' ⟨rfl, b1⟩
      have tt := tt.trans (b1.mono tt.size)
      clear b1
      (refine hK _ _ trivial ?_; clear hK K)
      repeat (first | (refine' along_take (by simp only [List.getElem?_cons_succ, List.getElem?_cons_zero]; rfl) (by rfl) ?_ ?_ ?_; rotate_left 2; (intro w' hS; go_simp; try rfl); (simp only [Act.put, List.setIfInBounds_toArray, List.set_cons_zero, List.set_cons_succ]; try rfl)) | (refine' along_skip (by simp only [List.getElem?_cons_succ, List.getElem?_cons_zero]; rfl) (by rfl) ?_ ?_; rotate_left 1; (simp only [Act.put, List.setIfInBounds_toArray, List.set_cons_zero, List.set_cons_succ]; try rfl)))
      (refine along_do (by simp only [List.getElem?_cons_succ, List.getElem?_cons_zero]; rfl) (by rfl) (fun K hK => ?_); go_simp)
      refine (C5.out _ tt).mono ?_
      rintro e w' ⟨rfl, b1⟩
      have tt := tt.trans (b1.mono tt.size)
      clear b1
      (refine hK _ _ trivial ?_; clear hK K)
      repeat (first | (refine' along_take (by simp only [List.getElem?_cons_succ, List.getElem?_cons_zero]; rfl) (by rfl) ?_ ?_ ?_; rotate_left 2; (intro w' hS; go_simp; try rfl); (simp only [Act.put, List.setIfInBounds_toArray, List.set_cons_zero, List.set_cons_succ]; try rfl)) | (refine' along_skip (by simp only [List.getElem?_cons_succ, List.getElem?_cons_zero]; rfl) (by rfl) ?_ ?_; rotate_left 1; (simp only [Act.put, List.setIfInBounds_toArray, List.set_cons_zero, List.set_cons_succ]; try rfl)))
      refine along_end ?_
      go_wp2_with fail
      all_goals (go_ret; exact ⟨rfl, MK.out _ tt⟩)

/-- A slice of integers that came in: it is nil; or it leads to a row of 'cap' cells, the numbers 'zs', each fitting its kind. -/
def IsRow (k : IntKind) (w : World) (a : Option Addr) (len cap : Nat) (zs : List Int) : Prop :=
  (a = none ∧ len = 0 ∧ cap = 0 ∧ zs = []) ∨
  ∃ x, a = some x ∧ len ≤ cap ∧ cap ≤ maxLen ∧ zs.length = cap ∧ (∀ i, i < zs.length → w.cell? (x.add i) = some (.int k (zs.getD i 0))) ∧ ∀ n ∈ zs, (Lit.int k n).wf = true
theorem ints_of_row {w : World} {a : Option Addr} {len cap : Nat} {zs : List Int} (h : IsRow .i64 w a len cap zs) : len ≤ cap ∧ cap ≤ maxLen ∧ (len ≤ 400 → ∃ f, IntsAt w a len f) := by
  rcases h with ⟨rfl, rfl, rfl, rfl⟩ | ⟨x, rfl, hl, hm, hz, hc, hw⟩
  · exact ⟨Nat.le_refl _, Nat.zero_le _, fun _ => ⟨fun _ => 0, fun _ => by unfold In64; omega, Nat.zero_le _, fun h => absurd h (Nat.lt_irrefl _)⟩⟩
  · refine ⟨hl, hm, fun h4 => ⟨fun j => if j < zs.length then zs.getD j 0 else 0, fun j => ?_, h4, fun h0 => ?_⟩⟩
    · by_cases hj : j < zs.length
      · simp only [if_pos hj]
        exact i64_wf (hw (zs.getD j 0) (by simp [List.getD, List.getElem?_eq_getElem hj]))
      · simp only [if_neg hj]
        unfold In64; omega
    · obtain ⟨b, off, spot⟩ := x
      have hspot : spot = none := by simpa [Addr.add] using World.cell?_spot (hc 0 (by omega))
      subst hspot
      refine ⟨b, off, rfl, fun j hj => ?_⟩
      have h1 := hc j (by omega)
      rw [add_flat] at h1
      show w.cell? ⟨b, off + j, none⟩ = some (.int .i64 (if j < zs.length then zs.getD j 0 else 0))
      rw [h1, if_pos (by omega)]
theorem sums_walk (a : Option Addr) (n cap : Nat) (zs : List Int) (k : Int) (w : World) (h : IsRow .i64 w a n cap zs) (hk : (Lit.int .u8 k).wf = true) :
    Calls Try.prog 9 #[.slice a n cap, .int .u8 k] w fun e w' => e = .returned (.bool true) ∧ Below w.heap.size w w' := by
  obtain ⟨h1, h2, h3⟩ := ints_of_row h
  by_cases hn : n ≤ 200
  · obtain ⟨f, hf⟩ := h3 (by omega)
    have := u8_wf hk
    exact sums_short a n cap k f w this.1 this.2 hn h1 h2 hf
  · exact sums_long a n cap k w (by omega) (Nat.le_trans h1 h2)
end Go.Proofs.Ytajihhmohokngaa
