/-
  THE WALK of quittanceref05.Sets.Join.
-/
import Derived.Test.YtincgkcmfhhofaaRefNew
set_option linter.unusedVariables false
set_option linter.unusedSimpArgs false
namespace Go.Proofs.Ytincgkcmfhhofaa
open Go.RowKit Go.Maps Go.ChangeShapes

theorem Tidy.join {n : Nat} {L : Nat → Nat} (h : Tidy n L) (x y : Nat) (ex : L x = x) (ey : L y = y) (hne : x ≠ y) : Tidy n (joinL L x y) := by
  have em : L (min x y) = min x y := by rcases Nat.le_total x y with q | q <;> simp [Nat.min_def, q] <;> (try split) <;> (try assumption) <;> (try omega)
  refine ⟨fun i hi => ?_, fun i hi => ?_⟩
  · have := h.le i hi
    unfold joinL
    split <;> omega
  · have := h.idem i hi
    unfold joinL
    by_cases c : L i = max x y
    · rw [if_pos c, em, if_neg (by omega)]
    · rw [if_neg c, this, if_neg c]
theorem joinL_one (L : Nat → Nat) (x y i : Nat) (h : L i = x ∨ L i = y) : joinL L x y i = min x y := by
  unfold joinL
  split <;> omega
theorem joinL_no (L : Nat → Nat) (x y i : Nat) (h1 : L i ≠ x) (h2 : L i ≠ y) : joinL L x y i = L i := by
  unfold joinL
  split <;> omega
theorem joins_no {n : Nat} {L : Nat → Nat} {a b : Int} (h : leastI n L a < 0 ∨ (¬ leastI n L a < 0 ∧ leastI n L b < 0) ∨ (¬ leastI n L a < 0 ∧ ¬ leastI n L b < 0 ∧ leastI n L a = leastI n L b)) : joins n L a b = false := by
  unfold leastI at h
  unfold joins
  cases q1 : inB n a
  · rfl
  · cases q2 : inB n b
    · rfl
    · rw [q1, q2] at h
      simp only [↓reduceIte] at h
      have : L a.toNat = L b.toNat := by omega
      simp [this]
theorem joins_ok {n : Nat} {L : Nat → Nat} {a b : Int} (ht : Tidy n L) (h1 : ¬ leastI n L a < 0) (h2 : ¬ leastI n L b < 0) (h3 : leastI n L a ≠ leastI n L b) :
    joins n L a b = true ∧ ∃ x y : Nat, leastI n L a = x ∧ leastI n L b = y ∧ x ≠ y ∧ x < n ∧ y < n ∧ L x = x ∧ L y = y ∧ joinI n L a b = joinL L x y := by
  unfold leastI at *
  have i1 : inB n a = true := by cases q1 : inB n a; (rw [q1] at h1; simp at h1); rfl
  have i2 : inB n b = true := by cases q2 : inB n b; (rw [q2] at h2; simp at h2); rfl
  rw [i1, i2] at h3
  simp only [↓reduceIte] at h3
  have e : joins n L a b = true := by
    unfold joins
    rw [i1, i2]
    simp
    omega
  obtain ⟨j1, j2⟩ := inB_yes i1
  obtain ⟨k1, k2⟩ := inB_yes i2
  have a1 := ht.le a.toNat (by omega)
  have b1 := ht.le b.toNat (by omega)
  refine ⟨e, L a.toNat, L b.toNat, by rw [i1]; rfl, by rw [i2]; rfl, by omega, by omega, by omega, ht.idem _ (by omega), ht.idem _ (by omega), ?_⟩
  unfold joinI
  rw [e]
  rfl

set_option maxRecDepth 20000 in
set_option maxHeartbeats 2000000 in
theorem rjoin_any (p : Nat → Prop) (v : Value) (n : Nat) (L : Nat → Nat) (a b : Int) (w : World) (h : RIs p w v n L) :
    Calls Try.prog 21 #[v, .int .i64 a, .int .i64 b] w fun e w' => (∃ v', e = .returned (.tuple #[v', .bool (joins n L a b)]) ∧ RIs (fun k => p k ∨ w.heap.size ≤ k) w' v' n (joinI n L a b)) ∧ Only NoB w w' := by
  have CA : Hid (∀ W, Only NoB w W → Calls Try.prog 24 #[v, .int .i64 a] W fun e w' => e = .returned (.int .i64 (leastI n L a)) ∧ Only NoB W w') := fun W o => rleast_any p v n L a W (h.kept o (fun _ _ f => f))
  have CB : Hid (∀ W, Only NoB w W → Calls Try.prog 24 #[v, .int .i64 b] W fun e w' => e = .returned (.int .i64 (leastI n L b)) ∧ Only NoB W w') := fun W o => rleast_any p v n L b W (h.kept o (fun _ _ f => f))
  have HR := Lib.hid h
  obtain ⟨hn, ht, s, cap, rfl, hc⟩ := h
  have HC := Lib.hid hc
  clear hc
  have hcase : ((leastI n L a < 0) ∨ (¬ leastI n L a < 0 ∧ leastI n L b < 0) ∨ (¬ leastI n L a < 0 ∧ ¬ leastI n L b < 0 ∧ leastI n L a = leastI n L b)) ∨ (¬ leastI n L a < 0 ∧ ¬ leastI n L b < 0 ∧ leastI n L a ≠ leastI n L b) := by omega
  rcases hcase with hno | ⟨g1, g2, g3⟩
  · have j := joins_no hno
    have ji : joinI n L a b = L := joinI_no j
    rw [j, ji]
    clear j ji HC ht
    generalize leastI n L a = x at *
    generalize leastI n L b = y at *
    have fin : ∀ W, Only NoB w W → (∃ v', Ending.returned (.tuple #[.agg #[.slice s n cap], .bool false]) = .returned (.tuple #[v', .bool false]) ∧ RIs (fun k => p k ∨ w.heap.size ≤ k) W v' n L) ∧ Only NoB w W := fun W o => ⟨⟨_, rfl, (HR.out.kept o (fun _ _ f => f)).mono (fun b h => .inl h)⟩, o⟩
    have FIN := Lib.hid fin
    clear fin
    rcases hno with g1 | ⟨g1, g2⟩ | ⟨g1, g2, g3⟩
    · skip
      go_enter Try.func21, Try.ntmps21
      go_wp2_with fail
      have o1 : Only NoB w (w.alloc (.cells #[.slice s n cap] 45)) := (Only.refl _ _).alloc _
      have h1 := heap_alloc_new w (.cells #[.slice s n cap] 45)
      have o2 : Only NoB (w.alloc (.cells #[.slice s n cap] 45)) ((w.alloc (.cells #[.slice s n cap] 45)).alloc (.cells #[.slice none 0 0] 45)) := (Only.refl _ _).alloc _
      have h2 := heap_alloc_new (w.alloc (.cells #[.slice s n cap] 45)) (.cells #[.slice none 0 0] 45)
      have e1 : (w.alloc (.cells #[.slice s n cap] 45)).heap.size = w.heap.size + 1 := by simp
      have h1 := (o2.block w.heap.size (by rw [e1]; omega) (fun f => f)).trans h1
      rw [e1] at h2
      have z2 : ((w.alloc (.cells #[.slice s n cap] 45)).alloc (.cells #[.slice none 0 0] 45)).heap.size = w.heap.size + 2 := by simp
      have o1 := o1.trans o2
      clear o2 e1
      generalize World.alloc (World.alloc w _) _ = W at *
      refine (CA.out _ o1).mono ?_
      rintro e w1 ⟨rfl, oq⟩
      have h1 := (oq.block w.heap.size (by omega) (fun f => f)).trans h1
      have h2 := (oq.block (w.heap.size + 1) (by omega) (fun f => f)).trans h2
      have z2 := Nat.le_trans (Nat.le_of_eq z2.symm) oq.size
      have o1 := o1.trans oq
      clear oq
      have c0 := (cell_in _ _ 0 _ _ _ h1).trans rfl
      go_wp2_with fail
      clear c0
      refine (CB.out _ o1).mono ?_
      rintro e w2 ⟨rfl, oq⟩
      have h1 := (oq.block w.heap.size (by omega) (fun f => f)).trans h1
      have h2 := (oq.block (w.heap.size + 1) (by omega) (fun f => f)).trans h2
      have z2 := Nat.le_trans z2 oq.size
      have o1 := o1.trans oq
      clear oq
      have c0 := (cell_in _ _ 0 _ _ _ h1).trans rfl
      have d0 := (cell_in _ _ 0 _ _ _ h2).trans rfl
      have df := frozen_in _ _ 0 _ _ h2
      have lw := lt_of_heap h2
      have o3 : Only (B1 (w.heap.size + 1)) w2 (w2.setCell ⟨w.heap.size + 1, 0, none⟩ (.slice s n cap)) := Only.setCell (S := B1 (w.heap.size + 1)) (Only.refl _ _) (p := ⟨w.heap.size + 1, 0, none⟩) (fun _ => by unfold B1; rfl) _
      have oo := o1.then o3 (fun i hi e => by unfold B1 at e; omega)
      clear o3
      go_wp2_with fail
      exact bodyPost_ret (v := .tuple #[.agg #[.slice s n cap], .bool false]) (by simp [results, Try.results21, go_sem, c0, d0, df, lw]) rfl (FIN.out _ oo)
    · skip
      go_enter Try.func21, Try.ntmps21
      go_wp2_with fail
      have o1 : Only NoB w (w.alloc (.cells #[.slice s n cap] 45)) := (Only.refl _ _).alloc _
      have h1 := heap_alloc_new w (.cells #[.slice s n cap] 45)
      have o2 : Only NoB (w.alloc (.cells #[.slice s n cap] 45)) ((w.alloc (.cells #[.slice s n cap] 45)).alloc (.cells #[.slice none 0 0] 45)) := (Only.refl _ _).alloc _
      have h2 := heap_alloc_new (w.alloc (.cells #[.slice s n cap] 45)) (.cells #[.slice none 0 0] 45)
      have e1 : (w.alloc (.cells #[.slice s n cap] 45)).heap.size = w.heap.size + 1 := by simp
      have h1 := (o2.block w.heap.size (by rw [e1]; omega) (fun f => f)).trans h1
      rw [e1] at h2
      have z2 : ((w.alloc (.cells #[.slice s n cap] 45)).alloc (.cells #[.slice none 0 0] 45)).heap.size = w.heap.size + 2 := by simp
      have o1 := o1.trans o2
      clear o2 e1
      generalize World.alloc (World.alloc w _) _ = W at *
      refine (CA.out _ o1).mono ?_
      rintro e w1 ⟨rfl, oq⟩
      have h1 := (oq.block w.heap.size (by omega) (fun f => f)).trans h1
      have h2 := (oq.block (w.heap.size + 1) (by omega) (fun f => f)).trans h2
      have z2 := Nat.le_trans (Nat.le_of_eq z2.symm) oq.size
      have o1 := o1.trans oq
      clear oq
      have c0 := (cell_in _ _ 0 _ _ _ h1).trans rfl
      go_wp2_with fail
      clear c0
      refine (CB.out _ o1).mono ?_
      rintro e w2 ⟨rfl, oq⟩
      have h1 := (oq.block w.heap.size (by omega) (fun f => f)).trans h1
      have h2 := (oq.block (w.heap.size + 1) (by omega) (fun f => f)).trans h2
      have z2 := Nat.le_trans z2 oq.size
      have o1 := o1.trans oq
      clear oq
      have c0 := (cell_in _ _ 0 _ _ _ h1).trans rfl
      have d0 := (cell_in _ _ 0 _ _ _ h2).trans rfl
      have df := frozen_in _ _ 0 _ _ h2
      have lw := lt_of_heap h2
      have o3 : Only (B1 (w.heap.size + 1)) w2 (w2.setCell ⟨w.heap.size + 1, 0, none⟩ (.slice s n cap)) := Only.setCell (S := B1 (w.heap.size + 1)) (Only.refl _ _) (p := ⟨w.heap.size + 1, 0, none⟩) (fun _ => by unfold B1; rfl) _
      have oo := o1.then o3 (fun i hi e => by unfold B1 at e; omega)
      clear o3
      go_wp2_with fail
      exact bodyPost_ret (v := .tuple #[.agg #[.slice s n cap], .bool false]) (by simp [results, Try.results21, go_sem, c0, d0, df, lw]) rfl (FIN.out _ oo)
    · subst g3
      go_enter Try.func21, Try.ntmps21
      go_wp2_with fail
      have o1 : Only NoB w (w.alloc (.cells #[.slice s n cap] 45)) := (Only.refl _ _).alloc _
      have h1 := heap_alloc_new w (.cells #[.slice s n cap] 45)
      have o2 : Only NoB (w.alloc (.cells #[.slice s n cap] 45)) ((w.alloc (.cells #[.slice s n cap] 45)).alloc (.cells #[.slice none 0 0] 45)) := (Only.refl _ _).alloc _
      have h2 := heap_alloc_new (w.alloc (.cells #[.slice s n cap] 45)) (.cells #[.slice none 0 0] 45)
      have e1 : (w.alloc (.cells #[.slice s n cap] 45)).heap.size = w.heap.size + 1 := by simp
      have h1 := (o2.block w.heap.size (by rw [e1]; omega) (fun f => f)).trans h1
      rw [e1] at h2
      have z2 : ((w.alloc (.cells #[.slice s n cap] 45)).alloc (.cells #[.slice none 0 0] 45)).heap.size = w.heap.size + 2 := by simp
      have o1 := o1.trans o2
      clear o2 e1
      generalize World.alloc (World.alloc w _) _ = W at *
      refine (CA.out _ o1).mono ?_
      rintro e w1 ⟨rfl, oq⟩
      have h1 := (oq.block w.heap.size (by omega) (fun f => f)).trans h1
      have h2 := (oq.block (w.heap.size + 1) (by omega) (fun f => f)).trans h2
      have z2 := Nat.le_trans (Nat.le_of_eq z2.symm) oq.size
      have o1 := o1.trans oq
      clear oq
      have c0 := (cell_in _ _ 0 _ _ _ h1).trans rfl
      go_wp2_with fail
      clear c0
      refine (CB.out _ o1).mono ?_
      rintro e w2 ⟨rfl, oq⟩
      have h1 := (oq.block w.heap.size (by omega) (fun f => f)).trans h1
      have h2 := (oq.block (w.heap.size + 1) (by omega) (fun f => f)).trans h2
      have z2 := Nat.le_trans z2 oq.size
      have o1 := o1.trans oq
      clear oq
      have c0 := (cell_in _ _ 0 _ _ _ h1).trans rfl
      have d0 := (cell_in _ _ 0 _ _ _ h2).trans rfl
      have df := frozen_in _ _ 0 _ _ h2
      have lw := lt_of_heap h2
      have o3 : Only (B1 (w.heap.size + 1)) w2 (w2.setCell ⟨w.heap.size + 1, 0, none⟩ (.slice s n cap)) := Only.setCell (S := B1 (w.heap.size + 1)) (Only.refl _ _) (p := ⟨w.heap.size + 1, 0, none⟩) (fun _ => by unfold B1; rfl) _
      have oo := o1.then o3 (fun i hi e => by unfold B1 at e; omega)
      clear o3
      go_wp2_with fail
      exact bodyPost_ret (v := .tuple #[.agg #[.slice s n cap], .bool false]) (by simp [results, Try.results21, go_sem, c0, d0, df, lw]) rfl (FIN.out _ oo)
  · obtain ⟨jy, x, y, ex, ey, hxy, hx, hy, lx, ly, ji⟩ := joins_ok ht g1 g2 g3
    rw [jy, ji]
    have tj := ht.join x y lx ly hxy
    rw [ex] at CA
    rw [ey] at CB
    have TJ := Lib.hid tj
    clear ex ey jy ji g1 g2 g3 ht lx ly tj
    go_enter Try.func21, Try.ntmps21
    go_wp2_with fail
    have o1 : Only NoB w (w.alloc (.cells #[.slice s n cap] 45)) := (Only.refl _ _).alloc _
    have h1 := heap_alloc_new w (.cells #[.slice s n cap] 45)
    have o2 : Only NoB (w.alloc (.cells #[.slice s n cap] 45)) ((w.alloc (.cells #[.slice s n cap] 45)).alloc (.cells #[.slice none 0 0] 45)) := (Only.refl _ _).alloc _
    have h2 := heap_alloc_new (w.alloc (.cells #[.slice s n cap] 45)) (.cells #[.slice none 0 0] 45)
    have e1 : (w.alloc (.cells #[.slice s n cap] 45)).heap.size = w.heap.size + 1 := by simp
    have h1 := (o2.block w.heap.size (by rw [e1]; omega) (fun f => f)).trans h1
    rw [e1] at h2
    have z2 : ((w.alloc (.cells #[.slice s n cap] 45)).alloc (.cells #[.slice none 0 0] 45)).heap.size = w.heap.size + 2 := by simp
    have o1 := o1.trans o2
    clear o2 e1
    generalize World.alloc (World.alloc w _) _ = W at *
    refine (CA.out _ o1).mono ?_
    rintro e w1 ⟨rfl, oq⟩
    have h1 := (oq.block w.heap.size (by omega) (fun f => f)).trans h1
    have h2 := (oq.block (w.heap.size + 1) (by omega) (fun f => f)).trans h2
    have z2 := Nat.le_trans (Nat.le_of_eq z2.symm) oq.size
    have o1 := o1.trans oq
    clear oq
    have c0 := (cell_in _ _ 0 _ _ _ h1).trans rfl
    go_wp2_with fail
    clear c0
    refine (CB.out _ o1).mono ?_
    rintro e w2 ⟨rfl, oq⟩
    have h1 := (oq.block w.heap.size (by omega) (fun f => f)).trans h1
    have h2 := (oq.block (w.heap.size + 1) (by omega) (fun f => f)).trans h2
    have z2 := Nat.le_trans z2 oq.size
    have o1 := o1.trans oq
    clear oq
    have c0 := (cell_in _ _ 0 _ _ _ h1).trans rfl
    have g1 : ¬ (x : Int) < 0 := by omega
    have g3 : ((x : Int) == (y : Int)) = false := by simp; omega
    clear c0
    go_wp2_with fail
    have oa : Only NoB w2 (w2.alloc (.cells #[.slice none 0 0] 45)) := (Only.refl _ _).alloc _
    have h3 := heap_alloc_new w2 (.cells #[.slice none 0 0] 45)
    have h1 := (oa.block w.heap.size (by omega) (fun f => f)).trans h1
    have h2 := (oa.block (w.heap.size + 1) (by omega) (fun f => f)).trans h2
    have o1 := o1.trans oa
    have z3 : w2.heap.size + 1 = (w2.alloc (.cells #[.slice none 0 0] 45)).heap.size := by simp
    clear oa
    generalize World.alloc w2 _ = w3 at *
    generalize w2.heap.size = q at *
    obtain ⟨i0, hi, hz0, hz1, hz2⟩ := info_parts Try.info3
    go_loopw [11] (fun t wr => ∃ (k : Nat) (l : Value), k ≤ n ∧ t = .int .i64 k ∧ wr.heap[w.heap.size]? = some (.cells #[.slice s n cap] 45 (0, 0)) ∧ wr.heap[w.heap.size + 1]? = some (.cells #[.slice none 0 0] 45 (0, 0)) ∧ wr.heap[q]? = some (.cells #[l] 45 (0, 0)) ∧ wr.ownsInts (q + 1) 3 .i64 l (intsL (joinL L x y) k) ∧ Only NoB w wr ∧ q + 1 ≤ wr.heap.size)
      (fun t _ => n - (intOf t).toNat)
    case atStart => exact ⟨0, _, Nat.zero_le _, rfl, h1, h2, h3, World.ownsInts_nil _ _ _ _, o1, by omega⟩
    case round =>
      clear h1 h2 h3 o1 g1 g3
      obtain ⟨k, l, hk, rfl, g1, g2, g3, hoi, oR, z4⟩ := hrel
      have c0 := (cell_in _ _ 0 _ _ _ g1).trans rfl
      have c3 := (cell_in _ _ 0 _ _ _ g3).trans rfl
      by_cases lt : k < n
      · have lti : (k : Int) < n := by omega
        obtain ⟨bb, oo, rfl, hp, hc⟩ := HC.out (by omega)
        have ek := oR.cell (hc k lt) (fun f => f)
        have il := intsL_len (joinL L x y) k
        obtain ⟨la, lb, lc, rfl⟩ := owns_slice hoi
        have lk := HR.out.2.1.le k lt
        have HN := Lib.hid hn
        have hk1 : k < 1000 := by omega
        clear hc
        by_cases e1 : L k = x
        · have jv := joinL_one L x y k (.inl e1)
          rw [e1] at ek
          clear e1
          rcases Nat.lt_or_gt_of_ne hxy with xy | xy
          · have xy1 : (x : Int) < (y : Int) := by omega
            have xy2 : (x : Int) ≤ (y : Int) := by omega
            rw [Nat.min_eq_left (by omega)] at jv
            have JV := Lib.hid jv
            clear jv xy
            go_wp2_with (at_builtin; refine wpList_append_own_at _ rfl _ _ 28 rfl (q + 1) 3 i0 (.int .i64 0) 1 8 Try.underlying28 hi hz0 hz1 hz2 rfl (by decide) _ _ _ rfl (hoi.1.alloc _) ⟨wr.heap.size, 0, none⟩ 1 1 [.int .i64 x] rfl rfl (cell_one_new _ _ _) (ints_oneCell .i64 [(x : Int)]) (by unfold maxLen; omega) (by omega) (by simp; omega) ?_; intro v' w4 hown' hgrow hnil hloc; have hn2 := hoi.appended hown' (WalkArith.wf_i64 (by omega)); have f1 := grow_keep hoi hgrow g1 (by omega); have f2 := grow_keep hoi hgrow g2 (by omega); have f3 := grow_keep hoi hgrow g3 (by omega); have gf := frozen_in _ _ 0 _ _ f3; have gc := (cell_in _ _ 0 _ _ _ f3).trans rfl; obtain ⟨ma, mb, mc, rfl⟩ := owns_slice hn2)
            have oo2 := (oR.alloc (.cells #[.int .i64 x] 3)).grown hgrow (fun t ht e => absurd (hoi.1.lt t e).1 (by omega))
            have zz := hgrow.size
            have zx : (wr.alloc (.cells #[.int .i64 x] 3)).heap.size = wr.heap.size + 1 := by simp
            have q1 := (Below.heap_setCell w4 ⟨q, 0, none⟩ (.slice ma mb mc) w.heap.size (by simp; omega)).trans f1
            have q2 := (Below.heap_setCell w4 ⟨q, 0, none⟩ (.slice ma mb mc) (w.heap.size + 1) (by simp; omega)).trans f2
            have q3 := heap_setCell_at w4 q 0 (.slice ma mb mc) _ _ _ f3
            have o3 : Only (B1 q) w4 (w4.setCell ⟨q, 0, none⟩ (.slice ma mb mc)) := Only.setCell (S := B1 q) (Only.refl _ _) (p := ⟨q, 0, none⟩) (fun _ => by unfold B1; rfl) _
            go_roundw
            case rel => exact ⟨k + 1, _, by omega, by go_num, q1, q2, q3, by rw [intsL_succ, JV.out]; exact owns_stay hn2 o3 (fun i hi _ e => by unfold B1 at e; omega), oo2.then o3 (fun i hi e => by unfold B1 at e; omega), by have := o3.size; omega⟩
            case measure => simp [intOf]; omega
          · have xy1 : ¬ (x : Int) < (y : Int) := by omega
            have xy2 : ¬ (x : Int) ≤ (y : Int) := by omega
            have xy3 : (y : Int) < (x : Int) := by omega
            have xy4 : (y : Int) ≤ (x : Int) := by omega
            rw [Nat.min_eq_right (by omega)] at jv
            have JV := Lib.hid jv
            clear jv xy
            go_wp2_with (at_builtin; refine wpList_append_own_at _ rfl _ _ 28 rfl (q + 1) 3 i0 (.int .i64 0) 1 8 Try.underlying28 hi hz0 hz1 hz2 rfl (by decide) _ _ _ rfl (hoi.1.alloc _) ⟨wr.heap.size, 0, none⟩ 1 1 [.int .i64 y] rfl rfl (cell_one_new _ _ _) (ints_oneCell .i64 [(y : Int)]) (by unfold maxLen; omega) (by omega) (by simp; omega) ?_; intro v' w4 hown' hgrow hnil hloc; have hn2 := hoi.appended hown' (WalkArith.wf_i64 (by omega)); have f1 := grow_keep hoi hgrow g1 (by omega); have f2 := grow_keep hoi hgrow g2 (by omega); have f3 := grow_keep hoi hgrow g3 (by omega); have gf := frozen_in _ _ 0 _ _ f3; have gc := (cell_in _ _ 0 _ _ _ f3).trans rfl; obtain ⟨ma, mb, mc, rfl⟩ := owns_slice hn2)
            have oo2 := (oR.alloc (.cells #[.int .i64 y] 3)).grown hgrow (fun t ht e => absurd (hoi.1.lt t e).1 (by omega))
            have zz := hgrow.size
            have zx : (wr.alloc (.cells #[.int .i64 y] 3)).heap.size = wr.heap.size + 1 := by simp
            have q1 := (Below.heap_setCell w4 ⟨q, 0, none⟩ (.slice ma mb mc) w.heap.size (by simp; omega)).trans f1
            have q2 := (Below.heap_setCell w4 ⟨q, 0, none⟩ (.slice ma mb mc) (w.heap.size + 1) (by simp; omega)).trans f2
            have q3 := heap_setCell_at w4 q 0 (.slice ma mb mc) _ _ _ f3
            have o3 : Only (B1 q) w4 (w4.setCell ⟨q, 0, none⟩ (.slice ma mb mc)) := Only.setCell (S := B1 q) (Only.refl _ _) (p := ⟨q, 0, none⟩) (fun _ => by unfold B1; rfl) _
            go_roundw
            case rel => exact ⟨k + 1, _, by omega, by go_num, q1, q2, q3, by rw [intsL_succ, JV.out]; exact owns_stay hn2 o3 (fun i hi _ e => by unfold B1 at e; omega), oo2.then o3 (fun i hi e => by unfold B1 at e; omega), by have := o3.size; omega⟩
            case measure => simp [intOf]; omega
        · by_cases e2 : L k = y
          · have jv := joinL_one L x y k (.inr e2)
            have b1 : ((y : Int) == (x : Int)) = false := by simp; omega
            rw [e2] at ek
            clear e1 e2
            rcases Nat.lt_or_gt_of_ne hxy with xy | xy
            · have xy1 : (x : Int) < (y : Int) := by omega
              have xy2 : (x : Int) ≤ (y : Int) := by omega
              rw [Nat.min_eq_left (by omega)] at jv
              have JV := Lib.hid jv
              clear jv xy
              go_wp2_with (at_builtin; refine wpList_append_own_at _ rfl _ _ 28 rfl (q + 1) 3 i0 (.int .i64 0) 1 8 Try.underlying28 hi hz0 hz1 hz2 rfl (by decide) _ _ _ rfl (hoi.1.alloc _) ⟨wr.heap.size, 0, none⟩ 1 1 [.int .i64 x] rfl rfl (cell_one_new _ _ _) (ints_oneCell .i64 [(x : Int)]) (by unfold maxLen; omega) (by omega) (by simp; omega) ?_; intro v' w4 hown' hgrow hnil hloc; have hn2 := hoi.appended hown' (WalkArith.wf_i64 (by omega)); have f1 := grow_keep hoi hgrow g1 (by omega); have f2 := grow_keep hoi hgrow g2 (by omega); have f3 := grow_keep hoi hgrow g3 (by omega); have gf := frozen_in _ _ 0 _ _ f3; have gc := (cell_in _ _ 0 _ _ _ f3).trans rfl; obtain ⟨ma, mb, mc, rfl⟩ := owns_slice hn2)
              have oo2 := (oR.alloc (.cells #[.int .i64 x] 3)).grown hgrow (fun t ht e => absurd (hoi.1.lt t e).1 (by omega))
              have zz := hgrow.size
              have zx : (wr.alloc (.cells #[.int .i64 x] 3)).heap.size = wr.heap.size + 1 := by simp
              have q1 := (Below.heap_setCell w4 ⟨q, 0, none⟩ (.slice ma mb mc) w.heap.size (by simp; omega)).trans f1
              have q2 := (Below.heap_setCell w4 ⟨q, 0, none⟩ (.slice ma mb mc) (w.heap.size + 1) (by simp; omega)).trans f2
              have q3 := heap_setCell_at w4 q 0 (.slice ma mb mc) _ _ _ f3
              have o3 : Only (B1 q) w4 (w4.setCell ⟨q, 0, none⟩ (.slice ma mb mc)) := Only.setCell (S := B1 q) (Only.refl _ _) (p := ⟨q, 0, none⟩) (fun _ => by unfold B1; rfl) _
              go_roundw
              case rel => exact ⟨k + 1, _, by omega, by go_num, q1, q2, q3, by rw [intsL_succ, JV.out]; exact owns_stay hn2 o3 (fun i hi _ e => by unfold B1 at e; omega), oo2.then o3 (fun i hi e => by unfold B1 at e; omega), by have := o3.size; omega⟩
              case measure => simp [intOf]; omega
            · have xy1 : ¬ (x : Int) < (y : Int) := by omega
              have xy2 : ¬ (x : Int) ≤ (y : Int) := by omega
              have xy3 : (y : Int) < (x : Int) := by omega
              have xy4 : (y : Int) ≤ (x : Int) := by omega
              rw [Nat.min_eq_right (by omega)] at jv
              have JV := Lib.hid jv
              clear jv xy
              go_wp2_with (at_builtin; refine wpList_append_own_at _ rfl _ _ 28 rfl (q + 1) 3 i0 (.int .i64 0) 1 8 Try.underlying28 hi hz0 hz1 hz2 rfl (by decide) _ _ _ rfl (hoi.1.alloc _) ⟨wr.heap.size, 0, none⟩ 1 1 [.int .i64 y] rfl rfl (cell_one_new _ _ _) (ints_oneCell .i64 [(y : Int)]) (by unfold maxLen; omega) (by omega) (by simp; omega) ?_; intro v' w4 hown' hgrow hnil hloc; have hn2 := hoi.appended hown' (WalkArith.wf_i64 (by omega)); have f1 := grow_keep hoi hgrow g1 (by omega); have f2 := grow_keep hoi hgrow g2 (by omega); have f3 := grow_keep hoi hgrow g3 (by omega); have gf := frozen_in _ _ 0 _ _ f3; have gc := (cell_in _ _ 0 _ _ _ f3).trans rfl; obtain ⟨ma, mb, mc, rfl⟩ := owns_slice hn2)
              have oo2 := (oR.alloc (.cells #[.int .i64 y] 3)).grown hgrow (fun t ht e => absurd (hoi.1.lt t e).1 (by omega))
              have zz := hgrow.size
              have zx : (wr.alloc (.cells #[.int .i64 y] 3)).heap.size = wr.heap.size + 1 := by simp
              have q1 := (Below.heap_setCell w4 ⟨q, 0, none⟩ (.slice ma mb mc) w.heap.size (by simp; omega)).trans f1
              have q2 := (Below.heap_setCell w4 ⟨q, 0, none⟩ (.slice ma mb mc) (w.heap.size + 1) (by simp; omega)).trans f2
              have q3 := heap_setCell_at w4 q 0 (.slice ma mb mc) _ _ _ f3
              have o3 : Only (B1 q) w4 (w4.setCell ⟨q, 0, none⟩ (.slice ma mb mc)) := Only.setCell (S := B1 q) (Only.refl _ _) (p := ⟨q, 0, none⟩) (fun _ => by unfold B1; rfl) _
              go_roundw
              case rel => exact ⟨k + 1, _, by omega, by go_num, q1, q2, q3, by rw [intsL_succ, JV.out]; exact owns_stay hn2 o3 (fun i hi _ e => by unfold B1 at e; omega), oo2.then o3 (fun i hi e => by unfold B1 at e; omega), by have := o3.size; omega⟩
              case measure => simp [intOf]; omega
          · have jv := joinL_no L x y k e1 e2
            have b1 : (((L k : Nat) : Int) == (x : Int)) = false := by simp; omega
            have b2 : (((L k : Nat) : Int) == (y : Int)) = false := by simp; omega
            clear e1 e2
            generalize L k = z at *
            have JV := Lib.hid jv
            clear jv
            go_wp2_with (at_builtin; refine wpList_append_own_at _ rfl _ _ 28 rfl (q + 1) 3 i0 (.int .i64 0) 1 8 Try.underlying28 hi hz0 hz1 hz2 rfl (by decide) _ _ _ rfl (hoi.1.alloc _) ⟨wr.heap.size, 0, none⟩ 1 1 [.int .i64 z] rfl rfl (cell_one_new _ _ _) (ints_oneCell .i64 [(z : Int)]) (by unfold maxLen; omega) (by omega) (by simp; omega) ?_; intro v' w4 hown' hgrow hnil hloc; have hn2 := hoi.appended hown' (WalkArith.wf_i64 (by omega)); have f1 := grow_keep hoi hgrow g1 (by omega); have f2 := grow_keep hoi hgrow g2 (by omega); have f3 := grow_keep hoi hgrow g3 (by omega); have gf := frozen_in _ _ 0 _ _ f3; have gc := (cell_in _ _ 0 _ _ _ f3).trans rfl; obtain ⟨ma, mb, mc, rfl⟩ := owns_slice hn2)
            have oo2 := (oR.alloc (.cells #[.int .i64 z] 3)).grown hgrow (fun t ht e => absurd (hoi.1.lt t e).1 (by omega))
            have zz := hgrow.size
            have zx : (wr.alloc (.cells #[.int .i64 z] 3)).heap.size = wr.heap.size + 1 := by simp
            have q1 := (Below.heap_setCell w4 ⟨q, 0, none⟩ (.slice ma mb mc) w.heap.size (by simp; omega)).trans f1
            have q2 := (Below.heap_setCell w4 ⟨q, 0, none⟩ (.slice ma mb mc) (w.heap.size + 1) (by simp; omega)).trans f2
            have q3 := heap_setCell_at w4 q 0 (.slice ma mb mc) _ _ _ f3
            have o3 : Only (B1 q) w4 (w4.setCell ⟨q, 0, none⟩ (.slice ma mb mc)) := Only.setCell (S := B1 q) (Only.refl _ _) (p := ⟨q, 0, none⟩) (fun _ => by unfold B1; rfl) _
            go_roundw
            case rel => exact ⟨k + 1, _, by omega, by go_num, q1, q2, q3, by rw [intsL_succ, JV.out]; exact owns_stay hn2 o3 (fun i hi _ e => by unfold B1 at e; omega), oo2.then o3 (fun i hi e => by unfold B1 at e; omega), by have := o3.size; omega⟩
            case measure => simp [intOf]; omega
      · obtain rfl : n = k := by omega
        obtain ⟨la, lb, lc, rfl⟩ := owns_slice hoi
        have d0 := (cell_in _ _ 0 _ _ _ g2).trans rfl
        have df := frozen_in _ _ 0 _ _ g2
        have lw := lt_of_heap g2
        have o3 : Only (B1 (w.heap.size + 1)) wr (wr.setCell ⟨w.heap.size + 1, 0, none⟩ (.slice la lb lc)) := Only.setCell (S := B1 (w.heap.size + 1)) (Only.refl _ _) (p := ⟨w.heap.size + 1, 0, none⟩) (fun _ => by unfold B1; rfl) _
        have hn2 := owns_stay hoi o3 (fun i hi _ e => by unfold B1 at e; omega)
        have FR := Lib.hid ((ris_of_owns hn2 hn TJ.out).mono (q := fun k => p k ∨ w.heap.size ≤ k) (fun b hb => .inr (by omega)))
        have FO := Lib.hid (oR.then o3 (fun i hi e => by unfold B1 at e; omega))
        clear hn2 o3 HC
        go_wp2_with fail
        exact bodyPost_ret (v := .tuple #[.agg #[.slice la lb lc], .bool true]) (by simp [results, Try.results21, go_sem, c3, d0, df, lw]) rfl ⟨⟨_, rfl, FR.out⟩, FO.out⟩
end Go.Proofs.Ytincgkcmfhhofaa
