import Derived.Test.YtajihhmohokngaaTimesLaw
set_option linter.unusedVariables false
set_option linter.unusedSimpArgs false
namespace Go.Proofs.Ytajihhmohokngaa
open Go.RowKit

theorem at_world {P : Program} {c : Code} {Q : Exit → Act → World → Prop} {a : Act} {w : World} (h : ∀ W, W = w → c.wp P Q a W) : c.wp P Q a w := h _ rfl
/-- a wide number's two cells -/
def WideAt (w : World) (b : Nat) (x : Int) : Prop := w.cell? ⟨b, 0, none⟩ = some (.int .i64 (hi64 x)) ∧ w.cell? ⟨b, 1, none⟩ = some (.int .u64 (lo64 x)) ∧ b < w.heap.size
theorem WideAt.kept {w w' : World} {b B : Nat} {x : Int} (h : WideAt w b x) (k : Below B w w') (hb : b < B) : WideAt w' b x :=
  ⟨(k.cell hb).trans h.1, (k.cell hb).trans h.2.1, Nat.lt_of_lt_of_le h.2.2 k.size⟩
def lay (w : World) (x : Int) : World := w.alloc (.cells #[.int .i64 (hi64 x), .int .u64 (lo64 x)] 27)
theorem lay_ok (w : World) (x : Int) : Below w.heap.size w (lay w x) ∧ WideAt (lay w x) w.heap.size x :=
  ⟨Below.alloc (Below.refl _ _) (Nat.le_refl _) _, by simp [lay], by simp [lay], by simp [lay]⟩
theorem WideAt.below {w w' : World} {b : Nat} {x : Int} (h : WideAt w b x) (k : Below w.heap.size w w') : WideAt w' b x := h.kept k h.2.2

set_option maxHeartbeats 2000000 in
theorem order_walk (a b c : Int) (w : World) (ha : In64 a) (hb : In64 b) (hc : In64 c) :
    Calls Try.prog 7 #[.int .i64 a, .int .i64 b, .int .i64 c] w fun e w' => e = .returned (.bool true) ∧ Below w.heap.size w w' := by
  have KK := Lib.hid (fun w => known_any w)
  have O1 := Lib.hid (fun w => of_any a w ha)
  have O2 := Lib.hid (fun w => of_any b w hb)
  have T := Lib.hid (fun w => times_any c 1099511627776 w hc (by unfold In64; omega))
  obtain ⟨z, hz⟩ : ∃ z, c * 1099511627776 = z := ⟨_, rfl⟩
  rw [hz] at T
  have z1 : In128 z := by unfold In64 at hc; unfold In128; omega
  have s1 : In128 (a + z) := by unfold In64 at hc ha; unfold In128; omega
  have s2 : In128 (b + z) := by unfold In64 at hc hb; unfold In128; omega
  have d1 : In128 (z - b) := by unfold In64 at hc hb; unfold In128; omega
  have d2 : In128 (z - a) := by unfold In64 at hc ha; unfold In128; omega
  have P1 := fun w => plus_any a z w ha.wide z1
  have P2 := fun w => plus_any b z w hb.wide z1
  have N1 := fun w => minus_any z b w z1 hb.wide
  have N2 := fun w => minus_any z a w z1 ha.wide
  rw [w128_of s1] at P1
  rw [w128_of s2] at P2
  rw [w128_of d1] at N1
  rw [w128_of d2] at N2
  have P1 := Lib.hid P1
  have P2 := Lib.hid P2
  have N1 := Lib.hid N1
  have N2 := Lib.hid N2
  have c2 : cmpI (a + z) (b + z) = cmpI a b := by unfold cmpI; repeat (first | omega | split)
  have c3 : cmpI (z - b) (z - a) = cmpI a b := by unfold cmpI; repeat (first | omega | split)
  have C1 := fun w => compare_any a b w
  have C2 := fun w => compare_any (a + z) (b + z) w
  have C3 := fun w => compare_any (z - b) (z - a) w
  rw [c2] at C2
  rw [c3] at C3
  have hcmp : (a < b ∧ cmpI a b = -1) ∨ (¬ a < b ∧ b < a ∧ cmpI a b = 1) ∨ (¬ a < b ∧ ¬ b < a ∧ cmpI a b = 0) := by unfold cmpI; repeat (first | omega | split)
  generalize cmpI a b = t at *
  have C1 := Lib.hid C1
  have C2 := Lib.hid C2
  have C3 := Lib.hid C3
  clear c2 c3 hz s1 s2 d1 d2 z1 ha hb hc
  have bb := Below.refl w.heap.size w
  rcases hcmp with ⟨h1, rfl⟩ | ⟨h1, h2, rfl⟩ | ⟨h1, h2, rfl⟩
  · skip
    skip
    go_enter Try.func7, Try.ntmps7
    go_wp2_with fail
    refine (O1.out _).mono ?_
    rintro e w1 ⟨rfl, b1⟩
    have bb := bb.trans (b1.mono bb.size)
    clear b1
    go_wp2_with fail
    have L1 := lay_ok w1 a
    change Calls _ _ _ (lay w1 a) _
    generalize lay w1 a = X1 at *
    have bb := bb.trans (L1.1.mono bb.size)
    generalize w1.heap.size = p1 at *
    refine (O2.out _).mono ?_
    rintro e w2 ⟨rfl, b2⟩
    have bb := bb.trans (b2.mono bb.size)
    have i1 := L1.2.below b2
    clear b2 L1
    go_wp2_with fail
    have L2 := lay_ok w2 b
    change Calls _ _ _ (lay w2 b) _
    generalize lay w2 b = X2 at *
    have bb := bb.trans (L2.1.mono bb.size)
    have i1 := i1.below L2.1
    generalize w2.heap.size = p2 at *
    refine (T.out _).mono ?_
    rintro e w3 ⟨rfl, b3⟩
    have bb := bb.trans (b3.mono bb.size)
    have i2 := L2.2.below b3
    have i1 := i1.below b3
    clear b3 L2
    go_wp2_with fail
    have L3 := lay_ok w3 z
    refine at_world ?_
    intro W hW
    change W = lay w3 z at hW
    subst hW
    have bb := bb.trans (L3.1.mono bb.size)
    have i1 := i1.below L3.1
    have i2 := i2.below L3.1
    have i3 := L3.2
    generalize lay w3 z = W at *
    generalize w3.heap.size = p3 at *
    clear L3
    have mk : ∀ w', Below W.heap.size W w' → Below w.heap.size w w' ∧ WideAt w' p1 a ∧ WideAt w' p2 b ∧ WideAt w' p3 z := fun w' h => ⟨bb.trans (h.mono bb.size), i1.below h, i2.below h, i3.below h⟩
    unfold WideAt at mk
    clear bb i1 i2 i3
    have MK := Lib.hid mk
    clear mk
    refine wp_region_along (fun w' => Below w.heap.size w w' ∧ ((w'.cell? ⟨p1, 0, none⟩ = some (.int .i64 (hi64 a)) ∧ w'.cell? ⟨p1, 1, none⟩ = some (.int .u64 (lo64 a)) ∧ p1 < w'.heap.size) ∧ (w'.cell? ⟨p2, 0, none⟩ = some (.int .i64 (hi64 b)) ∧ w'.cell? ⟨p2, 1, none⟩ = some (.int .u64 (lo64 b)) ∧ p2 < w'.heap.size) ∧ (w'.cell? ⟨p3, 0, none⟩ = some (.int .i64 (hi64 z)) ∧ w'.cell? ⟨p3, 1, none⟩ = some (.int .u64 (lo64 z)) ∧ p3 < w'.heap.size))) [(0, false), (1, true), (2, true), (3, true), (5, true), (4, false), (6, true), (7, true), (8, true), (9, true), (10, true), (12, true), (13, true), (16, true), (11, false), (14, false), (15, false), (17, true), (18, true), (19, true), (20, true), (21, true), (23, true), (24, true), (27, true), (22, false), (25, false), (26, false), (28, true), (29, true), (30, true)] (by kernel_rfl) (by kernel_rfl) ?_ ?_
    · exact MK.out _ (Below.drew (Below.refl _ _))
    · have tt := Below.drew (Below.refl W.heap.size W)
      generalize W.drew = Y at *
      repeat (first | (refine' along_take (by simp only [List.getElem?_cons_succ, List.getElem?_cons_zero]; rfl) (by rfl) ?_ ?_ ?_; rotate_left 2; (intro w' hS; go_simp; try rfl); (simp only [Act.put, List.setIfInBounds_toArray, List.set_cons_zero, List.set_cons_succ]; try rfl)) | (refine' along_skip (by simp only [List.getElem?_cons_succ, List.getElem?_cons_zero]; rfl) (by rfl) ?_ ?_; rotate_left 1; (simp only [Act.put, List.setIfInBounds_toArray, List.set_cons_zero, List.set_cons_succ]; try rfl)))
      (refine along_do (by simp only [List.getElem?_cons_succ, List.getElem?_cons_zero]; rfl) (by rfl) (fun K hK => ?_); go_simp)
      refine (KK.out _).mono ?_
      rintro e w' ⟨rfl, b1⟩
      have tt := tt.trans (b1.mono tt.size)
      clear b1
      (refine hK _ _ (MK.out _ tt) ?_; clear hK K)
      repeat (first | (refine' along_take (by simp only [List.getElem?_cons_succ, List.getElem?_cons_zero]; rfl) (by rfl) ?_ ?_ ?_; rotate_left 2; (intro w' hS; go_simp; try rfl); (simp only [Act.put, List.setIfInBounds_toArray, List.set_cons_zero, List.set_cons_succ]; try rfl)) | (refine' along_skip (by simp only [List.getElem?_cons_succ, List.getElem?_cons_zero]; rfl) (by rfl) ?_ ?_; rotate_left 1; (simp only [Act.put, List.setIfInBounds_toArray, List.set_cons_zero, List.set_cons_succ]; try rfl)))
      (refine along_do (by simp only [List.getElem?_cons_succ, List.getElem?_cons_zero]; rfl) (by rfl) (fun K hK => ?_); go_simp)
      refine (C1.out _).mono ?_
      rintro e w' ⟨rfl, b1⟩
      have tt := tt.trans (b1.mono tt.size)
      clear b1
      (refine hK _ _ (MK.out _ tt) ?_; clear hK K)
      repeat (first | (refine' along_take (by simp only [List.getElem?_cons_succ, List.getElem?_cons_zero]; rfl) (by rfl) ?_ ?_ ?_; rotate_left 2; (intro w' hS; go_simp; try rfl); (simp only [Act.put, List.setIfInBounds_toArray, List.set_cons_zero, List.set_cons_succ]; try rfl)) | (refine' along_skip (by simp only [List.getElem?_cons_succ, List.getElem?_cons_zero]; rfl) (by rfl) ?_ ?_; rotate_left 1; (simp only [Act.put, List.setIfInBounds_toArray, List.set_cons_zero, List.set_cons_succ]; try rfl)))
      (refine along_do (by simp only [List.getElem?_cons_succ, List.getElem?_cons_zero]; rfl) (by rfl) (fun K hK => ?_); go_simp)
      refine (P1.out _).mono ?_
      rintro e w' ⟨rfl, b1⟩
      have tt := tt.trans (b1.mono tt.size)
      clear b1
      (refine hK _ _ (MK.out _ tt) ?_; clear hK K)
      repeat (first | (refine' along_take (by simp only [List.getElem?_cons_succ, List.getElem?_cons_zero]; rfl) (by rfl) ?_ ?_ ?_; rotate_left 2; (intro w' hS; go_simp; try rfl); (simp only [Act.put, List.setIfInBounds_toArray, List.set_cons_zero, List.set_cons_succ]; try rfl)) | (refine' along_skip (by simp only [List.getElem?_cons_succ, List.getElem?_cons_zero]; rfl) (by rfl) ?_ ?_; rotate_left 1; (simp only [Act.put, List.setIfInBounds_toArray, List.set_cons_zero, List.set_cons_succ]; try rfl)))
      (refine along_do (by simp only [List.getElem?_cons_succ, List.getElem?_cons_zero]; rfl) (by rfl) (fun K hK => ?_); go_simp)
      refine (P2.out _).mono ?_
      rintro e w' ⟨rfl, b1⟩
      have tt := tt.trans (b1.mono tt.size)
      clear b1
      (refine hK _ _ (MK.out _ tt) ?_; clear hK K)
      repeat (first | (refine' along_take (by simp only [List.getElem?_cons_succ, List.getElem?_cons_zero]; rfl) (by rfl) ?_ ?_ ?_; rotate_left 2; (intro w' hS; go_simp; try rfl); (simp only [Act.put, List.setIfInBounds_toArray, List.set_cons_zero, List.set_cons_succ]; try rfl)) | (refine' along_skip (by simp only [List.getElem?_cons_succ, List.getElem?_cons_zero]; rfl) (by rfl) ?_ ?_; rotate_left 1; (simp only [Act.put, List.setIfInBounds_toArray, List.set_cons_zero, List.set_cons_succ]; try rfl)))
      (refine along_do (by simp only [List.getElem?_cons_succ, List.getElem?_cons_zero]; rfl) (by rfl) (fun K hK => ?_); go_simp)
      refine (C2.out _).mono ?_
      rintro e w' ⟨rfl, b1⟩
      have tt := tt.trans (b1.mono tt.size)
      clear b1
      (refine hK _ _ (MK.out _ tt) ?_; clear hK K)
      repeat (first | (refine' along_take (by simp only [List.getElem?_cons_succ, List.getElem?_cons_zero]; rfl) (by rfl) ?_ ?_ ?_; rotate_left 2; (intro w' hS; go_simp; try rfl); (simp only [Act.put, List.setIfInBounds_toArray, List.set_cons_zero, List.set_cons_succ]; try rfl)) | (refine' along_skip (by simp only [List.getElem?_cons_succ, List.getElem?_cons_zero]; rfl) (by rfl) ?_ ?_; rotate_left 1; (simp only [Act.put, List.setIfInBounds_toArray, List.set_cons_zero, List.set_cons_succ]; try rfl)))
      (refine along_do (by simp only [List.getElem?_cons_succ, List.getElem?_cons_zero]; rfl) (by rfl) (fun K hK => ?_); go_simp)
      refine (N1.out _).mono ?_
      rintro e w' ⟨rfl, b1⟩
      have tt := tt.trans (b1.mono tt.size)
      clear b1
      (refine hK _ _ (MK.out _ tt) ?_; clear hK K)
      repeat (first | (refine' along_take (by simp only [List.getElem?_cons_succ, List.getElem?_cons_zero]; rfl) (by rfl) ?_ ?_ ?_; rotate_left 2; (intro w' hS; go_simp; try rfl); (simp only [Act.put, List.setIfInBounds_toArray, List.set_cons_zero, List.set_cons_succ]; try rfl)) | (refine' along_skip (by simp only [List.getElem?_cons_succ, List.getElem?_cons_zero]; rfl) (by rfl) ?_ ?_; rotate_left 1; (simp only [Act.put, List.setIfInBounds_toArray, List.set_cons_zero, List.set_cons_succ]; try rfl)))
      (refine along_do (by simp only [List.getElem?_cons_succ, List.getElem?_cons_zero]; rfl) (by rfl) (fun K hK => ?_); go_simp)
      refine (N2.out _).mono ?_
      rintro e w' ⟨rfl, b1⟩
      have tt := tt.trans (b1.mono tt.size)
      clear b1
      (refine hK _ _ (MK.out _ tt) ?_; clear hK K)
      repeat (first | (refine' along_take (by simp only [List.getElem?_cons_succ, List.getElem?_cons_zero]; rfl) (by rfl) ?_ ?_ ?_; rotate_left 2; (intro w' hS; go_simp; try rfl); (simp only [Act.put, List.setIfInBounds_toArray, List.set_cons_zero, List.set_cons_succ]; try rfl)) | (refine' along_skip (by simp only [List.getElem?_cons_succ, List.getElem?_cons_zero]; rfl) (by rfl) ?_ ?_; rotate_left 1; (simp only [Act.put, List.setIfInBounds_toArray, List.set_cons_zero, List.set_cons_succ]; try rfl)))
      (refine along_do (by simp only [List.getElem?_cons_succ, List.getElem?_cons_zero]; rfl) (by rfl) (fun K hK => ?_); go_simp)
      refine (C3.out _).mono ?_
      rintro e w' ⟨rfl, b1⟩
      have tt := tt.trans (b1.mono tt.size)
      clear b1
      (refine hK _ _ (MK.out _ tt) ?_; clear hK K)
      repeat (first | (refine' along_take (by simp only [List.getElem?_cons_succ, List.getElem?_cons_zero]; rfl) (by rfl) ?_ ?_ ?_; rotate_left 2; (intro w' hS; go_simp; try rfl); (simp only [Act.put, List.setIfInBounds_toArray, List.set_cons_zero, List.set_cons_succ]; try rfl)) | (refine' along_skip (by simp only [List.getElem?_cons_succ, List.getElem?_cons_zero]; rfl) (by rfl) ?_ ?_; rotate_left 1; (simp only [Act.put, List.setIfInBounds_toArray, List.set_cons_zero, List.set_cons_succ]; try rfl)))
      refine along_end ?_
      go_wp2_with fail
      go_ret
      exact ⟨rfl, (MK.out _ tt).1⟩
  · skip
    skip
    go_enter Try.func7, Try.ntmps7
    go_wp2_with fail
    refine (O1.out _).mono ?_
    rintro e w1 ⟨rfl, b1⟩
    have bb := bb.trans (b1.mono bb.size)
    clear b1
    go_wp2_with fail
    have L1 := lay_ok w1 a
    change Calls _ _ _ (lay w1 a) _
    generalize lay w1 a = X1 at *
    have bb := bb.trans (L1.1.mono bb.size)
    generalize w1.heap.size = p1 at *
    refine (O2.out _).mono ?_
    rintro e w2 ⟨rfl, b2⟩
    have bb := bb.trans (b2.mono bb.size)
    have i1 := L1.2.below b2
    clear b2 L1
    go_wp2_with fail
    have L2 := lay_ok w2 b
    change Calls _ _ _ (lay w2 b) _
    generalize lay w2 b = X2 at *
    have bb := bb.trans (L2.1.mono bb.size)
    have i1 := i1.below L2.1
    generalize w2.heap.size = p2 at *
    refine (T.out _).mono ?_
    rintro e w3 ⟨rfl, b3⟩
    have bb := bb.trans (b3.mono bb.size)
    have i2 := L2.2.below b3
    have i1 := i1.below b3
    clear b3 L2
    go_wp2_with fail
    have L3 := lay_ok w3 z
    refine at_world ?_
    intro W hW
    change W = lay w3 z at hW
    subst hW
    have bb := bb.trans (L3.1.mono bb.size)
    have i1 := i1.below L3.1
    have i2 := i2.below L3.1
    have i3 := L3.2
    generalize lay w3 z = W at *
    generalize w3.heap.size = p3 at *
    clear L3
    have mk : ∀ w', Below W.heap.size W w' → Below w.heap.size w w' ∧ WideAt w' p1 a ∧ WideAt w' p2 b ∧ WideAt w' p3 z := fun w' h => ⟨bb.trans (h.mono bb.size), i1.below h, i2.below h, i3.below h⟩
    unfold WideAt at mk
    clear bb i1 i2 i3
    have MK := Lib.hid mk
    clear mk
    refine wp_region_along (fun w' => Below w.heap.size w w' ∧ ((w'.cell? ⟨p1, 0, none⟩ = some (.int .i64 (hi64 a)) ∧ w'.cell? ⟨p1, 1, none⟩ = some (.int .u64 (lo64 a)) ∧ p1 < w'.heap.size) ∧ (w'.cell? ⟨p2, 0, none⟩ = some (.int .i64 (hi64 b)) ∧ w'.cell? ⟨p2, 1, none⟩ = some (.int .u64 (lo64 b)) ∧ p2 < w'.heap.size) ∧ (w'.cell? ⟨p3, 0, none⟩ = some (.int .i64 (hi64 z)) ∧ w'.cell? ⟨p3, 1, none⟩ = some (.int .u64 (lo64 z)) ∧ p3 < w'.heap.size))) [(0, false), (1, true), (2, true), (3, true), (5, true), (4, false), (6, true), (7, true), (8, true), (9, true), (10, true), (12, true), (13, true), (16, true), (11, false), (14, false), (15, false), (17, true), (18, true), (19, true), (20, true), (21, true), (23, true), (24, true), (27, true), (22, false), (25, false), (26, false), (28, true), (29, true), (30, true)] (by kernel_rfl) (by kernel_rfl) ?_ ?_
    · exact MK.out _ (Below.drew (Below.refl _ _))
    · have tt := Below.drew (Below.refl W.heap.size W)
      generalize W.drew = Y at *
      repeat (first | (refine' along_take (by simp only [List.getElem?_cons_succ, List.getElem?_cons_zero]; rfl) (by rfl) ?_ ?_ ?_; rotate_left 2; (intro w' hS; go_simp; try rfl); (simp only [Act.put, List.setIfInBounds_toArray, List.set_cons_zero, List.set_cons_succ]; try rfl)) | (refine' along_skip (by simp only [List.getElem?_cons_succ, List.getElem?_cons_zero]; rfl) (by rfl) ?_ ?_; rotate_left 1; (simp only [Act.put, List.setIfInBounds_toArray, List.set_cons_zero, List.set_cons_succ]; try rfl)))
      (refine along_do (by simp only [List.getElem?_cons_succ, List.getElem?_cons_zero]; rfl) (by rfl) (fun K hK => ?_); go_simp)
      refine (KK.out _).mono ?_
      rintro e w' ⟨rfl, b1⟩
      have tt := tt.trans (b1.mono tt.size)
      clear b1
      (refine hK _ _ (MK.out _ tt) ?_; clear hK K)
      repeat (first | (refine' along_take (by simp only [List.getElem?_cons_succ, List.getElem?_cons_zero]; rfl) (by rfl) ?_ ?_ ?_; rotate_left 2; (intro w' hS; go_simp; try rfl); (simp only [Act.put, List.setIfInBounds_toArray, List.set_cons_zero, List.set_cons_succ]; try rfl)) | (refine' along_skip (by simp only [List.getElem?_cons_succ, List.getElem?_cons_zero]; rfl) (by rfl) ?_ ?_; rotate_left 1; (simp only [Act.put, List.setIfInBounds_toArray, List.set_cons_zero, List.set_cons_succ]; try rfl)))
      (refine along_do (by simp only [List.getElem?_cons_succ, List.getElem?_cons_zero]; rfl) (by rfl) (fun K hK => ?_); go_simp)
      refine (C1.out _).mono ?_
      rintro e w' ⟨rfl, b1⟩
      have tt := tt.trans (b1.mono tt.size)
      clear b1
      (refine hK _ _ (MK.out _ tt) ?_; clear hK K)
      repeat (first | (refine' along_take (by simp only [List.getElem?_cons_succ, List.getElem?_cons_zero]; rfl) (by rfl) ?_ ?_ ?_; rotate_left 2; (intro w' hS; go_simp; try rfl); (simp only [Act.put, List.setIfInBounds_toArray, List.set_cons_zero, List.set_cons_succ]; try rfl)) | (refine' along_skip (by simp only [List.getElem?_cons_succ, List.getElem?_cons_zero]; rfl) (by rfl) ?_ ?_; rotate_left 1; (simp only [Act.put, List.setIfInBounds_toArray, List.set_cons_zero, List.set_cons_succ]; try rfl)))
      (refine along_do (by simp only [List.getElem?_cons_succ, List.getElem?_cons_zero]; rfl) (by rfl) (fun K hK => ?_); go_simp)
      refine (P1.out _).mono ?_
      rintro e w' ⟨rfl, b1⟩
      have tt := tt.trans (b1.mono tt.size)
      clear b1
      (refine hK _ _ (MK.out _ tt) ?_; clear hK K)
      repeat (first | (refine' along_take (by simp only [List.getElem?_cons_succ, List.getElem?_cons_zero]; rfl) (by rfl) ?_ ?_ ?_; rotate_left 2; (intro w' hS; go_simp; try rfl); (simp only [Act.put, List.setIfInBounds_toArray, List.set_cons_zero, List.set_cons_succ]; try rfl)) | (refine' along_skip (by simp only [List.getElem?_cons_succ, List.getElem?_cons_zero]; rfl) (by rfl) ?_ ?_; rotate_left 1; (simp only [Act.put, List.setIfInBounds_toArray, List.set_cons_zero, List.set_cons_succ]; try rfl)))
      (refine along_do (by simp only [List.getElem?_cons_succ, List.getElem?_cons_zero]; rfl) (by rfl) (fun K hK => ?_); go_simp)
      refine (P2.out _).mono ?_
      rintro e w' ⟨rfl, b1⟩
      have tt := tt.trans (b1.mono tt.size)
      clear b1
      (refine hK _ _ (MK.out _ tt) ?_; clear hK K)
      repeat (first | (refine' along_take (by simp only [List.getElem?_cons_succ, List.getElem?_cons_zero]; rfl) (by rfl) ?_ ?_ ?_; rotate_left 2; (intro w' hS; go_simp; try rfl); (simp only [Act.put, List.setIfInBounds_toArray, List.set_cons_zero, List.set_cons_succ]; try rfl)) | (refine' along_skip (by simp only [List.getElem?_cons_succ, List.getElem?_cons_zero]; rfl) (by rfl) ?_ ?_; rotate_left 1; (simp only [Act.put, List.setIfInBounds_toArray, List.set_cons_zero, List.set_cons_succ]; try rfl)))
      (refine along_do (by simp only [List.getElem?_cons_succ, List.getElem?_cons_zero]; rfl) (by rfl) (fun K hK => ?_); go_simp)
      refine (C2.out _).mono ?_
      rintro e w' ⟨rfl, b1⟩
      have tt := tt.trans (b1.mono tt.size)
      clear b1
      (refine hK _ _ (MK.out _ tt) ?_; clear hK K)
      repeat (first | (refine' along_take (by simp only [List.getElem?_cons_succ, List.getElem?_cons_zero]; rfl) (by rfl) ?_ ?_ ?_; rotate_left 2; (intro w' hS; go_simp; try rfl); (simp only [Act.put, List.setIfInBounds_toArray, List.set_cons_zero, List.set_cons_succ]; try rfl)) | (refine' along_skip (by simp only [List.getElem?_cons_succ, List.getElem?_cons_zero]; rfl) (by rfl) ?_ ?_; rotate_left 1; (simp only [Act.put, List.setIfInBounds_toArray, List.set_cons_zero, List.set_cons_succ]; try rfl)))
      (refine along_do (by simp only [List.getElem?_cons_succ, List.getElem?_cons_zero]; rfl) (by rfl) (fun K hK => ?_); go_simp)
      refine (N1.out _).mono ?_
      rintro e w' ⟨rfl, b1⟩
      have tt := tt.trans (b1.mono tt.size)
      clear b1
      (refine hK _ _ (MK.out _ tt) ?_; clear hK K)
      repeat (first | (refine' along_take (by simp only [List.getElem?_cons_succ, List.getElem?_cons_zero]; rfl) (by rfl) ?_ ?_ ?_; rotate_left 2; (intro w' hS; go_simp; try rfl); (simp only [Act.put, List.setIfInBounds_toArray, List.set_cons_zero, List.set_cons_succ]; try rfl)) | (refine' along_skip (by simp only [List.getElem?_cons_succ, List.getElem?_cons_zero]; rfl) (by rfl) ?_ ?_; rotate_left 1; (simp only [Act.put, List.setIfInBounds_toArray, List.set_cons_zero, List.set_cons_succ]; try rfl)))
      (refine along_do (by simp only [List.getElem?_cons_succ, List.getElem?_cons_zero]; rfl) (by rfl) (fun K hK => ?_); go_simp)
      refine (N2.out _).mono ?_
      rintro e w' ⟨rfl, b1⟩
      have tt := tt.trans (b1.mono tt.size)
      clear b1
      (refine hK _ _ (MK.out _ tt) ?_; clear hK K)
      repeat (first | (refine' along_take (by simp only [List.getElem?_cons_succ, List.getElem?_cons_zero]; rfl) (by rfl) ?_ ?_ ?_; rotate_left 2; (intro w' hS; go_simp; try rfl); (simp only [Act.put, List.setIfInBounds_toArray, List.set_cons_zero, List.set_cons_succ]; try rfl)) | (refine' along_skip (by simp only [List.getElem?_cons_succ, List.getElem?_cons_zero]; rfl) (by rfl) ?_ ?_; rotate_left 1; (simp only [Act.put, List.setIfInBounds_toArray, List.set_cons_zero, List.set_cons_succ]; try rfl)))
      (refine along_do (by simp only [List.getElem?_cons_succ, List.getElem?_cons_zero]; rfl) (by rfl) (fun K hK => ?_); go_simp)
      refine (C3.out _).mono ?_
      rintro e w' ⟨rfl, b1⟩
      have tt := tt.trans (b1.mono tt.size)
      clear b1
      (refine hK _ _ (MK.out _ tt) ?_; clear hK K)
      repeat (first | (refine' along_take (by simp only [List.getElem?_cons_succ, List.getElem?_cons_zero]; rfl) (by rfl) ?_ ?_ ?_; rotate_left 2; (intro w' hS; go_simp; try rfl); (simp only [Act.put, List.setIfInBounds_toArray, List.set_cons_zero, List.set_cons_succ]; try rfl)) | (refine' along_skip (by simp only [List.getElem?_cons_succ, List.getElem?_cons_zero]; rfl) (by rfl) ?_ ?_; rotate_left 1; (simp only [Act.put, List.setIfInBounds_toArray, List.set_cons_zero, List.set_cons_succ]; try rfl)))
      refine along_end ?_
      go_wp2_with fail
      go_ret
      exact ⟨rfl, (MK.out _ tt).1⟩
  · skip
    skip
    go_enter Try.func7, Try.ntmps7
    go_wp2_with fail
    refine (O1.out _).mono ?_
    rintro e w1 ⟨rfl, b1⟩
    have bb := bb.trans (b1.mono bb.size)
    clear b1
    go_wp2_with fail
    have L1 := lay_ok w1 a
    change Calls _ _ _ (lay w1 a) _
    generalize lay w1 a = X1 at *
    have bb := bb.trans (L1.1.mono bb.size)
    generalize w1.heap.size = p1 at *
    refine (O2.out _).mono ?_
    rintro e w2 ⟨rfl, b2⟩
    have bb := bb.trans (b2.mono bb.size)
    have i1 := L1.2.below b2
    clear b2 L1
    go_wp2_with fail
    have L2 := lay_ok w2 b
    change Calls _ _ _ (lay w2 b) _
    generalize lay w2 b = X2 at *
    have bb := bb.trans (L2.1.mono bb.size)
    have i1 := i1.below L2.1
    generalize w2.heap.size = p2 at *
    refine (T.out _).mono ?_
    rintro e w3 ⟨rfl, b3⟩
    have bb := bb.trans (b3.mono bb.size)
    have i2 := L2.2.below b3
    have i1 := i1.below b3
    clear b3 L2
    go_wp2_with fail
    have L3 := lay_ok w3 z
    refine at_world ?_
    intro W hW
    change W = lay w3 z at hW
    subst hW
    have bb := bb.trans (L3.1.mono bb.size)
    have i1 := i1.below L3.1
    have i2 := i2.below L3.1
    have i3 := L3.2
    generalize lay w3 z = W at *
    generalize w3.heap.size = p3 at *
    clear L3
    have mk : ∀ w', Below W.heap.size W w' → Below w.heap.size w w' ∧ WideAt w' p1 a ∧ WideAt w' p2 b ∧ WideAt w' p3 z := fun w' h => ⟨bb.trans (h.mono bb.size), i1.below h, i2.below h, i3.below h⟩
    unfold WideAt at mk
    clear bb i1 i2 i3
    have MK := Lib.hid mk
    clear mk
    refine wp_region_along (fun w' => Below w.heap.size w w' ∧ ((w'.cell? ⟨p1, 0, none⟩ = some (.int .i64 (hi64 a)) ∧ w'.cell? ⟨p1, 1, none⟩ = some (.int .u64 (lo64 a)) ∧ p1 < w'.heap.size) ∧ (w'.cell? ⟨p2, 0, none⟩ = some (.int .i64 (hi64 b)) ∧ w'.cell? ⟨p2, 1, none⟩ = some (.int .u64 (lo64 b)) ∧ p2 < w'.heap.size) ∧ (w'.cell? ⟨p3, 0, none⟩ = some (.int .i64 (hi64 z)) ∧ w'.cell? ⟨p3, 1, none⟩ = some (.int .u64 (lo64 z)) ∧ p3 < w'.heap.size))) [(0, false), (1, true), (2, true), (3, true), (5, true), (4, false), (6, true), (7, true), (8, true), (9, true), (10, true), (12, true), (13, true), (16, true), (11, false), (14, false), (15, false), (17, true), (18, true), (19, true), (20, true), (21, true), (23, true), (24, true), (27, true), (22, false), (25, false), (26, false), (28, true), (29, true), (30, true)] (by kernel_rfl) (by kernel_rfl) ?_ ?_
    · exact MK.out _ (Below.drew (Below.refl _ _))
    · have tt := Below.drew (Below.refl W.heap.size W)
      generalize W.drew = Y at *
      repeat (first | (refine' along_take (by simp only [List.getElem?_cons_succ, List.getElem?_cons_zero]; rfl) (by rfl) ?_ ?_ ?_; rotate_left 2; (intro w' hS; go_simp; try rfl); (simp only [Act.put, List.setIfInBounds_toArray, List.set_cons_zero, List.set_cons_succ]; try rfl)) | (refine' along_skip (by simp only [List.getElem?_cons_succ, List.getElem?_cons_zero]; rfl) (by rfl) ?_ ?_; rotate_left 1; (simp only [Act.put, List.setIfInBounds_toArray, List.set_cons_zero, List.set_cons_succ]; try rfl)))
      (refine along_do (by simp only [List.getElem?_cons_succ, List.getElem?_cons_zero]; rfl) (by rfl) (fun K hK => ?_); go_simp)
      refine (KK.out _).mono ?_
      rintro e w' ⟨rfl, b1⟩
      have tt := tt.trans (b1.mono tt.size)
      clear b1
      (refine hK _ _ (MK.out _ tt) ?_; clear hK K)
      repeat (first | (refine' along_take (by simp only [List.getElem?_cons_succ, List.getElem?_cons_zero]; rfl) (by rfl) ?_ ?_ ?_; rotate_left 2; (intro w' hS; go_simp; try rfl); (simp only [Act.put, List.setIfInBounds_toArray, List.set_cons_zero, List.set_cons_succ]; try rfl)) | (refine' along_skip (by simp only [List.getElem?_cons_succ, List.getElem?_cons_zero]; rfl) (by rfl) ?_ ?_; rotate_left 1; (simp only [Act.put, List.setIfInBounds_toArray, List.set_cons_zero, List.set_cons_succ]; try rfl)))
      (refine along_do (by simp only [List.getElem?_cons_succ, List.getElem?_cons_zero]; rfl) (by rfl) (fun K hK => ?_); go_simp)
      refine (C1.out _).mono ?_
      rintro e w' ⟨rfl, b1⟩
      have tt := tt.trans (b1.mono tt.size)
      clear b1
      (refine hK _ _ (MK.out _ tt) ?_; clear hK K)
      repeat (first | (refine' along_take (by simp only [List.getElem?_cons_succ, List.getElem?_cons_zero]; rfl) (by rfl) ?_ ?_ ?_; rotate_left 2; (intro w' hS; go_simp; try rfl); (simp only [Act.put, List.setIfInBounds_toArray, List.set_cons_zero, List.set_cons_succ]; try rfl)) | (refine' along_skip (by simp only [List.getElem?_cons_succ, List.getElem?_cons_zero]; rfl) (by rfl) ?_ ?_; rotate_left 1; (simp only [Act.put, List.setIfInBounds_toArray, List.set_cons_zero, List.set_cons_succ]; try rfl)))
      (refine along_do (by simp only [List.getElem?_cons_succ, List.getElem?_cons_zero]; rfl) (by rfl) (fun K hK => ?_); go_simp)
      refine (P1.out _).mono ?_
      rintro e w' ⟨rfl, b1⟩
      have tt := tt.trans (b1.mono tt.size)
      clear b1
      (refine hK _ _ (MK.out _ tt) ?_; clear hK K)
      repeat (first | (refine' along_take (by simp only [List.getElem?_cons_succ, List.getElem?_cons_zero]; rfl) (by rfl) ?_ ?_ ?_; rotate_left 2; (intro w' hS; go_simp; try rfl); (simp only [Act.put, List.setIfInBounds_toArray, List.set_cons_zero, List.set_cons_succ]; try rfl)) | (refine' along_skip (by simp only [List.getElem?_cons_succ, List.getElem?_cons_zero]; rfl) (by rfl) ?_ ?_; rotate_left 1; (simp only [Act.put, List.setIfInBounds_toArray, List.set_cons_zero, List.set_cons_succ]; try rfl)))
      (refine along_do (by simp only [List.getElem?_cons_succ, List.getElem?_cons_zero]; rfl) (by rfl) (fun K hK => ?_); go_simp)
      refine (P2.out _).mono ?_
      rintro e w' ⟨rfl, b1⟩
      have tt := tt.trans (b1.mono tt.size)
      clear b1
      (refine hK _ _ (MK.out _ tt) ?_; clear hK K)
      repeat (first | (refine' along_take (by simp only [List.getElem?_cons_succ, List.getElem?_cons_zero]; rfl) (by rfl) ?_ ?_ ?_; rotate_left 2; (intro w' hS; go_simp; try rfl); (simp only [Act.put, List.setIfInBounds_toArray, List.set_cons_zero, List.set_cons_succ]; try rfl)) | (refine' along_skip (by simp only [List.getElem?_cons_succ, List.getElem?_cons_zero]; rfl) (by rfl) ?_ ?_; rotate_left 1; (simp only [Act.put, List.setIfInBounds_toArray, List.set_cons_zero, List.set_cons_succ]; try rfl)))
      (refine along_do (by simp only [List.getElem?_cons_succ, List.getElem?_cons_zero]; rfl) (by rfl) (fun K hK => ?_); go_simp)
      refine (C2.out _).mono ?_
      rintro e w' ⟨rfl, b1⟩
      have tt := tt.trans (b1.mono tt.size)
      clear b1
      (refine hK _ _ (MK.out _ tt) ?_; clear hK K)
      repeat (first | (refine' along_take (by simp only [List.getElem?_cons_succ, List.getElem?_cons_zero]; rfl) (by rfl) ?_ ?_ ?_; rotate_left 2; (intro w' hS; go_simp; try rfl); (simp only [Act.put, List.setIfInBounds_toArray, List.set_cons_zero, List.set_cons_succ]; try rfl)) | (refine' along_skip (by simp only [List.getElem?_cons_succ, List.getElem?_cons_zero]; rfl) (by rfl) ?_ ?_; rotate_left 1; (simp only [Act.put, List.setIfInBounds_toArray, List.set_cons_zero, List.set_cons_succ]; try rfl)))
      (refine along_do (by simp only [List.getElem?_cons_succ, List.getElem?_cons_zero]; rfl) (by rfl) (fun K hK => ?_); go_simp)
      refine (N1.out _).mono ?_
      rintro e w' ⟨rfl, b1⟩
      have tt := tt.trans (b1.mono tt.size)
      clear b1
      (refine hK _ _ (MK.out _ tt) ?_; clear hK K)
      repeat (first | (refine' along_take (by simp only [List.getElem?_cons_succ, List.getElem?_cons_zero]; rfl) (by rfl) ?_ ?_ ?_; rotate_left 2; (intro w' hS; go_simp; try rfl); (simp only [Act.put, List.setIfInBounds_toArray, List.set_cons_zero, List.set_cons_succ]; try rfl)) | (refine' along_skip (by simp only [List.getElem?_cons_succ, List.getElem?_cons_zero]; rfl) (by rfl) ?_ ?_; rotate_left 1; (simp only [Act.put, List.setIfInBounds_toArray, List.set_cons_zero, List.set_cons_succ]; try rfl)))
      (refine along_do (by simp only [List.getElem?_cons_succ, List.getElem?_cons_zero]; rfl) (by rfl) (fun K hK => ?_); go_simp)
      refine (N2.out _).mono ?_
      rintro e w' ⟨rfl, b1⟩
      have tt := tt.trans (b1.mono tt.size)
      clear b1
      (refine hK _ _ (MK.out _ tt) ?_; clear hK K)
      repeat (first | (refine' along_take (by simp only [List.getElem?_cons_succ, List.getElem?_cons_zero]; rfl) (by rfl) ?_ ?_ ?_; rotate_left 2; (intro w' hS; go_simp; try rfl); (simp only [Act.put, List.setIfInBounds_toArray, List.set_cons_zero, List.set_cons_succ]; try rfl)) | (refine' along_skip (by simp only [List.getElem?_cons_succ, List.getElem?_cons_zero]; rfl) (by rfl) ?_ ?_; rotate_left 1; (simp only [Act.put, List.setIfInBounds_toArray, List.set_cons_zero, List.set_cons_succ]; try rfl)))
      (refine along_do (by simp only [List.getElem?_cons_succ, List.getElem?_cons_zero]; rfl) (by rfl) (fun K hK => ?_); go_simp)
      refine (C3.out _).mono ?_
      rintro e w' ⟨rfl, b1⟩
      have tt := tt.trans (b1.mono tt.size)
      clear b1
      (refine hK _ _ (MK.out _ tt) ?_; clear hK K)
      repeat (first | (refine' along_take (by simp only [List.getElem?_cons_succ, List.getElem?_cons_zero]; rfl) (by rfl) ?_ ?_ ?_; rotate_left 2; (intro w' hS; go_simp; try rfl); (simp only [Act.put, List.setIfInBounds_toArray, List.set_cons_zero, List.set_cons_succ]; try rfl)) | (refine' along_skip (by simp only [List.getElem?_cons_succ, List.getElem?_cons_zero]; rfl) (by rfl) ?_ ?_; rotate_left 1; (simp only [Act.put, List.setIfInBounds_toArray, List.set_cons_zero, List.set_cons_succ]; try rfl)))
      refine along_end ?_
      go_wp2_with fail
      go_ret
      exact ⟨rfl, (MK.out _ tt).1⟩
end Go.Proofs.Ytajihhmohokngaa
