/-
  THE WALK of quittancelaw03.Arcs.
-/
import Derived.Test.YtgaekihcfcoaeaaNew
set_option linter.unusedVariables false
set_option linter.unusedSimpArgs false
namespace Go.Proofs.Ytgaekihcfcoaeaa
open Go.RowKit

/-- how many arcs so many bytes make -/
def nArc (len : Nat) : Nat := min (len / 4) 18
/-- the arc of bytes 4 * q .. 4 * q + 3 -/
def arcB (f : Nat → Int) (n : Nat) (q : Nat) : A5 :=
  ⟨(f (4 * q)).tmod n, ((f (4 * q)).tdiv 16).tmod n, if (f (4 * q + 3)).tmod 8 = 1 then 0 else (f (4 * q + 1)).tmod 3,
   if (f (4 * q + 3)).tmod 8 = 0 then 4611686018427387904 else (f (4 * q + 1)).tmod 3 + ((f (4 * q + 1)).tdiv 3).tmod 6,
   if (f (4 * q + 3)).tmod 8 = 2 then 0 else (f (4 * q + 2)).tmod 21 - 8⟩

theorem set5 {w : World} {Q : Nat} {c0 c1 c2 c3 c4 : Value} {t : TypeId} {fz : Nat × Nat} (h : w.heap[Q]? = some (.cells #[c0, c1, c2, c3, c4] t fz)) (v0 v1 v2 v3 v4 : Value) :
    (((((w.setCell ⟨Q, 0, none⟩ v0).setCell ⟨Q, 1, none⟩ v1).setCell ⟨Q, 2, none⟩ v2).setCell ⟨Q, 3, none⟩ v3).setCell ⟨Q, 4, none⟩ v4).heap[Q]? = some (.cells #[v0, v1, v2, v3, v4] t fz) := by
  rw [heap_setCell_at _ _ _ _ _ _ _ (heap_setCell_at _ _ _ _ _ _ _ (heap_setCell_at _ _ _ _ _ _ _ (heap_setCell_at _ _ _ _ _ _ _ (heap_setCell_at _ _ _ _ _ _ _ h))))]
  rfl
theorem only5 (w : World) (Q : Nat) (v0 v1 v2 v3 v4 : Value) : Only (B1 Q) w (((((w.setCell ⟨Q, 0, none⟩ v0).setCell ⟨Q, 1, none⟩ v1).setCell ⟨Q, 2, none⟩ v2).setCell ⟨Q, 3, none⟩ v3).setCell ⟨Q, 4, none⟩ v4) :=
  (((((Only.refl _ _).setCell (p := ⟨Q, 0, none⟩) (fun _ => by unfold B1; rfl) _).setCell (p := ⟨Q, 1, none⟩) (fun _ => by unfold B1; rfl) _).setCell (p := ⟨Q, 2, none⟩) (fun _ => by unfold B1; rfl) _).setCell (p := ⟨Q, 3, none⟩) (fun _ => by unfold B1; rfl) _).setCell (p := ⟨Q, 4, none⟩) (fun _ => by unfold B1; rfl) _
theorem only1 (w : World) (Q i : Nat) (v : Value) : Only (B1 Q) w (w.setCell ⟨Q, i, none⟩ v) := (Only.refl _ _).setCell (p := ⟨Q, i, none⟩) (fun _ => by unfold B1; rfl) _

set_option maxRecDepth 100000 in
set_option maxHeartbeats 4000000 in
theorem arcs_any (a : Option Addr) (len cap n : Nat) (f : Nat → Int) (w : World) (h : BytesIn w a len f) (hn : 0 < n ∧ n ≤ 7) :
    Calls Try.prog 16 #[.slice a len cap, .int .i64 n] w fun e w' => (∃ v, e = .returned v ∧ w'.ownsRow w.heap.size 31 5 v (nArc len) (arcCells (arcB f n) (nArc len))) ∧ Only NoB w w' := by
  obtain ⟨i0, hi, hz0, hz1, hz2⟩ := info_parts info31
  have HC := Lib.hid h
  have hlen : len ≤ maxLen := h.1
  unfold maxLen at hlen
  clear h
  have nz : ¬ n = 0 := by omega
  obtain ⟨M, hM⟩ : ∃ M, M = nArc len := ⟨_, rfl⟩
  have HM := Lib.hid hM
  rw [← hM]
  have hM1 : M ≤ 18 := by rw [hM]; exact Nat.min_le_right _ _
  have hM2 : 4 * M ≤ len := by rw [hM]; unfold nArc; omega
  have hM3 : M = 18 ∨ len < 4 * M + 4 := by
    rw [hM]
    unfold nArc
    omega
  clear hM
  go_enter Try.func16, Try.ntmps16
  go_wp2_with fail
  go_loopw [5, 6] (fun v s wr => ∃ (q : Nat), q ≤ M ∧ s = .int .i64 (4 * (q : Int)) ∧ wr.ownsRow w.heap.size 31 5 v q (arcCells (arcB f n) q) ∧ Only NoB w wr) (fun _ s _ => 4 * M - (intOf s).toNat)
  case atStart => exact ⟨0, Nat.zero_le _, rfl, World.ownsRow_nil _ _ _ _, Only.refl _ _⟩
  case round =>
    obtain ⟨q, hq, rfl, hrow, oo⟩ := hrel
    have wr1 := IntWalk.i64_in (4 * (q : Int) + 3) (by omega)
    by_cases lt : q < M
    · have lt1 : 4 * (q : Int) + 3 < len := by omega
      have lt2 : 4 * (q : Int) < 72 := by omega
      have lt3 : 4 * q < len := by omega
      have lt4 : 4 * q + 1 < len := by omega
      have lt5 : 4 * q + 2 < len := by omega
      have lt6 : 4 * q + 3 < len := by omega
      have lt7 : 4 * (q : Int) + 1 < len := by omega
      have lt8 : 4 * (q : Int) + 2 < len := by omega
      have lt9 : 4 * (q : Int) < len := by omega
      have p0 : (0 : Int) ≤ 4 * (q : Int) := by omega
      have p1 : (0 : Int) ≤ 4 * (q : Int) + 1 := by omega
      have p2 : (0 : Int) ≤ 4 * (q : Int) + 2 := by omega
      have p3 : (0 : Int) ≤ 4 * (q : Int) + 3 := by omega
      have t0 : (4 * (q : Int)).toNat = 4 * q := by omega
      have t1 : (4 * (q : Int) + 1).toNat = 4 * q + 1 := by omega
      have t2 : (4 * (q : Int) + 2).toNat = 4 * q + 2 := by omega
      have t3 : (4 * (q : Int) + 3).toNat = 4 * q + 3 := by omega
      have wr2 := IntWalk.i64_in (4 * (q : Int) + 1) (by omega)
      have wr3 := IntWalk.i64_in (4 * (q : Int) + 2) (by omega)
      obtain ⟨b, o, rfl, hc⟩ := (HC.out.kept oo (fun _ _ f => f)).2.2 (by omega)
      have c0 := hc (4 * q) lt3
      have c1 := hc (4 * q + 1) lt4
      have c2 := hc (4 * q + 2) lt5
      have c3 := hc (4 * q + 3) lt6
      have r0 := HC.out.2.1 (4 * q)
      have r1 := HC.out.2.1 (4 * q + 1)
      have r2 := HC.out.2.1 (4 * q + 2)
      have r3 := HC.out.2.1 (4 * q + 3)
      have hsc : arcCells (arcB f n) (q + 1) = arcCells (arcB f n) q ++ [.int .i64 ((f (4 * q)).tmod n), .int .i64 (((f (4 * q)).tdiv 16).tmod n), .int .i64 (if (f (4 * q + 3)).tmod 8 = 1 then 0 else (f (4 * q + 1)).tmod 3), .int .i64 (if (f (4 * q + 3)).tmod 8 = 0 then 4611686018427387904 else (f (4 * q + 1)).tmod 3 + ((f (4 * q + 1)).tdiv 3).tmod 6), .int .i64 (if (f (4 * q + 3)).tmod 8 = 2 then 0 else (f (4 * q + 2)).tmod 21 - 8)] := arcCells_succ (arcB f n) q
      have HS := Lib.hid hsc
      clear hsc hc
      generalize f (4 * q) = b0 at *
      generalize f (4 * q + 1) = b1 at *
      generalize f (4 * q + 2) = b2 at *
      generalize f (4 * q + 3) = b3 at *
      have lb : b < wr.heap.size := World.block_lt_of_cell? _ _ c0
      have hz := oo.size
      go_upto_region 5 with fail
      have MK : Hid (∀ w', Only NoB wr w' → w'.cell? ⟨b, o + 4 * q, none⟩ = some (.int .u8 b0) ∧ w'.cell? ⟨b, o + (4 * q + 1), none⟩ = some (.int .u8 b1) ∧ w'.cell? ⟨b, o + (4 * q + 2), none⟩ = some (.int .u8 b2) ∧ w'.cell? ⟨b, o + (4 * q + 3), none⟩ = some (.int .u8 b3)) := fun w' oo => ⟨oo.cell c0 (fun f => f), oo.cell c1 (fun f => f), oo.cell c2 (fun f => f), oo.cell c3 (fun f => f)⟩
      refine wp_region_along (fun w' => w'.cell? ⟨b, o + 4 * q, none⟩ = some (.int .u8 b0) ∧ w'.cell? ⟨b, o + (4 * q + 1), none⟩ = some (.int .u8 b1) ∧ w'.cell? ⟨b, o + (4 * q + 2), none⟩ = some (.int .u8 b2) ∧ w'.cell? ⟨b, o + (4 * q + 3), none⟩ = some (.int .u8 b3)) [(0, true), (1, true), (2, true), (3, true), (4, true), (5, true), (6, true), (7, true), (8, true), (9, true), (10, true), (11, true), (12, true), (13, true), (14, true), (15, true), (16, true), (17, true), (18, true), (19, true), (20, true), (21, true), (22, true), (23, true), (24, true), (25, true), (26, true), (27, true), (28, true), (29, true), (30, true), (31, false), (32, false)] (by kernel_rfl) (by kernel_rfl) ?_ ?_
      · exact MK.out _ ((Only.refl _ _).drew)
      have od : Only NoB wr wr.drew := (Only.refl _ _).drew
      generalize wr.drew = wA at *
      have e1 : b1.tmod 3 = b1 % 3 := Int.tmod_eq_emod_of_nonneg r1.1
      have e2 : b0.tdiv 16 = b0 / 16 := Int.tdiv_eq_ediv_of_nonneg r0.1
      have e3 : b2.tmod 21 = b2 % 21 := Int.tmod_eq_emod_of_nonneg r2.1
      have e4 : b1.tdiv 3 = b1 / 3 := Int.tdiv_eq_ediv_of_nonneg r1.1
      have e5 : (b1.tdiv 3).tmod 6 = (b1 / 3) % 6 := by rw [e4]; exact Int.tmod_eq_emod_of_nonneg (by omega)
      have m1 : IntKind.i64.wrap b0 = b0 := IntWalk.i64_in b0 (by omega)
      have m2 : IntKind.u8.wrap (b0.tdiv 16) = b0.tdiv 16 := IntWalk.u8_in _ (by omega)
      have m3 : IntKind.i64.wrap (b0.tdiv 16) = b0.tdiv 16 := IntWalk.i64_in _ (by omega)
      have m4 : IntKind.i64.wrap (b1.tmod 3) = b1.tmod 3 := IntWalk.i64_in _ (by omega)
      have m5 : IntKind.i64.wrap (b2.tmod 21) = b2.tmod 21 := IntWalk.i64_in _ (by omega)
      have m6 : IntKind.i64.wrap (b2.tmod 21 - 8) = b2.tmod 21 - 8 := IntWalk.i64_in _ (by omega)
      have m7 : IntKind.u8.wrap (b1.tdiv 3) = b1.tdiv 3 := IntWalk.u8_in _ (by omega)
      have m8 : IntKind.i64.wrap ((b1.tdiv 3).tmod 6) = (b1.tdiv 3).tmod 6 := IntWalk.i64_in _ (by omega)
      have m9 : IntKind.i64.wrap (b1.tmod 3 + (b1.tdiv 3).tmod 6) = b1.tmod 3 + (b1.tdiv 3).tmod 6 := IntWalk.i64_in _ (by omega)
      clear e1 e2 e3 e4 e5
      repeat (first | (refine' along_take (by simp only [List.getElem?_cons_succ, List.getElem?_cons_zero]; rfl) (by rfl) ?_ ?_ ?_; rotate_left 2; (intro w' hS; go_simp; try rfl); (simp only [Act.put, List.setIfInBounds_toArray, List.set_cons_zero, List.set_cons_succ]; try rfl)) | (refine' along_skip (by simp only [List.getElem?_cons_succ, List.getElem?_cons_zero]; rfl) (by rfl) ?_ ?_; rotate_left 1; (simp only [Act.put, List.setIfInBounds_toArray, List.set_cons_zero, List.set_cons_succ]; try rfl)))
      (refine along_do (by simp only [List.getElem?_cons_succ, List.getElem?_cons_zero]; rfl) (by rfl) (fun K hK => ?_); go_simp)
      have oa : Only NoB wA (wA.alloc (.cells #[.int .i64 0, .int .i64 0, .int .i64 0, .int .i64 0, .int .i64 0] 31)) := (Only.refl _ _).alloc _
      have hq := heap_alloc_new wA (.cells #[.int .i64 0, .int .i64 0, .int .i64 0, .int .i64 0, .int .i64 0] 31)
      have zA := od.size
      have od := od.trans oa
      (refine hK _ _ (MK.out _ od) ?_; clear hK K)
      clear oa
      generalize hQ : wA.heap.size = Q at *
      generalize World.alloc wA _ = wB at *
      repeat (first | (refine' along_take (by simp only [List.getElem?_cons_succ, List.getElem?_cons_zero]; rfl) (by rfl) ?_ ?_ ?_; rotate_left 2; (intro w' hS; go_simp; try rfl); (simp only [Act.put, List.setIfInBounds_toArray, List.set_cons_zero, List.set_cons_succ]; try rfl)) | (refine' along_skip (by simp only [List.getElem?_cons_succ, List.getElem?_cons_zero]; rfl) (by rfl) ?_ ?_; rotate_left 1; (simp only [Act.put, List.setIfInBounds_toArray, List.set_cons_zero, List.set_cons_succ]; try rfl)))
      have d0 := (cell_in _ _ 0 _ _ _ hq).trans rfl
      have d1 := (cell_in _ _ 1 _ _ _ hq).trans rfl
      have d2 := (cell_in _ _ 2 _ _ _ hq).trans rfl
      have d3 := (cell_in _ _ 3 _ _ _ hq).trans rfl
      have d4 := (cell_in _ _ 4 _ _ _ hq).trans rfl
      have z0 := frozen_in _ _ 0 _ _ hq
      have z1 := frozen_in _ _ 1 _ _ hq
      have z2 := frozen_in _ _ 2 _ _ hq
      have z3 := frozen_in _ _ 3 _ _ hq
      have z4 := frozen_in _ _ 4 _ _ hq
      have lq := lt_of_heap hq
      (refine along_do (by simp only [List.getElem?_cons_succ, List.getElem?_cons_zero]; rfl) (by rfl) (fun K hK => ?_); go_simp)
      have od := (od.mono (T := B1 Q) (fun _ _ f => f.elim)).trans (only5 wB Q (.int .i64 (b0.tmod n)) (.int .i64 ((b0.tdiv 16).tmod n)) (.int .i64 (b1.tmod 3)) (.int .i64 0) (.int .i64 (b2.tmod 21 - 8)))
      have hq := set5 hq (.int .i64 (b0.tmod n)) (.int .i64 ((b0.tdiv 16).tmod n)) (.int .i64 (b1.tmod 3)) (.int .i64 0) (.int .i64 (b2.tmod 21 - 8))
      have MK2 : Hid (∀ w', Only (B1 Q) wr w' → w'.cell? ⟨b, o + 4 * q, none⟩ = some (.int .u8 b0) ∧ w'.cell? ⟨b, o + (4 * q + 1), none⟩ = some (.int .u8 b1) ∧ w'.cell? ⟨b, o + (4 * q + 2), none⟩ = some (.int .u8 b2) ∧ w'.cell? ⟨b, o + (4 * q + 3), none⟩ = some (.int .u8 b3)) := fun w' oo => ⟨oo.cell c0 (fun e => by unfold B1 at e; omega), oo.cell c1 (fun e => by unfold B1 at e; omega), oo.cell c2 (fun e => by unfold B1 at e; omega), oo.cell c3 (fun e => by unfold B1 at e; omega)⟩
      (refine hK _ _ (MK2.out _ od) ?_; clear hK K)
      clear d0 d1 d2 d3 d4 z0 z1 z2 z3 z4 MK lq c0 c1 c2 c3
      generalize World.setCell (World.setCell (World.setCell (World.setCell (World.setCell wB _ _) _ _) _ _) _ _) _ _ = wC at *
      repeat (first | (refine' along_take (by simp only [List.getElem?_cons_succ, List.getElem?_cons_zero]; rfl) (by rfl) ?_ ?_ ?_; rotate_left 2; (intro w' hS; go_simp; try rfl); (simp only [Act.put, List.setIfInBounds_toArray, List.set_cons_zero, List.set_cons_succ]; try rfl)) | (refine' along_skip (by simp only [List.getElem?_cons_succ, List.getElem?_cons_zero]; rfl) (by rfl) ?_ ?_; rotate_left 1; (simp only [Act.put, List.setIfInBounds_toArray, List.set_cons_zero, List.set_cons_succ]; try rfl)))
      refine along_end ?_
      go_upto_region 6 with fail
      refine wp_region_along (fun w' => w'.cell? ⟨b, o + 4 * q, none⟩ = some (.int .u8 b0) ∧ w'.cell? ⟨b, o + (4 * q + 1), none⟩ = some (.int .u8 b1) ∧ w'.cell? ⟨b, o + (4 * q + 2), none⟩ = some (.int .u8 b2) ∧ w'.cell? ⟨b, o + (4 * q + 3), none⟩ = some (.int .u8 b3) ∧ w'.cell? ⟨Q, 2, none⟩ = some (.int .i64 (b1.tmod 3))) [(0, true), (1, true), (2, true), (3, true), (4, true), (5, true), (6, true), (7, true), (8, true), (9, true), (10, true), (11, true), (12, false)] (by kernel_rfl) (by kernel_rfl) ?_ ?_
      · obtain ⟨q0, q1, q2, q3⟩ := MK2.out _ od.drew
        exact ⟨q0, q1, q2, q3, (cell_in _ _ 2 _ _ _ hq).trans rfl⟩
      have hq : wC.drew.heap[Q]? = _ := hq
      have od := od.drew
      generalize wC.drew = wC at *
      repeat (first | (refine' along_take (by simp only [List.getElem?_cons_succ, List.getElem?_cons_zero]; rfl) (by rfl) ?_ ?_ ?_; rotate_left 2; (intro w' hS; go_simp; try rfl); (simp only [Act.put, List.setIfInBounds_toArray, List.set_cons_zero, List.set_cons_succ]; try rfl)) | (refine' along_skip (by simp only [List.getElem?_cons_succ, List.getElem?_cons_zero]; rfl) (by rfl) ?_ ?_; rotate_left 1; (simp only [Act.put, List.setIfInBounds_toArray, List.set_cons_zero, List.set_cons_succ]; try rfl)))
      have d3 := (cell_in _ _ 3 _ _ _ hq).trans rfl
      have z3 := frozen_in _ _ 3 _ _ hq
      have lq := lt_of_heap hq
      (refine along_do (by simp only [List.getElem?_cons_succ, List.getElem?_cons_zero]; rfl) (by rfl) (fun K hK => ?_); go_simp)
      have od := od.trans (only1 wC Q 3 (.int .i64 (b1.tmod 3 + (b1.tdiv 3).tmod 6)))
      have hq : (World.setCell wC ⟨Q, 3, none⟩ (.int .i64 (b1.tmod 3 + (b1.tdiv 3).tmod 6))).heap[Q]? = some (.cells #[.int .i64 (b0.tmod n), .int .i64 ((b0.tdiv 16).tmod n), .int .i64 (b1.tmod 3), .int .i64 (b1.tmod 3 + (b1.tdiv 3).tmod 6), .int .i64 (b2.tmod 21 - 8)] 31 (0, 0)) := by rw [heap_setCell_at _ _ _ _ _ _ _ hq]; rfl
      obtain ⟨c0, c1, c2, c3⟩ := MK2.out _ od
      (refine hK _ _ ⟨c0, c1, c2, c3, (cell_in _ _ 2 _ _ _ hq).trans rfl⟩ ?_; clear hK K)
      clear d3 z3 lq
      generalize World.setCell wC _ _ = wC at *
      repeat (first | (refine' along_take (by simp only [List.getElem?_cons_succ, List.getElem?_cons_zero]; rfl) (by rfl) ?_ ?_ ?_; rotate_left 2; (intro w' hS; go_simp; try rfl); (simp only [Act.put, List.setIfInBounds_toArray, List.set_cons_zero, List.set_cons_succ]; try rfl)) | (refine' along_skip (by simp only [List.getElem?_cons_succ, List.getElem?_cons_zero]; rfl) (by rfl) ?_ ?_; rotate_left 1; (simp only [Act.put, List.setIfInBounds_toArray, List.set_cons_zero, List.set_cons_succ]; try rfl)))
      refine along_end ?_
      have lq := lt_of_heap hq
      clear m1 m2 m3 m4 m5 m6 m7 m8 m9
      have e8 : b3.tmod 8 = b3 % 8 := Int.tmod_eq_emod_of_nonneg r3.1
      rw [e8] at HS
      generalize b0.tmod (n : Int) = xf at *
      generalize (b0.tdiv 16).tmod (n : Int) = xt at *
      generalize b1.tmod 3 + (b1.tdiv 3).tmod 6 = xc at *
      generalize b1.tmod 3 = xl at *
      generalize b2.tmod 21 - 8 = xk at *
      by_cases x0 : b3 % 8 = 0
      · have s0 : (b3 % 8 == 0) = true := by rw [x0]; rfl
        rw [if_neg (by omega), if_pos x0, if_neg (by omega)] at HS
        clear x0
        go_upto_region 9 with fail
        have dd := (cell_in _ _ 3 _ _ _ hq).trans rfl
        have zz := frozen_in _ _ 3 _ _ hq
        go_upto_region 14 with fail
        have oS := only1 wC Q 3 (.int .i64 4611686018427387904)
        have hq : (World.setCell wC ⟨Q, 3, none⟩ (.int .i64 4611686018427387904)).heap[Q]? = some (.cells #[.int .i64 xf, .int .i64 xt, .int .i64 xl, .int .i64 4611686018427387904, .int .i64 xk] 31 (0, 0)) := by rw [heap_setCell_at _ _ _ _ _ _ _ hq]; rfl
        have od := od.trans oS
        clear oS dd zz
        generalize World.setCell wC _ _ = wC at *
        clear c0 c1 c2 c3
        have hrow1 := own_only hrow od (fun i _ h e => by unfold B1 at e; omega)
        have oo1 := oo.then od (fun i h e => by unfold B1 at e; omega)
        have z1 := od.size
        have d0 := (cell_in _ _ 0 _ _ _ hq).trans rfl
        have d1 := (cell_in _ _ 1 _ _ _ hq).trans rfl
        have d2 := (cell_in _ _ 2 _ _ _ hq).trans rfl
        have d3 := (cell_in _ _ 3 _ _ _ hq).trans rfl
        have d4 := (cell_in _ _ 4 _ _ _ hq).trans rfl
        have lq := lt_of_heap hq
        go_wp2_with (at_builtin; refine wpList_append_own_at _ rfl _ _ 24 rfl w.heap.size 31 i0 _ 5 40 Try.underlying24 hi hz0 hz1 hz2 rfl (by decide) _ _ _ rfl (hrow1.alloc _) ⟨wC.heap.size, 0, none⟩ 1 1 [.int .i64 xf, .int .i64 xt, .int .i64 xl, .int .i64 4611686018427387904, .int .i64 xk] rfl rfl (five_new _ _ _ _ _ _ _) (by simp [Value.oneCell']) (by unfold maxLen; omega) (by omega) (by simp; omega) ?_; intro v' w2 hown' hgrow hnil hloc)
        go_roundw
        case rel => exact ⟨q + 1, by omega, by go_num, by rw [HS.out]; exact hown', (oo1.alloc _).grown hgrow (fun q hq e => absurd (hrow1.lt q e).1 (by omega))⟩
        case measure => simp [intOf]; omega
      · have s0 : (b3 % 8 == 0) = false := by simpa using x0
        rw [if_neg x0] at HS
        clear x0
        by_cases x1 : b3 % 8 = 1
        · have s1 : (b3 % 8 == 1) = true := by rw [x1]; rfl
          rw [if_pos x1, if_neg (by omega)] at HS
          clear x1
          go_upto_region 11 with fail
          have dd := (cell_in _ _ 2 _ _ _ hq).trans rfl
          have zz := frozen_in _ _ 2 _ _ hq
          go_upto_region 14 with fail
          have oS := only1 wC Q 2 (.int .i64 0)
          have hq : (World.setCell wC ⟨Q, 2, none⟩ (.int .i64 0)).heap[Q]? = some (.cells #[.int .i64 xf, .int .i64 xt, .int .i64 0, .int .i64 xc, .int .i64 xk] 31 (0, 0)) := by rw [heap_setCell_at _ _ _ _ _ _ _ hq]; rfl
          have od := od.trans oS
          clear oS dd zz
          generalize World.setCell wC _ _ = wC at *
          clear c0 c1 c2 c3
          have hrow1 := own_only hrow od (fun i _ h e => by unfold B1 at e; omega)
          have oo1 := oo.then od (fun i h e => by unfold B1 at e; omega)
          have z1 := od.size
          have d0 := (cell_in _ _ 0 _ _ _ hq).trans rfl
          have d1 := (cell_in _ _ 1 _ _ _ hq).trans rfl
          have d2 := (cell_in _ _ 2 _ _ _ hq).trans rfl
          have d3 := (cell_in _ _ 3 _ _ _ hq).trans rfl
          have d4 := (cell_in _ _ 4 _ _ _ hq).trans rfl
          have lq := lt_of_heap hq
          go_wp2_with (at_builtin; refine wpList_append_own_at _ rfl _ _ 24 rfl w.heap.size 31 i0 _ 5 40 Try.underlying24 hi hz0 hz1 hz2 rfl (by decide) _ _ _ rfl (hrow1.alloc _) ⟨wC.heap.size, 0, none⟩ 1 1 [.int .i64 xf, .int .i64 xt, .int .i64 0, .int .i64 xc, .int .i64 xk] rfl rfl (five_new _ _ _ _ _ _ _) (by simp [Value.oneCell']) (by unfold maxLen; omega) (by omega) (by simp; omega) ?_; intro v' w2 hown' hgrow hnil hloc)
          go_roundw
          case rel => exact ⟨q + 1, by omega, by go_num, by rw [HS.out]; exact hown', (oo1.alloc _).grown hgrow (fun q hq e => absurd (hrow1.lt q e).1 (by omega))⟩
          case measure => simp [intOf]; omega
        · have s1 : (b3 % 8 == 1) = false := by simpa using x1
          rw [if_neg x1] at HS
          clear x1
          by_cases x2 : b3 % 8 = 2
          · have s2 : (b3 % 8 == 2) = true := by rw [x2]; rfl
            rw [if_pos x2] at HS
            clear x2
            go_upto_region 13 with fail
            have dd := (cell_in _ _ 4 _ _ _ hq).trans rfl
            have zz := frozen_in _ _ 4 _ _ hq
            go_upto_region 14 with fail
            have oS := only1 wC Q 4 (.int .i64 0)
            have hq : (World.setCell wC ⟨Q, 4, none⟩ (.int .i64 0)).heap[Q]? = some (.cells #[.int .i64 xf, .int .i64 xt, .int .i64 xl, .int .i64 xc, .int .i64 0] 31 (0, 0)) := by rw [heap_setCell_at _ _ _ _ _ _ _ hq]; rfl
            have od := od.trans oS
            clear oS dd zz
            generalize World.setCell wC _ _ = wC at *
            clear c0 c1 c2 c3
            have hrow1 := own_only hrow od (fun i _ h e => by unfold B1 at e; omega)
            have oo1 := oo.then od (fun i h e => by unfold B1 at e; omega)
            have z1 := od.size
            have d0 := (cell_in _ _ 0 _ _ _ hq).trans rfl
            have d1 := (cell_in _ _ 1 _ _ _ hq).trans rfl
            have d2 := (cell_in _ _ 2 _ _ _ hq).trans rfl
            have d3 := (cell_in _ _ 3 _ _ _ hq).trans rfl
            have d4 := (cell_in _ _ 4 _ _ _ hq).trans rfl
            have lq := lt_of_heap hq
            go_wp2_with (at_builtin; refine wpList_append_own_at _ rfl _ _ 24 rfl w.heap.size 31 i0 _ 5 40 Try.underlying24 hi hz0 hz1 hz2 rfl (by decide) _ _ _ rfl (hrow1.alloc _) ⟨wC.heap.size, 0, none⟩ 1 1 [.int .i64 xf, .int .i64 xt, .int .i64 xl, .int .i64 xc, .int .i64 0] rfl rfl (five_new _ _ _ _ _ _ _) (by simp [Value.oneCell']) (by unfold maxLen; omega) (by omega) (by simp; omega) ?_; intro v' w2 hown' hgrow hnil hloc)
            go_roundw
            case rel => exact ⟨q + 1, by omega, by go_num, by rw [HS.out]; exact hown', (oo1.alloc _).grown hgrow (fun q hq e => absurd (hrow1.lt q e).1 (by omega))⟩
            case measure => simp [intOf]; omega
          · have s2 : (b3 % 8 == 2) = false := by simpa using x2
            rw [if_neg x2] at HS
            clear x2
            go_upto_region 14 with fail
            clear c0 c1 c2 c3
            have hrow1 := own_only hrow od (fun i _ h e => by unfold B1 at e; omega)
            have oo1 := oo.then od (fun i h e => by unfold B1 at e; omega)
            have z1 := od.size
            have d0 := (cell_in _ _ 0 _ _ _ hq).trans rfl
            have d1 := (cell_in _ _ 1 _ _ _ hq).trans rfl
            have d2 := (cell_in _ _ 2 _ _ _ hq).trans rfl
            have d3 := (cell_in _ _ 3 _ _ _ hq).trans rfl
            have d4 := (cell_in _ _ 4 _ _ _ hq).trans rfl
            have lq := lt_of_heap hq
            go_wp2_with (at_builtin; refine wpList_append_own_at _ rfl _ _ 24 rfl w.heap.size 31 i0 _ 5 40 Try.underlying24 hi hz0 hz1 hz2 rfl (by decide) _ _ _ rfl (hrow1.alloc _) ⟨wC.heap.size, 0, none⟩ 1 1 [.int .i64 xf, .int .i64 xt, .int .i64 xl, .int .i64 xc, .int .i64 xk] rfl rfl (five_new _ _ _ _ _ _ _) (by simp [Value.oneCell']) (by unfold maxLen; omega) (by omega) (by simp; omega) ?_; intro v' w2 hown' hgrow hnil hloc)
            go_roundw
            case rel => exact ⟨q + 1, by omega, by go_num, by rw [HS.out]; exact hown', (oo1.alloc _).grown hgrow (fun q hq e => absurd (hrow1.lt q e).1 (by omega))⟩
            case measure => simp [intOf]; omega
    · obtain rfl : M = q := by omega
      have nl : decide (4 * (M : Int) + 3 < len) = false ∨ (4 * (M : Int) + 3 < len ∧ decide (4 * (M : Int) < 72) = false) := by
        rcases hM3 with h | h
        · by_cases c : 4 * (M : Int) + 3 < len
          · exact .inr ⟨c, by simp; omega⟩
          · exact .inl (by simp; omega)
        · exact .inl (by simp; omega)
      rcases nl with nl | ⟨nl, nl2⟩
      · go_wp2_with fail
        go_ret
        exact ⟨⟨_, rfl, hrow⟩, oo⟩
      · go_wp2_with fail
        go_ret
        exact ⟨⟨_, rfl, hrow⟩, oo⟩
end Go.Proofs.Ytgaekihcfcoaeaa
