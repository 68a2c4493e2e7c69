import Derived.Test.YtajihhmohokngaaWides
import Derived.Test.YtajihhmohokngaaRefSum
import Derived.Test.YtajihhmohokngaaTree
set_option linter.unusedVariables false
set_option linter.unusedSimpArgs false
namespace Go.Proofs.Ytajihhmohokngaa
open Go.RowKit

/-- n deeds, behind one address -/
structure DeedsAt (w : World) (a : Option Addr) (n : Nat) (K A B : Nat → Int) : Prop where
  fit : ∀ k, 0 ≤ K k ∧ K k < 256 ∧ In64 (A k) ∧ In64 (B k)
  cells : 0 < n → ∃ b o, a = some ⟨b, o, none⟩ ∧ ∀ k, k < n → w.cell? ⟨b, o + k * 3, none⟩ = some (.int .u8 (K k)) ∧ w.cell? ⟨b, o + k * 3 + 1, none⟩ = some (.int .i64 (A k)) ∧ w.cell? ⟨b, o + k * 3 + 2, none⟩ = some (.int .i64 (B k))
theorem DeedsAt.below {w w' : World} {a : Option Addr} {n : Nat} {K A B : Nat → Int} (h : DeedsAt w a n K A B) (k : Below w.heap.size w w') : DeedsAt w' a n K A B :=
  ⟨h.fit, fun h0 => by
    obtain ⟨b, o, e, hc⟩ := h.cells h0
    refine ⟨b, o, e, fun i hi => ?_⟩
    obtain ⟨c0, c1, c2⟩ := hc i hi
    exact ⟨by rw [k.cell (World.block_lt_of_cell? _ _ c0)]; exact c0, by rw [k.cell (World.block_lt_of_cell? _ _ c1)]; exact c1, by rw [k.cell (World.block_lt_of_cell? _ _ c2)]; exact c2⟩⟩

set_option maxRecDepth 100000 in
set_option maxHeartbeats 4000000 in
theorem deeds_any (a : Option Addr) (n cap : Nat) (K A B : Nat → Int) (w : World) (h : DeedsAt w a n K A B) :
    Calls Try.prog 23 #[.slice a n cap] w fun e w' => (∃ x, In128 x ∧ e = .returned (.agg #[.int .i64 (hi64 x), .int .u64 (lo64 x)])) ∧ Below w.heap.size w w' := by
  have bb := Below.refl w.heap.size w
  go_enter Try.func23, Try.ntmps23
  go_wp2_with fail
  have L0 := (lay_ok w 0).1
  have L1 := (lay_ok (lay w 0) 0).1
  have e1 : (lay w 0).heap.size = w.heap.size + 1 := by simp [lay]
  have i1 := (WideIn.new w 0).kept (B := 0) L1
  have i2 := WideIn.new (lay w 0) 0
  rw [e1] at i2
  have bb : Below w.heap.size w (lay (lay w 0) 0) := L0.trans (L1.mono (by omega))
  have h1 : DeedsAt (lay (lay w 0) 0) a n K A B := h.below bb
  refine at_world ?_
  intro W hW
  change W = lay (lay w 0) 0 at hW
  subst hW
  generalize lay (lay w 0) 0 = W at *
  have n12 : w.heap.size ≠ w.heap.size + 1 := by omega
  generalize hq2 : w.heap.size + 1 = q2 at *
  generalize hq1 : w.heap.size = q1 at *
  have H0 := Lib.hid h
  clear L0 L1 e1 h1 h
  have n21 : q2 ≠ q1 := fun e => n12 e.symm
  have q12 : q1 ≤ q2 := by omega
  clear hq2
  have QH := Lib.hid hq1
  clear hq1
  go_loopw [4] (fun s wr => ∃ (k : Nat) (x : Int), k ≤ n ∧ k ≤ 40 ∧ In128 x ∧ s = .int .i64 k ∧ WideIn wr q1 0 ∧ WideIn wr q2 x ∧ Below q1 w wr) (fun s _ => n - (intOf s).toNat)
  case atStart => exact ⟨0, 0, by omega, by omega, by unfold In128; omega, rfl, i1, i2, bb⟩
  case round =>
    clear i1 i2 bb
    obtain ⟨k, x, hk, hk4, hx, rfl, i1, i2, bb⟩ := hrel
    have hi : DeedsAt wr a n K A B := DeedsAt.below H0.out (by rw [QH.out]; exact bb)
    by_cases lt : k < n ∧ k < 40
    · obtain ⟨lt, lt4⟩ := lt
      have lti : (k : Int) < n := by omega
      have lt4i : (k : Int) < 40 := by omega
      obtain ⟨b, o, rfl, hc⟩ := hi.cells (by omega)
      obtain ⟨ck, ca, cb⟩ := hc k lt
      obtain ⟨k0, k1, fa, fb⟩ := hi.fit k
      have mk : ∀ w', Below q1 w w' → w'.cell? ⟨b, o + k * 3 + 1, none⟩ = some (.int .i64 (A k)) ∧ w'.cell? ⟨b, o + k * 3 + 2, none⟩ = some (.int .i64 (B k)) := fun w' h => by
        have d := DeedsAt.below H0.out (w' := w') (by rw [QH.out]; exact h)
        obtain ⟨b', o', e', hc'⟩ := d.cells (by omega)
        cases e'
        exact (hc' k lt).2
      generalize K k = kv at *
      generalize A k = av at *
      generalize B k = bv at *
      have MK := Lib.hid mk
      clear hc hi mk
      have k6 : kv.tmod 6 = kv % 6 := Int.tmod_eq_emod_of_nonneg k0
      obtain ⟨y, hy, e1, e2⟩ : ∃ y, In128 y ∧ hi64 y = av ∧ lo64 y = IntKind.u64.wrap bv := ⟨av * 18446744073709551616 + lo64 bv, by unfold In64 at fa; unfold In128 lo64; omega, by unfold hi64 lo64; omega, by rw [u64_eq]; unfold lo64; omega⟩
      have PY := fun w => rplus_any x y w hx hy
      have MY := fun w => rminus_any x y w hx hy
      rw [e1, e2] at PY MY
      have PY := Lib.hid PY
      have MY := Lib.hid MY
      have TT := Lib.hid (fun w => rtimes_any av bv w fa fb)
      have PT := Lib.hid (fun w => rplus_any x (av * bv) w hx (prod_in fa fb))
      have OO := Lib.hid (fun w => rof_any av w fa)
      have LL := fun w => rless_any x w hx
      rw [show (0 : Int) - x = -x by omega] at LL
      have LL := Lib.hid LL
      have WW := Lib.hid (fun w => rtwice_any x w hx)
      have FA := Lib.hid fa
      clear fa fb e1 e2 hy
      have HM : ∀ c : Int, kv % 6 ≠ c → (kv.tmod 6 == c) = false := fun c h => by rw [k6]; simp; omega
      by_cases z0 : kv % 6 = 0
      · skip
        have t0 : (kv.tmod 6 == 0) = true := by rw [k6, z0]; rfl
        clear HM k6
        go_wp2_with fail
        refine wp_region_along (fun w' => w'.cell? ⟨b, o + k * 3 + 1, none⟩ = some (.int .i64 av) ∧ w'.cell? ⟨b, o + k * 3 + 2, none⟩ = some (.int .i64 bv)) [(1, true), (2, true), (3, true), (4, true), (5, true), (6, true), (7, true), (8, true), (9, true), (10, true), (11, true), (12, true), (0, false), (13, false), (14, false)] (by kernel_rfl) (by kernel_rfl) ?_ ?_
        · exact MK.out _ (Below.drew bb)
        · have i1 : WideIn wr.drew q1 0 := i1
          have i2 : WideIn wr.drew q2 x := i2
          have bb := Below.drew bb
          generalize wr.drew = Y at *
          have d0 := i2.c0
          have d1 := i2.c1
          have f0 := i2.f0 0
          have f1 := i2.f0 1
          have lt5 := i2.lt
          repeat (first | (refine' along_take (by simp only [List.getElem?_cons_succ, List.getElem?_cons_zero]; rfl) (by rfl) ?_ ?_ ?_; rotate_left 2; (intro w' hS; go_simp; try rfl); (simp only [Act.put, List.setIfInBounds_toArray, List.set_cons_zero, List.set_cons_succ]; try rfl)) | (refine' along_skip (by simp only [List.getElem?_cons_succ, List.getElem?_cons_zero]; rfl) (by rfl) ?_ ?_; rotate_left 1; (simp only [Act.put, List.setIfInBounds_toArray, List.set_cons_zero, List.set_cons_succ]; try rfl)))
          (refine along_do (by simp only [List.getElem?_cons_succ, List.getElem?_cons_zero]; rfl) (by rfl) (fun K hK => ?_); go_simp)
          (refine hK _ _ (MK.out _ bb) ?_; clear hK K)
          clear d0 d1 f0 f1 lt5
          repeat (first | (refine' along_take (by simp only [List.getElem?_cons_succ, List.getElem?_cons_zero]; rfl) (by rfl) ?_ ?_ ?_; rotate_left 2; (intro w' hS; go_simp; try rfl); (simp only [Act.put, List.setIfInBounds_toArray, List.set_cons_zero, List.set_cons_succ]; try rfl)) | (refine' along_skip (by simp only [List.getElem?_cons_succ, List.getElem?_cons_zero]; rfl) (by rfl) ?_ ?_; rotate_left 1; (simp only [Act.put, List.setIfInBounds_toArray, List.set_cons_zero, List.set_cons_succ]; try rfl)))
          (refine along_do (by simp only [List.getElem?_cons_succ, List.getElem?_cons_zero]; rfl) (by rfl) (fun K hK => ?_); go_simp)
          refine (PY.out _).mono ?_
          rintro e w3 ⟨rfl, bq⟩
          have bb := bb.trans (bq.mono (by have := i1.lt; omega))
          have i1 := i1.kept (B := 0) bq
          have i2 := i2.kept (B := 0) bq
          clear bq
          (refine hK _ _ (MK.out _ bb) ?_; clear hK K)
          repeat (first | (refine' along_take (by simp only [List.getElem?_cons_succ, List.getElem?_cons_zero]; rfl) (by rfl) ?_ ?_ ?_; rotate_left 2; (intro w' hS; go_simp; try rfl); (simp only [Act.put, List.setIfInBounds_toArray, List.set_cons_zero, List.set_cons_succ]; try rfl)) | (refine' along_skip (by simp only [List.getElem?_cons_succ, List.getElem?_cons_zero]; rfl) (by rfl) ?_ ?_; rotate_left 1; (simp only [Act.put, List.setIfInBounds_toArray, List.set_cons_zero, List.set_cons_succ]; try rfl)))
          have d0 := i2.c0
          have d1 := i2.c1
          have f0 := i2.f0 0
          have f1 := i2.f0 1
          have lt5 := i2.lt
          (refine along_do (by simp only [List.getElem?_cons_succ, List.getElem?_cons_zero]; rfl) (by rfl) (fun K hK => ?_); go_simp)
          clear d0 d1 f0 f1 lt5
          have i1 := i1.far (c := q2) (w128 (x + y)) n12
          have i2 := i2.set (w128 (x + y))
          have bb := put2_below bb (w128 (x + y)) (c := q2) q12
          refine hK (_ : Act) (put2 w3 q2 (w128 (x + y))) (MK.out _ bb) ?_
          clear hK K
          generalize put2 w3 q2 (w128 (x + y)) = w4 at *
          refine along_end ?_
          go_wp2_with fail
          go_roundw
          case rel => exact ⟨k + 1, w128 (x + y), by omega, by omega, w128_in _, by go_num, i1, i2, bb⟩
          case measure => simp [intOf]; omega
      · skip
        by_cases z1 : kv % 6 = 1
        · skip
          have t0 := HM 0 z0
          have t1 : (kv.tmod 6 == 1) = true := by rw [k6, z1]; rfl
          clear HM k6
          go_wp2_with fail
          refine wp_region_along (fun w' => w'.cell? ⟨b, o + k * 3 + 1, none⟩ = some (.int .i64 av) ∧ w'.cell? ⟨b, o + k * 3 + 2, none⟩ = some (.int .i64 bv)) [(1, true), (2, true), (3, true), (4, true), (5, true), (6, true), (7, true), (8, true), (9, true), (10, true), (11, true), (12, true), (0, false), (13, false), (14, false)] (by kernel_rfl) (by kernel_rfl) ?_ ?_
          · exact MK.out _ (Below.drew bb)
          · have i1 : WideIn wr.drew q1 0 := i1
            have i2 : WideIn wr.drew q2 x := i2
            have bb := Below.drew bb
            generalize wr.drew = Y at *
            have d0 := i2.c0
            have d1 := i2.c1
            have f0 := i2.f0 0
            have f1 := i2.f0 1
            have lt5 := i2.lt
            repeat (first | (refine' along_take (by simp only [List.getElem?_cons_succ, List.getElem?_cons_zero]; rfl) (by rfl) ?_ ?_ ?_; rotate_left 2; (intro w' hS; go_simp; try rfl); (simp only [Act.put, List.setIfInBounds_toArray, List.set_cons_zero, List.set_cons_succ]; try rfl)) | (refine' along_skip (by simp only [List.getElem?_cons_succ, List.getElem?_cons_zero]; rfl) (by rfl) ?_ ?_; rotate_left 1; (simp only [Act.put, List.setIfInBounds_toArray, List.set_cons_zero, List.set_cons_succ]; try rfl)))
            (refine along_do (by simp only [List.getElem?_cons_succ, List.getElem?_cons_zero]; rfl) (by rfl) (fun K hK => ?_); go_simp)
            (refine hK _ _ (MK.out _ bb) ?_; clear hK K)
            clear d0 d1 f0 f1 lt5
            repeat (first | (refine' along_take (by simp only [List.getElem?_cons_succ, List.getElem?_cons_zero]; rfl) (by rfl) ?_ ?_ ?_; rotate_left 2; (intro w' hS; go_simp; try rfl); (simp only [Act.put, List.setIfInBounds_toArray, List.set_cons_zero, List.set_cons_succ]; try rfl)) | (refine' along_skip (by simp only [List.getElem?_cons_succ, List.getElem?_cons_zero]; rfl) (by rfl) ?_ ?_; rotate_left 1; (simp only [Act.put, List.setIfInBounds_toArray, List.set_cons_zero, List.set_cons_succ]; try rfl)))
            (refine along_do (by simp only [List.getElem?_cons_succ, List.getElem?_cons_zero]; rfl) (by rfl) (fun K hK => ?_); go_simp)
            refine (MY.out _).mono ?_
            rintro e w3 ⟨rfl, bq⟩
            have bb := bb.trans (bq.mono (by have := i1.lt; omega))
            have i1 := i1.kept (B := 0) bq
            have i2 := i2.kept (B := 0) bq
            clear bq
            (refine hK _ _ (MK.out _ bb) ?_; clear hK K)
            repeat (first | (refine' along_take (by simp only [List.getElem?_cons_succ, List.getElem?_cons_zero]; rfl) (by rfl) ?_ ?_ ?_; rotate_left 2; (intro w' hS; go_simp; try rfl); (simp only [Act.put, List.setIfInBounds_toArray, List.set_cons_zero, List.set_cons_succ]; try rfl)) | (refine' along_skip (by simp only [List.getElem?_cons_succ, List.getElem?_cons_zero]; rfl) (by rfl) ?_ ?_; rotate_left 1; (simp only [Act.put, List.setIfInBounds_toArray, List.set_cons_zero, List.set_cons_succ]; try rfl)))
            have d0 := i2.c0
            have d1 := i2.c1
            have f0 := i2.f0 0
            have f1 := i2.f0 1
            have lt5 := i2.lt
            (refine along_do (by simp only [List.getElem?_cons_succ, List.getElem?_cons_zero]; rfl) (by rfl) (fun K hK => ?_); go_simp)
            clear d0 d1 f0 f1 lt5
            have i1 := i1.far (c := q2) (w128 (x - y)) n12
            have i2 := i2.set (w128 (x - y))
            have bb := put2_below bb (w128 (x - y)) (c := q2) q12
            refine hK (_ : Act) (put2 w3 q2 (w128 (x - y))) (MK.out _ bb) ?_
            clear hK K
            generalize put2 w3 q2 (w128 (x - y)) = w4 at *
            refine along_end ?_
            go_wp2_with fail
            go_roundw
            case rel => exact ⟨k + 1, w128 (x - y), by omega, by omega, w128_in _, by go_num, i1, i2, bb⟩
            case measure => simp [intOf]; omega
        · skip
          by_cases z2 : kv % 6 = 2
          · skip
            have t0 := HM 0 z0
            have t1 := HM 1 z1
            have t2 : (kv.tmod 6 == 2) = true := by rw [k6, z2]; rfl
            clear HM k6
            go_wp2_with fail
            refine wp_region_tree (fun w' => w'.cell? ⟨b, o + k * 3 + 1, none⟩ = some (.int .i64 av) ∧ w'.cell? ⟨b, o + k * 3 + 2, none⟩ = some (.int .i64 bv)) (.take 1 (.take 2 (.take 3 (.take 4 (.take 5 (.take 6 (.take 7 (.take 8 (.take 9 (.take 10 (.two 0 (.one 11 (.one 12 (.one 13 .done))) 11 (.one 0 (.one 12 (.one 13 .done)))))))))))))) (by kernel_rfl) (by kernel_rfl) ?_ ?_
            · exact MK.out _ (Below.drew bb)
            · have i1 : WideIn wr.drew q1 0 := i1
              have i2 : WideIn wr.drew q2 x := i2
              have bb := Below.drew bb
              generalize wr.drew = Y at *
              repeat (refine' tree_take (by simp only [List.getElem?_cons_succ, List.getElem?_cons_zero]; rfl) (by rfl) ?_ ?_ ?_; rotate_left 2; (intro w' hS; go_simp; try rfl); (simp only [Act.put, List.setIfInBounds_toArray, List.set_cons_zero, List.set_cons_succ]; try rfl))
              refine tree_two ?_ ?_
              · skip
                have d0 := i2.c0
                have d1 := i2.c1
                have f0 := i2.f0 0
                have f1 := i2.f0 1
                have lt5 := i2.lt
                (refine tree_op (by simp only [List.getElem?_cons_succ, List.getElem?_cons_zero]; rfl) (by rfl) (fun K hK => ?_); go_simp)
                (refine hK _ _ (MK.out _ bb) ?_; clear hK K)
                clear d0 d1 f0 f1 lt5
                repeat (refine' tree_take (by simp only [List.getElem?_cons_succ, List.getElem?_cons_zero]; rfl) (by rfl) ?_ ?_ ?_; rotate_left 2; (intro w' hS; go_simp; try rfl); (simp only [Act.put, List.setIfInBounds_toArray, List.set_cons_zero, List.set_cons_succ]; try rfl))
                (refine tree_do (by simp only [List.getElem?_cons_succ, List.getElem?_cons_zero]; rfl) (by rfl) (fun K hK => ?_); go_simp)
                refine (TT.out _).mono ?_
                rintro e w2 ⟨rfl, bq⟩
                have bb := bb.trans (bq.mono (by have := i1.lt; omega))
                have i1 := i1.kept (B := 0) bq
                have i2 := i2.kept (B := 0) bq
                clear bq
                (refine hK _ _ (MK.out _ bb) ?_; clear hK K)
                repeat (refine' tree_take (by simp only [List.getElem?_cons_succ, List.getElem?_cons_zero]; rfl) (by rfl) ?_ ?_ ?_; rotate_left 2; (intro w' hS; go_simp; try rfl); (simp only [Act.put, List.setIfInBounds_toArray, List.set_cons_zero, List.set_cons_succ]; try rfl))
                (refine tree_do (by simp only [List.getElem?_cons_succ, List.getElem?_cons_zero]; rfl) (by rfl) (fun K hK => ?_); go_simp)
                refine (PT.out _).mono ?_
                rintro e w3 ⟨rfl, bq⟩
                have bb := bb.trans (bq.mono (by have := i1.lt; omega))
                have i1 := i1.kept (B := 0) bq
                have i2 := i2.kept (B := 0) bq
                clear bq
                (refine hK _ _ (MK.out _ bb) ?_; clear hK K)
                repeat (refine' tree_take (by simp only [List.getElem?_cons_succ, List.getElem?_cons_zero]; rfl) (by rfl) ?_ ?_ ?_; rotate_left 2; (intro w' hS; go_simp; try rfl); (simp only [Act.put, List.setIfInBounds_toArray, List.set_cons_zero, List.set_cons_succ]; try rfl))
                have d0 := i2.c0
                have d1 := i2.c1
                have f0 := i2.f0 0
                have f1 := i2.f0 1
                have lt5 := i2.lt
                (refine tree_do (by simp only [List.getElem?_cons_succ, List.getElem?_cons_zero]; rfl) (by rfl) (fun K hK => ?_); go_simp)
                clear d0 d1 f0 f1 lt5
                have i1 := i1.far (c := q2) (w128 (x + av * bv)) n12
                have i2 := i2.set (w128 (x + av * bv))
                have bb := put2_below bb (w128 (x + av * bv)) (c := q2) q12
                refine hK (_ : Act) (put2 w3 q2 (w128 (x + av * bv))) (MK.out _ bb) ?_
                clear hK K
                generalize put2 w3 q2 (w128 (x + av * bv)) = w4 at *
                refine tree_end ?_
                go_wp2_with fail
                go_roundw
                case rel => exact ⟨k + 1, w128 (x + av * bv), by omega, by omega, w128_in _, by go_num, i1, i2, bb⟩
                case measure => simp [intOf]; omega
              · skip
                (refine tree_op (by simp only [List.getElem?_cons_succ, List.getElem?_cons_zero]; rfl) (by rfl) (fun K hK => ?_); go_simp)
                refine (TT.out _).mono ?_
                rintro e w2 ⟨rfl, bq⟩
                have bb := bb.trans (bq.mono (by have := i1.lt; omega))
                have i1 := i1.kept (B := 0) bq
                have i2 := i2.kept (B := 0) bq
                clear bq
                (refine hK _ _ (MK.out _ bb) ?_; clear hK K)
                repeat (refine' tree_take (by simp only [List.getElem?_cons_succ, List.getElem?_cons_zero]; rfl) (by rfl) ?_ ?_ ?_; rotate_left 2; (intro w' hS; go_simp; try rfl); (simp only [Act.put, List.setIfInBounds_toArray, List.set_cons_zero, List.set_cons_succ]; try rfl))
                have d0 := i2.c0
                have d1 := i2.c1
                have f0 := i2.f0 0
                have f1 := i2.f0 1
                have lt5 := i2.lt
                (refine tree_do (by simp only [List.getElem?_cons_succ, List.getElem?_cons_zero]; rfl) (by rfl) (fun K hK => ?_); go_simp)
                (refine hK _ _ (MK.out _ bb) ?_; clear hK K)
                clear d0 d1 f0 f1 lt5
                repeat (refine' tree_take (by simp only [List.getElem?_cons_succ, List.getElem?_cons_zero]; rfl) (by rfl) ?_ ?_ ?_; rotate_left 2; (intro w' hS; go_simp; try rfl); (simp only [Act.put, List.setIfInBounds_toArray, List.set_cons_zero, List.set_cons_succ]; try rfl))
                (refine tree_do (by simp only [List.getElem?_cons_succ, List.getElem?_cons_zero]; rfl) (by rfl) (fun K hK => ?_); go_simp)
                refine (PT.out _).mono ?_
                rintro e w3 ⟨rfl, bq⟩
                have bb := bb.trans (bq.mono (by have := i1.lt; omega))
                have i1 := i1.kept (B := 0) bq
                have i2 := i2.kept (B := 0) bq
                clear bq
                (refine hK _ _ (MK.out _ bb) ?_; clear hK K)
                repeat (refine' tree_take (by simp only [List.getElem?_cons_succ, List.getElem?_cons_zero]; rfl) (by rfl) ?_ ?_ ?_; rotate_left 2; (intro w' hS; go_simp; try rfl); (simp only [Act.put, List.setIfInBounds_toArray, List.set_cons_zero, List.set_cons_succ]; try rfl))
                have d0 := i2.c0
                have d1 := i2.c1
                have f0 := i2.f0 0
                have f1 := i2.f0 1
                have lt5 := i2.lt
                (refine tree_do (by simp only [List.getElem?_cons_succ, List.getElem?_cons_zero]; rfl) (by rfl) (fun K hK => ?_); go_simp)
                clear d0 d1 f0 f1 lt5
                have i1 := i1.far (c := q2) (w128 (x + av * bv)) n12
                have i2 := i2.set (w128 (x + av * bv))
                have bb := put2_below bb (w128 (x + av * bv)) (c := q2) q12
                refine hK (_ : Act) (put2 w3 q2 (w128 (x + av * bv))) (MK.out _ bb) ?_
                clear hK K
                generalize put2 w3 q2 (w128 (x + av * bv)) = w4 at *
                refine tree_end ?_
                go_wp2_with fail
                go_roundw
                case rel => exact ⟨k + 1, w128 (x + av * bv), by omega, by omega, w128_in _, by go_num, i1, i2, bb⟩
                case measure => simp [intOf]; omega
          · skip
            by_cases z3 : kv % 6 = 3
            · skip
              have t0 := HM 0 z0
              have t1 := HM 1 z1
              have t2 := HM 2 z2
              have t3 : (kv.tmod 6 == 3) = true := by rw [k6, z3]; rfl
              clear HM k6
              have d0 := i2.c0
              have d1 := i2.c1
              have f0 := i2.f0 0
              have f1 := i2.f0 1
              have lt5 := i2.lt
              go_wp2_with fail
              clear d0 d1 f0 f1 lt5
              refine (OO.out _).mono ?_
              rintro e w3 ⟨rfl, bq⟩
              have bb := bb.trans (bq.mono (by have := i1.lt; omega))
              have i1 := i1.kept (B := 0) bq
              have i2 := i2.kept (B := 0) bq
              clear bq
              have d0 := i2.c0
              have d1 := i2.c1
              have f0 := i2.f0 0
              have f1 := i2.f0 1
              have lt5 := i2.lt
              go_wp2_with fail
              clear d0 d1 f0 f1 lt5
              have i1 := i1.far (c := q2) (av) n12
              have i2 := i2.set (av)
              have bb := put2_below bb (av) (c := q2) q12
              go_roundw
              case rel => exact ⟨k + 1, av, by omega, by omega, FA.out.wide, by go_num, i1, i2, bb⟩
              case measure => simp [intOf]; omega
            · skip
              by_cases z4 : kv % 6 = 4
              · skip
                have t0 := HM 0 z0
                have t1 := HM 1 z1
                have t2 := HM 2 z2
                have t3 := HM 3 z3
                have t4 : (kv.tmod 6 == 4) = true := by rw [k6, z4]; rfl
                clear HM k6
                have d0 := i2.c0
                have d1 := i2.c1
                have f0 := i2.f0 0
                have f1 := i2.f0 1
                have lt5 := i2.lt
                go_wp2_with fail
                clear d0 d1 f0 f1 lt5
                refine (LL.out _).mono ?_
                rintro e w3 ⟨rfl, bq⟩
                have bb := bb.trans (bq.mono (by have := i1.lt; omega))
                have i1 := i1.kept (B := 0) bq
                have i2 := i2.kept (B := 0) bq
                clear bq
                have d0 := i2.c0
                have d1 := i2.c1
                have f0 := i2.f0 0
                have f1 := i2.f0 1
                have lt5 := i2.lt
                go_wp2_with fail
                clear d0 d1 f0 f1 lt5
                have i1 := i1.far (c := q2) (w128 (-x)) n12
                have i2 := i2.set (w128 (-x))
                have bb := put2_below bb (w128 (-x)) (c := q2) q12
                go_roundw
                case rel => exact ⟨k + 1, w128 (-x), by omega, by omega, w128_in _, by go_num, i1, i2, bb⟩
                case measure => simp [intOf]; omega
              · skip
                have t0 := HM 0 z0
                have t1 := HM 1 z1
                have t2 := HM 2 z2
                have t3 := HM 3 z3
                have t4 := HM 4 z4
                clear HM k6
                have d0 := i2.c0
                have d1 := i2.c1
                have f0 := i2.f0 0
                have f1 := i2.f0 1
                have lt5 := i2.lt
                go_wp2_with fail
                clear d0 d1 f0 f1 lt5
                refine (WW.out _).mono ?_
                rintro e w3 ⟨rfl, bq⟩
                have bb := bb.trans (bq.mono (by have := i1.lt; omega))
                have i1 := i1.kept (B := 0) bq
                have i2 := i2.kept (B := 0) bq
                clear bq
                have d0 := i2.c0
                have d1 := i2.c1
                have f0 := i2.f0 0
                have f1 := i2.f0 1
                have lt5 := i2.lt
                go_wp2_with fail
                clear d0 d1 f0 f1 lt5
                have i1 := i1.far (c := q2) (w128 (x + x)) n12
                have i2 := i2.set (w128 (x + x))
                have bb := put2_below bb (w128 (x + x)) (c := q2) q12
                go_roundw
                case rel => exact ⟨k + 1, w128 (x + x), by omega, by omega, w128_in _, by go_num, i1, i2, bb⟩
                case measure => simp [intOf]; omega
    · have hl : ¬ ((k : Int) < n ∧ (k : Int) < 40) := by omega
      clear hi
      have d0 := i2.c0
      have d1 := i2.c1
      have g0 := i1.c0
      have g1 := i1.c1
      have f0 := i1.f0 0
      have f1 := i1.f0 1
      have lt5 := i1.lt
      by_cases l1 : (k : Int) < n
      · have l2 : ¬ (k : Int) < 40 := by omega
        clear hl lt
        go_wp2_with fail
        clear d0 d1
        have i1 := i1.set x
        have e0 := i1.c0
        have e1 := i1.c1
        have bb := put2_below bb x (c := q1) (Nat.le_refl _)
        refine bodyPost_ret (v := .agg #[.int .i64 (hi64 x), .int .u64 (lo64 x)]) (by simp [results, Try.results23, go_sem, g0, g1, f0, f1, lt5]) rfl ⟨⟨x, hx, rfl⟩, by rw [QH.out]; exact bb⟩
      · clear hl lt
        go_wp2_with fail
        clear d0 d1
        have i1 := i1.set x
        have e0 := i1.c0
        have e1 := i1.c1
        have bb := put2_below bb x (c := q1) (Nat.le_refl _)
        refine bodyPost_ret (v := .agg #[.int .i64 (hi64 x), .int .u64 (lo64 x)]) (by simp [results, Try.results23, go_sem, g0, g1, f0, f1, lt5]) rfl ⟨⟨x, hx, rfl⟩, by rw [QH.out]; exact bb⟩
end Go.Proofs.Ytajihhmohokngaa
