import Derived.Test.YtincgkcmfhhofaaKnown
import Derived.Test.YtincgkcmfhhofaaOrder
import Derived.Test.YtincgkcmfhhofaaPartsMath
import Derived.Deep.RegionHeld3
import Derived.Test.YtincgkcmfhhofaaSched
set_option linter.unusedVariables false
set_option linter.unusedSimpArgs false
namespace Go.Proofs.Ytincgkcmfhhofaa
open Go.RowKit

theorem many_joinI_yes {n : Nat} {L : Nat → Nat} {a b : Int} (ht : Tidy n L) (h : joins n L a b = true) : many n (joinI n L a b) + 1 = many n L := by
  unfold joins at h
  simp only [Bool.and_eq_true, Bool.not_eq_true', beq_eq_false_iff_ne] at h
  obtain ⟨h1, h2, h3⟩ := h
  have q1 := inB_toNat h1
  have q2 := inB_toNat h2
  have l1 := ht.le _ q1
  have l2 := ht.le _ q2
  rw [joinI_in h1 h2]
  exact many_join ht _ _ (by omega) (by omega) (ht.idem _ q1) (ht.idem _ q2) h3

/-- what the law's second half goes over: the groups, as memory holds them, a Sets, and a row of counts -/
structure Half (w wr : World) (b u sb n : Nat) (L : Nat → Nat) (B : Nat) (vg : Value) (f : Nat → Nat) : Prop where
  is : Is wr b u n L
  row : wr.heap[sb]? = some (.cells (cellsOf n f) 3 (0, 0))
  grid : GridIn (fun k => B ≤ k) wr vg (groups n L)
  only : Only NoB w wr

theorem Half.congr {w wr : World} {b u sb n : Nat} {L : Nat → Nat} {B : Nat} {vg : Value} {f g : Nat → Nat} (h : Half w wr b u sb n L B vg f) (e : ∀ i, i < n → f i = g i) : Half w wr b u sb n L B vg g := by
  obtain ⟨h1, h2, h3, h4⟩ := h
  refine ⟨h1, ?_, h3, h4⟩
  have : cellsOf n f = cellsOf n g := by
    unfold cellsOf
    congr 1
    apply List.map_congr_left
    intro i hi
    rw [e i (List.mem_range.1 hi)]
  rw [← this]; exact h2
/-- a call on the Sets -/
theorem Half.called {w wr w' : World} {b u sb n : Nat} {L : Nat → Nat} {B : Nat} {vg : Value} {f : Nat → Nat} (h : Half w wr b u sb n L B vg f) (o : Only (B1 u) wr w') (hi : Is w' b u n L) (h1 : sb ≠ u) (h2 : u < B) (h3 : w.heap.size ≤ u) : Half w w' b u sb n L B vg f :=
  ⟨hi, by rw [o.block sb (lt_of_heap h.row) h1]; exact h.row, h.grid.kept o (fun k hk e => by unfold B1 at e; omega), h.only.then o (fun i hi e => by unfold B1 at e; omega)⟩
theorem Half.drew {w wr : World} {b u sb n : Nat} {L : Nat → Nat} {B : Nat} {vg : Value} {f : Nat → Nat} (h : Half w wr b u sb n L B vg f) : Half w wr.drew b u sb n L B vg f :=
  ⟨h.is.drew, h.row, h.grid.kept (S := NoB) ((Only.refl _ _).drew) (fun _ _ f => f), h.only.drew⟩
/-- a count goes up -/
theorem Half.set {w wr : World} {b u sb n : Nat} {L : Nat → Nat} {B : Nat} {vg : Value} {f : Nat → Nat} (h : Half w wr b u sb n L B vg f) (v : Nat) (y : Nat) (h1 : sb ≠ u) (h2 : sb ≠ b) (h3 : sb < B) (h4 : w.heap.size ≤ sb) : Half w (wr.setCell ⟨sb, v, none⟩ (.int .i64 y)) b u sb n L B vg (upd f v y) := by
  have o : Only (B1 sb) wr (wr.setCell ⟨sb, v, none⟩ (.int .i64 y)) := Only.setCell (S := B1 sb) (Only.refl _ _) (p := ⟨sb, v, none⟩) (fun _ => by unfold B1; rfl) _
  refine ⟨h.is.kept o (fun e => h2 e.symm) (fun e => h1 e.symm), ?_, h.grid.kept o (fun k hk e => by unfold B1 at e; omega), h.only.then o (fun i hi e => by unfold B1 at e; omega)⟩
  rw [heap_setCell_at _ _ _ _ _ _ _ h.row, cellsOf_set n f (upd f v y) v y (by rw [upd_at]) (fun i _ e => upd_ne _ _ _ _ e)]
theorem Half.at {w wr : World} {b u sb n : Nat} {L : Nat → Nat} {B : Nat} {vg : Value} {f : Nat → Nat} (h : Half w wr b u sb n L B vg f) (v : Nat) (hv : v < n) : wr.cell? ⟨sb, v, none⟩ = some (.int .i64 (f v)) := by
  rw [cell_in _ _ _ _ _ _ h.row, cellsOf_get _ _ _ hv]
theorem Half.fz {w wr : World} {b u sb n : Nat} {L : Nat → Nat} {B : Nat} {vg : Value} {f : Nat → Nat} (h : Half w wr b u sb n L B vg f) (v : Nat) : wr.frozen? ⟨sb, v, none⟩ = false := frozen_in _ _ _ _ _ h.row

/-- the groups' cells -/
theorem Half.cells {w wr : World} {b u sb n : Nat} {L : Nat → Nat} {B : Nat} {vg : Value} {f : Nat → Nat} (h : Half w wr b u sb n L B vg f) (k : Nat) (hk : k < many n L) :
    ∃ bg og cg bk ok ck, vg = .slice (some ⟨bg, og, none⟩) (many n L) cg ∧ B ≤ bg ∧ B ≤ bk ∧ wr.cell? ⟨bg, og + k, none⟩ = some (.slice (some ⟨bk, ok, none⟩) (size n L (rootN n L k)) ck) ∧
      ∀ j, j < size n L (rootN n L k) → wr.cell? ⟨bk, ok + j, none⟩ = some (.int .i64 (memN n L (rootN n L k) j)) := by
  obtain ⟨a, cap, rfl, _, hc⟩ := h.grid
  have hl := groups_len n L
  obtain ⟨bg, og, rfl, hp, hc⟩ := hc (by omega)
  obtain ⟨x, hx, a', c', rfl, _, hi⟩ := hc k (by omega)
  rw [groups_get n L k hk] at hi hx
  obtain ⟨r1, r2, r3⟩ := rootN_spec n L k hk
  have sp := size_pos n L _ r1 r2
  rw [gat_length] at hi hx
  obtain ⟨bk, ok, rfl, hp', hi⟩ := hi sp
  refine ⟨bg, og, cap, bk, ok, c', by rw [hl], hp, hp', hx, fun j hj => ?_⟩
  rw [hi j hj, gat_get _ _ _ _ hj]

set_option maxRecDepth 100000 in
set_option maxHeartbeats 2000000 in
theorem parts_walk (a : Option Addr) (len cap : Nat) (f : Nat → Int) (c : Int) (hc : 0 ≤ c ∧ c ≤ 255) (w : World) (h : BytesIn w a len f) :
    Calls Try.prog 6 #[.slice a len cap, .int .u8 c] w fun e w' => e = .returned (.bool true) ∧ Below w.heap.size w w' := by
  have hc0 := hc.1
  have hc1 := hc.2
  obtain ⟨n, hn⟩ : ∃ n : Nat, (n : Int) = c % 19 := ⟨(c % 19).toNat, by omega⟩
  have hn19 : n < 19 := by omega
  have hmk := fun u => make_ints n (by omega) u
  go_enter Try.func6, Try.ntmps6
  go_wp2_with fail
  rw [← hn]
  have hcl : clamp (n : Int) = n := by unfold clamp; omega
  have HC := Lib.hid hcl
  clear hn hcl
  refine (new_any _ w).mono ?_
  rw [HC.out]
  rintro e w1 ⟨rfl, h1, o1⟩
  have z1 := o1.size
  have q1 := h1.ltb
  go_wp2_with fail
  refine (pairs_any a len cap f w1 (h.kept o1 (fun _ _ f => f))).mono ?_
  rintro e w2 ⟨⟨v, rfl, hv⟩, o2⟩
  have h2 := h1.kept o2 (fun f => f) (fun f => f)
  rw [prs_pl] at hv
  obtain ⟨va, vc, rfl⟩ := hv.len
  have hl : (two (pl f (npairs len))).length = (pl f (npairs len)).length := by simp [two]
  rw [hl] at hv ⊢
  generalize hps : pl f (npairs len) = ps at *
  have hps2 : ps.length ≤ 30 := by rw [← hps, pl_len]; unfold npairs; omega
  clear hps hl h1
  have o12 : Only NoB w w2 := o1.trans o2
  go_wp2_with fail
  go_loopw [8, 9] (fun s8 s wr => ∃ k : Nat, k ≤ ps.length ∧ s = .int .i64 k ∧ s8 = .int .i64 (many n (joinAll n (ps.take k)) : Nat) ∧ Is wr (w.heap.size + 1) w.heap.size n (joinAll n (ps.take k)) ∧ Only (B2 (w.heap.size + 1) w.heap.size) w2 wr)
    (fun _ s _ => ps.length - (intOf s).toNat)
  case atStart => exact ⟨0, Nat.zero_le _, rfl, by rw [List.take_zero, joinAll_nil, many_id], h2, Only.refl _ _⟩
  case round =>
    obtain ⟨k, hk, rfl, rfl, hs, ho⟩ := hrel
    by_cases lt : k < ps.length
    · have lti : (k : Int) < ps.length := by omega
      obtain ⟨b, o, cap', b', o', c', hva, hb, hb', e0, e1, e2⟩ := pair_cells (hv.kept ho.drew (fun b hb s => by unfold B2 at s; omega)) k lt
      obtain ⟨rfl, rfl⟩ : va = some ⟨b, o, none⟩ ∧ vc = cap' := by cases hva; exact ⟨rfl, rfl⟩
      have HJ := Lib.hid (joinAll_take n ps k lt)
      have tL := hs.tidy
      have ml : many n (joinAll n (ps.take k)) ≤ n := cnt_le _ n
      clear hva
      go_wp2_with fail
      refine wp_region_still_tail 13 (by kernel_rfl) (by kernel_rfl) ?_
      simp only [List.take_succ_cons, List.take_zero, List.drop_succ_cons, List.drop_zero]
      change wpStill _ _ wr.drew (fun a' => wpList _ _ _ _ a' wr.drew) _ _
      have hs' := hs.drew
      have ho' := ho.drew
      generalize wr.drew = wq at *
      generalize (ps.getD k (0, 0)).1 = x at *
      generalize (ps.getD k (0, 0)).2 = y at *
      repeat still_step
      try refine wpStill_nil ?_
      cases hj : joins n (joinAll n (ps.take k)) x y
      · have J := join_any (w.heap.size + 1) w.heap.size n _ x y wq hs'
        rw [hj, joinI_no hj] at J
        have HN := Lib.hid (joinI_no hj)
        clear hj
        go_wp2_with fail
        refine J.mono ?_
        rintro e w5 ⟨rfl, h5, o5⟩
        clear J
        go_wp2_with fail
        go_roundw
        case rel => exact ⟨k + 1, by omega, by go_num, by rw [HJ.out, HN.out], by rw [HJ.out, HN.out]; exact h5, ho'.trans o5⟩
        case measure => simp [intOf]; omega
      · have J := join_any (w.heap.size + 1) w.heap.size n _ x y wq hs'
        rw [hj] at J
        have mj := many_joinI_yes tL hj
        have MJ := Lib.hid mj
        have m1 : 1 ≤ many n (joinAll n (ps.take k)) := by omega
        clear hj mj
        go_wp2_with fail
        refine J.mono ?_
        rintro e w5 ⟨rfl, h5, o5⟩
        clear J
        go_wp2_with fail
        go_roundw
        case rel => exact ⟨k + 1, by omega, by go_num, by rw [HJ.out]; have := MJ.out; congr 1; omega, by rw [HJ.out]; exact h5, ho'.trans o5⟩
        case measure => simp [intOf]; omega
    · obtain rfl : ps.length = k := by omega
      rw [List.take_length] at hs ⊢
      have onw : Only NoB w wr := o12.then ho (fun i hi e => by unfold B2 at e; omega)
      have zr := onw.size
      generalize joinAll n ps = L at *
      have tL := hs.tidy
      have mn : many n L ≤ n := cnt_le _ n
      go_wp2_with fail
      have o3 : Only NoB wr (wr.alloc (.cells (cellsOf n (fun _ => 0)) 3)) := (Only.refl _ _).alloc _
      refine (groups_any _ _ _ _ _ (hs.kept o3 (fun f => f) (fun f => f))).mono ?_
      rintro e w4 ⟨⟨vg, rfl, hvg⟩, h4, o4⟩
      have ltb := hs.ltb
      have hH : Half w w4 (w.heap.size + 1) w.heap.size wr.heap.size n L (wr.heap.size + 1) vg (seenN L 0 0) := by
        refine ⟨h4, ?_, hvg.mono (fun b hb => by simpa using hb), (onw.then o3 (fun _ _ f => f)).then o4 (fun i hi e => by unfold B1 at e; omega)⟩
        rw [o4.block wr.heap.size (by simp) (by unfold B1; omega), heap_alloc_new]
        have e : cellsOf n (fun _ => 0) = cellsOf n (seenN L 0 0) := by
          unfold cellsOf
          congr 1
          apply List.map_congr_left
          intro i _
          rw [seen_zero]
        rw [e]
      have hgl := groups_len n L
      obtain ⟨ga, gc, rfl⟩ := hvg.len
      rw [hgl] at hH ⊢
      clear hvg h4 o4 o3 hs hgl hmk h2 hv ho
      generalize hsb : wr.heap.size = sb at *
      clear hsb
      go_wp2_with fail
      go_loopw [12] (fun s wx => ∃ k : Nat, k ≤ many n L ∧ s = .int .i64 k ∧ Half w wx (w.heap.size + 1) w.heap.size sb n L (sb + 1) (.slice ga (many n L) gc) (seenN L k 0))
        (fun s _ => many n L - (intOf s).toNat)
      case atStart => exact ⟨0, Nat.zero_le _, rfl, hH⟩
      case round =>
        obtain ⟨k, hk, rfl, hH⟩ := hrel
        by_cases lt : k < many n L
        · have lti : (k : Int) < many n L := by omega
          obtain ⟨wo, rfl⟩ : ∃ wo : World, wo = wr := ⟨_, rfl⟩
          obtain ⟨r1, r2, r3⟩ := rootN_spec n L k lt
          have sp := size_pos n L _ r1 r2
          have sz : size n L (rootN n L k) ≤ n := cnt_le _ n
          have R2 := Lib.hid r2
          have R3 := Lib.hid r3
          clear r2 r3
          go_wp2_with fail
          go_loopw [13] (fun s wx => ∃ j : Nat, j ≤ size n L (rootN n L k) ∧ s = .int .i64 j ∧ Half w wx (w.heap.size + 1) w.heap.size sb n L (sb + 1) (.slice ga (many n L) gc) (seenN L k j))
            (fun s _ => size n L (rootN n L k) - (intOf s).toNat)
          case atStart => exact ⟨0, Nat.zero_le _, rfl, hH⟩
          case round =>
            obtain ⟨j, hj, rfl, hH⟩ := hrel
            obtain ⟨bg, og, cg, bk, ok, ck, hga, hbg, hbk, e0, ej⟩ := hH.cells k lt
            obtain ⟨rfl, rfl⟩ : ga = some ⟨bg, og, none⟩ ∧ gc = cg := by cases hga; exact ⟨rfl, rfl⟩
            clear hga
            by_cases ltj : j < size n L (rootN n L k)
            · have ltji : (j : Int) < size n L (rootN n L k) := by omega
              obtain ⟨m1, m2, m3⟩ := memN_spec n L (rootN n L k) j ltj
              have e1 := ej j ltj
              have e2 : wr.cell? ⟨bk, ok, none⟩ = some (.int .i64 (rootN n L k)) := by
                have q := ej 0 sp
                rw [memN_zero tL _ r1 R2.out] at q
                simpa using q
              have CL : Hid (∀ W, Is W (w.heap.size + 1) w.heap.size n L → Calls Try.prog 15 #[.pointer (some ⟨w.heap.size + 1, 0, none⟩), .int .i64 (memN n L (rootN n L k) j)] W fun e w' => e = .returned (.int .i64 (rootN n L k)) ∧ Is w' (w.heap.size + 1) w.heap.size n L ∧ Only (B1 w.heap.size) W w') := fun W hW => by
                have q := least_any _ _ _ _ (memN n L (rootN n L k) j : Int) W hW
                have q2 : leastI n L (memN n L (rootN n L k) j : Int) = rootN n L k := by unfold leastI; rw [if_pos (by simp [inB]; omega), Int.toNat_natCast, m2]
                rwa [q2] at q
              have CS : Hid (∀ W, Is W (w.heap.size + 1) w.heap.size n L → Calls Try.prog 17 #[.pointer (some ⟨w.heap.size + 1, 0, none⟩), .int .i64 (memN n L (rootN n L k) j), .int .i64 (rootN n L k)] W fun e w' => e = .returned (.bool true) ∧ Is w' (w.heap.size + 1) w.heap.size n L ∧ Only (B1 w.heap.size) W w') := fun W hW => by
                have q := same_any _ _ _ _ (memN n L (rootN n L k) j : Int) (rootN n L k : Int) W hW
                have q2 : sameI n L (memN n L (rootN n L k) j : Int) (rootN n L k : Int) = true := by
                  unfold sameI
                  simp only [Int.toNat_natCast, m2, R2.out]
                  simp [inB]; omega
                rwa [q2] at q
              have vb : w.heap.size ≠ bg := by omega
              have vk : w.heap.size ≠ bk := by omega
              have nbg : ¬ B1 w.heap.size bg := fun e => vb (by unfold B1 at e; omega)
              have nbk : ¬ B1 w.heap.size bk := fun e => vk (by unfold B1 at e; omega)
              have d0 : (0 : Int) ≤ k := Int.natCast_nonneg _
              have hSN := Lib.hid (seen_now k j lt ltj)
              have hST := Lib.hid (seen_step tL k j lt ltj)
              have m1' := m1
              have HM0 := Lib.hid (fun i (hi : i < j) => memN_mono n L (rootN n L k) i j hi ltj)
              have EJ := Lib.hid ej
              clear ej m2 m3
              have hv0 : j = 0 → memN n L (rootN n L k) j = rootN n L k := fun e => by rw [e]; exact memN_zero tL _ r1 R2.out
              generalize memN n L (rootN n L k) j = v at *
              generalize hr : rootN n L k = r at *
              have HR := Lib.hid hr
              clear hr
              have d2 : decide (n ≤ v) = false := by simp; omega
              have sp1 : (0 : Int) < (size n L r : Int) := by omega
              have M1 := Lib.hid m1
              rcases Nat.eq_zero_or_pos j with j0 | jp
              · obtain rfl := hv0 j0
                subst j0
                clear e1 hv0
                rw [show (((0 : Nat) : Int)) = 0 from rfl]
                clear HM0
                go_wp2_with fail
                have MK : Hid (∀ w', Only (B1 w.heap.size) wr w' → w'.cell? ⟨bg, og + k, none⟩ = some (.slice (some ⟨bk, ok, none⟩) (size n L v) ck) ∧ w'.cell? ⟨bk, ok, none⟩ = some (.int .i64 v)) := fun w' oo => ⟨Only.cell oo e0 nbg, Only.cell oo e2 nbk⟩
                refine wp_region_along (fun w' => w'.cell? ⟨bg, og + k, none⟩ = some (.slice (some ⟨bk, ok, none⟩) (size n L v) ck) ∧ w'.cell? ⟨bk, ok, none⟩ = some (.int .i64 v)) [(0, true), (1, true), (2, true), (3, true), (4, true), (5, true), (6, true), (7, true), (8, true), (9, true), (11, true), (12, true), (13, true), (14, true), (15, true), (16, true), (10, false), (17, true), (18, true), (19, true), (20, true), (21, true), (22, true), (23, true), (24, true), (25, true), (26, true), (27, true), (28, false), (29, true), (30, true), (31, true), (32, true), (33, true), (34, true), (35, true), (36, true), (37, true), (38, true), (39, true), (40, true), (41, true), (42, true), (43, true), (44, true), (45, true), (46, true)] (by kernel_rfl) (by kernel_rfl) ?_ ?_
                · exact MK.out _ ((Only.refl _ _).drew)
                · have hH := hH.drew
                  have oo : Only (B1 w.heap.size) wr wr.drew := (Only.refl _ _).drew
                  generalize wr.drew = Y at *
                  repeat (first | (refine' along_take (by simp only [List.getElem?_cons_succ, List.getElem?_cons_zero]; rfl) (by rfl) ?_ ?_ ?_; rotate_left 2; (intro w' hS; go_simp; try rfl); (simp only [Act.put, List.setIfInBounds_toArray, List.set_cons_zero, List.set_cons_succ]; try rfl)) | (refine' along_skip (by simp only [List.getElem?_cons_succ, List.getElem?_cons_zero]; rfl) (by rfl) ?_ ?_; rotate_left 1; (simp only [Act.put, List.setIfInBounds_toArray, List.set_cons_zero, List.set_cons_succ]; try rfl)))
                  (refine along_do (by simp only [List.getElem?_cons_succ, List.getElem?_cons_zero]; rfl) (by rfl) (fun K hK => ?_); go_simp)
                  refine (CL.out _ hH.is).mono ?_
                  rintro e w5 ⟨rfl, h5, o5⟩
                  have hH := hH.called o5 h5 (by omega) (by omega) (by omega)
                  have oo := oo.trans o5
                  clear h5 o5
                  (refine hK _ _ (MK.out _ oo) ?_; clear hK K)
                  repeat (first | (refine' along_take (by simp only [List.getElem?_cons_succ, List.getElem?_cons_zero]; rfl) (by rfl) ?_ ?_ ?_; rotate_left 2; (intro w' hS; go_simp; try rfl); (simp only [Act.put, List.setIfInBounds_toArray, List.set_cons_zero, List.set_cons_succ]; try rfl)) | (refine' along_skip (by simp only [List.getElem?_cons_succ, List.getElem?_cons_zero]; rfl) (by rfl) ?_ ?_; rotate_left 1; (simp only [Act.put, List.setIfInBounds_toArray, List.set_cons_zero, List.set_cons_succ]; try rfl)))
                  (refine along_do (by simp only [List.getElem?_cons_succ, List.getElem?_cons_zero]; rfl) (by rfl) (fun K hK => ?_); go_simp)
                  refine (CS.out _ hH.is).mono ?_
                  rintro e w6 ⟨rfl, h5, o5⟩
                  have hH := hH.called o5 h5 (by omega) (by omega) (by omega)
                  have oo := oo.trans o5
                  clear h5 o5
                  (refine hK _ _ (MK.out _ oo) ?_; clear hK K)
                  repeat (first | (refine' along_take (by simp only [List.getElem?_cons_succ, List.getElem?_cons_zero]; rfl) (by rfl) ?_ ?_ ?_; rotate_left 2; (intro w' hS; go_simp; try rfl); (simp only [Act.put, List.setIfInBounds_toArray, List.set_cons_zero, List.set_cons_succ]; try rfl)) | (refine' along_skip (by simp only [List.getElem?_cons_succ, List.getElem?_cons_zero]; rfl) (by rfl) ?_ ?_; rotate_left 1; (simp only [Act.put, List.setIfInBounds_toArray, List.set_cons_zero, List.set_cons_succ]; try rfl)))
                  refine along_end ?_
                  have rc := hH.at v m1
                  rw [hSN.out] at rc
                  have rz := hH.fz v
                  go_wp2_with fail
                  have hH := (hH.set v 1 (by omega) (by omega) (by omega) (by omega)).congr hST.out
                  go_roundw
                  case rel => exact ⟨0 + 1, by omega, by go_num, hH⟩
                  case measure => first | (simp [intOf]; done) | (simp [intOf]; omega)
              · obtain ⟨i, rfl⟩ : ∃ i, j = i + 1 := ⟨j - 1, by omega⟩
                clear hv0 jp
                have lp := HM0.out i (Nat.lt_succ_self i)
                have e3 := EJ.out i (by omega)
                clear HM0 EJ
                generalize memN n L r i = p at *
                have d3 : decide (v ≤ p) = false := by simp; omega
                have hi19 : i < 19 := by omega
                have d6 : i < size n L r := by omega
                have d7 : (i : Int) < (size n L r : Int) := by omega
                have d5 : IntKind.i64.wrap (i : Int) = (i : Int) := by rw [IntKind.wrap_i64]; omega
                have d4 : decide ((0 : Int) < (i : Int) + 1) = true := decide_eq_true (by omega)
                rw [show ((i + 1 : Nat) : Int) = (i : Int) + 1 from rfl] at *
                go_wp2_with fail
                have MK : Hid (∀ w', Only (B1 w.heap.size) wr w' → w'.cell? ⟨bg, og + k, none⟩ = some (.slice (some ⟨bk, ok, none⟩) (size n L r) ck) ∧ w'.cell? ⟨bk, ok, none⟩ = some (.int .i64 r) ∧ w'.cell? ⟨bk, ok + i, none⟩ = some (.int .i64 p)) := fun w' oo => ⟨Only.cell oo e0 nbg, Only.cell oo e2 nbk, Only.cell oo e3 nbk⟩
                refine wp_region_along (fun w' => w'.cell? ⟨bg, og + k, none⟩ = some (.slice (some ⟨bk, ok, none⟩) (size n L r) ck) ∧ w'.cell? ⟨bk, ok, none⟩ = some (.int .i64 r) ∧ w'.cell? ⟨bk, ok + i, none⟩ = some (.int .i64 p)) [(0, true), (1, true), (2, true), (3, true), (4, true), (5, true), (6, true), (7, true), (8, true), (9, true), (11, true), (12, true), (13, true), (14, true), (15, true), (16, true), (10, false), (17, true), (18, true), (19, true), (20, true), (21, true), (22, true), (23, true), (24, true), (25, true), (26, true), (27, true), (28, false), (29, true), (30, true), (31, true), (32, true), (33, true), (34, true), (35, true), (36, true), (37, true), (38, true), (39, true), (40, true), (41, true), (42, true), (43, true), (44, true), (45, true), (46, true)] (by kernel_rfl) (by kernel_rfl) ?_ ?_
                · exact MK.out _ ((Only.refl _ _).drew)
                · have hH := hH.drew
                  have oo : Only (B1 w.heap.size) wr wr.drew := (Only.refl _ _).drew
                  generalize wr.drew = Y at *
                  repeat (first | (refine' along_take (by simp only [List.getElem?_cons_succ, List.getElem?_cons_zero]; rfl) (by rfl) ?_ ?_ ?_; rotate_left 2; (intro w' hS; go_simp; try rfl); (simp only [Act.put, List.setIfInBounds_toArray, List.set_cons_zero, List.set_cons_succ]; try rfl)) | (refine' along_skip (by simp only [List.getElem?_cons_succ, List.getElem?_cons_zero]; rfl) (by rfl) ?_ ?_; rotate_left 1; (simp only [Act.put, List.setIfInBounds_toArray, List.set_cons_zero, List.set_cons_succ]; try rfl)))
                  (refine along_do (by simp only [List.getElem?_cons_succ, List.getElem?_cons_zero]; rfl) (by rfl) (fun K hK => ?_); go_simp)
                  refine (CL.out _ hH.is).mono ?_
                  rintro e w5 ⟨rfl, h5, o5⟩
                  have hH := hH.called o5 h5 (by omega) (by omega) (by omega)
                  have oo := oo.trans o5
                  clear h5 o5
                  (refine hK _ _ (MK.out _ oo) ?_; clear hK K)
                  repeat (first | (refine' along_take (by simp only [List.getElem?_cons_succ, List.getElem?_cons_zero]; rfl) (by rfl) ?_ ?_ ?_; rotate_left 2; (intro w' hS; go_simp; try rfl); (simp only [Act.put, List.setIfInBounds_toArray, List.set_cons_zero, List.set_cons_succ]; try rfl)) | (refine' along_skip (by simp only [List.getElem?_cons_succ, List.getElem?_cons_zero]; rfl) (by rfl) ?_ ?_; rotate_left 1; (simp only [Act.put, List.setIfInBounds_toArray, List.set_cons_zero, List.set_cons_succ]; try rfl)))
                  (refine along_do (by simp only [List.getElem?_cons_succ, List.getElem?_cons_zero]; rfl) (by rfl) (fun K hK => ?_); go_simp)
                  refine (CS.out _ hH.is).mono ?_
                  rintro e w6 ⟨rfl, h5, o5⟩
                  have hH := hH.called o5 h5 (by omega) (by omega) (by omega)
                  have oo := oo.trans o5
                  clear h5 o5
                  (refine hK _ _ (MK.out _ oo) ?_; clear hK K)
                  repeat (first | (refine' along_take (by simp only [List.getElem?_cons_succ, List.getElem?_cons_zero]; rfl) (by rfl) ?_ ?_ ?_; rotate_left 2; (intro w' hS; go_simp; try rfl); (simp only [Act.put, List.setIfInBounds_toArray, List.set_cons_zero, List.set_cons_succ]; try rfl)) | (refine' along_skip (by simp only [List.getElem?_cons_succ, List.getElem?_cons_zero]; rfl) (by rfl) ?_ ?_; rotate_left 1; (simp only [Act.put, List.setIfInBounds_toArray, List.set_cons_zero, List.set_cons_succ]; try rfl)))
                  refine along_end ?_
                  have rc := hH.at v m1
                  rw [hSN.out] at rc
                  have rz := hH.fz v
                  go_wp2_with fail
                  have hH := (hH.set v 1 (by omega) (by omega) (by omega) (by omega)).congr hST.out
                  go_roundw
                  case rel => exact ⟨i + 1 + 1, by omega, by go_num, hH⟩
                  case measure => first | (simp [intOf]; done) | (simp [intOf]; omega)
            · obtain rfl : size n L (rootN n L k) = j := by omega
              replace hH := hH.congr (seen_next tL k lt)
              have e2 : wr.cell? ⟨bk, ok, none⟩ = some (.int .i64 (rootN n L k)) := by
                have q := ej 0 sp
                rw [memN_zero tL _ r1 R2.out] at q
                simpa using q
              clear ej
              rcases Nat.eq_zero_or_pos k with k0 | kp
              · subst k0
                rw [show (((0 : Nat) : Int)) = 0 from rfl]
                simp only [Nat.add_zero] at e0
                go_wp2_with fail
                have MK : Hid (∀ w', Only (B1 w.heap.size) wr w' → True) := fun w' oo => trivial
                refine wp_region_along (fun w' => True) [(0, true), (1, true), (2, true), (3, true), (4, true), (5, true), (6, true), (7, true), (8, true), (9, true), (10, true), (11, true), (12, true), (13, true), (14, true), (15, true), (16, true), (17, true), (18, true), (19, true), (20, true), (21, true), (22, true), (23, true), (24, true), (25, true), (26, true), (27, true), (28, true), (29, true), (30, true), (31, true), (32, false), (33, true), (34, true)] (by kernel_rfl) (by kernel_rfl) ?_ ?_
                · exact MK.out _ ((Only.refl _ _).drew)
                · have hH := hH.drew
                  have oo : Only (B1 w.heap.size) wr wr.drew := (Only.refl _ _).drew
                  generalize wr.drew = Y at *
                  repeat (first | (refine' along_take (by simp only [List.getElem?_cons_succ, List.getElem?_cons_zero]; rfl) (by rfl) ?_ ?_ ?_; rotate_left 2; (intro w' hS; go_simp; try rfl); (simp only [Act.put, List.setIfInBounds_toArray, List.set_cons_zero, List.set_cons_succ]; try rfl)) | (refine' along_skip (by simp only [List.getElem?_cons_succ, List.getElem?_cons_zero]; rfl) (by rfl) ?_ ?_; rotate_left 1; (simp only [Act.put, List.setIfInBounds_toArray, List.set_cons_zero, List.set_cons_succ]; try rfl)))
                  (refine' along_pass (by simp only [List.getElem?_cons_succ, List.getElem?_cons_zero]; rfl) (by rfl) trivial ?_ ?_; rotate_left 1; (simp only [Act.put, List.setIfInBounds_toArray, List.set_cons_zero, List.set_cons_succ]; try rfl))
                  repeat (first | (refine' along_take (by simp only [List.getElem?_cons_succ, List.getElem?_cons_zero]; rfl) (by rfl) ?_ ?_ ?_; rotate_left 2; (intro w' hS; go_simp; try rfl); (simp only [Act.put, List.setIfInBounds_toArray, List.set_cons_zero, List.set_cons_succ]; try rfl)) | (refine' along_skip (by simp only [List.getElem?_cons_succ, List.getElem?_cons_zero]; rfl) (by rfl) ?_ ?_; rotate_left 1; (simp only [Act.put, List.setIfInBounds_toArray, List.set_cons_zero, List.set_cons_succ]; try rfl)))
                  refine along_end ?_
                  go_wp2_with fail
                  go_roundw
                  case rel => exact ⟨0 + 1, by omega, by go_num, hH⟩
                  case measure => first | (simp [intOf]; done) | (simp [intOf]; omega)
              · obtain ⟨i, rfl⟩ : ∃ i, k = i + 1 := ⟨k - 1, by omega⟩
                obtain ⟨bg2, og2, cg2, bk2, ok2, ck2, hga2, hbg2, hbk2, g0, gj⟩ := hH.cells i (by omega)
                obtain ⟨rfl, rfl, rfl⟩ : bg = bg2 ∧ og = og2 ∧ gc = cg2 := by cases hga2; exact ⟨rfl, rfl, rfl⟩
                obtain ⟨t1, t2, t3⟩ := rootN_spec n L i (by omega)
                have sp2 := size_pos n L _ t1 t2
                have g2 : wr.cell? ⟨bk2, ok2, none⟩ = some (.int .i64 (rootN n L i)) := by
                  have q := gj 0 sp2
                  rw [memN_zero tL _ t1 t2] at q
                  simpa using q
                have lr := rootN_mono n L i (i + 1) (Nat.lt_succ_self i) lt
                have CS : Hid (∀ W, Is W (w.heap.size + 1) w.heap.size n L → Calls Try.prog 17 #[.pointer (some ⟨w.heap.size + 1, 0, none⟩), .int .i64 (rootN n L i), .int .i64 (rootN n L (i + 1))] W fun e w' => e = .returned (.bool false) ∧ Is w' (w.heap.size + 1) w.heap.size n L ∧ Only (B1 w.heap.size) W w') := fun W hW => by
                  have q := same_any _ _ _ _ (rootN n L i : Int) (rootN n L (i + 1) : Int) W hW
                  have q2 : sameI n L (rootN n L i : Int) (rootN n L (i + 1) : Int) = false := by
                    unfold sameI
                    simp only [Int.toNat_natCast, t2, R2.out]
                    simp
                    omega
                  rwa [q2] at q
                have vb : w.heap.size ≠ bg := by omega
                have vk : w.heap.size ≠ bk := by omega
                have vk2 : w.heap.size ≠ bk2 := by omega
                have nbg : ¬ B1 w.heap.size bg := fun e => vb (by unfold B1 at e; omega)
                have nbk : ¬ B1 w.heap.size bk := fun e => vk (by unfold B1 at e; omega)
                have nbk2 : ¬ B1 w.heap.size bk2 := fun e => vk2 (by unfold B1 at e; omega)
                clear hga2 gj t2 t3
                generalize rootN n L i = r' at *
                generalize rootN n L (i + 1) = r at *
                have d3 : decide (r ≤ r') = false := by simp; omega
                have d4 : decide ((0 : Int) < (i : Int) + 1) = true := decide_eq_true (by omega)
                have hi19 : i < 19 := by omega
                have d5 : IntKind.i64.wrap (i : Int) = (i : Int) := by rw [IntKind.wrap_i64]; omega
                have d6 : i < many n L := by omega
                have d7 : (i : Int) < (many n L : Int) := by omega
                have sp1 : (0 : Int) < (size n L r : Int) := by omega
                have sp3 : (0 : Int) < (size n L r' : Int) := by omega
                rw [show ((i + 1 : Nat) : Int) = (i : Int) + 1 from rfl] at *
                go_wp2_with fail
                have MK : Hid (∀ w', Only (B1 w.heap.size) wr w' → w'.cell? ⟨bg, og + i, none⟩ = some (.slice (some ⟨bk2, ok2, none⟩) (size n L r') ck2) ∧ w'.cell? ⟨bk2, ok2, none⟩ = some (.int .i64 r') ∧ w'.cell? ⟨bg, og + (i + 1), none⟩ = some (.slice (some ⟨bk, ok, none⟩) (size n L r) ck) ∧ w'.cell? ⟨bk, ok, none⟩ = some (.int .i64 r)) := fun w' oo => ⟨Only.cell oo g0 nbg, Only.cell oo g2 nbk2, Only.cell oo e0 nbg, Only.cell oo e2 nbk⟩
                refine wp_region_along (fun w' => w'.cell? ⟨bg, og + i, none⟩ = some (.slice (some ⟨bk2, ok2, none⟩) (size n L r') ck2) ∧ w'.cell? ⟨bk2, ok2, none⟩ = some (.int .i64 r') ∧ w'.cell? ⟨bg, og + (i + 1), none⟩ = some (.slice (some ⟨bk, ok, none⟩) (size n L r) ck) ∧ w'.cell? ⟨bk, ok, none⟩ = some (.int .i64 r)) [(0, true), (1, true), (2, true), (3, true), (4, true), (5, true), (6, true), (7, true), (8, true), (9, true), (10, true), (11, true), (12, true), (13, true), (14, true), (15, true), (16, true), (17, true), (18, true), (19, true), (20, true), (21, true), (22, true), (23, true), (24, true), (25, true), (26, true), (27, true), (28, true), (29, true), (30, true), (31, true), (32, false), (33, true), (34, true)] (by kernel_rfl) (by kernel_rfl) ?_ ?_
                · exact MK.out _ ((Only.refl _ _).drew)
                · have hH := hH.drew
                  have oo : Only (B1 w.heap.size) wr wr.drew := (Only.refl _ _).drew
                  generalize wr.drew = Y at *
                  repeat (first | (refine' along_take (by simp only [List.getElem?_cons_succ, List.getElem?_cons_zero]; rfl) (by rfl) ?_ ?_ ?_; rotate_left 2; (intro w' hS; go_simp; try rfl); (simp only [Act.put, List.setIfInBounds_toArray, List.set_cons_zero, List.set_cons_succ]; try rfl)) | (refine' along_skip (by simp only [List.getElem?_cons_succ, List.getElem?_cons_zero]; rfl) (by rfl) ?_ ?_; rotate_left 1; (simp only [Act.put, List.setIfInBounds_toArray, List.set_cons_zero, List.set_cons_succ]; try rfl)))
                  (refine along_do (by simp only [List.getElem?_cons_succ, List.getElem?_cons_zero]; rfl) (by rfl) (fun K hK => ?_); go_simp)
                  refine (CS.out _ hH.is).mono ?_
                  rintro e w5 ⟨rfl, h5, o5⟩
                  have hH := hH.called o5 h5 (by omega) (by omega) (by omega)
                  have oo := oo.trans o5
                  clear h5 o5
                  (refine hK _ _ (MK.out _ oo) ?_; clear hK K)
                  repeat (first | (refine' along_take (by simp only [List.getElem?_cons_succ, List.getElem?_cons_zero]; rfl) (by rfl) ?_ ?_ ?_; rotate_left 2; (intro w' hS; go_simp; try rfl); (simp only [Act.put, List.setIfInBounds_toArray, List.set_cons_zero, List.set_cons_succ]; try rfl)) | (refine' along_skip (by simp only [List.getElem?_cons_succ, List.getElem?_cons_zero]; rfl) (by rfl) ?_ ?_; rotate_left 1; (simp only [Act.put, List.setIfInBounds_toArray, List.set_cons_zero, List.set_cons_succ]; try rfl)))
                  refine along_end ?_
                  go_wp2_with fail
                  go_roundw
                  case rel => exact ⟨i + 1 + 1, by omega, by go_num, hH⟩
                  case measure => first | (simp [intOf]; done) | (simp [intOf]; omega)
        · obtain rfl : many n L = k := by omega
          replace hH := hH.congr (g := fun _ => 1) (seen_all tL)
          go_wp2_with fail
          obtain ⟨wo, rfl⟩ : ∃ wo : World, wo = wr := ⟨_, rfl⟩
          go_loopw [15] (fun s wx => ∃ k : Nat, k ≤ n ∧ s = .int .i64 k ∧ wx = wo) (fun s _ => n - (intOf s).toNat)
          case atStart => exact ⟨0, Nat.zero_le _, rfl, rfl⟩
          case round =>
            obtain ⟨v, hv, rfl, rfl⟩ := hrel
            by_cases ltv : v < n
            · have ltvi : (v : Int) < n := by omega
              have cv := hH.at v ltv
              rw [show (((fun _ => 1 : Nat → Nat) v : Nat) : Int) = 1 from rfl] at cv
              go_wp2_with fail
              go_roundw
              case rel => exact ⟨v + 1, by omega, by go_num, trivial⟩
              case measure => simp [intOf]; omega
            · obtain rfl : n = v := by omega
              go_wp2_with fail
              refine (known_any _).mono ?_
              rintro e w7 ⟨rfl, o7⟩
              have h7 := hH.is.kept o7 (fun f => f) (fun f => f)
              have on := hH.only.trans o7
              go_wp2_with fail
              refine (many_any _ _ _ _ _ h7).mono ?_
              rintro e w8 ⟨rfl, rfl⟩
              go_wp2_with fail
              go_ret
              exact ⟨rfl, on.below⟩
end Go.Proofs.Ytincgkcmfhhofaa
