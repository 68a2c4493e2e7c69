/-
  THE WALK of quittancelaw04.AdjMore.
-/
import Derived.Test.YtgaekihcfcoaeaaRowsThree
import Derived.Test.YtgaekihcfcoaeaaKnown
import Derived.Laws.AppendOwnNone
set_option linter.unusedVariables false
set_option linter.unusedSimpArgs false
namespace Go.Proofs.Ytgaekihcfcoaeaa
open Go.RowKit

theorem arcCells_one (A : Nat → A5) (m : Nat) : ∀ u ∈ arcCells A m, u.oneCell' = true := by
  intro u hu
  unfold arcCells at hu
  rw [List.mem_flatMap] at hu
  obtain ⟨j, _, h⟩ := hu
  simp only [List.mem_cons, List.not_mem_nil, or_false] at h
  rcases h with rfl | rfl | rfl | rfl | rfl <;> rfl
theorem own_slice {w : World} {base : Nat} {e : TypeId} {size : Nat} {v : Value} {n : Nat} {xs : List Value} (h : w.ownsRow base e size v n xs) : ∃ a c, v = .slice a n c := by
  rcases h.2 with ⟨rfl, rfl⟩ | ⟨g, cap, cur, rfl, _⟩
  · exact ⟨_, _, rfl⟩
  · exact ⟨_, _, rfl⟩

/-- an instance in its box -/
structure Mi (w wr : World) (ib sb n m : Nat) (ra : Option Addr) (rc : Nat) (A : Nat → A5) : Prop where
  hi : wr.heap[ib]? = some (.cells #[.slice (some ⟨sb, 0, none⟩) n n, .slice ra m rc] 26 (0, 0))
  hs : RowI wr sb n
  ha : wr.ownsRow w.heap.size 31 5 (.slice ra m rc) m (arcCells A m)
  ow : Only NoB w wr
theorem Mi.kept {w wr wr' : World} {ib sb n m : Nat} {ra : Option Addr} {rc : Nat} {A : Nat → A5} (q : Mi w wr ib sb n m ra rc A) (o : Only NoB wr wr') : Mi w wr' ib sb n m ra rc A :=
  ⟨(o.block _ (lt_of_heap q.hi) (fun f => f)).trans q.hi, q.hs.kept o (fun f => f), own_only q.ha o (fun _ _ _ f => f), q.ow.trans o⟩
theorem Mi.keptj {w wr wr' : World} {ib sb n m jb : Nat} {ra : Option Addr} {rc : Nat} {A : Nat → A5} {c : Array Value} (q : Mi w wr ib sb n m ra rc A) (o : Only (B1 jb) wr wr') (hj : wr.heap[jb]? = some (.cells c 26 (0, 0))) (hib : ib ≠ jb) (hw : w.heap.size ≤ jb) : Mi w wr' ib sb n m ra rc A := by
  refine ⟨(o.block _ (lt_of_heap q.hi) (fun e => hib e)).trans q.hi, q.hs.kept o (fun e => ?_), own_away q.ha o (fun g cur hg e => ?_), q.ow.then o (fun i hi e => by unfold B1 at e; omega)⟩
  · unfold B1 at e
    subst e
    obtain ⟨cur, h1, _, _⟩ := q.hs
    rw [hj] at h1
    cases h1
  · unfold B1 at e
    subst e
    rw [hj] at hg
    cases hg
theorem Mi.keptb {w wr wr' : World} {ib sb n m jb : Nat} {ra : Option Addr} {rc : Nat} {A : Nat → A5} {v0 v1 v2 v3 v4 : Value} (q : Mi w wr ib sb n m ra rc A) (o : Only (B1 jb) wr wr') (hj : wr.heap[jb]? = some (.cells #[v0, v1, v2, v3, v4] 31 (0, 0))) (hib : ib < jb) (hw : w.heap.size ≤ jb) (hr : ∀ g, (Value.slice ra m rc).ownBlock = some g → g ≠ jb) : Mi w wr' ib sb n m ra rc A := by
  refine ⟨(o.block _ (lt_of_heap q.hi) (fun e => by unfold B1 at e; omega)).trans q.hi, q.hs.kept o (fun e => ?_), own_block q.ha o (fun g hg e => hr g hg e), q.ow.then o (fun i hi e => by unfold B1 at e; omega)⟩
  unfold B1 at e
  subst e
  obtain ⟨cur, h1, _, _⟩ := q.hs
  rw [hj] at h1
  cases h1
theorem Mi.keptk {S : Nat → Prop} {w wr wr' : World} {ib sb n m : Nat} {ra : Option Addr} {rc : Nat} {A : Nat → A5} (q : Mi w wr ib sb n m ra rc A) (o : Only S wr wr') (h1 : ¬ S ib) (h2 : ¬ S sb) (hr : ∀ g, (Value.slice ra m rc).ownBlock = some g → ¬ S g) (hw : ∀ i, i < w.heap.size → ¬ S i) : Mi w wr' ib sb n m ra rc A :=
  ⟨(o.block _ (lt_of_heap q.hi) h1).trans q.hi, q.hs.kept o h2, own_block q.ha o hr, q.ow.then o (fun i hi e => hw i hi e)⟩
theorem five5 (Q : Nat) (w : World) (c0 c1 c2 c3 c4 : Value) (fz : Nat × Nat) (h : w.heap[Q]? = some (.cells #[c0, c1, c2, c3, c4] 31 fz)) : w.cell? ⟨Q, 0, none⟩ = some c0 ∧ w.cell? ⟨Q, 1, none⟩ = some c1 ∧ w.cell? ⟨Q, 2, none⟩ = some c2 ∧ w.cell? ⟨Q, 3, none⟩ = some c3 ∧ w.cell? ⟨Q, 4, none⟩ = some c4 :=
  ⟨(cell_in _ _ 0 _ _ _ h).trans rfl, (cell_in _ _ 1 _ _ _ h).trans rfl, (cell_in _ _ 2 _ _ _ h).trans rfl, (cell_in _ _ 3 _ _ _ h).trans rfl, (cell_in _ _ 4 _ _ _ h).trans rfl⟩

set_option maxRecDepth 100000 in
set_option maxHeartbeats 4000000 in
theorem more_walk (a a2 : Option Addr) (len cap len2 cap2 : Nat) (f f2 : Nat → Int) (x y : Int) (hx : 0 ≤ x ∧ x ≤ 255) (hy : 0 ≤ y ∧ y ≤ 255) (w : World) (h : BytesIn w a len f) (h2 : BytesIn w a2 len2 f2) :
    Calls Try.prog 4 #[.slice a len cap, .slice a2 len2 cap2, .int .u8 x, .int .u8 y] w fun e w' => e = .returned (.bool true) ∧ Below w.heap.size w w' := by
  obtain ⟨n, hn⟩ : ∃ n, n = nNode len2 f2 := ⟨_, rfl⟩
  have n1 : 0 < n ∧ n ≤ 7 := by rw [hn]; unfold nNode; split <;> omega
  obtain ⟨m, hm⟩ : ∃ m, m = nArc len := ⟨_, rfl⟩
  have m1 : m ≤ 18 := by rw [hm]; exact Nat.min_le_right _ _
  obtain ⟨A, hA⟩ : ∃ A, A = arcB f n := ⟨_, rfl⟩
  have GOOD : Hid (∀ q, 0 ≤ (A q).f ∧ (A q).f < n ∧ 0 ≤ (A q).t ∧ (A q).t < n) := by rw [hA]; exact arcB_good f n n1.1 h.2.1
  have HI := Lib.hid (inst_any a a2 len cap len2 cap2 f f2 w h h2)
  rw [← hn, ← hm, ← hA] at HI
  clear hn hm hA h h2
  obtain ⟨i0, hi0, hz0, hz1, hz2⟩ := info_parts info31
  obtain ⟨j0, hj0, hy0, hy1, hy2⟩ := info_parts info3
  obtain ⟨kf, hkf⟩ : ∃ kf : Nat, x.tmod n = kf ∧ kf < n := by
    have e1 : x.tmod n = x % n := Int.tmod_eq_emod_of_nonneg hx.1
    have e2 := Int.emod_nonneg x (show (n : Int) ≠ 0 by omega)
    have e3 := Int.emod_lt_of_pos x (show (0 : Int) < n by omega)
    exact ⟨(x % n).toNat, by omega, by omega⟩
  obtain ⟨kt, hkt⟩ : ∃ kt : Nat, y.tmod n = kt ∧ kt < n := by
    have e1 : y.tmod n = y % n := Int.tmod_eq_emod_of_nonneg hy.1
    have e2 := Int.emod_nonneg y (show (n : Int) ≠ 0 by omega)
    have e3 := Int.emod_lt_of_pos y (show (0 : Int) < n by omega)
    exact ⟨(y % n).toNat, by omega, by omega⟩
  have KF := Lib.hid hkf.1
  have KT := Lib.hid hkt.1
  have kf1 := hkf.2
  have kt1 := hkt.2
  clear hkf hkt
  go_enter Try.func4, Try.ntmps4
  go_wp2_with fail
  refine (show Calls Try.prog 5 #[.slice a len cap, .slice a2 len2 cap2] w _ from HI.out).mono ?_
  rintro e w1 ⟨⟨sb, ra, rc, rfl, sb0, hS, hR⟩, o1⟩
  clear HI
  go_upto_region 3 with fail
  have hM : Mi w (w1.alloc (.cells #[.slice (some ⟨sb, 0, none⟩) n n, .slice ra m rc] 26)) w1.heap.size sb n m ra rc A :=
    ⟨heap_alloc_new _ _, hS.kept (S := NoB) ((Only.refl _ _).alloc _) (fun f => f), own_only (S := NoB) hR ((Only.refl _ _).alloc _) (fun _ _ _ f => f), o1.alloc _⟩
  have z1 := o1.size
  clear hS hR o1
  generalize World.alloc w1 _ = w2 at *
  generalize hib : w1.heap.size = ib at *
  clear hib
  refine wp_region_along (fun _ => True) [(0, true), (1, true), (2, true), (3, true), (4, true), (5, true), (6, true), (7, true), (8, true), (9, false), (10, false)] (by kernel_rfl) (by kernel_rfl) trivial ?_
  have hM := hM.kept ((Only.refl _ _).drew)
  generalize w2.drew = w3 at *
  have m2 : IntKind.i64.wrap x = x := IntWalk.i64_in x (by omega)
  have m3 : IntKind.i64.wrap y = y := IntWalk.i64_in y (by omega)
  have nz : ¬ n = 0 := by omega
  repeat (first | (refine' along_take (by simp only [List.getElem?_cons_succ, List.getElem?_cons_zero]; rfl) (by rfl) ?_ ?_ ?_; rotate_left 2; (intro w' hS; go_simp; try rfl); (simp only [Act.put, List.setIfInBounds_toArray, List.set_cons_zero, List.set_cons_succ]; try rfl)) | (refine' along_skip (by simp only [List.getElem?_cons_succ, List.getElem?_cons_zero]; rfl) (by rfl) ?_ ?_; rotate_left 1; (simp only [Act.put, List.setIfInBounds_toArray, List.set_cons_zero, List.set_cons_succ]; try rfl)))
  (refine along_do (by simp only [List.getElem?_cons_succ, List.getElem?_cons_zero]; rfl) (by rfl) (fun K hK => ?_); go_simp)
  have hb := heap_alloc_new w3 (.cells #[.int .i64 0, .int .i64 0, .int .i64 0, .int .i64 0, .int .i64 0] 31)
  have lib := lt_of_heap hM.hi
  have HR : Hid (∀ g, (Value.slice ra m rc).ownBlock = some g → g ≠ w3.heap.size) := fun g hg e => by have := (hM.ha.lt g hg).2; omega
  have hM := hM.kept ((Only.refl _ _).alloc (.cells #[.int .i64 0, .int .i64 0, .int .i64 0, .int .i64 0, .int .i64 0] 31))
  (refine hK _ _ trivial ?_; clear hK K)
  generalize World.alloc w3 _ = w4 at *
  generalize hbb : w3.heap.size = bb at *
  clear hbb
  repeat (first | (refine' along_take (by simp only [List.getElem?_cons_succ, List.getElem?_cons_zero]; rfl) (by rfl) ?_ ?_ ?_; rotate_left 2; (intro w' hS; go_simp; try rfl); (simp only [Act.put, List.setIfInBounds_toArray, List.set_cons_zero, List.set_cons_succ]; try rfl)) | (refine' along_skip (by simp only [List.getElem?_cons_succ, List.getElem?_cons_zero]; rfl) (by rfl) ?_ ?_; rotate_left 1; (simp only [Act.put, List.setIfInBounds_toArray, List.set_cons_zero, List.set_cons_succ]; try rfl)))
  obtain ⟨d0, d1, d2, d3, d4⟩ := five5 _ _ _ _ _ _ _ _ hb
  have z0 := frozen_in _ _ 0 _ _ hb
  have z1' := frozen_in _ _ 1 _ _ hb
  have z2 := frozen_in _ _ 2 _ _ hb
  have z3 := frozen_in _ _ 3 _ _ hb
  have z4 := frozen_in _ _ 4 _ _ hb
  have lq := lt_of_heap hb
  (refine along_do (by simp only [List.getElem?_cons_succ, List.getElem?_cons_zero]; rfl) (by rfl) (fun K hK => ?_); go_simp)
  have hM := hM.keptb (only5 w4 bb (.int .i64 (x.tmod n)) (.int .i64 (y.tmod n)) (.int .i64 0) (.int .i64 1) (.int .i64 0)) hb (by omega) (by omega) HR.out
  have hb := set5 hb (.int .i64 (x.tmod n)) (.int .i64 (y.tmod n)) (.int .i64 0) (.int .i64 1) (.int .i64 0)
  (refine hK _ _ trivial ?_; clear hK K)
  clear d0 d1 d2 d3 d4 z0 z1' z2 z3 z4 lq m2 m3
  generalize World.setCell (World.setCell (World.setCell (World.setCell (World.setCell w4 _ _) _ _) _ _) _ _) _ _ = w5 at *
  refine along_end ?_
  rw [KF.out, KT.out] at hb
  rw [KF.out, KT.out]
  have ci0 := (cell_in _ _ 0 _ _ _ hM.hi).trans rfl
  go_upto_region 5 with fail
  clear ci0
  have hj := heap_alloc_new w5 (.cells #[.slice (some ⟨sb, 0, none⟩) n n, .slice none 0 0] 26)
  have lib := lt_of_heap hM.hi
  have lbb := lt_of_heap hb
  have lsb := hM.hs.lt
  have HG : Hid (∀ g, (Value.slice ra m rc).ownBlock = some g → g < w5.heap.size) := fun g hg => (hM.ha.lt g hg).2
  have oa : Only NoB w5 (w5.alloc (.cells #[.slice (some ⟨sb, 0, none⟩) n n, .slice none 0 0] 26)) := (Only.refl _ _).alloc _
  have hM := hM.kept oa
  have hb := (oa.block bb lbb (fun f => f)).trans hb
  clear oa
  generalize World.alloc w5 _ = w6 at *
  generalize hjb : w5.heap.size = jb at *
  clear hjb
  go_cut [12] from 19 (fun s wr => s = .pointer (some ⟨jb, 0, none⟩) ∧ ∃ ja jc, wr.heap[jb]? = some (.cells #[.slice (some ⟨sb, 0, none⟩) n n, .slice ja m jc] 26 (0, 0)) ∧ wr.ownsRow w6.heap.size 31 5 (.slice ja m jc) m (arcCells A m) ∧ Only (B1 jb) w6 wr)
  case first =>
    have ci1 := (cell_in _ _ 1 _ _ _ hM.hi).trans rfl
    have cj := (cell_in _ _ 1 _ _ _ hj).trans rfl
    have fj := frozen_in _ _ 1 _ _ hj
    have lj := lt_of_heap hj
    rcases hM.ha.2 with ⟨e, h0⟩ | ⟨g, cap', cur, e, hg, hgh, hc1, hc2, hc3, hc4⟩
    · cases e
      go_wp2_with (at_builtin; refine wpList_append_own_none rfl _ _ 24 rfl w6.heap.size 31 i0 5 Try.underlying24 hi0 (.slice none 0 0) 0 [] rfl (World.ownsRow_nil _ _ _ _) rfl ?_)
      go_meet
      case rel =>
        have oS := only1 w6 jb 1 (.slice none 0 0)
        exact ⟨rfl, none, 0, by rw [heap_setCell_at _ _ _ _ _ _ _ hj]; rfl, World.ownsRow_nil _ _ _ _, oS⟩
    · cases e
      have hnews : ∀ j u, (arcCells A m)[j]? = some u → w6.cell? ((⟨g, 0, none⟩ : Addr).add j) = some u := fun j u hu => hM.ha.cells (g := g) rfl j u hu
      have hgl := lt_of_heap hgh
      unfold maxLen at hc2
      go_wp2_with (at_builtin; refine wpList_append_own_at _ rfl _ _ 24 rfl w6.heap.size 31 i0 _ 5 40 Try.underlying24 hi0 hz0 hz1 hz2 rfl (by decide) _ 0 [] rfl (World.ownsRow_nil _ _ _ _) ⟨g, 0, none⟩ m rc (arcCells A m) rfl (arcCells_len A m) hnews (arcCells_one A m) (by unfold maxLen; omega) (by omega) (Nat.le_refl _) ?_; intro v' w7 hown' hgrow hnil hloc; rw [Nat.zero_add, List.nil_append] at hown'; obtain ⟨ja, jc, rfl⟩ := own_slice hown'; have og : Only NoB w6 w7 := (Only.refl _ _).grown hgrow (fun k _ e => by cases e); have hj' := (og.block jb (lt_of_heap hj) (fun f => f)).trans hj; have cj := (cell_in _ _ 1 _ _ _ hj').trans rfl; have fj := frozen_in _ _ 1 _ _ hj'; have lj := lt_of_heap hj')
      go_meet
      case rel =>
        have oS := only1 w7 jb 1 (.slice ja m jc)
        exact ⟨rfl, ja, jc, by rw [heap_setCell_at _ _ _ _ _ _ _ hj']; rfl, own_away hown' oS (fun g' cur' hg' e => by unfold B1 at e; subst e; rw [hj'] at hg'; cases hg'), (og.mono (T := B1 jb) (fun _ _ f => f.elim)).trans oS⟩
  case rest =>
    obtain ⟨rfl, ja, jc, hj', hJ, oj⟩ := hcut
    have hM := hM.keptj oj hj (by omega) (by omega)
    have lj6 := lt_of_heap hj
    have hb := (oj.block bb (lt_of_heap hb) (fun e => by unfold B1 at e; omega)).trans hb
    have oj6 := oj.size
    clear hj oj
    obtain ⟨B, hB⟩ : ∃ B, B = snoc A m ⟨kf, kt, 0, 1, 0⟩ := ⟨_, rfl⟩
    have HB := Lib.hid hB
    have HBc : Hid (arcCells B (m + 1) = arcCells A m ++ [.int .i64 kf, .int .i64 kt, .int .i64 0, .int .i64 1, .int .i64 0]) := by rw [hB]; exact arcCells_snoc A m ⟨kf, kt, 0, 1, 0⟩
    clear hB
    have hw6 : w.heap.size ≤ w6.heap.size := by omega
    generalize w6.heap.size = B6 at *
    have lb := lt_of_heap hb
    have lj := lt_of_heap hj'
    have cj := (cell_in _ _ 1 _ _ _ hj').trans rfl
    obtain ⟨d0, d1, d2, d3, d4⟩ := five5 _ _ _ _ _ _ _ _ hb
    go_upto_region 7 with (at_builtin; refine wpList_append_own_at _ rfl _ _ 24 rfl B6 31 i0 _ 5 40 Try.underlying24 hi0 hz0 hz1 hz2 rfl (by decide) _ _ _ rfl (hJ.alloc _) ⟨wc.heap.size, 0, none⟩ 1 1 [.int .i64 kf, .int .i64 kt, .int .i64 0, .int .i64 1, .int .i64 0] rfl rfl (five_new _ _ _ _ _ _ _) (by simp [Value.oneCell']) (by unfold maxLen; omega) (by omega) (by simp; omega) ?_; intro v' w7 hown' hgrow hnil hloc; rw [← HBc.out] at hown'; obtain ⟨ja', jc', rfl⟩ := own_slice hown'; have og : Only (fun k => k = wc.heap.size ∨ some k = (Value.slice ja m jc).ownBlock) wc w7 := ((Only.refl _ _).alloc _).grown hgrow (fun k _ e => .inr e.symm); have nj : ¬ (jb = wc.heap.size ∨ some jb = (Value.slice ja m jc).ownBlock) := (fun e => e.elim (fun e => by omega) (fun e => by have := (hJ.lt jb e.symm).1; omega)); have hj2 := (og.block jb lj nj).trans hj'; have cj := (cell_in _ _ 1 _ _ _ hj2).trans rfl; have fj := frozen_in _ _ 1 _ _ hj2; have lj := lt_of_heap hj2)
    have oS := only1 w7 jb 1 (.slice ja' (m + 1) jc')
    have o8 : Only (fun k => B6 ≤ k ∨ k = jb) wc (w7.setCell ⟨jb, 1, none⟩ (.slice ja' (m + 1) jc')) := (og.mono (T := fun k => B6 ≤ k ∨ k = jb) (fun k _ e => e.elim (fun e => .inl (by omega)) (fun e => .inl (hJ.lt k e.symm).1))).trans (oS.mono (fun k _ e => .inr e))
    have hM := hM.keptk o8 (by omega) (by omega) (fun g hg e => by have := HG.out g hg; omega) (fun i hi e => by omega)
    have hb := (o8.block bb lb (by omega)).trans hb
    have hJ2 := own_away hown' oS (fun g cur hg e => by unfold B1 at e; subst e; rw [hj2] at hg; cases hg)
    have hj3 : (w7.setCell ⟨jb, 1, none⟩ (.slice ja' (m + 1) jc')).heap[jb]? = some (.cells #[.slice (some ⟨sb, 0, none⟩) n n, .slice ja' (m + 1) jc'] 26 (0, 0)) := by rw [heap_setCell_at _ _ _ _ _ _ _ hj2]; rfl
    clear o8 oS hown' hgrow hnil hloc og nj hj2 cj fj lj hj' hJ lb d0 d1 d2 d3 d4
    generalize World.setCell w7 _ _ = W1 at *
    have hA1 : ArcsAt (fun k => w.heap.size ≤ k) W1 ra m A := by
      obtain ⟨_, _, e, q⟩ := arcs_of_row hM.ha
      cases e
      exact q
    have hB1 : ArcsAt (fun k => B6 ≤ k) W1 ja' (m + 1) B := by
      obtain ⟨_, _, e, q⟩ := arcs_of_row hJ2
      cases e
      exact q
    obtain ⟨fs, hsup⟩ := hM.hs.sup
    have ci0 := (cell_in _ _ 0 _ _ _ hM.hi).trans rfl
    have ci1 := (cell_in _ _ 1 _ _ _ hM.hi).trans rfl
    have ow := hM.ow
    have GB : Hid (∀ j, j < m + 1 → 0 ≤ (B j).f ∧ (B j).f < n ∧ 0 ≤ (B j).t ∧ (B j).t < n) := fun j hj => by
      rw [HB.out]
      unfold snoc
      split
      · exact GOOD.out j
      · exact ⟨by show (0 : Int) ≤ kf; omega, by show (kf : Int) < n; omega, by show (0 : Int) ≤ kt; omega, by show (kt : Int) < n; omega⟩
    go_wp2_with fail
    refine (new_any (fun _ => True) (some ⟨sb, 0, none⟩) ra n m n rc fs A (by omega) (by omega) (fun j _ => GOOD.out j) W1 (hsup.mono (fun _ _ => trivial)) (hA1.mono (q := fun _ => True) (fun _ _ => trivial))).mono ?_
    rintro e W2 ⟨⟨gb, rfl, hG⟩, o2⟩
    have hG : Made _ W2 gb n m A := hG
    obtain ⟨pg, hG⟩ : ∃ p, Made p W2 gb n m A := ⟨_, hG⟩
    have hM := hM.kept o2
    have hb := (o2.block bb (lt_of_heap hb) (fun f => f)).trans hb
    have hj3 := (o2.block jb (lt_of_heap hj3) (fun f => f)).trans hj3
    have hB1 := hB1.kept o2 (fun _ _ f => f)
    clear ci0 ci1 ow hsup hA1 o2 hJ2
    obtain ⟨fs, hsup⟩ := hM.hs.sup
    have cj0 := (cell_in _ _ 0 _ _ _ hj3).trans rfl
    have cj1 := (cell_in _ _ 1 _ _ _ hj3).trans rfl
    go_wp2_with fail
    refine (new_any (fun _ => True) (some ⟨sb, 0, none⟩) ja' n (m + 1) n jc' fs B (by omega) (by omega) GB.out W2 (hsup.mono (fun _ _ => trivial)) (hB1.mono (q := fun _ => True) (fun _ _ => trivial))).mono ?_
    rintro e W3 ⟨⟨g2, rfl, hH⟩, o2⟩
    have hH : Made _ W3 g2 n (m + 1) B := hH
    obtain ⟨ph, hH⟩ : ∃ p, Made p W3 g2 n (m + 1) B := ⟨_, hH⟩
    have hG := hG.kept o2 (fun _ _ f => f)
    have hM := hM.kept o2
    have hb := (o2.block bb (lt_of_heap hb) (fun f => f)).trans hb
    have ow := hM.ow
    have hi := hM.hi
    clear cj0 cj1 hsup hj3 hB1 o2 hM
    go_wp2_with fail
    generalize Value.agg #[.int .i64 (kf : Int), .int .i64 (kt : Int), .int .i64 0, .int .i64 1, .int .i64 0] = v45
    go_loopw [15] (fun s wr => ∃ k : Nat, k ≤ n ∧ s = .int .i64 k ∧ Only NoB W3 wr) (fun s _ => n - (intOf s).toNat)
    case atStart => exact ⟨0, Nat.zero_le _, rfl, Only.refl _ _⟩
    case round =>
      obtain ⟨k, hk, rfl, oo⟩ := hrel
      have hGr := hG.kept oo (fun _ _ f => f)
      have hHr := hH.kept oo (fun _ _ f => f)
      have hb := (oo.block bb (lt_of_heap hb) (fun f => f)).trans hb
      have hi := (oo.block ib (lt_of_heap hi) (fun f => f)).trans hi
      clear hG hH
      by_cases lt : k < n
      · have lti : (k : Int) < n := by omega
        go_wp2_with fail
        refine (out_told pg gb n m k A wr hGr lt).mono ?_
        rintro e x1 ⟨vo, rfl, r1, o1⟩
        go_wp2_with fail
        refine (in_told pg gb n m k A x1 (hGr.kept o1 (fun _ _ f => f)) lt).mono ?_
        rintro e x2 ⟨vi, rfl, r2, o2⟩
        go_wp2_with fail
        refine (at_told pg gb n m k A x2 (hGr.kept (o1.trans o2) (fun _ _ f => f)) lt).mono ?_
        rintro e x3 ⟨va, rfl, r3, o3⟩
        have R := Rows3.mk' (Nat.le_refl _) r1 r2 r3 o1 o2 o3
        have oX : Only NoB wr x3 := (o1.trans o2).trans o3
        have l1 := outs_len A m k
        have l2 := ins_len A m k
        have l3 := touch_len A m k
        clear r1 r2 r3 o1 o2 o3
        obtain ⟨lo, hlo⟩ : ∃ lo, outs A m k = lo := ⟨_, rfl⟩
        obtain ⟨li, hli⟩ : ∃ li, ins A m k = li := ⟨_, rfl⟩
        obtain ⟨la, hla⟩ : ∃ la, touch A m k = la := ⟨_, rfl⟩
        rw [hlo, hli, hla] at R
        rw [hlo] at l1
        rw [hli] at l2
        rw [hla] at l3
        have Hlo := Lib.hid hlo
        have Hli := Lib.hid hli
        have Hla := Lib.hid hla
        clear hlo hli hla
        have zX := oX.size
        have ci1 := (cell_in _ _ 1 _ _ _ ((oX.block ib (lt_of_heap hi) (fun f => f)).trans hi)).trans rfl
        have b0 := (cell_in _ _ 0 _ _ _ ((oX.block bb (lt_of_heap hb) (fun f => f)).trans hb)).trans rfl
        have b1 := (cell_in _ _ 1 _ _ _ ((oX.block bb (lt_of_heap hb) (fun f => f)).trans hb)).trans rfl
        by_cases cf : kf = k
        · by_cases ct : kt = k
          · skip
            have eo : outs B (m + 1) k = lo ++ [(m : Int)] := by rw [HB.out, outs_snoc, if_pos (by simp; omega), Hlo.out]
            have ei : ins B (m + 1) k = li ++ [(m : Int)] := by rw [HB.out, ins_snoc, if_pos (by simp; omega), Hli.out]
            have ea : touch B (m + 1) k = la ++ [(m : Int)] := by rw [HB.out, touch_snoc, if_pos (by simp; omega), Hla.out]
            have Eo := Lib.hid eo
            have Ei := Lib.hid ei
            have Ea := Lib.hid ea
            clear eo ei ea
            have t1 : ((k : Int) == (kf : Int)) = true := by simp; omega
            have t2 : ((k : Int) == (kt : Int)) = true := by simp; omega
            go_upto_region 18 with fail
            go_upto_region 19 with (at_builtin; refine wpList_append_own_at _ rfl _ _ 32 rfl wr.heap.size 3 j0 (.int .i64 0) 1 8 Try.underlying32 hj0 hy0 hy1 hy2 rfl (by decide) _ _ _ rfl (R.ho.alloc _) ⟨x3.heap.size, 0, none⟩ 1 1 [.int .i64 m] rfl rfl (cell_one_new _ _ _) (by simp [Value.oneCell']) (by unfold maxLen; omega) (by omega) (by simp; omega) ?_; intro vo1 y1 hown' hgrow hnil hloc; have hgrow : World.grownBy _ y1 vo.ownBlock := hgrow; have hloc : vo1.ownBlock = vo.ownBlock ∨ _ := hloc)
            have oX := (oX.alloc (.cells #[.int .i64 m] 3)).grown hgrow (fun q hq e => absurd (R.ho.lt q e).1 (by omega))
            have R := (R.kept ((Only.refl _ _).alloc (.cells #[.int .i64 m] 3))).more hown' hgrow hloc
            clear hown' hgrow hnil hloc
            have zX := oX.size
            clear ci1 b0 b1
            have ci1 := (cell_in _ _ 1 _ _ _ ((oX.block ib (lt_of_heap hi) (fun f => f)).trans hi)).trans rfl
            have b0 := (cell_in _ _ 0 _ _ _ ((oX.block bb (lt_of_heap hb) (fun f => f)).trans hb)).trans rfl
            have b1 := (cell_in _ _ 1 _ _ _ ((oX.block bb (lt_of_heap hb) (fun f => f)).trans hb)).trans rfl
            have R := R.turn
            go_upto_region 20 with fail
            go_upto_region 21 with (at_builtin; refine wpList_append_own_at _ rfl _ _ 32 rfl wr.heap.size 3 j0 (.int .i64 0) 1 8 Try.underlying32 hj0 hy0 hy1 hy2 rfl (by decide) _ _ _ rfl (R.ho.alloc _) ⟨y1.heap.size, 0, none⟩ 1 1 [.int .i64 m] rfl rfl (cell_one_new _ _ _) (by simp [Value.oneCell']) (by unfold maxLen; omega) (by omega) (by simp; omega) ?_; intro vi1 y2 hown' hgrow hnil hloc; have hgrow : World.grownBy _ y2 vi.ownBlock := hgrow; have hloc : vi1.ownBlock = vi.ownBlock ∨ _ := hloc)
            have oX := (oX.alloc (.cells #[.int .i64 m] 3)).grown hgrow (fun q hq e => absurd (R.ho.lt q e).1 (by omega))
            have R := (R.kept ((Only.refl _ _).alloc (.cells #[.int .i64 m] 3))).more hown' hgrow hloc
            clear hown' hgrow hnil hloc
            have zX := oX.size
            clear ci1 b0 b1
            have ci1 := (cell_in _ _ 1 _ _ _ ((oX.block ib (lt_of_heap hi) (fun f => f)).trans hi)).trans rfl
            have b0 := (cell_in _ _ 0 _ _ _ ((oX.block bb (lt_of_heap hb) (fun f => f)).trans hb)).trans rfl
            have b1 := (cell_in _ _ 1 _ _ _ ((oX.block bb (lt_of_heap hb) (fun f => f)).trans hb)).trans rfl
            have R := R.turn
            go_upto_region 22 with fail
            go_upto_region 23 with (at_builtin; refine wpList_append_own_at _ rfl _ _ 32 rfl wr.heap.size 3 j0 (.int .i64 0) 1 8 Try.underlying32 hj0 hy0 hy1 hy2 rfl (by decide) _ _ _ rfl (R.ho.alloc _) ⟨y2.heap.size, 0, none⟩ 1 1 [.int .i64 m] rfl rfl (cell_one_new _ _ _) (by simp [Value.oneCell']) (by unfold maxLen; omega) (by omega) (by simp; omega) ?_; intro va1 y3 hown' hgrow hnil hloc; have hgrow : World.grownBy _ y3 va.ownBlock := hgrow; have hloc : va1.ownBlock = va.ownBlock ∨ _ := hloc)
            have oX := (oX.alloc (.cells #[.int .i64 m] 3)).grown hgrow (fun q hq e => absurd (R.ho.lt q e).1 (by omega))
            have R := (R.kept ((Only.refl _ _).alloc (.cells #[.int .i64 m] 3))).more hown' hgrow hloc
            clear hown' hgrow hnil hloc
            have zX := oX.size
            have R := R.turn
            clear ci1 b0 b1 t1 t2
            have L1 := R.lo'
            have L2 := R.li'
            have L3 := R.la'
            clear R
            have hH := hHr.kept oX (fun _ _ f => f)
            go_wp2_with fail
            refine (out_told ph g2 n (m + 1) k B _ hH lt).mono ?_
            rintro e s0 ⟨u, rfl, hu, oq⟩
            rw [Eo.out] at hu
            have hu := Ls.of_own hu
            have L1 := L1.kept oq (fun _ _ f => f)
            have L2 := L2.kept oq (fun _ _ f => f)
            have L3 := L3.kept oq (fun _ _ f => f)
            have hH := hH.kept oq (fun _ _ f => f)
            have oX := oX.trans oq
            clear oq
            go_wp2_with fail
            refine (ints_same vo1 u (lo ++ [(m : Int)]) (by first | omega | (simp; omega)) _ L1 hu).mono ?_
            rintro e p0 ⟨rfl, oq⟩
            have L2 := L2.kept oq (fun _ _ f => f)
            have L3 := L3.kept oq (fun _ _ f => f)
            have hH := hH.kept oq (fun _ _ f => f)
            have oX := oX.trans oq
            clear oq hu L1
            go_wp2_with fail
            refine (in_told ph g2 n (m + 1) k B _ hH lt).mono ?_
            rintro e s1 ⟨u, rfl, hu, oq⟩
            rw [Ei.out] at hu
            have hu := Ls.of_own hu
            have L2 := L2.kept oq (fun _ _ f => f)
            have L3 := L3.kept oq (fun _ _ f => f)
            have hH := hH.kept oq (fun _ _ f => f)
            have oX := oX.trans oq
            clear oq
            go_wp2_with fail
            refine (ints_same vi1 u (li ++ [(m : Int)]) (by first | omega | (simp; omega)) _ L2 hu).mono ?_
            rintro e p1 ⟨rfl, oq⟩
            have L3 := L3.kept oq (fun _ _ f => f)
            have hH := hH.kept oq (fun _ _ f => f)
            have oX := oX.trans oq
            clear oq hu L2
            go_wp2_with fail
            refine (at_told ph g2 n (m + 1) k B _ hH lt).mono ?_
            rintro e s2 ⟨u, rfl, hu, oq⟩
            rw [Ea.out] at hu
            have hu := Ls.of_own hu
            have L3 := L3.kept oq (fun _ _ f => f)
            have hH := hH.kept oq (fun _ _ f => f)
            have oX := oX.trans oq
            clear oq
            go_wp2_with fail
            refine (ints_same va1 u (la ++ [(m : Int)]) (by first | omega | (simp; omega)) _ L3 hu).mono ?_
            rintro e p2 ⟨rfl, oq⟩
            have hH := hH.kept oq (fun _ _ f => f)
            have oX := oX.trans oq
            clear oq hu L3
            go_wp2_with fail
            go_roundw
            case rel => exact ⟨k + 1, by omega, by go_num, oo.trans oX⟩
            case measure => simp [intOf]; omega
          · skip
            have eo : outs B (m + 1) k = lo ++ [(m : Int)] := by rw [HB.out, outs_snoc, if_pos (by simp; omega), Hlo.out]
            have ei : ins B (m + 1) k = li ++ [] := by rw [HB.out, ins_snoc, if_neg (by simp; omega), Hli.out]
            have ea : touch B (m + 1) k = la ++ [(m : Int)] := by rw [HB.out, touch_snoc, if_pos (by simp; omega), Hla.out]
            have Eo := Lib.hid eo
            have Ei := Lib.hid ei
            have Ea := Lib.hid ea
            clear eo ei ea
            have t1 : ((k : Int) == (kf : Int)) = true := by simp; omega
            have t2 : ((k : Int) == (kt : Int)) = false := by simp; omega
            go_upto_region 18 with fail
            go_upto_region 19 with (at_builtin; refine wpList_append_own_at _ rfl _ _ 32 rfl wr.heap.size 3 j0 (.int .i64 0) 1 8 Try.underlying32 hj0 hy0 hy1 hy2 rfl (by decide) _ _ _ rfl (R.ho.alloc _) ⟨x3.heap.size, 0, none⟩ 1 1 [.int .i64 m] rfl rfl (cell_one_new _ _ _) (by simp [Value.oneCell']) (by unfold maxLen; omega) (by omega) (by simp; omega) ?_; intro vo1 y1 hown' hgrow hnil hloc; have hgrow : World.grownBy _ y1 vo.ownBlock := hgrow; have hloc : vo1.ownBlock = vo.ownBlock ∨ _ := hloc)
            have oX := (oX.alloc (.cells #[.int .i64 m] 3)).grown hgrow (fun q hq e => absurd (R.ho.lt q e).1 (by omega))
            have R := (R.kept ((Only.refl _ _).alloc (.cells #[.int .i64 m] 3))).more hown' hgrow hloc
            clear hown' hgrow hnil hloc
            have zX := oX.size
            clear ci1 b0 b1
            have ci1 := (cell_in _ _ 1 _ _ _ ((oX.block ib (lt_of_heap hi) (fun f => f)).trans hi)).trans rfl
            have b0 := (cell_in _ _ 0 _ _ _ ((oX.block bb (lt_of_heap hb) (fun f => f)).trans hb)).trans rfl
            have b1 := (cell_in _ _ 1 _ _ _ ((oX.block bb (lt_of_heap hb) (fun f => f)).trans hb)).trans rfl
            have R := R.turn
            go_upto_region 21 with fail
            have R := R.turn
            go_upto_region 22 with fail
            go_upto_region 23 with (at_builtin; refine wpList_append_own_at _ rfl _ _ 32 rfl wr.heap.size 3 j0 (.int .i64 0) 1 8 Try.underlying32 hj0 hy0 hy1 hy2 rfl (by decide) _ _ _ rfl (R.ho.alloc _) ⟨y1.heap.size, 0, none⟩ 1 1 [.int .i64 m] rfl rfl (cell_one_new _ _ _) (by simp [Value.oneCell']) (by unfold maxLen; omega) (by omega) (by simp; omega) ?_; intro va1 y3 hown' hgrow hnil hloc; have hgrow : World.grownBy _ y3 va.ownBlock := hgrow; have hloc : va1.ownBlock = va.ownBlock ∨ _ := hloc)
            have oX := (oX.alloc (.cells #[.int .i64 m] 3)).grown hgrow (fun q hq e => absurd (R.ho.lt q e).1 (by omega))
            have R := (R.kept ((Only.refl _ _).alloc (.cells #[.int .i64 m] 3))).more hown' hgrow hloc
            clear hown' hgrow hnil hloc
            have zX := oX.size
            have R := R.turn
            clear ci1 b0 b1 t1 t2
            rw [List.append_nil] at Ei
            have L1 := R.lo'
            have L2 := R.li'
            have L3 := R.la'
            clear R
            have hH := hHr.kept oX (fun _ _ f => f)
            go_wp2_with fail
            refine (out_told ph g2 n (m + 1) k B _ hH lt).mono ?_
            rintro e s0 ⟨u, rfl, hu, oq⟩
            rw [Eo.out] at hu
            have hu := Ls.of_own hu
            have L1 := L1.kept oq (fun _ _ f => f)
            have L2 := L2.kept oq (fun _ _ f => f)
            have L3 := L3.kept oq (fun _ _ f => f)
            have hH := hH.kept oq (fun _ _ f => f)
            have oX := oX.trans oq
            clear oq
            go_wp2_with fail
            refine (ints_same vo1 u (lo ++ [(m : Int)]) (by first | omega | (simp; omega)) _ L1 hu).mono ?_
            rintro e p0 ⟨rfl, oq⟩
            have L2 := L2.kept oq (fun _ _ f => f)
            have L3 := L3.kept oq (fun _ _ f => f)
            have hH := hH.kept oq (fun _ _ f => f)
            have oX := oX.trans oq
            clear oq hu L1
            go_wp2_with fail
            refine (in_told ph g2 n (m + 1) k B _ hH lt).mono ?_
            rintro e s1 ⟨u, rfl, hu, oq⟩
            rw [Ei.out] at hu
            have hu := Ls.of_own hu
            have L2 := L2.kept oq (fun _ _ f => f)
            have L3 := L3.kept oq (fun _ _ f => f)
            have hH := hH.kept oq (fun _ _ f => f)
            have oX := oX.trans oq
            clear oq
            go_wp2_with fail
            refine (ints_same vi u li (by first | omega | (simp; omega)) _ L2 hu).mono ?_
            rintro e p1 ⟨rfl, oq⟩
            have L3 := L3.kept oq (fun _ _ f => f)
            have hH := hH.kept oq (fun _ _ f => f)
            have oX := oX.trans oq
            clear oq hu L2
            go_wp2_with fail
            refine (at_told ph g2 n (m + 1) k B _ hH lt).mono ?_
            rintro e s2 ⟨u, rfl, hu, oq⟩
            rw [Ea.out] at hu
            have hu := Ls.of_own hu
            have L3 := L3.kept oq (fun _ _ f => f)
            have hH := hH.kept oq (fun _ _ f => f)
            have oX := oX.trans oq
            clear oq
            go_wp2_with fail
            refine (ints_same va1 u (la ++ [(m : Int)]) (by first | omega | (simp; omega)) _ L3 hu).mono ?_
            rintro e p2 ⟨rfl, oq⟩
            have hH := hH.kept oq (fun _ _ f => f)
            have oX := oX.trans oq
            clear oq hu L3
            go_wp2_with fail
            go_roundw
            case rel => exact ⟨k + 1, by omega, by go_num, oo.trans oX⟩
            case measure => simp [intOf]; omega
        · by_cases ct : kt = k
          · skip
            have eo : outs B (m + 1) k = lo ++ [] := by rw [HB.out, outs_snoc, if_neg (by simp; omega), Hlo.out]
            have ei : ins B (m + 1) k = li ++ [(m : Int)] := by rw [HB.out, ins_snoc, if_pos (by simp; omega), Hli.out]
            have ea : touch B (m + 1) k = la ++ [(m : Int)] := by rw [HB.out, touch_snoc, if_pos (by simp; omega), Hla.out]
            have Eo := Lib.hid eo
            have Ei := Lib.hid ei
            have Ea := Lib.hid ea
            clear eo ei ea
            have t1 : ((k : Int) == (kf : Int)) = false := by simp; omega
            have t2 : ((k : Int) == (kt : Int)) = true := by simp; omega
            go_upto_region 19 with fail
            have R := R.turn
            go_upto_region 20 with fail
            go_upto_region 21 with (at_builtin; refine wpList_append_own_at _ rfl _ _ 32 rfl wr.heap.size 3 j0 (.int .i64 0) 1 8 Try.underlying32 hj0 hy0 hy1 hy2 rfl (by decide) _ _ _ rfl (R.ho.alloc _) ⟨x3.heap.size, 0, none⟩ 1 1 [.int .i64 m] rfl rfl (cell_one_new _ _ _) (by simp [Value.oneCell']) (by unfold maxLen; omega) (by omega) (by simp; omega) ?_; intro vi1 y2 hown' hgrow hnil hloc; have hgrow : World.grownBy _ y2 vi.ownBlock := hgrow; have hloc : vi1.ownBlock = vi.ownBlock ∨ _ := hloc)
            have oX := (oX.alloc (.cells #[.int .i64 m] 3)).grown hgrow (fun q hq e => absurd (R.ho.lt q e).1 (by omega))
            have R := (R.kept ((Only.refl _ _).alloc (.cells #[.int .i64 m] 3))).more hown' hgrow hloc
            clear hown' hgrow hnil hloc
            have zX := oX.size
            clear ci1 b0 b1
            have ci1 := (cell_in _ _ 1 _ _ _ ((oX.block ib (lt_of_heap hi) (fun f => f)).trans hi)).trans rfl
            have b0 := (cell_in _ _ 0 _ _ _ ((oX.block bb (lt_of_heap hb) (fun f => f)).trans hb)).trans rfl
            have b1 := (cell_in _ _ 1 _ _ _ ((oX.block bb (lt_of_heap hb) (fun f => f)).trans hb)).trans rfl
            have R := R.turn
            go_upto_region 22 with fail
            go_upto_region 23 with (at_builtin; refine wpList_append_own_at _ rfl _ _ 32 rfl wr.heap.size 3 j0 (.int .i64 0) 1 8 Try.underlying32 hj0 hy0 hy1 hy2 rfl (by decide) _ _ _ rfl (R.ho.alloc _) ⟨y2.heap.size, 0, none⟩ 1 1 [.int .i64 m] rfl rfl (cell_one_new _ _ _) (by simp [Value.oneCell']) (by unfold maxLen; omega) (by omega) (by simp; omega) ?_; intro va1 y3 hown' hgrow hnil hloc; have hgrow : World.grownBy _ y3 va.ownBlock := hgrow; have hloc : va1.ownBlock = va.ownBlock ∨ _ := hloc)
            have oX := (oX.alloc (.cells #[.int .i64 m] 3)).grown hgrow (fun q hq e => absurd (R.ho.lt q e).1 (by omega))
            have R := (R.kept ((Only.refl _ _).alloc (.cells #[.int .i64 m] 3))).more hown' hgrow hloc
            clear hown' hgrow hnil hloc
            have zX := oX.size
            have R := R.turn
            clear ci1 b0 b1 t1 t2
            rw [List.append_nil] at Eo
            have L1 := R.lo'
            have L2 := R.li'
            have L3 := R.la'
            clear R
            have hH := hHr.kept oX (fun _ _ f => f)
            go_wp2_with fail
            refine (out_told ph g2 n (m + 1) k B _ hH lt).mono ?_
            rintro e s0 ⟨u, rfl, hu, oq⟩
            rw [Eo.out] at hu
            have hu := Ls.of_own hu
            have L1 := L1.kept oq (fun _ _ f => f)
            have L2 := L2.kept oq (fun _ _ f => f)
            have L3 := L3.kept oq (fun _ _ f => f)
            have hH := hH.kept oq (fun _ _ f => f)
            have oX := oX.trans oq
            clear oq
            go_wp2_with fail
            refine (ints_same vo u lo (by first | omega | (simp; omega)) _ L1 hu).mono ?_
            rintro e p0 ⟨rfl, oq⟩
            have L2 := L2.kept oq (fun _ _ f => f)
            have L3 := L3.kept oq (fun _ _ f => f)
            have hH := hH.kept oq (fun _ _ f => f)
            have oX := oX.trans oq
            clear oq hu L1
            go_wp2_with fail
            refine (in_told ph g2 n (m + 1) k B _ hH lt).mono ?_
            rintro e s1 ⟨u, rfl, hu, oq⟩
            rw [Ei.out] at hu
            have hu := Ls.of_own hu
            have L2 := L2.kept oq (fun _ _ f => f)
            have L3 := L3.kept oq (fun _ _ f => f)
            have hH := hH.kept oq (fun _ _ f => f)
            have oX := oX.trans oq
            clear oq
            go_wp2_with fail
            refine (ints_same vi1 u (li ++ [(m : Int)]) (by first | omega | (simp; omega)) _ L2 hu).mono ?_
            rintro e p1 ⟨rfl, oq⟩
            have L3 := L3.kept oq (fun _ _ f => f)
            have hH := hH.kept oq (fun _ _ f => f)
            have oX := oX.trans oq
            clear oq hu L2
            go_wp2_with fail
            refine (at_told ph g2 n (m + 1) k B _ hH lt).mono ?_
            rintro e s2 ⟨u, rfl, hu, oq⟩
            rw [Ea.out] at hu
            have hu := Ls.of_own hu
            have L3 := L3.kept oq (fun _ _ f => f)
            have hH := hH.kept oq (fun _ _ f => f)
            have oX := oX.trans oq
            clear oq
            go_wp2_with fail
            refine (ints_same va1 u (la ++ [(m : Int)]) (by first | omega | (simp; omega)) _ L3 hu).mono ?_
            rintro e p2 ⟨rfl, oq⟩
            have hH := hH.kept oq (fun _ _ f => f)
            have oX := oX.trans oq
            clear oq hu L3
            go_wp2_with fail
            go_roundw
            case rel => exact ⟨k + 1, by omega, by go_num, oo.trans oX⟩
            case measure => simp [intOf]; omega
          · skip
            have eo : outs B (m + 1) k = lo ++ [] := by rw [HB.out, outs_snoc, if_neg (by simp; omega), Hlo.out]
            have ei : ins B (m + 1) k = li ++ [] := by rw [HB.out, ins_snoc, if_neg (by simp; omega), Hli.out]
            have ea : touch B (m + 1) k = la ++ [] := by rw [HB.out, touch_snoc, if_neg (by simp; omega), Hla.out]
            have Eo := Lib.hid eo
            have Ei := Lib.hid ei
            have Ea := Lib.hid ea
            clear eo ei ea
            have t1 : ((k : Int) == (kf : Int)) = false := by simp; omega
            have t2 : ((k : Int) == (kt : Int)) = false := by simp; omega
            go_upto_region 19 with fail
            have R := R.turn
            go_upto_region 21 with fail
            have R := R.turn
            go_upto_region 23 with fail
            have R := R.turn
            clear ci1 b0 b1 t1 t2
            rw [List.append_nil] at Eo
            rw [List.append_nil] at Ei
            rw [List.append_nil] at Ea
            have L1 := R.lo'
            have L2 := R.li'
            have L3 := R.la'
            clear R
            have hH := hHr.kept oX (fun _ _ f => f)
            go_wp2_with fail
            refine (out_told ph g2 n (m + 1) k B _ hH lt).mono ?_
            rintro e s0 ⟨u, rfl, hu, oq⟩
            rw [Eo.out] at hu
            have hu := Ls.of_own hu
            have L1 := L1.kept oq (fun _ _ f => f)
            have L2 := L2.kept oq (fun _ _ f => f)
            have L3 := L3.kept oq (fun _ _ f => f)
            have hH := hH.kept oq (fun _ _ f => f)
            have oX := oX.trans oq
            clear oq
            go_wp2_with fail
            refine (ints_same vo u lo (by first | omega | (simp; omega)) _ L1 hu).mono ?_
            rintro e p0 ⟨rfl, oq⟩
            have L2 := L2.kept oq (fun _ _ f => f)
            have L3 := L3.kept oq (fun _ _ f => f)
            have hH := hH.kept oq (fun _ _ f => f)
            have oX := oX.trans oq
            clear oq hu L1
            go_wp2_with fail
            refine (in_told ph g2 n (m + 1) k B _ hH lt).mono ?_
            rintro e s1 ⟨u, rfl, hu, oq⟩
            rw [Ei.out] at hu
            have hu := Ls.of_own hu
            have L2 := L2.kept oq (fun _ _ f => f)
            have L3 := L3.kept oq (fun _ _ f => f)
            have hH := hH.kept oq (fun _ _ f => f)
            have oX := oX.trans oq
            clear oq
            go_wp2_with fail
            refine (ints_same vi u li (by first | omega | (simp; omega)) _ L2 hu).mono ?_
            rintro e p1 ⟨rfl, oq⟩
            have L3 := L3.kept oq (fun _ _ f => f)
            have hH := hH.kept oq (fun _ _ f => f)
            have oX := oX.trans oq
            clear oq hu L2
            go_wp2_with fail
            refine (at_told ph g2 n (m + 1) k B _ hH lt).mono ?_
            rintro e s2 ⟨u, rfl, hu, oq⟩
            rw [Ea.out] at hu
            have hu := Ls.of_own hu
            have L3 := L3.kept oq (fun _ _ f => f)
            have hH := hH.kept oq (fun _ _ f => f)
            have oX := oX.trans oq
            clear oq
            go_wp2_with fail
            refine (ints_same va u la (by first | omega | (simp; omega)) _ L3 hu).mono ?_
            rintro e p2 ⟨rfl, oq⟩
            have hH := hH.kept oq (fun _ _ f => f)
            have oX := oX.trans oq
            clear oq hu L3
            go_wp2_with fail
            go_roundw
            case rel => exact ⟨k + 1, by omega, by go_num, oo.trans oX⟩
            case measure => simp [intOf]; omega
      · obtain rfl : n = k := by omega
        have ow := ow.trans oo
        have ci1 := (cell_in _ _ 1 _ _ _ hi).trans rfl
        have b0 := (cell_in _ _ 0 _ _ _ hb).trans rfl
        have b1 := (cell_in _ _ 1 _ _ _ hb).trans rfl
        go_upto_region 25 with fail
        have MK : Hid (∀ w', Only NoB wr w' → w'.cell? ⟨ib, 1, none⟩ = some (.slice ra m rc) ∧ w'.cell? ⟨bb, 0, none⟩ = some (.int .i64 kf) ∧ w'.cell? ⟨bb, 1, none⟩ = some (.int .i64 kt)) := fun w' o => ⟨o.cell ci1 (fun f => f), o.cell b0 (fun f => f), o.cell b1 (fun f => f)⟩
        clear ci1 b0 b1
        refine wp_region_along (fun w' => w'.cell? ⟨ib, 1, none⟩ = some (.slice ra m rc) ∧ w'.cell? ⟨bb, 0, none⟩ = some (.int .i64 kf) ∧ w'.cell? ⟨bb, 1, none⟩ = some (.int .i64 kt)) [(0, false), (1, true), (2, true), (3, true), (4, true), (5, true), (6, true), (7, true), (9, true), (10, true), (8, false), (11, true), (12, true), (13, true)] (by kernel_rfl) (by kernel_rfl) (MK.out _ ((Only.refl _ _).drew)) ?_
        have oX : Only NoB wr wr.drew := (Only.refl _ _).drew
        generalize wr.drew = y0 at *
        (refine along_do (by simp only [List.getElem?_cons_succ, List.getElem?_cons_zero]; rfl) (by rfl) (fun K hK => ?_); go_simp)
        refine (known_any _).mono ?_
        rintro e y1 ⟨rfl, oq⟩
        have oX := oX.trans oq
        clear oq
        (refine hK _ _ (MK.out _ oX) ?_; clear hK K)
        repeat (first | (refine' along_take (by simp only [List.getElem?_cons_succ, List.getElem?_cons_zero]; rfl) (by rfl) ?_ ?_ ?_; rotate_left 2; (intro w' hS; go_simp; try rfl); (simp only [Act.put, List.setIfInBounds_toArray, List.set_cons_zero, List.set_cons_succ]; try rfl)) | (refine' along_skip (by simp only [List.getElem?_cons_succ, List.getElem?_cons_zero]; rfl) (by rfl) ?_ ?_; rotate_left 1; (simp only [Act.put, List.setIfInBounds_toArray, List.set_cons_zero, List.set_cons_succ]; try rfl)))
        (refine along_do (by simp only [List.getElem?_cons_succ, List.getElem?_cons_zero]; rfl) (by rfl) (fun K hK => ?_); go_simp)
        refine (other_any ph g2 n (m + 1) m kf B y1 (hHr.kept oX (fun _ _ f => f)) (by omega)).mono ?_
        rintro e y2 ⟨rfl, oq⟩
        have oX := oX.trans oq
        clear oq
        rw [show otherI (B m) kf = kt by rw [HB.out, snoc_last]; exact if_pos rfl]
        (refine hK _ _ (MK.out _ oX) ?_; clear hK K)
        repeat (first | (refine' along_take (by simp only [List.getElem?_cons_succ, List.getElem?_cons_zero]; rfl) (by rfl) ?_ ?_ ?_; rotate_left 2; (intro w' hS; go_simp; try rfl); (simp only [Act.put, List.setIfInBounds_toArray, List.set_cons_zero, List.set_cons_succ]; try rfl)) | (refine' along_skip (by simp only [List.getElem?_cons_succ, List.getElem?_cons_zero]; rfl) (by rfl) ?_ ?_; rotate_left 1; (simp only [Act.put, List.setIfInBounds_toArray, List.set_cons_zero, List.set_cons_succ]; try rfl)))
        refine along_end ?_
        go_wp2_with fail
        go_ret
        exact ⟨rfl, (ow.trans oX).below⟩
end Go.Proofs.Ytgaekihcfcoaeaa
