/-
  THE WALK of quittancelaw03.Inst.
-/
import Derived.Test.YtgaekihcfcoaeaaArcs
import Derived.Test.YtgaekihcfcoaeaaInts
import Derived.Deep.CutRange
set_option linter.unusedVariables false
set_option linter.unusedSimpArgs false
namespace Go.Proofs.Ytgaekihcfcoaeaa
open Go.RowKit

/-- a block of n numbers, of whatever values -/
def RowI (w : World) (b n : Nat) : Prop := ∃ cur, w.heap[b]? = some (.cells cur 2 (0, 0)) ∧ cur.size = n ∧ ∀ j, j < n → ∃ z, cur[j]? = some (.int .i64 z)
theorem RowI.at {w : World} {b n : Nat} (h : RowI w b n) (j : Nat) (hj : j < n) : ∃ z, w.cell? ⟨b, j, none⟩ = some (.int .i64 z) := by
  obtain ⟨cur, h1, h2, h3⟩ := h
  obtain ⟨z, hz⟩ := h3 j hj
  exact ⟨z, by rw [cell_in _ _ _ _ _ _ h1, hz]⟩
theorem RowI.lt {w : World} {b n : Nat} (h : RowI w b n) : b < w.heap.size := by
  obtain ⟨cur, h1, h2, h3⟩ := h
  exact lt_of_heap h1
theorem RowI.fz {w : World} {b n : Nat} (h : RowI w b n) (j : Nat) : w.frozen? ⟨b, j, none⟩ = false := by
  obtain ⟨cur, h1, h2, h3⟩ := h
  exact frozen_in _ _ _ _ _ h1
theorem RowI.kept {S : Nat → Prop} {w w' : World} {b n : Nat} (h : RowI w b n) (o : Only S w w') (hs : ¬ S b) : RowI w' b n := by
  obtain ⟨cur, h1, h2, h3⟩ := h
  exact ⟨cur, (o.block b (lt_of_heap h1) hs).trans h1, h2, h3⟩
theorem RowI.set {w : World} {b n : Nat} (h : RowI w b n) (j : Nat) (y : Int) : RowI (w.setCell ⟨b, j, none⟩ (.int .i64 y)) b n := by
  obtain ⟨cur, h1, h2, h3⟩ := h
  refine ⟨_, heap_setCell_at _ _ _ _ _ _ _ h1, by simpa using h2, fun i hi => ?_⟩
  rw [Array.getElem?_setIfInBounds]
  by_cases c : j = i
  · rw [if_pos c, if_pos (by omega)]
    exact ⟨_, rfl⟩
  · rw [if_neg c]
    exact h3 i hi
theorem made_sup (k : Nat) : madeCells #[.int .i64 0] k = cellsOf k (fun _ => 0) := made_ints k
theorem RowI.new (w : World) (n : Nat) : RowI (w.alloc (.cells (cellsOf n (fun _ => 0)) 2)) w.heap.size n :=
  ⟨_, heap_alloc_new _ _, cellsOf_size _ _, fun j hj => ⟨_, cellsOf_get _ _ _ hj⟩⟩
theorem make_sup (k : Nat) (hk : k ≤ 1048576) (u : World) : (Instr.makeSlice 23 (.int .i64 k) (.int .i64 k)).run Try.prog u =
      .ok (.slice (some ⟨u.heap.size, 0, none⟩) k k) (u.alloc (.cells (cellsOf k (fun _ => 0)) 2)) := by
  obtain ⟨i0, hi, hz0, hz1, hz2⟩ := info_parts info2
  have h := run_make (P := Try.prog) u 23 2 i0 (.int .i64 0) Try.underlying23 hi hz0 .i64 .i64 (k : Int) (k : Int) (by omega) (Int.le_refl _) (by rw [hz2]; omega) (by omega)
  have e : (k : Int).toNat = k := by omega
  rw [e] at h
  simpa [hz1, Value.cells, made_ints] using h
/-- the number of nodes that choices say -/
def nNode (len : Nat) (f : Nat → Int) : Nat := if 0 < len then 1 + ((f 0) % 7).toNat else 1

/-- an instance under way: its box, its supply, its arcs -/
structure Pi (w wr : World) (ib sb n m : Nat) (ra : Option Addr) (rc : Nat) (A : Nat → A5) : Prop where
  hr : wr.heap[w.heap.size]? = some (.cells #[.slice none 0 0, .slice none 0 0] 26 (0, 0))
  ib0 : w.heap.size < ib
  hi : wr.heap[ib]? = some (.cells #[.slice (some ⟨sb, 0, none⟩) n n, .slice ra m rc] 26 (0, 0))
  sb0 : w.heap.size < sb
  hs : RowI wr sb n
  ha : wr.ownsRow w.heap.size 31 5 (.slice ra m rc) m (arcCells A m)
  ow : Only NoB w wr
theorem Pi.kept {w wr wr' : World} {ib sb n m : Nat} {ra : Option Addr} {rc : Nat} {A : Nat → A5} (q : Pi w wr ib sb n m ra rc A) (o : Only NoB wr wr') : Pi w wr' ib sb n m ra rc A :=
  ⟨(o.block _ (lt_of_heap q.hr) (fun f => f)).trans q.hr, q.ib0, (o.block _ (lt_of_heap q.hi) (fun f => f)).trans q.hi, q.sb0, q.hs.kept o (fun f => f), own_only q.ha o (fun _ _ _ f => f), q.ow.trans o⟩

theorem own_away {w w' : World} {base : Nat} {e : TypeId} {size : Nat} {S : Nat → Prop} {v : Value} {n : Nat} {xs : List Value} (h : w.ownsRow base e size v n xs) (o : Only S w w') (hs : ∀ g cur, w.heap[g]? = some (.cells cur e (0, 0)) → ¬ S g) : w'.ownsRow base e size v n xs := by
  refine ⟨h.1, ?_⟩
  rcases h.2 with hn | ⟨g, cap, cur, rfl, hg, hh, rest⟩
  · exact .inl hn
  · exact .inr ⟨g, cap, cur, rfl, hg, by rw [o.block g (lt_of_heap hh) (hs g cur hh)]; exact hh, rest⟩
theorem only2 (w : World) (Q : Nat) (v0 v1 : Value) : Only (B1 Q) w ((w.setCell ⟨Q, 0, none⟩ v0).setCell ⟨Q, 1, none⟩ v1) :=
  ((Only.refl _ _).setCell (p := ⟨Q, 0, none⟩) (fun _ => by unfold B1; rfl) _).setCell (p := ⟨Q, 1, none⟩) (fun _ => by unfold B1; rfl) _
theorem pi_end {w W : World} {ib sb n m : Nat} {ra : Option Addr} {rc : Nat} {A : Nat → A5} (ow : Only NoB w W) (hr : W.heap[w.heap.size]? = some (.cells #[.slice none 0 0, .slice none 0 0] 26 (0, 0)))
    (hi : W.heap[ib]? = some (.cells #[.slice none 0 0, .slice none 0 0] 26 (0, 0))) (ib0 : w.heap.size < ib) (hs : RowI W sb n) (sb0 : w.heap.size < sb) (hv : W.ownsRow w.heap.size 31 5 (.slice ra m rc) m (arcCells A m)) :
    Pi w ((W.setCell ⟨ib, 0, none⟩ (.slice (some ⟨sb, 0, none⟩) n n)).setCell ⟨ib, 1, none⟩ (.slice ra m rc)) ib sb n m ra rc A := by
  have o := only2 W ib (.slice (some ⟨sb, 0, none⟩) n n) (.slice ra m rc)
  refine ⟨(o.block _ (lt_of_heap hr) (fun e => by unfold B1 at e; omega)).trans hr, ib0, ?_, sb0, hs.kept o (fun e => ?_), own_away hv o (fun g cur hg e => ?_), ow.then o (fun i hi e => by unfold B1 at e; omega)⟩
  · rw [heap_setCell_at _ _ _ _ _ _ _ (heap_setCell_at _ _ _ _ _ _ _ hi)]
    rfl
  · unfold B1 at e
    subst e
    obtain ⟨cur, h1, _, _⟩ := hs
    rw [hi] at h1
    cases h1
  · unfold B1 at e
    subst e
    rw [hi] at hg
    cases hg

theorem Pi.set {w wr : World} {ib sb n m : Nat} {ra : Option Addr} {rc : Nat} {A : Nat → A5} (q : Pi w wr ib sb n m ra rc A) (j : Nat) (y : Int) : Pi w (wr.setCell ⟨sb, j, none⟩ (.int .i64 y)) ib sb n m ra rc A := by
  have o := only1 wr sb j (.int .i64 y)
  refine ⟨(o.block _ (lt_of_heap q.hr) (fun e => by unfold B1 at e; have := q.sb0; omega)).trans q.hr, q.ib0, (o.block _ (lt_of_heap q.hi) (fun e => ?_)).trans q.hi, q.sb0, q.hs.set j y, own_away q.ha o (fun g cur hg e => ?_), q.ow.then o (fun i hi e => by unfold B1 at e; have := q.sb0; omega)⟩
  · unfold B1 at e
    subst e
    obtain ⟨cur, h1, _, _⟩ := q.hs
    rw [q.hi] at h1
    cases h1
  · unfold B1 at e
    subst e
    obtain ⟨cur', h1, _, _⟩ := q.hs
    rw [hg] at h1
    cases h1
/-- the result is laid into its cell -/
theorem Pi.put {w wr : World} {ib sb n m : Nat} {ra : Option Addr} {rc : Nat} {A : Nat → A5} (q : Pi w wr ib sb n m ra rc A) (v0 v1 : Value) :
    (w.heap.size ≤ sb ∧ RowI ((wr.setCell ⟨w.heap.size, 0, none⟩ v0).setCell ⟨w.heap.size, 1, none⟩ v1) sb n ∧ ((wr.setCell ⟨w.heap.size, 0, none⟩ v0).setCell ⟨w.heap.size, 1, none⟩ v1).ownsRow w.heap.size 31 5 (.slice ra m rc) m (arcCells A m)) ∧ Only NoB w ((wr.setCell ⟨w.heap.size, 0, none⟩ v0).setCell ⟨w.heap.size, 1, none⟩ v1) := by
  have o := only2 wr w.heap.size v0 v1
  have := q.sb0
  refine ⟨⟨by omega, q.hs.kept o (fun e => by unfold B1 at e; omega), own_away q.ha o (fun g cur hg e => ?_)⟩, q.ow.then o (fun i hi e => by unfold B1 at e; omega)⟩
  unfold B1 at e
  subst e
  rw [q.hr] at hg
  cases hg
theorem arcB_good (f : Nat → Int) (n : Nat) (hn : 0 < n) (hf : ∀ j, 0 ≤ f j ∧ f j ≤ 255) (q : Nat) : 0 ≤ (arcB f n q).f ∧ (arcB f n q).f < n ∧ 0 ≤ (arcB f n q).t ∧ (arcB f n q).t < n := by
  have h := hf (4 * q)
  have e1 : (f (4 * q)).tmod n = f (4 * q) % n := Int.tmod_eq_emod_of_nonneg h.1
  have e2 : (f (4 * q)).tdiv 16 = f (4 * q) / 16 := Int.tdiv_eq_ediv_of_nonneg h.1
  have e3 : (f (4 * q) / 16).tmod n = (f (4 * q) / 16) % n := Int.tmod_eq_emod_of_nonneg (by omega)
  have p : (0 : Int) < n := by omega
  refine ⟨?_, ?_, ?_, ?_⟩
  · show 0 ≤ (f (4 * q)).tmod n
    rw [e1]; exact Int.emod_nonneg _ (by omega)
  · show (f (4 * q)).tmod n < n
    rw [e1]; exact Int.emod_lt_of_pos _ p
  · show 0 ≤ ((f (4 * q)).tdiv 16).tmod n
    rw [e2, e3]; exact Int.emod_nonneg _ (by omega)
  · show ((f (4 * q)).tdiv 16).tmod n < n
    rw [e2, e3]; exact Int.emod_lt_of_pos _ p

set_option maxRecDepth 100000 in
set_option maxHeartbeats 4000000 in
theorem inst_any (a a2 : Option Addr) (len cap len2 cap2 : Nat) (f f2 : Nat → Int) (w : World) (h : BytesIn w a len f) (h2 : BytesIn w a2 len2 f2) :
    Calls Try.prog 5 #[.slice a len cap, .slice a2 len2 cap2] w fun e w' => (∃ sb ra rc, e = .returned (.agg #[.slice (some ⟨sb, 0, none⟩) (nNode len2 f2) (nNode len2 f2), .slice ra (nArc len) rc]) ∧ w.heap.size ≤ sb ∧ RowI w' sb (nNode len2 f2) ∧
      w'.ownsRow w.heap.size 31 5 (.slice ra (nArc len) rc) (nArc len) (arcCells (arcB f (nNode len2 f2)) (nArc len))) ∧ Only NoB w w' := by
  have HC := Lib.hid h
  have HD := Lib.hid h2
  have hlen : len2 ≤ maxLen := h2.1
  unfold maxLen at hlen
  clear h h2
  obtain ⟨n, hn⟩ : ∃ n, n = nNode len2 f2 := ⟨_, rfl⟩
  rw [← hn]
  have n1 : 0 < n ∧ n ≤ 7 := by rw [hn]; unfold nNode; split <;> omega
  obtain ⟨m, hm⟩ : ∃ m, m = nArc len := ⟨_, rfl⟩
  rw [← hm]
  have HM := Lib.hid hm
  have m1 : m ≤ 18 := by rw [hm]; exact Nat.min_le_right _ _
  clear hm
  have HA : Hid (∀ W, Only NoB w W → Calls Try.prog 16 #[.slice a len cap, .int .i64 n] W fun e w' => (∃ ra rc, e = .returned (.slice ra m rc) ∧ w'.ownsRow W.heap.size 31 5 (.slice ra m rc) m (arcCells (arcB f n) m)) ∧ Only NoB W w') := fun W o => by
    have q := arcs_any a len cap n f W (HC.out.kept o (fun _ _ f => f)) n1
    rw [← HM.out] at q
    refine q.mono ?_
    rintro e w' ⟨⟨v, rfl, h⟩, o⟩
    obtain ⟨ra, rc, rfl, _⟩ := arcs_of_row h
    exact ⟨⟨ra, rc, rfl, h⟩, o⟩
  have HN := Lib.hid hn
  clear hn
  have MK := make_sup n (by omega)
  go_enter Try.func5, Try.ntmps5
  go_upto_if 13 with fail
  have hr0 := heap_alloc_new w (.cells #[.slice none 0 0, .slice none 0 0] 26)
  have oo : Only NoB w (w.alloc (.cells #[.slice none 0 0, .slice none 0 0] 26)) := (Only.refl _ _).alloc _
  have z0 : (w.alloc (.cells #[.slice none 0 0, .slice none 0 0] 26)).heap.size = w.heap.size + 1 := by simp
  generalize World.alloc w _ = w1 at *
  go_cut [5] from 11 (fun s wr => s = .int .i64 n ∧ wr = w1)
  case first =>
    by_cases c : 0 < len2
    · obtain ⟨b, o, rfl, hc⟩ := (HD.out.kept oo (fun _ _ f => f)).2.2 c
      have c0 := hc 0 c
      rw [Nat.add_zero] at c0
      have r0 := HD.out.2.1 0
      have hn := HN.out
      unfold nNode at hn
      rw [if_pos c] at hn
      clear hc
      generalize f2 0 = x at *
      have e2 : x.tmod 7 = x % 7 := Int.tmod_eq_emod_of_nonneg r0.1
      have w1' : IntKind.i64.wrap (x.tmod 7) = x.tmod 7 := IntWalk.i64_in _ (by omega)
      have w2' : IntKind.i64.wrap (1 + x.tmod 7) = (n : Int) := by rw [IntWalk.i64_in _ (by omega)]; omega
      have ci : (0 : Int) < (len2 : Int) := by omega
      have EN := Lib.hid (show (n : Int) = 1 + x % 7 by omega)
      clear e2 hn
      go_wp2_with fail
      go_meet
      case rel => exact ⟨by rw [EN.out], rfl⟩
    · have hn := HN.out
      unfold nNode at hn
      rw [if_neg c] at hn
      have ci : decide ((0 : Int) < (len2 : Int)) = false := decide_eq_false (by omega)
      clear hlen
      have ci2 : ¬ (0 : Int) < (len2 : Int) := by omega
      go_wp2_with fail
      go_meet
      case rel => exact ⟨by rw [hn]; rfl, rfl⟩
  case rest =>
    obtain ⟨rfl, rfl⟩ := hcut
    go_upto_region 4 with fail
    go_cut [6] from 11 (fun s wr => ∃ ib sb ra rc, s = .pointer (some ⟨ib, 0, none⟩) ∧ Pi w wr ib sb n m ra rc (arcB f n))
    case first =>
      refine wp_region_tree (fun _ => True) (.take 0 (.take 2 (.take 3 (.three 1 (.two 4 (.take 5 (.one 6 (.one 7 .done))) 6 (.one 4 (.take 5 (.one 7 .done)))) 4 (.two 1 (.take 5 (.one 6 (.one 7 .done))) 6 (.one 1 (.take 5 (.one 7 .done)))) 6 (.two 1 (.one 4 (.take 5 (.one 7 .done))) 4 (.one 1 (.take 5 (.one 7 .done)))))))) (by kernel_rfl) (by kernel_rfl) trivial ?_
      have o1 : Only NoB wc wc.drew := (Only.refl _ _).drew
      have z0' : w.heap.size < wc.drew.heap.size := by show w.heap.size < wc.heap.size; omega
      clear z0
      generalize wc.drew = V at *
      repeat (refine' tree_take (by simp only [List.getElem?_cons_succ, List.getElem?_cons_zero]; rfl) (by rfl) ?_ ?_ ?_; rotate_left 2; (intro w' hS; go_simp; try rfl); (simp only [Act.put, List.setIfInBounds_toArray, List.set_cons_zero, List.set_cons_succ]; try rfl))
      refine tree_three ?_ ?_ ?_
      · skip
        (refine tree_op (by simp only [List.getElem?_cons_succ, List.getElem?_cons_zero]; rfl) (by rfl) (fun K hK => ?_); go_simp)
        have hs := RowI.new V n
        have ok : Only NoB V (V.alloc (.cells (cellsOf n (fun _ => 0)) 2)) := (Only.refl _ _).alloc _
        have o1 := o1.trans ok
        have z0 := ok.size
        (refine hK _ _ trivial ?_; clear hK K)
        clear ok
        generalize World.alloc V _ = V0 at *
        refine tree_two ?_ ?_
        · skip
          (refine tree_op (by simp only [List.getElem?_cons_succ, List.getElem?_cons_zero]; rfl) (by rfl) (fun K hK => ?_); go_simp)
          refine (HA.out _ (oo.trans o1)).mono ?_
          rintro e V1 ⟨⟨ra, rc, rfl, hv⟩, ok⟩
          have hv := own_mono hv (show w.heap.size ≤ V0.heap.size by omega)
          have hs := hs.kept ok (fun f => f)
          have o1 := o1.trans ok
          have z1 := ok.size
          (refine hK _ _ trivial ?_; clear hK K)
          clear ok
          repeat (refine' tree_take (by simp only [List.getElem?_cons_succ, List.getElem?_cons_zero]; rfl) (by rfl) ?_ ?_ ?_; rotate_left 2; (intro w' hS; go_simp; try rfl); (simp only [Act.put, List.setIfInBounds_toArray, List.set_cons_zero, List.set_cons_succ]; try rfl))
          (refine tree_do (by simp only [List.getElem?_cons_succ, List.getElem?_cons_zero]; rfl) (by rfl) (fun K hK => ?_); go_simp)
          have hi := heap_alloc_new V1 (.cells #[.slice none 0 0, .slice none 0 0] 26)
          have ok : Only NoB V1 (V1.alloc (.cells #[.slice none 0 0, .slice none 0 0] 26)) := (Only.refl _ _).alloc _
          have hs := hs.kept ok (fun f => f)
          have hv := own_only hv ok (fun _ _ _ f => f)
          have o1 := o1.trans ok
          have z2 := ok.size
          (refine hK _ _ trivial ?_; clear hK K)
          clear ok
          generalize World.alloc V1 _ = V2 at *
          have PE := pi_end (m := m) (A := arcB f n) (oo.trans o1) ((o1.block _ (lt_of_heap hr0) (fun f => f)).trans hr0) hi (by omega) hs (by omega) hv
          have e0 := (cell_in _ _ 0 _ _ _ hi).trans rfl
          have e1 := (cell_in _ _ 1 _ _ _ hi).trans rfl
          have f0 := frozen_in _ _ 0 _ _ hi
          have f1 := frozen_in _ _ 1 _ _ hi
          have lh := lt_of_heap hi
          (refine tree_do (by simp only [List.getElem?_cons_succ, List.getElem?_cons_zero]; rfl) (by rfl) (fun K hK => ?_); go_simp)
          (refine hK _ _ trivial ?_; clear hK K)
          refine tree_end ?_
          go_wp2_with fail
          go_meet
          case rel => exact ⟨_, _, _, _, rfl, PE⟩
        · skip
          (refine tree_op (by simp only [List.getElem?_cons_succ, List.getElem?_cons_zero]; rfl) (by rfl) (fun K hK => ?_); go_simp)
          have hi := heap_alloc_new V0 (.cells #[.slice none 0 0, .slice none 0 0] 26)
          have ok : Only NoB V0 (V0.alloc (.cells #[.slice none 0 0, .slice none 0 0] 26)) := (Only.refl _ _).alloc _
          have hs := hs.kept ok (fun f => f)
          have o1 := o1.trans ok
          have z1 := ok.size
          (refine hK _ _ trivial ?_; clear hK K)
          clear ok
          generalize World.alloc V0 _ = V1 at *
          (refine tree_do (by simp only [List.getElem?_cons_succ, List.getElem?_cons_zero]; rfl) (by rfl) (fun K hK => ?_); go_simp)
          refine (HA.out _ (oo.trans o1)).mono ?_
          rintro e V2 ⟨⟨ra, rc, rfl, hv⟩, ok⟩
          have hv := own_mono hv (show w.heap.size ≤ V1.heap.size by omega)
          have hs := hs.kept ok (fun f => f)
          have hi := (ok.block _ (lt_of_heap hi) (fun f => f)).trans hi
          have o1 := o1.trans ok
          have z2 := ok.size
          (refine hK _ _ trivial ?_; clear hK K)
          clear ok
          repeat (refine' tree_take (by simp only [List.getElem?_cons_succ, List.getElem?_cons_zero]; rfl) (by rfl) ?_ ?_ ?_; rotate_left 2; (intro w' hS; go_simp; try rfl); (simp only [Act.put, List.setIfInBounds_toArray, List.set_cons_zero, List.set_cons_succ]; try rfl))
          have PE := pi_end (m := m) (A := arcB f n) (oo.trans o1) ((o1.block _ (lt_of_heap hr0) (fun f => f)).trans hr0) hi (by omega) hs (by omega) hv
          have e0 := (cell_in _ _ 0 _ _ _ hi).trans rfl
          have e1 := (cell_in _ _ 1 _ _ _ hi).trans rfl
          have f0 := frozen_in _ _ 0 _ _ hi
          have f1 := frozen_in _ _ 1 _ _ hi
          have lh := lt_of_heap hi
          (refine tree_do (by simp only [List.getElem?_cons_succ, List.getElem?_cons_zero]; rfl) (by rfl) (fun K hK => ?_); go_simp)
          (refine hK _ _ trivial ?_; clear hK K)
          refine tree_end ?_
          go_wp2_with fail
          go_meet
          case rel => exact ⟨_, _, _, _, rfl, PE⟩
      · skip
        (refine tree_op (by simp only [List.getElem?_cons_succ, List.getElem?_cons_zero]; rfl) (by rfl) (fun K hK => ?_); go_simp)
        refine (HA.out _ (oo.trans o1)).mono ?_
        rintro e V0 ⟨⟨ra, rc, rfl, hv⟩, ok⟩
        have hv := own_mono hv (show w.heap.size ≤ V.heap.size by omega)
        have o1 := o1.trans ok
        have z0 := ok.size
        (refine hK _ _ trivial ?_; clear hK K)
        clear ok
        refine tree_two ?_ ?_
        · skip
          (refine tree_op (by simp only [List.getElem?_cons_succ, List.getElem?_cons_zero]; rfl) (by rfl) (fun K hK => ?_); go_simp)
          have hs := RowI.new V0 n
          have ok : Only NoB V0 (V0.alloc (.cells (cellsOf n (fun _ => 0)) 2)) := (Only.refl _ _).alloc _
          have hv := own_only hv ok (fun _ _ _ f => f)
          have o1 := o1.trans ok
          have z1 := ok.size
          (refine hK _ _ trivial ?_; clear hK K)
          clear ok
          generalize World.alloc V0 _ = V1 at *
          repeat (refine' tree_take (by simp only [List.getElem?_cons_succ, List.getElem?_cons_zero]; rfl) (by rfl) ?_ ?_ ?_; rotate_left 2; (intro w' hS; go_simp; try rfl); (simp only [Act.put, List.setIfInBounds_toArray, List.set_cons_zero, List.set_cons_succ]; try rfl))
          (refine tree_do (by simp only [List.getElem?_cons_succ, List.getElem?_cons_zero]; rfl) (by rfl) (fun K hK => ?_); go_simp)
          have hi := heap_alloc_new V1 (.cells #[.slice none 0 0, .slice none 0 0] 26)
          have ok : Only NoB V1 (V1.alloc (.cells #[.slice none 0 0, .slice none 0 0] 26)) := (Only.refl _ _).alloc _
          have hv := own_only hv ok (fun _ _ _ f => f)
          have hs := hs.kept ok (fun f => f)
          have o1 := o1.trans ok
          have z2 := ok.size
          (refine hK _ _ trivial ?_; clear hK K)
          clear ok
          generalize World.alloc V1 _ = V2 at *
          have PE := pi_end (m := m) (A := arcB f n) (oo.trans o1) ((o1.block _ (lt_of_heap hr0) (fun f => f)).trans hr0) hi (by omega) hs (by omega) hv
          have e0 := (cell_in _ _ 0 _ _ _ hi).trans rfl
          have e1 := (cell_in _ _ 1 _ _ _ hi).trans rfl
          have f0 := frozen_in _ _ 0 _ _ hi
          have f1 := frozen_in _ _ 1 _ _ hi
          have lh := lt_of_heap hi
          (refine tree_do (by simp only [List.getElem?_cons_succ, List.getElem?_cons_zero]; rfl) (by rfl) (fun K hK => ?_); go_simp)
          (refine hK _ _ trivial ?_; clear hK K)
          refine tree_end ?_
          go_wp2_with fail
          go_meet
          case rel => exact ⟨_, _, _, _, rfl, PE⟩
        · skip
          (refine tree_op (by simp only [List.getElem?_cons_succ, List.getElem?_cons_zero]; rfl) (by rfl) (fun K hK => ?_); go_simp)
          have hi := heap_alloc_new V0 (.cells #[.slice none 0 0, .slice none 0 0] 26)
          have ok : Only NoB V0 (V0.alloc (.cells #[.slice none 0 0, .slice none 0 0] 26)) := (Only.refl _ _).alloc _
          have hv := own_only hv ok (fun _ _ _ f => f)
          have o1 := o1.trans ok
          have z1 := ok.size
          (refine hK _ _ trivial ?_; clear hK K)
          clear ok
          generalize World.alloc V0 _ = V1 at *
          (refine tree_do (by simp only [List.getElem?_cons_succ, List.getElem?_cons_zero]; rfl) (by rfl) (fun K hK => ?_); go_simp)
          have hs := RowI.new V1 n
          have ok : Only NoB V1 (V1.alloc (.cells (cellsOf n (fun _ => 0)) 2)) := (Only.refl _ _).alloc _
          have hv := own_only hv ok (fun _ _ _ f => f)
          have hi := (ok.block _ (lt_of_heap hi) (fun f => f)).trans hi
          have o1 := o1.trans ok
          have z2 := ok.size
          (refine hK _ _ trivial ?_; clear hK K)
          clear ok
          generalize World.alloc V1 _ = V2 at *
          repeat (refine' tree_take (by simp only [List.getElem?_cons_succ, List.getElem?_cons_zero]; rfl) (by rfl) ?_ ?_ ?_; rotate_left 2; (intro w' hS; go_simp; try rfl); (simp only [Act.put, List.setIfInBounds_toArray, List.set_cons_zero, List.set_cons_succ]; try rfl))
          have PE := pi_end (m := m) (A := arcB f n) (oo.trans o1) ((o1.block _ (lt_of_heap hr0) (fun f => f)).trans hr0) hi (by omega) hs (by omega) hv
          have e0 := (cell_in _ _ 0 _ _ _ hi).trans rfl
          have e1 := (cell_in _ _ 1 _ _ _ hi).trans rfl
          have f0 := frozen_in _ _ 0 _ _ hi
          have f1 := frozen_in _ _ 1 _ _ hi
          have lh := lt_of_heap hi
          (refine tree_do (by simp only [List.getElem?_cons_succ, List.getElem?_cons_zero]; rfl) (by rfl) (fun K hK => ?_); go_simp)
          (refine hK _ _ trivial ?_; clear hK K)
          refine tree_end ?_
          go_wp2_with fail
          go_meet
          case rel => exact ⟨_, _, _, _, rfl, PE⟩
      · skip
        (refine tree_op (by simp only [List.getElem?_cons_succ, List.getElem?_cons_zero]; rfl) (by rfl) (fun K hK => ?_); go_simp)
        have hi := heap_alloc_new V (.cells #[.slice none 0 0, .slice none 0 0] 26)
        have ok : Only NoB V (V.alloc (.cells #[.slice none 0 0, .slice none 0 0] 26)) := (Only.refl _ _).alloc _
        have o1 := o1.trans ok
        have z0 := ok.size
        (refine hK _ _ trivial ?_; clear hK K)
        clear ok
        generalize World.alloc V _ = V0 at *
        refine tree_two ?_ ?_
        · skip
          (refine tree_op (by simp only [List.getElem?_cons_succ, List.getElem?_cons_zero]; rfl) (by rfl) (fun K hK => ?_); go_simp)
          have hs := RowI.new V0 n
          have ok : Only NoB V0 (V0.alloc (.cells (cellsOf n (fun _ => 0)) 2)) := (Only.refl _ _).alloc _
          have hi := (ok.block _ (lt_of_heap hi) (fun f => f)).trans hi
          have o1 := o1.trans ok
          have z1 := ok.size
          (refine hK _ _ trivial ?_; clear hK K)
          clear ok
          generalize World.alloc V0 _ = V1 at *
          (refine tree_do (by simp only [List.getElem?_cons_succ, List.getElem?_cons_zero]; rfl) (by rfl) (fun K hK => ?_); go_simp)
          refine (HA.out _ (oo.trans o1)).mono ?_
          rintro e V2 ⟨⟨ra, rc, rfl, hv⟩, ok⟩
          have hv := own_mono hv (show w.heap.size ≤ V1.heap.size by omega)
          have hi := (ok.block _ (lt_of_heap hi) (fun f => f)).trans hi
          have hs := hs.kept ok (fun f => f)
          have o1 := o1.trans ok
          have z2 := ok.size
          (refine hK _ _ trivial ?_; clear hK K)
          clear ok
          repeat (refine' tree_take (by simp only [List.getElem?_cons_succ, List.getElem?_cons_zero]; rfl) (by rfl) ?_ ?_ ?_; rotate_left 2; (intro w' hS; go_simp; try rfl); (simp only [Act.put, List.setIfInBounds_toArray, List.set_cons_zero, List.set_cons_succ]; try rfl))
          have PE := pi_end (m := m) (A := arcB f n) (oo.trans o1) ((o1.block _ (lt_of_heap hr0) (fun f => f)).trans hr0) hi (by omega) hs (by omega) hv
          have e0 := (cell_in _ _ 0 _ _ _ hi).trans rfl
          have e1 := (cell_in _ _ 1 _ _ _ hi).trans rfl
          have f0 := frozen_in _ _ 0 _ _ hi
          have f1 := frozen_in _ _ 1 _ _ hi
          have lh := lt_of_heap hi
          (refine tree_do (by simp only [List.getElem?_cons_succ, List.getElem?_cons_zero]; rfl) (by rfl) (fun K hK => ?_); go_simp)
          (refine hK _ _ trivial ?_; clear hK K)
          refine tree_end ?_
          go_wp2_with fail
          go_meet
          case rel => exact ⟨_, _, _, _, rfl, PE⟩
        · skip
          (refine tree_op (by simp only [List.getElem?_cons_succ, List.getElem?_cons_zero]; rfl) (by rfl) (fun K hK => ?_); go_simp)
          refine (HA.out _ (oo.trans o1)).mono ?_
          rintro e V1 ⟨⟨ra, rc, rfl, hv⟩, ok⟩
          have hv := own_mono hv (show w.heap.size ≤ V0.heap.size by omega)
          have hi := (ok.block _ (lt_of_heap hi) (fun f => f)).trans hi
          have o1 := o1.trans ok
          have z1 := ok.size
          (refine hK _ _ trivial ?_; clear hK K)
          clear ok
          (refine tree_do (by simp only [List.getElem?_cons_succ, List.getElem?_cons_zero]; rfl) (by rfl) (fun K hK => ?_); go_simp)
          have hs := RowI.new V1 n
          have ok : Only NoB V1 (V1.alloc (.cells (cellsOf n (fun _ => 0)) 2)) := (Only.refl _ _).alloc _
          have hi := (ok.block _ (lt_of_heap hi) (fun f => f)).trans hi
          have hv := own_only hv ok (fun _ _ _ f => f)
          have o1 := o1.trans ok
          have z2 := ok.size
          (refine hK _ _ trivial ?_; clear hK K)
          clear ok
          generalize World.alloc V1 _ = V2 at *
          repeat (refine' tree_take (by simp only [List.getElem?_cons_succ, List.getElem?_cons_zero]; rfl) (by rfl) ?_ ?_ ?_; rotate_left 2; (intro w' hS; go_simp; try rfl); (simp only [Act.put, List.setIfInBounds_toArray, List.set_cons_zero, List.set_cons_succ]; try rfl))
          have PE := pi_end (m := m) (A := arcB f n) (oo.trans o1) ((o1.block _ (lt_of_heap hr0) (fun f => f)).trans hr0) hi (by omega) hs (by omega) hv
          have e0 := (cell_in _ _ 0 _ _ _ hi).trans rfl
          have e1 := (cell_in _ _ 1 _ _ _ hi).trans rfl
          have f0 := frozen_in _ _ 0 _ _ hi
          have f1 := frozen_in _ _ 1 _ _ hi
          have lh := lt_of_heap hi
          (refine tree_do (by simp only [List.getElem?_cons_succ, List.getElem?_cons_zero]; rfl) (by rfl) (fun K hK => ?_); go_simp)
          (refine hK _ _ trivial ?_; clear hK K)
          refine tree_end ?_
          go_wp2_with fail
          go_meet
          case rel => exact ⟨_, _, _, _, rfl, PE⟩
    case rest =>
      obtain ⟨ib, sb, ra, rc, rfl, hP⟩ := hcut
      have GOOD := Lib.hid (arcB_good f n n1.1 HC.out.2.1)
      go_upto_region 5 with fail
      clear hr0 oo z0
      go_wp2_with fail
      go_loopw [7] (fun s wr => ∃ k : Nat, k ≤ m ∧ s = .int .i64 k ∧ Pi w wr ib sb n m ra rc (arcB f n)) (fun s _ => m - (intOf s).toNat)
      case atStart => exact ⟨0, Nat.zero_le _, rfl, hP⟩
      case round =>
        clear hP
        obtain ⟨k, hk, rfl, hP⟩ := hrel
        have ci1 := (cell_in _ _ 1 _ _ _ hP.hi).trans rfl
        by_cases lt : k < m
        · have lti : (k : Int) < m := by omega
          obtain ⟨_, _, e, hA⟩ := arcs_of_row hP.ha
          cases e
          obtain ⟨b, o, rfl, _, hc⟩ := hA (by omega)
          obtain ⟨x0, x1, x2, x3, x4⟩ := hc k lt
          obtain ⟨g1, g2, g3, g4⟩ := GOOD.out k
          clear hc hA
          have lb := World.block_lt_of_cell? _ _ x0
          obtain ⟨kf, hkf⟩ : ∃ kf : Nat, (arcB f n k).f = kf := ⟨(arcB f n k).f.toNat, by omega⟩
          obtain ⟨kt, hkt⟩ : ∃ kt : Nat, (arcB f n k).t = kt := ⟨(arcB f n k).t.toNat, by omega⟩
          rw [hkf] at x0 g1 g2
          rw [hkt] at x1 g3 g4
          clear hkf hkt
          generalize (arcB f n k).l = xl at *
          generalize (arcB f n k).c = xc at *
          generalize (arcB f n k).k = xk at *
          have k0 : (0 : Int) ≤ k := by omega
          go_upto_region 9 with fail
          have hq := heap_alloc_new wr (.cells #[.int .i64 kf, .int .i64 kt, .int .i64 xl, .int .i64 xc, .int .i64 xk] 31)
          have oa : Only NoB wr (wr.alloc (.cells #[.int .i64 kf, .int .i64 kt, .int .i64 xl, .int .i64 xc, .int .i64 xk] 31)) := (Only.refl _ _).alloc _
          have lsb := hP.hs.lt
          have hP := hP.kept oa
          have oq := hP.ow
          clear x0 x1 x2 x3 x4 ci1 lb oa
          generalize World.alloc wr _ = wA at *
          generalize wr.heap.size = Q at *
          have nn : Q ≠ sb := by omega
          have q2 := (cell_in _ _ 2 _ _ _ hq).trans rfl
          have wk : IntKind.i64.wrap ((k : Int) + 1) = (k : Int) + 1 := IntWalk.i64_in _ (by omega)
          by_cases c : k + 1 < len2
          · have c' : (k : Int) + 1 < len2 := by omega
            obtain ⟨b2, o2, rfl, hd⟩ := (HD.out.kept oq (fun _ _ f => f)).2.2 (by omega)
            have d0 := hd (k + 1) c
            have r0 := HD.out.2.1 (k + 1)
            have tn : ((k : Int) + 1).toNat = k + 1 := by omega
            have k1 : (0 : Int) ≤ (k : Int) + 1 := by omega
            clear hd
            generalize f2 (k + 1) = y at *
            have lb2 := World.block_lt_of_cell? _ _ d0
            have q3 := (cell_in _ _ 3 _ _ _ hq).trans rfl
            have lq := lt_of_heap hq
            go_upto_region 11 with fail
            go_quiet (fail)
            go_upto_region 12 with fail
            have hP := hP.kept (Only.drewN (Only.refl _ _) nq)
            have hq : (wA.drewN nq).heap[Q]? = _ := hq
            clear q2 q3 d0 lb2 lq
            generalize min (wrap64 (xl + y % 4)) xc = z at *
            generalize wA.drewN nq = wB at *
            clear oq
            have ci0 := (cell_in _ _ 0 _ _ _ hP.hi).trans rfl
            have qf := (cell_in _ _ 0 _ _ _ hq).trans rfl
            obtain ⟨s0, hs0⟩ := hP.hs.at kf (by omega)
            have fz := hP.hs.fz kf
            have ls := hP.hs.lt
            go_upto_region 13 with fail
            have hP := hP.set kf (wrap64 (s0 + z))
            have hq := (Below.heap_setCell wB ⟨sb, kf, none⟩ (.int .i64 (wrap64 (s0 + z))) Q nn).trans hq
            clear ci0 qf hs0 fz ls
            generalize World.setCell wB _ _ = wC at *
            have ci0 := (cell_in _ _ 0 _ _ _ hP.hi).trans rfl
            have qf := (cell_in _ _ 1 _ _ _ hq).trans rfl
            obtain ⟨s1, hs0⟩ := hP.hs.at kt (by omega)
            have fz := hP.hs.fz kt
            have ls := hP.hs.lt
            go_upto_region 7 with fail
            have hP := hP.set kt (wrap64 (s1 - z))
            clear ci0 qf hs0 fz ls hq
            generalize World.setCell wC _ _ = wD at *
            go_wp2_with fail
            go_roundw
            case rel => exact ⟨k + 1, by omega, by go_num, hP⟩
            case measure => simp [intOf]; omega
          · have c' : decide ((k : Int) + 1 < len2) = false := decide_eq_false (by omega)
            have c2 : ¬ (k : Int) + 1 < len2 := by omega
            go_upto_region 12 with fail
            clear q2
            have ci0 := (cell_in _ _ 0 _ _ _ hP.hi).trans rfl
            have qf := (cell_in _ _ 0 _ _ _ hq).trans rfl
            obtain ⟨s0, hs0⟩ := hP.hs.at kf (by omega)
            have fz := hP.hs.fz kf
            have ls := hP.hs.lt
            go_upto_region 13 with fail
            have hP := hP.set kf (wrap64 (s0 + xl))
            have hq := (Below.heap_setCell wA ⟨sb, kf, none⟩ (.int .i64 (wrap64 (s0 + xl))) Q nn).trans hq
            clear ci0 qf hs0 fz ls
            generalize World.setCell wA _ _ = wC at *
            have ci0 := (cell_in _ _ 0 _ _ _ hP.hi).trans rfl
            have qf := (cell_in _ _ 1 _ _ _ hq).trans rfl
            obtain ⟨s1, hs0⟩ := hP.hs.at kt (by omega)
            have fz := hP.hs.fz kt
            have ls := hP.hs.lt
            go_upto_region 7 with fail
            have hP := hP.set kt (wrap64 (s1 - xl))
            clear ci0 qf hs0 fz ls hq
            generalize World.setCell wC _ _ = wD at *
            go_wp2_with fail
            go_roundw
            case rel => exact ⟨k + 1, by omega, by go_num, hP⟩
            case measure => simp [intOf]; omega
        · obtain rfl : m = k := by omega
          go_upto_region 14 with fail
          clear ci1
          by_cases c : 1 < len2
          · have c1 : (1 : Int) < len2 := by omega
            have c2 : (0 : Int) ≤ (len2 : Int) - 1 := by omega
            have c3 : (len2 : Int) - 1 < len2 := by omega
            have c4 : ((len2 : Int) - 1).toNat = len2 - 1 := by omega
            have c5 : IntKind.i64.wrap ((len2 : Int) - 1) = (len2 : Int) - 1 := IntWalk.i64_in _ (by omega)
            obtain ⟨b2, o2, rfl, hd⟩ := (HD.out.kept hP.ow (fun _ _ f => f)).2.2 (by omega)
            have d0 := hd (len2 - 1) (by omega)
            have d1 := hd 1 (by omega)
            have r0 := HD.out.2.1 (len2 - 1)
            have r1 := HD.out.2.1 1
            clear hd
            generalize f2 (len2 - 1) = y at *
            generalize f2 1 = y1 at *
            have lb2 := World.block_lt_of_cell? _ _ d0
            have e1 : y.tmod 5 = y % 5 := Int.tmod_eq_emod_of_nonneg r0.1
            by_cases cy : y % 5 = 0
            · have t1 : (y % 5 == 0) = true := by rw [cy]; rfl
              go_upto_region 16 with fail
              clear d0 d1 lb2 e1 t1
              have ci0 := (cell_in _ _ 0 _ _ _ hP.hi).trans rfl
              obtain ⟨s0, hs0⟩ := hP.hs.at 0 (by omega)
              have fz := hP.hs.fz 0
              have ls := hP.hs.lt
              have n0 : (0 : Int) < n := by omega
              go_upto_region 17 with fail
              have hP := hP.set 0 (wrap64 (s0 + y1 % 3))
              clear ci0 hs0 fz ls
              generalize World.setCell wr _ _ = wC at *
              have ci0 := (cell_in _ _ 0 _ _ _ hP.hi).trans rfl
              obtain ⟨s1, hs0⟩ := hP.hs.at (n - 1) (by omega)
              have fz := hP.hs.fz (n - 1)
              have ls := hP.hs.lt
              have n2 : (0 : Int) ≤ (n : Int) - 1 := by omega
              have n3 : (n : Int) - 1 < n := by omega
              have n4 : ((n : Int) - 1).toNat = n - 1 := by omega
              have n5 : IntKind.i64.wrap ((n : Int) - 1) = (n : Int) - 1 := IntWalk.i64_in _ (by omega)
              go_upto_region 18 with fail
              have hP := hP.set (n - 1) (wrap64 (s1 - y1 % 3))
              clear ci0 hs0 fz ls n2 n3 n4 n5
              generalize World.setCell wC _ _ = wD at *
              have e0 := (cell_in _ _ 0 _ _ _ hP.hr).trans rfl
              have e1 := (cell_in _ _ 1 _ _ _ hP.hr).trans rfl
              have f0 := frozen_in _ _ 0 _ _ hP.hr
              have f1 := frozen_in _ _ 1 _ _ hP.hr
              have lr := lt_of_heap hP.hr
              have i0 := (cell_in _ _ 0 _ _ _ hP.hi).trans rfl
              have i1 := (cell_in _ _ 1 _ _ _ hP.hi).trans rfl
              go_wp2_with fail
              obtain ⟨⟨p1, p2, p3⟩, p4⟩ := hP.put (.slice (some ⟨sb, 0, none⟩) n n) (.slice ra m rc)
              exact bodyPost_ret (v := .agg #[.slice (some ⟨sb, 0, none⟩) n n, .slice ra m rc]) (by simp [results, Try.results5, go_sem, e0, e1, f0, f1, lr]) rfl ⟨⟨sb, ra, rc, rfl, p1, p2, p3⟩, p4⟩
            · have t1 : (y % 5 == 0) = false := by simpa using cy
              go_upto_region 18 with fail
              clear d0 d1 lb2 e1 t1
              have e0 := (cell_in _ _ 0 _ _ _ hP.hr).trans rfl
              have e1 := (cell_in _ _ 1 _ _ _ hP.hr).trans rfl
              have f0 := frozen_in _ _ 0 _ _ hP.hr
              have f1 := frozen_in _ _ 1 _ _ hP.hr
              have lr := lt_of_heap hP.hr
              have i0 := (cell_in _ _ 0 _ _ _ hP.hi).trans rfl
              have i1 := (cell_in _ _ 1 _ _ _ hP.hi).trans rfl
              go_wp2_with fail
              obtain ⟨⟨p1, p2, p3⟩, p4⟩ := hP.put (.slice (some ⟨sb, 0, none⟩) n n) (.slice ra m rc)
              exact bodyPost_ret (v := .agg #[.slice (some ⟨sb, 0, none⟩) n n, .slice ra m rc]) (by simp [results, Try.results5, go_sem, e0, e1, f0, f1, lr]) rfl ⟨⟨sb, ra, rc, rfl, p1, p2, p3⟩, p4⟩
          · have c1 : decide ((1 : Int) < (len2 : Int)) = false := decide_eq_false (by omega)
            have c2 : ¬ (1 : Int) < (len2 : Int) := by omega
            go_upto_region 18 with fail
            have e0 := (cell_in _ _ 0 _ _ _ hP.hr).trans rfl
            have e1 := (cell_in _ _ 1 _ _ _ hP.hr).trans rfl
            have f0 := frozen_in _ _ 0 _ _ hP.hr
            have f1 := frozen_in _ _ 1 _ _ hP.hr
            have lr := lt_of_heap hP.hr
            have i0 := (cell_in _ _ 0 _ _ _ hP.hi).trans rfl
            have i1 := (cell_in _ _ 1 _ _ _ hP.hi).trans rfl
            go_wp2_with fail
            obtain ⟨⟨p1, p2, p3⟩, p4⟩ := hP.put (.slice (some ⟨sb, 0, none⟩) n n) (.slice ra m rc)
            exact bodyPost_ret (v := .agg #[.slice (some ⟨sb, 0, none⟩) n n, .slice ra m rc]) (by simp [results, Try.results5, go_sem, e0, e1, f0, f1, lr]) rfl ⟨⟨sb, ra, rc, rfl, p1, p2, p3⟩, p4⟩
end Go.Proofs.Ytgaekihcfcoaeaa
