/-
  THE WALK of adj.New.
-/
import Derived.Test.YtgaekihcfcoaeaaPut
import Derived.Deep.CutRange
set_option linter.unusedVariables false
set_option linter.unusedSimpArgs false
namespace Go.Proofs.Ytgaekihcfcoaeaa
open Go.RowKit

theorem ArcsAt.lt {p : Nat → Prop} {w : World} {a : Option Addr} {m : Nat} {A : Nat → A5} (h : ArcsAt p w a m A) : ArcsAt (fun k => p k ∧ k < w.heap.size) w a m A := fun h0 => by
  obtain ⟨b, o, e, hp, hc⟩ := h h0
  exact ⟨b, o, e, ⟨hp, World.block_lt_of_cell? _ _ (hc 0 h0).1⟩, hc⟩
/-- where arcs may lie: below Z, but for two blocks -/
def Bel (h gb Z : Nat) : Nat → Prop := fun k => k ≠ h ∧ k ≠ gb ∧ k < Z
/-- the first k sums are made -/
def midS (A : Nat → A5) (E k : Nat) : Nat → Nat := fun j => if j ≤ k then pref A E j else cntK A E (j - 1)
theorem midS_step (A : Nat → A5) (E k i : Nat) : upd (midS A E k) (k + 1) (cntK A E k + pref A E k) i = midS A E (k + 1) i := by
  unfold upd midS
  by_cases c : i = k + 1
  · rw [if_pos c, if_pos (by omega), c]
    simp only [pref]
    omega
  · rw [if_neg c]
    by_cases z : i ≤ k
    · rw [if_pos z, if_pos (by omega)]
    · rw [if_neg z, if_neg (by omega)]
theorem keys_lt (A : Nat → A5) (m n : Nat) (h : ∀ j, j < m → 0 ≤ (A j).f ∧ (A j).f < n ∧ 0 ≤ (A j).t ∧ (A j).t < n) : ∀ e, e < 2 * m → key A e < 2 * n := fun e he => by
  obtain ⟨h1, h2, h3, h4⟩ := h (e / 2) (by omega)
  unfold key
  split <;> omega
/-- how many of the first E are of the piece before -/
def cntS (A : Nat → A5) (E : Nat) : Nat → Nat := fun j => if j = 0 then 0 else cntK A E (j - 1)
theorem cntS_zero (A : Nat → A5) : cntS A 0 = fun _ => 0 := by
  funext j
  unfold cntS
  split <;> rfl
theorem cntS_step (A : Nat → A5) (e i : Nat) : upd (cntS A e) (key A e + 1) (cntK A e (key A e) + 1) i = cntS A (e + 1) i := by
  unfold upd cntS
  by_cases c : i = key A e + 1
  · rw [if_pos c, if_neg (by omega), c]
    simp [cntK]
  · rw [if_neg c]
    by_cases z : i = 0
    · rw [if_pos z, if_pos z]
    · rw [if_neg z, if_neg z]
      simp only [cntK]
      rw [if_neg (by omega)]
      rfl
theorem midS_zero (A : Nat → A5) (E : Nat) : midS A E 0 = cntS A E := by
  funext j
  unfold midS cntS
  by_cases c : j = 0
  · rw [if_pos (by omega), if_pos c, c]; rfl
  · rw [if_neg (by omega), if_neg c]
theorem cntK_small (A : Nat → A5) (E k : Nat) : cntK A E k ≤ E := by
  induction E with
  | zero => exact Nat.le_refl _
  | succ E ih => simp only [cntK]; split <;> omega
theorem made_ints (k : Nat) : madeCells #[.int .i64 0] k = cellsOf k (fun _ => 0) := by
  apply Array.ext_getElem?
  intro i
  by_cases h : i < k
  · rw [cellsOf_get _ _ _ h]
    simp [madeCells, h, Nat.mod_one]
  · rw [Array.getElem?_eq_none (by simp [madeCells]; omega), Array.getElem?_eq_none (by rw [cellsOf_size]; omega)]
theorem make_ints (k : Nat) (hk : k ≤ 1048576) (u : World) : (Instr.makeSlice 32 (.int .i64 k) (.int .i64 k)).run Try.prog u =
      .ok (.slice (some ⟨u.heap.size, 0, none⟩) k k) (u.alloc (.cells (cellsOf k (fun _ => 0)) 3)) := by
  obtain ⟨i0, hi, hz0, hz1, hz2⟩ := info_parts info3
  have h := run_make (P := Try.prog) u 32 3 i0 (.int .i64 0) Try.underlying32 hi hz0 .i64 .i64 (k : Int) (k : Int) (by omega) (Int.le_refl _) (by rw [hz2]; omega) (by omega)
  have e : (k : Int).toNat = k := by omega
  rw [e] at h
  simpa [hz1, Value.cells, made_ints] using h
theorem make_two (n : Nat) (hn : n ≤ 20) : ∀ u : World, (Instr.makeSlice 32 (.int .i64 (2 * (n : Int) + 1)) (.int .i64 (2 * (n : Int) + 1))).run Try.prog u =
      .ok (.slice (some ⟨u.heap.size, 0, none⟩) (2 * n + 1) (2 * n + 1)) (u.alloc (.cells (cellsOf (2 * n + 1) (fun _ => 0)) 3)) := fun u => by
  have := make_ints (2 * n + 1) (by omega) u
  rwa [show ((2 * n + 1 : Nat) : Int) = 2 * (n : Int) + 1 by omega] at this

/-- New's phases: the box of g, the graph, where the pieces begin -/
structure Ph (w wr : World) (h gb sb n m : Nat) (a : Option Addr) (c Z : Nat) (A : Nat → A5) (s : Nat → Nat) : Prop where
  hh : wr.heap[h]? = some (.cells #[.pointer (some ⟨gb, 0, none⟩)] 28 (0, 0))
  hg : wr.heap[gb]? = some (.cells #[.int .i64 n, .slice a m c, .slice none 0 0, .slice (some ⟨sb, 0, none⟩) (2 * n + 1) (2 * n + 1)] 45 (0, 0))
  hs : wr.heap[sb]? = some (.cells (cellsOf (2 * n + 1) s) 3 (0, 0))
  ha : ArcsAt (fun k => w.heap.size ≤ k ∧ Bel h gb Z k) wr a m A
  ow : Only NoB w wr
theorem Ph.kept {S : Nat → Prop} {w wr wr' : World} {h gb sb n m : Nat} {a : Option Addr} {c Z : Nat} {A : Nat → A5} {s : Nat → Nat} (q : Ph w wr h gb sb n m a c Z A s) (o : Only S wr wr') (hS : ∀ k, (k = h ∨ k = gb ∨ k = sb ∨ k < Z) → ¬ S k) (hw : ∀ k, k < w.heap.size → ¬ S k) : Ph w wr' h gb sb n m a c Z A s :=
  ⟨(o.block h (lt_of_heap q.hh) (hS h (.inl rfl))).trans q.hh, (o.block gb (lt_of_heap q.hg) (hS gb (.inr (.inl rfl)))).trans q.hg, (o.block sb (lt_of_heap q.hs) (hS sb (.inr (.inr (.inl rfl))))).trans q.hs, q.ha.kept o (fun b hb => hS b (.inr (.inr (.inr hb.2.2.2)))), q.ow.then o (fun i hi e => hw i hi e)⟩
theorem Ph.set {w wr : World} {h gb sb n m : Nat} {a : Option Addr} {c Z : Nat} {A : Nat → A5} {s s' : Nat → Nat} (q : Ph w wr h gb sb n m a c Z A s) (j y : Nat) (k1 : sb ≠ h) (k2 : sb ≠ gb) (k3 : Z ≤ sb) (k4 : w.heap.size ≤ sb) (hs' : ∀ i, i < 2 * n + 1 → upd s j y i = s' i) : Ph w (wr.setCell ⟨sb, j, none⟩ (.int .i64 y)) h gb sb n m a c Z A s' := by
  have o : Only (B1 sb) wr (wr.setCell ⟨sb, j, none⟩ (.int .i64 y)) := Only.setCell (S := B1 sb) (Only.refl _ _) (p := ⟨sb, j, none⟩) (fun _ => by unfold B1; rfl) _
  refine ⟨(o.block h (lt_of_heap q.hh) (fun e => by unfold B1 at e; omega)).trans q.hh, (o.block gb (lt_of_heap q.hg) (fun e => by unfold B1 at e; omega)).trans q.hg, ?_, q.ha.kept o (fun b hb e => by unfold B1 at e; have := hb.2.2.2; omega), q.ow.then o (fun i hi e => by unfold B1 at e; omega)⟩
  rw [heap_setCell_at _ _ _ _ _ _ _ q.hs, cellsOf_set (2 * n + 1) s (upd s j y) j y (by simp [upd]) (fun i _ e => by simp [upd, e])]
  have : cellsOf (2 * n + 1) (upd s j y) = cellsOf (2 * n + 1) s' := by
    unfold cellsOf
    congr 1
    apply List.map_congr_left
    intro i hi
    rw [hs' i (List.mem_range.1 hi)]
  rw [this]
theorem Ph.at {w wr : World} {h gb sb n m : Nat} {a : Option Addr} {c Z : Nat} {A : Nat → A5} {s : Nat → Nat} (q : Ph w wr h gb sb n m a c Z A s) (j : Nat) (hj : j < 2 * n + 1) : wr.cell? ⟨sb, j, none⟩ = some (.int .i64 (s j : Nat)) := by
  rw [cell_in _ _ _ _ _ _ q.hs, cellsOf_get _ _ _ hj]

/-- New's last phase: the graph with its list, and where the pieces begin -/
structure Pq (w wr : World) (h gb Z L n m : Nat) (a : Option Addr) (c : Nat) (A : Nat → A5) : Prop where
  hh : wr.heap[h]? = some (.cells #[.pointer (some ⟨gb, 0, none⟩)] 28 (0, 0))
  hg : wr.heap[gb]? = some (.cells #[.int .i64 n, .slice a m c, .slice (some ⟨L, 0, none⟩) (2 * m) (2 * m), .slice (some ⟨Z, 0, none⟩) (2 * n + 1) (2 * n + 1)] 45 (0, 0))
  hs : RowS wr Z (2 * n + 1) (pref A (2 * m))
  ha : ArcsAt (fun k => w.heap.size ≤ k ∧ Bel h gb Z k) wr a m A
  ow : Only NoB w wr
theorem Pq.kept {S : Nat → Prop} {w wr wr' : World} {h gb Z L n m : Nat} {a : Option Addr} {c : Nat} {A : Nat → A5} (q : Pq w wr h gb Z L n m a c A) (o : Only S wr wr') (hS : ∀ k, (k = h ∨ k = gb ∨ k = Z ∨ k < Z) → ¬ S k) (hw : ∀ k, k < w.heap.size → ¬ S k) : Pq w wr' h gb Z L n m a c A :=
  ⟨(o.block h (lt_of_heap q.hh) (hS h (.inl rfl))).trans q.hh, (o.block gb (lt_of_heap q.hg) (hS gb (.inr (.inl rfl)))).trans q.hg, q.hs.kept o (hS Z (.inr (.inr (.inl rfl)))), q.ha.kept o (fun b hb => hS b (.inr (.inr (.inr hb.2.2.2)))), q.ow.then o (fun i hi e => hw i hi e)⟩
/-- where the next of each piece goes -/
def nextS (A : Nat → A5) (E e : Nat) : Nat → Nat := fun k => pref A E k + cntK A e k
theorem nextS_zero (A : Nat → A5) (E : Nat) : nextS A E 0 = pref A E := by
  funext k
  unfold nextS
  rfl
theorem nextS_pos (A : Nat → A5) (E e k : Nat) (hk : key A e = k) : nextS A E e k = pos A E e := by
  subst hk
  rfl
theorem nextS_step (A : Nat → A5) (E e k : Nat) (hk : key A e = k) (j : Nat) : upd (nextS A E e) k (nextS A E e k + 1) j = nextS A E (e + 1) j := by
  subst hk
  unfold upd nextS
  by_cases c : j = key A e
  · rw [if_pos c, c]
    simp [cntK]
    omega
  · rw [if_neg c]
    simp only [cntK]
    rw [if_neg (fun e => c e.symm)]
    rfl
theorem place_step (A : Nat → A5) (E e a : Nat) (ha : e / 2 = a) (j : Nat) : upd (place A E e) (pos A E e) a j = place A E (e + 1) j := by
  subst ha
  rfl
theorem upto_len {α : Type} (f : Nat → α) (n : Nat) : (upto f n).length = n := by
  simp [upto]
theorem clone_row (Z len cap : Nat) (s : Nat → Nat) (X : World) (h : RowS X Z len s) (h0 : 0 < len) (h1 : len ≤ 1000) :
    Calls Try.prog 18 #[.slice (some ⟨Z, 0, none⟩) len cap] X fun e w' => (∃ g gc, e = .returned (.slice (some ⟨g, 0, none⟩) len gc) ∧ X.heap.size ≤ g ∧ RowS w' g len s) ∧ Only NoB X w' := by
  have hlen : ((List.range len).map fun j => ((s j : Nat) : Int)).length = len := by simp
  refine (Try.slices_Clone_int Z 0 len cap ((List.range len).map fun j => ((s j : Nat) : Int)) X (by omega) (by omega) (fun j hj => ?_)).mono ?_
  · rw [hlen] at hj
    rw [Nat.zero_add, h.at j hj]
    simp [List.getD, hj]
  · rintro e w' ⟨v, rfl, ho, _, hb⟩
    rcases ho.2 with ⟨_, e0⟩ | ⟨g, gc, cur, rfl, hg, hc, hn, _, hz, ht⟩
    · omega
    · refine ⟨⟨g, gc, rfl, hg, cur, hc, by omega, fun j hj => ?_⟩, Only.of_below hb⟩
      have q : (cur.toList.take (len * 1))[j]? = cur[j]? := by
        rw [List.getElem?_take_of_lt (by omega)]
        simp
      rw [← q, ht]
      rw [List.take_of_length_le (by omega)]
      simp [hj]

set_option maxRecDepth 100000 in
set_option maxHeartbeats 8000000 in
theorem new_any (p : Nat → Prop) (sa aa : Option Addr) (n m sc ac : Nat) (f : Nat → Int) (A : Nat → A5) (hn : n ≤ 20) (hm : m ≤ 40) (hgood : ∀ j, j < m → 0 ≤ (A j).f ∧ (A j).f < n ∧ 0 ≤ (A j).t ∧ (A j).t < n) (w : World) (hs : SupAt p w sa n f) (ha : ArcsAt p w aa m A) :
    Calls Try.prog 6 #[.agg #[.slice sa n sc, .slice aa m ac]] w fun e w' => (∃ gb, e = .returned (.pointer (some ⟨gb, 0, none⟩)) ∧ Gr (fun k => w.heap.size ≤ k ∧ k < w'.heap.size) w' gb n m A (place A (2 * m) (2 * m)) (pref A (2 * m))) ∧ Only NoB w w' := by
  have CC : Hid (∀ W, Only NoB w W → Calls Try.prog 17 #[.agg #[.slice sa n sc, .slice aa m ac]] W fun e w' => (∃ s c a c', e = .returned (.agg #[.slice s n c, .slice a m c']) ∧ ArcsAt (fun k => W.heap.size ≤ k) w' a m A) ∧ Only NoB W w') := fun W o => copy_any p sa aa n m sc ac f A hn hm W (hs.kept o (fun _ _ f => f)) (ha.kept o (fun _ _ f => f))
  have HG := Lib.hid hgood
  clear hs ha hgood
  go_enter Try.func6, Try.ntmps6
  go_upto_region 1 with fail
  have hb := heap_alloc_new w (.cells #[.slice sa n sc, .slice aa m ac] 26)
  have zb : (w.alloc (.cells #[.slice sa n sc, .slice aa m ac] 26)).heap.size = w.heap.size + 1 := by simp
  have ob : Only NoB w (w.alloc (.cells #[.slice sa n sc, .slice aa m ac] 26)) := (Only.refl _ _).alloc _
  generalize World.alloc w _ = W at *
  go_cut [3] from 13 to 20 (fun s3 wc => ∃ h gb a c, s3 = .pointer (some ⟨h, 0, none⟩) ∧ wc.heap[h]? = some (.cells #[.pointer (some ⟨gb, 0, none⟩)] 28 (0, 0)) ∧ wc.heap[gb]? = some (.cells #[.int .i64 n, .slice a m c, .slice none 0 0, .slice none 0 0] 45 (0, 0)) ∧ w.heap.size ≤ h ∧ w.heap.size ≤ gb ∧ h ≠ gb ∧ ArcsAt (fun k => w.heap.size ≤ k ∧ Bel h gb wc.heap.size k) wc a m A ∧ Only NoB w wc)
  case first =>
    have MK : Hid (∀ w', Only NoB W w' → w'.cell? ⟨w.heap.size, 0, none⟩ = some (.slice sa n sc) ∧ w'.cell? ⟨w.heap.size, 1, none⟩ = some (.slice aa m ac)) := fun w' oo => ⟨Only.cell oo ((cell_in _ _ 0 _ _ _ hb).trans rfl) (fun f => f), Only.cell oo ((cell_in _ _ 1 _ _ _ hb).trans rfl) (fun f => f)⟩
    refine wp_region_tree (fun w' => w'.cell? ⟨w.heap.size, 0, none⟩ = some (.slice sa n sc) ∧ w'.cell? ⟨w.heap.size, 1, none⟩ = some (.slice aa m ac)) (.take 0 (.take 1 (.take 2 (.take 3 (.two 4 (.take 5 (.take 6 (.two 7 (.one 8 (.one 9 .done)) 8 (.one 7 (.one 9 .done))))) 8 (.one 4 (.take 5 (.take 6 (.one 7 (.one 9 .done)))))))))) (by kernel_rfl) (by kernel_rfl) ?_ ?_
    · exact MK.out _ ((Only.refl _ _).drew)
    · have oo : Only NoB W W.drew := (Only.refl _ _).drew
      have zY : W.drew.heap.size = W.heap.size := rfl
      generalize W.drew = Y at *
      repeat (refine' tree_take (by simp only [List.getElem?_cons_succ, List.getElem?_cons_zero]; rfl) (by rfl) ?_ ?_ ?_; rotate_left 2; (intro w' hS; go_simp; try rfl); (simp only [Act.put, List.setIfInBounds_toArray, List.set_cons_zero, List.set_cons_succ]; try rfl))
      refine tree_two ?_ ?_
      · skip
        (refine tree_op (by simp only [List.getElem?_cons_succ, List.getElem?_cons_zero]; rfl) (by rfl) (fun K hK => ?_); go_simp)
        refine (CC.out _ (ob.trans oo)).mono ?_
        rintro e w1 ⟨⟨s1, c1, a, c, rfl, hA⟩, o1⟩
        have z1 := oo.size
        have z0 := o1.size
        have oo := oo.trans o1
        (refine hK _ _ (MK.out _ oo) ?_; clear hK K)
        repeat (refine' tree_take (by simp only [List.getElem?_cons_succ, List.getElem?_cons_zero]; rfl) (by rfl) ?_ ?_ ?_; rotate_left 2; (intro w' hS; go_simp; try rfl); (simp only [Act.put, List.setIfInBounds_toArray, List.set_cons_zero, List.set_cons_succ]; try rfl))
        have hA := hA.lt
        refine tree_two ?_ ?_
        · skip
          (refine tree_op (by simp only [List.getElem?_cons_succ, List.getElem?_cons_zero]; rfl) (by rfl) (fun K hK => ?_); go_simp)
          have hg := heap_alloc_new w1 (.cells #[.int .i64 n, .slice a m c, .slice none 0 0, .slice none 0 0] 45)
          have zhg : (World.alloc w1 (.cells #[.int .i64 n, .slice a m c, .slice none 0 0, .slice none 0 0] 45)).heap.size = w1.heap.size + 1 := by simp
          have oa : Only NoB w1 (World.alloc w1 (.cells #[.int .i64 n, .slice a m c, .slice none 0 0, .slice none 0 0] 45)) := (Only.refl _ _).alloc _
          have oo := oo.trans oa
          have hA := hA.kept oa (fun _ _ f => f)
          (refine hK _ _ (MK.out _ oo) ?_; clear hK K)
          clear oa
          generalize hX : World.alloc w1 (.cells #[.int .i64 n, .slice a m c, .slice none 0 0, .slice none 0 0] 45) = w2 at *
          repeat (refine' tree_take (by simp only [List.getElem?_cons_succ, List.getElem?_cons_zero]; rfl) (by rfl) ?_ ?_ ?_; rotate_left 2; (intro w' hS; go_simp; try rfl); (simp only [Act.put, List.setIfInBounds_toArray, List.set_cons_zero, List.set_cons_succ]; try rfl))
          (refine tree_do (by simp only [List.getElem?_cons_succ, List.getElem?_cons_zero]; rfl) (by rfl) (fun K hK => ?_); go_simp)
          have hh := heap_alloc_new w2 (.cells #[.pointer none] 28)
          have zhh : (World.alloc w2 (.cells #[.pointer none] 28)).heap.size = w2.heap.size + 1 := by simp
          have oa : Only NoB w2 (World.alloc w2 (.cells #[.pointer none] 28)) := (Only.refl _ _).alloc _
          have oo := oo.trans oa
          have hg := (oa.block _ (lt_of_heap hg) (fun f => f)).trans hg
          have hA := hA.kept oa (fun _ _ f => f)
          (refine hK _ _ (MK.out _ oo) ?_; clear hK K)
          clear oa
          generalize hX : World.alloc w2 (.cells #[.pointer none] 28) = w3 at *
          repeat (refine' tree_take (by simp only [List.getElem?_cons_succ, List.getElem?_cons_zero]; rfl) (by rfl) ?_ ?_ ?_; rotate_left 2; (intro w' hS; go_simp; try rfl); (simp only [Act.put, List.setIfInBounds_toArray, List.set_cons_zero, List.set_cons_succ]; try rfl))
          rw [zhg] at hh
          have e0 := (cell_in _ _ 0 _ _ _ hh).trans rfl
          have f0 := frozen_in _ _ 0 _ _ hh
          have lh := lt_of_heap hh
          (refine tree_do (by simp only [List.getElem?_cons_succ, List.getElem?_cons_zero]; rfl) (by rfl) (fun K hK => ?_); go_simp)
          have hh2 := heap_setCell_at w3 (w1.heap.size + 1) 0 (.pointer (some ⟨w1.heap.size, 0, none⟩)) _ _ _ hh
          have hg2 := (Below.heap_setCell w3 ⟨(w1.heap.size + 1), 0, none⟩ (.pointer (some ⟨w1.heap.size, 0, none⟩)) w1.heap.size (by simp; try omega)).trans hg
          have oS : Only (B1 (w1.heap.size + 1)) w3 (World.setCell w3 ⟨(w1.heap.size + 1), 0, none⟩ (.pointer (some ⟨w1.heap.size, 0, none⟩))) := Only.setCell (S := B1 (w1.heap.size + 1)) (Only.refl _ _) (p := ⟨(w1.heap.size + 1), 0, none⟩) (fun _ => by unfold B1; rfl) _
          have zS := oS.size
          have oo2 := oo.then oS (fun i hi e => by unfold B1 at e; omega)
          have hA2 := hA.kept oS (fun b hb e => by unfold B1 at e; have := hb.1; have := hb.2; omega)
          (refine hK _ _ (MK.out _ oo2) ?_; clear hK K)
          refine tree_end ?_
          go_wp2_with fail
          go_meet
          exact ⟨_, _, a, c, rfl, hh2, hg2, by omega, by omega, by omega, hA2.mono (fun b hb => ⟨by have := hb.1; omega, by have := hb.1; have := hb.2; omega, by have := hb.1; have := hb.2; omega, by have := hb.2; omega⟩), ob.trans oo2⟩
        · skip
          (refine tree_op (by simp only [List.getElem?_cons_succ, List.getElem?_cons_zero]; rfl) (by rfl) (fun K hK => ?_); go_simp)
          have hh := heap_alloc_new w1 (.cells #[.pointer none] 28)
          have zhh : (World.alloc w1 (.cells #[.pointer none] 28)).heap.size = w1.heap.size + 1 := by simp
          have oa : Only NoB w1 (World.alloc w1 (.cells #[.pointer none] 28)) := (Only.refl _ _).alloc _
          have oo := oo.trans oa
          have hA := hA.kept oa (fun _ _ f => f)
          (refine hK _ _ (MK.out _ oo) ?_; clear hK K)
          clear oa
          generalize hX : World.alloc w1 (.cells #[.pointer none] 28) = w2 at *
          repeat (refine' tree_take (by simp only [List.getElem?_cons_succ, List.getElem?_cons_zero]; rfl) (by rfl) ?_ ?_ ?_; rotate_left 2; (intro w' hS; go_simp; try rfl); (simp only [Act.put, List.setIfInBounds_toArray, List.set_cons_zero, List.set_cons_succ]; try rfl))
          (refine tree_do (by simp only [List.getElem?_cons_succ, List.getElem?_cons_zero]; rfl) (by rfl) (fun K hK => ?_); go_simp)
          have hg := heap_alloc_new w2 (.cells #[.int .i64 n, .slice a m c, .slice none 0 0, .slice none 0 0] 45)
          have zhg : (World.alloc w2 (.cells #[.int .i64 n, .slice a m c, .slice none 0 0, .slice none 0 0] 45)).heap.size = w2.heap.size + 1 := by simp
          have oa : Only NoB w2 (World.alloc w2 (.cells #[.int .i64 n, .slice a m c, .slice none 0 0, .slice none 0 0] 45)) := (Only.refl _ _).alloc _
          have oo := oo.trans oa
          have hh := (oa.block _ (lt_of_heap hh) (fun f => f)).trans hh
          have hA := hA.kept oa (fun _ _ f => f)
          (refine hK _ _ (MK.out _ oo) ?_; clear hK K)
          clear oa
          generalize hX : World.alloc w2 (.cells #[.int .i64 n, .slice a m c, .slice none 0 0, .slice none 0 0] 45) = w3 at *
          repeat (refine' tree_take (by simp only [List.getElem?_cons_succ, List.getElem?_cons_zero]; rfl) (by rfl) ?_ ?_ ?_; rotate_left 2; (intro w' hS; go_simp; try rfl); (simp only [Act.put, List.setIfInBounds_toArray, List.set_cons_zero, List.set_cons_succ]; try rfl))
          rw [zhh] at hg
          have e0 := (cell_in _ _ 0 _ _ _ hh).trans rfl
          have f0 := frozen_in _ _ 0 _ _ hh
          have lh := lt_of_heap hh
          (refine tree_do (by simp only [List.getElem?_cons_succ, List.getElem?_cons_zero]; rfl) (by rfl) (fun K hK => ?_); go_simp)
          have hh2 := heap_setCell_at w3 w1.heap.size 0 (.pointer (some ⟨(w1.heap.size + 1), 0, none⟩)) _ _ _ hh
          have hg2 := (Below.heap_setCell w3 ⟨w1.heap.size, 0, none⟩ (.pointer (some ⟨(w1.heap.size + 1), 0, none⟩)) (w1.heap.size + 1) (by simp; try omega)).trans hg
          have oS : Only (B1 w1.heap.size) w3 (World.setCell w3 ⟨w1.heap.size, 0, none⟩ (.pointer (some ⟨(w1.heap.size + 1), 0, none⟩))) := Only.setCell (S := B1 w1.heap.size) (Only.refl _ _) (p := ⟨w1.heap.size, 0, none⟩) (fun _ => by unfold B1; rfl) _
          have zS := oS.size
          have oo2 := oo.then oS (fun i hi e => by unfold B1 at e; omega)
          have hA2 := hA.kept oS (fun b hb e => by unfold B1 at e; have := hb.1; have := hb.2; omega)
          (refine hK _ _ (MK.out _ oo2) ?_; clear hK K)
          refine tree_end ?_
          go_wp2_with fail
          go_meet
          exact ⟨_, _, a, c, rfl, hh2, hg2, by omega, by omega, by omega, hA2.mono (fun b hb => ⟨by have := hb.1; omega, by have := hb.1; have := hb.2; omega, by have := hb.1; have := hb.2; omega, by have := hb.2; omega⟩), ob.trans oo2⟩
      · skip
        (refine tree_op (by simp only [List.getElem?_cons_succ, List.getElem?_cons_zero]; rfl) (by rfl) (fun K hK => ?_); go_simp)
        have hh := heap_alloc_new Y (.cells #[.pointer none] 28)
        have zhh : (World.alloc Y (.cells #[.pointer none] 28)).heap.size = Y.heap.size + 1 := by simp
        have oa : Only NoB Y (World.alloc Y (.cells #[.pointer none] 28)) := (Only.refl _ _).alloc _
        have oo := oo.trans oa
        (refine hK _ _ (MK.out _ oo) ?_; clear hK K)
        clear oa
        generalize hX : World.alloc Y (.cells #[.pointer none] 28) = Y2 at *
        repeat (refine' tree_take (by simp only [List.getElem?_cons_succ, List.getElem?_cons_zero]; rfl) (by rfl) ?_ ?_ ?_; rotate_left 2; (intro w' hS; go_simp; try rfl); (simp only [Act.put, List.setIfInBounds_toArray, List.set_cons_zero, List.set_cons_succ]; try rfl))
        (refine tree_do (by simp only [List.getElem?_cons_succ, List.getElem?_cons_zero]; rfl) (by rfl) (fun K hK => ?_); go_simp)
        refine (CC.out _ (ob.trans oo)).mono ?_
        rintro e w1 ⟨⟨s1, c1, a, c, rfl, hA⟩, o1⟩
        have z1 := oo.size
        have z0 := o1.size
        have oo := oo.trans o1
        have hh := (o1.block _ (lt_of_heap hh) (fun f => f)).trans hh
        (refine hK _ _ (MK.out _ oo) ?_; clear hK K)
        repeat (refine' tree_take (by simp only [List.getElem?_cons_succ, List.getElem?_cons_zero]; rfl) (by rfl) ?_ ?_ ?_; rotate_left 2; (intro w' hS; go_simp; try rfl); (simp only [Act.put, List.setIfInBounds_toArray, List.set_cons_zero, List.set_cons_succ]; try rfl))
        have hA := hA.lt
        (refine tree_do (by simp only [List.getElem?_cons_succ, List.getElem?_cons_zero]; rfl) (by rfl) (fun K hK => ?_); go_simp)
        have hg := heap_alloc_new w1 (.cells #[.int .i64 n, .slice a m c, .slice none 0 0, .slice none 0 0] 45)
        have zhg : (World.alloc w1 (.cells #[.int .i64 n, .slice a m c, .slice none 0 0, .slice none 0 0] 45)).heap.size = w1.heap.size + 1 := by simp
        have oa : Only NoB w1 (World.alloc w1 (.cells #[.int .i64 n, .slice a m c, .slice none 0 0, .slice none 0 0] 45)) := (Only.refl _ _).alloc _
        have oo := oo.trans oa
        have hh := (oa.block _ (lt_of_heap hh) (fun f => f)).trans hh
        have hA := hA.kept oa (fun _ _ f => f)
        (refine hK _ _ (MK.out _ oo) ?_; clear hK K)
        clear oa
        generalize hX : World.alloc w1 (.cells #[.int .i64 n, .slice a m c, .slice none 0 0, .slice none 0 0] 45) = w3 at *
        repeat (refine' tree_take (by simp only [List.getElem?_cons_succ, List.getElem?_cons_zero]; rfl) (by rfl) ?_ ?_ ?_; rotate_left 2; (intro w' hS; go_simp; try rfl); (simp only [Act.put, List.setIfInBounds_toArray, List.set_cons_zero, List.set_cons_succ]; try rfl))
        rw [zY, zb] at hh
        have e0 := (cell_in _ _ 0 _ _ _ hh).trans rfl
        have f0 := frozen_in _ _ 0 _ _ hh
        have lh := lt_of_heap hh
        (refine tree_do (by simp only [List.getElem?_cons_succ, List.getElem?_cons_zero]; rfl) (by rfl) (fun K hK => ?_); go_simp)
        have hh2 := heap_setCell_at w3 (w.heap.size + 1) 0 (.pointer (some ⟨w1.heap.size, 0, none⟩)) _ _ _ hh
        have hg2 := (Below.heap_setCell w3 ⟨(w.heap.size + 1), 0, none⟩ (.pointer (some ⟨w1.heap.size, 0, none⟩)) w1.heap.size (by simp; try omega)).trans hg
        have oS : Only (B1 (w.heap.size + 1)) w3 (World.setCell w3 ⟨(w.heap.size + 1), 0, none⟩ (.pointer (some ⟨w1.heap.size, 0, none⟩))) := Only.setCell (S := B1 (w.heap.size + 1)) (Only.refl _ _) (p := ⟨(w.heap.size + 1), 0, none⟩) (fun _ => by unfold B1; rfl) _
        have zS := oS.size
        have oo2 := oo.then oS (fun i hi e => by unfold B1 at e; omega)
        have hA2 := hA.kept oS (fun b hb e => by unfold B1 at e; have := hb.1; have := hb.2; omega)
        (refine hK _ _ (MK.out _ oo2) ?_; clear hK K)
        refine tree_end ?_
        go_wp2_with fail
        go_meet
        exact ⟨_, _, a, c, rfl, hh2, hg2, by omega, by omega, by omega, hA2.mono (fun b hb => ⟨by have := hb.1; omega, by have := hb.1; have := hb.2; omega, by have := hb.1; have := hb.2; omega, by have := hb.2; omega⟩), ob.trans oo2⟩

  case rest =>
    obtain ⟨h, gb, a, c, rfl, hh, hg, k1, k2, k3, hA, ow⟩ := hcut
    clear hb zb ob CC
    generalize hZ : wc.heap.size = Z at *
    have e0 := (cell_in _ _ 0 _ _ _ hh).trans rfl
    have g0 := (cell_in _ _ 0 _ _ _ hg).trans rfl
    have lh := lt_of_heap hh
    have lg := lt_of_heap hg
    have g3 := (cell_in _ _ 3 _ _ _ hg).trans rfl
    have fz := frozen_in _ _ 3 _ _ hg
    go_upto_region 2 with fail
    have hmk := make_two n (by omega)
    have wr1 := IntWalk.i64_in (2 * (n : Int)) (by omega)
    have wr2 := IntWalk.i64_in (2 * (n : Int) + 1) (by omega)
    have hZh : h < Z := by omega
    have hZg : gb < Z := by omega
    refine wp_region_along (fun w' => w'.cell? ⟨h, 0, none⟩ = some (.pointer (some ⟨gb, 0, none⟩)) ∧ w'.cell? ⟨gb, 0, none⟩ = some (.int .i64 n)) [(0, true), (1, true), (2, true), (3, true), (4, true), (5, true), (6, true), (7, false), (8, true), (9, true), (10, false)] (by kernel_rfl) (by kernel_rfl) ?_ ?_
    · exact ⟨e0, g0⟩
    have hh : wc.drew.heap[h]? = _ := hh
    have hg : wc.drew.heap[gb]? = _ := hg
    have hA : ArcsAt (fun k => w.heap.size ≤ k ∧ Bel h gb Z k) wc.drew a m A := hA
    have ow : Only NoB w wc.drew := ow.drew
    have hZ : wc.drew.heap.size = Z := hZ
    clear e0 g0 lh lg g3 fz
    generalize wc.drew = Y at *
    repeat (first | (refine' along_take (by simp only [List.getElem?_cons_succ, List.getElem?_cons_zero]; rfl) (by rfl) ?_ ?_ ?_; rotate_left 2; (intro w' hS; go_simp; try rfl); (simp only [Act.put, List.setIfInBounds_toArray, List.set_cons_zero, List.set_cons_succ]; try rfl)) | (refine' along_skip (by simp only [List.getElem?_cons_succ, List.getElem?_cons_zero]; rfl) (by rfl) ?_ ?_; rotate_left 1; (simp only [Act.put, List.setIfInBounds_toArray, List.set_cons_zero, List.set_cons_succ]; try rfl)))
    (refine along_do (by simp only [List.getElem?_cons_succ, List.getElem?_cons_zero]; rfl) (by rfl) (fun K hK => ?_); go_simp)
    have hs := heap_alloc_new Y (.cells (cellsOf (2 * n + 1) (fun _ => 0)) 3)
    have zs : (Y.alloc (.cells (cellsOf (2 * n + 1) (fun _ => 0)) 3)).heap.size = Y.heap.size + 1 := by simp
    have oa : Only NoB Y (Y.alloc (.cells (cellsOf (2 * n + 1) (fun _ => 0)) 3)) := (Only.refl _ _).alloc _
    have hh := (oa.block _ (lt_of_heap hh) (fun f => f)).trans hh
    have hg := (oa.block _ (lt_of_heap hg) (fun f => f)).trans hg
    have hA := hA.kept oa (fun _ _ f => f)
    have ow := ow.trans oa
    refine hK _ _ ⟨(cell_in _ _ 0 _ _ _ hh).trans rfl, (cell_in _ _ 0 _ _ _ hg).trans rfl⟩ ?_
    clear hK K oa
    rw [hZ] at hs
    generalize World.alloc Y _ = X at *
    repeat (first | (refine' along_take (by simp only [List.getElem?_cons_succ, List.getElem?_cons_zero]; rfl) (by rfl) ?_ ?_ ?_; rotate_left 2; (intro w' hS; go_simp; try rfl); (simp only [Act.put, List.setIfInBounds_toArray, List.set_cons_zero, List.set_cons_succ]; try rfl)) | (refine' along_skip (by simp only [List.getElem?_cons_succ, List.getElem?_cons_zero]; rfl) (by rfl) ?_ ?_; rotate_left 1; (simp only [Act.put, List.setIfInBounds_toArray, List.set_cons_zero, List.set_cons_succ]; try rfl)))
    have g3 := (cell_in _ _ 3 _ _ _ hg).trans rfl
    have fz := frozen_in _ _ 3 _ _ hg
    have lg := lt_of_heap hg
    (refine along_do (by simp only [List.getElem?_cons_succ, List.getElem?_cons_zero]; rfl) (by rfl) (fun K hK => ?_); go_simp)
    have oS : Only (B1 gb) X (X.setCell ⟨gb, 3, none⟩ (.slice (some ⟨Z, 0, none⟩) (2 * n + 1) (2 * n + 1))) := Only.setCell (S := B1 gb) (Only.refl _ _) (p := ⟨gb, 3, none⟩) (fun _ => by unfold B1; rfl) _
    have hg := heap_setCell_at X gb 3 (.slice (some ⟨Z, 0, none⟩) (2 * n + 1) (2 * n + 1)) _ _ _ hg
    have hh := (oS.block h (lt_of_heap hh) (fun e => by unfold B1 at e; omega)).trans hh
    have hs := (oS.block Z (lt_of_heap hs) (fun e => by unfold B1 at e; omega)).trans hs
    have hP : Ph w (X.setCell ⟨gb, 3, none⟩ (.slice (some ⟨Z, 0, none⟩) (2 * n + 1) (2 * n + 1))) h gb Z n m a c Z A (fun _ => 0) := ⟨hh, hg, hs, hA.kept oS (fun b hb e => by unfold B1 at e; exact hb.2.2.1 e), ow.then oS (fun i hi e => by unfold B1 at e; omega)⟩
    refine hK _ _ ⟨(cell_in _ _ 0 _ _ _ hh).trans rfl, (cell_in _ _ 0 _ _ _ hg).trans rfl⟩ ?_
    clear hK K oS hg hh hs hA ow zs hZ
    generalize World.setCell X _ _ = X2 at *
    repeat (first | (refine' along_take (by simp only [List.getElem?_cons_succ, List.getElem?_cons_zero]; rfl) (by rfl) ?_ ?_ ?_; rotate_left 2; (intro w' hS; go_simp; try rfl); (simp only [Act.put, List.setIfInBounds_toArray, List.set_cons_zero, List.set_cons_succ]; try rfl)) | (refine' along_skip (by simp only [List.getElem?_cons_succ, List.getElem?_cons_zero]; rfl) (by rfl) ?_ ?_; rotate_left 1; (simp only [Act.put, List.setIfInBounds_toArray, List.set_cons_zero, List.set_cons_succ]; try rfl)))
    refine along_end ?_
    have zX : Z < X2.heap.size := lt_of_heap hP.hs
    clear hmk wr1 wr2
    have hP : Ph w X2 h gb Z n m a c Z A (cntS A (2 * 0)) := by rw [show 2 * 0 = 0 from rfl, cntS_zero]; exact hP
    have c0 := (cell_in _ _ 0 _ _ _ hP.hh).trans rfl
    have c1 := (cell_in _ _ 1 _ _ _ hP.hg).trans rfl
    go_wp2_with fail
    clear c0 c1
    go_loopw [36] (fun t wr => ∃ i : Nat, i ≤ m ∧ t = .int .i64 i ∧ Ph w wr h gb Z n m a c Z A (cntS A (2 * i))) (fun t _ => m - (intOf t).toNat)
    case atStart => exact ⟨0, Nat.zero_le _, rfl, hP⟩
    case round =>
      clear hP zX
      obtain ⟨i, hi, rfl, hP⟩ := hrel
      by_cases lt : i < m
      · have lti : (i : Int) < m := by omega
        obtain ⟨q1, q2, q3, q4⟩ := HG.out i lt
        have zX : Z < wr.heap.size := lt_of_heap hP.hs
        have c0 := (cell_in _ _ 0 _ _ _ hP.hh).trans rfl
        have AY := Lib.hid (arc_yes _ gb n m i c a A wr (lt_of_heap hP.hg) ((cell_in _ _ 0 _ _ _ hP.hg).trans rfl) ((cell_in _ _ 1 _ _ _ hP.hg).trans rfl) hP.ha lt hm q1 q2 q3 q4)
        have k1 := key_even A i
        have k2 := key_odd A i
        obtain ⟨kf, hkf⟩ : ∃ kf : Nat, (A i).f = kf := ⟨(A i).f.toNat, by omega⟩
        obtain ⟨kt, hkt⟩ : ∃ kt : Nat, (A i).t = kt := ⟨(A i).t.toNat, by omega⟩
        unfold A5.val at AY
        rw [hkf] at AY q1 q2 k1
        rw [hkt] at AY q3 q4 k2
        rw [Int.toNat_natCast] at k1 k2
        have KEY := Lib.hid (And.intro k1 k2)
        clear hkf hkt k1 k2
        generalize (A i).l = xl at *
        generalize (A i).c = xc at *
        generalize (A i).k = xk at *
        go_wp2_with fail
        refine AY.out.mono ?_
        rintro e w5 ⟨rfl, o5⟩
        clear AY c0
        go_upto_region 8 with fail
        have hP := hP.kept (o5.trans ((Only.refl _ _).alloc (.cells #[.int .i64 kf, .int .i64 kt, .int .i64 xl, .int .i64 xc, .int .i64 xk] 31))) (fun _ _ f => f) (fun _ _ f => f)
        have hq := heap_alloc_new w5 (.cells #[.int .i64 kf, .int .i64 kt, .int .i64 xl, .int .i64 xc, .int .i64 xk] 31)
        have zq : Z < w5.heap.size := Nat.lt_of_lt_of_le zX o5.size
        generalize World.alloc w5 _ = wA at *
        generalize hQ : w5.heap.size = Q at *
        have nf : kf < n := by omega
        have nt : kt < n := by omega
        clear o5 hQ q1 q2 q3 q4 zX
        refine wp_region_along (fun w' => w'.cell? ⟨h, 0, none⟩ = some (.pointer (some ⟨gb, 0, none⟩)) ∧ w'.cell? ⟨gb, 3, none⟩ = some (.slice (some ⟨Z, 0, none⟩) (2 * n + 1) (2 * n + 1)) ∧ w'.cell? ⟨Q, 0, none⟩ = some (.int .i64 kf)) [(0, true), (1, true), (2, true), (3, true), (4, true), (5, true), (6, true), (7, true), (8, true), (9, true), (10, false), (11, true), (12, true), (13, false)] (by kernel_rfl) (by kernel_rfl) ?_ ?_
        · exact ⟨(cell_in _ _ 0 _ _ _ hP.hh).trans rfl, (cell_in _ _ 3 _ _ _ hP.hg).trans rfl, (cell_in _ _ 0 _ _ _ hq).trans rfl⟩
        have hP := hP.kept (S := NoB) ((Only.refl _ _).drew) (fun _ _ f => f) (fun _ _ f => f)
        have hq : wA.drew.heap[Q]? = _ := hq
        generalize wA.drew = wB at *
        have wr1 := IntWalk.i64_in (2 * (kf : Int)) (by omega)
        have wr2 := IntWalk.i64_in (2 * (kf : Int) + 1) (by omega)
        have tn1 : (2 * (kf : Int) + 1).toNat = 2 * kf + 1 := by omega
        have cs := hP.at (2 * kf + 1) (by omega)
        have hcv : cntS A (2 * i) (2 * kf + 1) = cntK A (2 * i) (key A (2 * i)) := by unfold cntS; rw [if_neg (by omega)]; congr 1; first | (rw [KEY.out.1]; omega) | (rw [KEY.out.2]; omega)
        have hidx : key A (2 * i) + 1 = 2 * kf + 1 := by first | (rw [KEY.out.1]) | (rw [KEY.out.2])
        have hcl := cntK_small A (2 * i) (key A (2 * i))
        rw [hcv] at cs
        have HST := Lib.hid (fun j => cntS_step A (2 * i) j)
        rw [hidx] at HST
        generalize cntK A (2 * i) (key A (2 * i)) = cv at *
        clear hcv hidx
        have wc1 := IntWalk.i64_in ((cv : Int) + 1) (by omega)
        repeat (first | (refine' along_take (by simp only [List.getElem?_cons_succ, List.getElem?_cons_zero]; rfl) (by rfl) ?_ ?_ ?_; rotate_left 2; (intro w' hS; go_simp; try rfl); (simp only [Act.put, List.setIfInBounds_toArray, List.set_cons_zero, List.set_cons_succ]; try rfl)) | (refine' along_skip (by simp only [List.getElem?_cons_succ, List.getElem?_cons_zero]; rfl) (by rfl) ?_ ?_; rotate_left 1; (simp only [Act.put, List.setIfInBounds_toArray, List.set_cons_zero, List.set_cons_succ]; try rfl)))
        (refine along_do (by simp only [List.getElem?_cons_succ, List.getElem?_cons_zero]; rfl) (by rfl) (fun K hK => ?_); go_simp)
        (refine hK _ _ ⟨(cell_in _ _ 0 _ _ _ hP.hh).trans rfl, (cell_in _ _ 3 _ _ _ hP.hg).trans rfl, (cell_in _ _ 0 _ _ _ hq).trans rfl⟩ ?_; clear hK K)
        repeat (first | (refine' along_take (by simp only [List.getElem?_cons_succ, List.getElem?_cons_zero]; rfl) (by rfl) ?_ ?_ ?_; rotate_left 2; (intro w' hS; go_simp; try rfl); (simp only [Act.put, List.setIfInBounds_toArray, List.set_cons_zero, List.set_cons_succ]; try rfl)) | (refine' along_skip (by simp only [List.getElem?_cons_succ, List.getElem?_cons_zero]; rfl) (by rfl) ?_ ?_; rotate_left 1; (simp only [Act.put, List.setIfInBounds_toArray, List.set_cons_zero, List.set_cons_succ]; try rfl)))
        have fz := frozen_in _ _ (2 * kf + 1) _ _ hP.hs
        have lz := lt_of_heap hP.hs
        (refine along_do (by simp only [List.getElem?_cons_succ, List.getElem?_cons_zero]; rfl) (by rfl) (fun K hK => ?_); go_simp)
        have oS : Only (B1 Z) wB (World.setCell wB ⟨Z, 2 * kf + 1, none⟩ (.int .i64 ((cv + 1 : Nat) : Int))) := Only.setCell (S := B1 Z) (Only.refl _ _) (p := ⟨Z, 2 * kf + 1, none⟩) (fun _ => by unfold B1; rfl) _
        have hq := (oS.block Q (lt_of_heap hq) (fun e => by unfold B1 at e; omega)).trans hq
        have hP := hP.set (2 * kf + 1) (cv + 1) (by omega) (by omega) (Nat.le_refl _) (by have := hP.ow; have := hP.ha; omega) (s' := cntS A (2 * i + 1)) (fun j _ => HST.out j)
        rw [show ((cv + 1 : Nat) : Int) = (cv : Int) + 1 from rfl] at oS hq hP
        (refine hK _ _ ⟨(cell_in _ _ 0 _ _ _ hP.hh).trans rfl, (cell_in _ _ 3 _ _ _ hP.hg).trans rfl, (cell_in _ _ 0 _ _ _ hq).trans rfl⟩ ?_; clear hK K)
        clear oS cs fz lz wc1 HST hcl
        generalize World.setCell wB _ _ = wBs at *
        repeat (first | (refine' along_take (by simp only [List.getElem?_cons_succ, List.getElem?_cons_zero]; rfl) (by rfl) ?_ ?_ ?_; rotate_left 2; (intro w' hS; go_simp; try rfl); (simp only [Act.put, List.setIfInBounds_toArray, List.set_cons_zero, List.set_cons_succ]; try rfl)) | (refine' along_skip (by simp only [List.getElem?_cons_succ, List.getElem?_cons_zero]; rfl) (by rfl) ?_ ?_; rotate_left 1; (simp only [Act.put, List.setIfInBounds_toArray, List.set_cons_zero, List.set_cons_succ]; try rfl)))
        refine along_end ?_
        go_upto_region 9 with fail
        refine wp_region_along (fun w' => w'.cell? ⟨h, 0, none⟩ = some (.pointer (some ⟨gb, 0, none⟩)) ∧ w'.cell? ⟨gb, 3, none⟩ = some (.slice (some ⟨Z, 0, none⟩) (2 * n + 1) (2 * n + 1)) ∧ w'.cell? ⟨Q, 1, none⟩ = some (.int .i64 kt)) [(0, true), (1, true), (2, true), (3, true), (4, true), (5, true), (6, true), (7, true), (8, true), (9, true), (10, false), (11, true), (12, true), (13, false)] (by kernel_rfl) (by kernel_rfl) ?_ ?_
        · exact ⟨(cell_in _ _ 0 _ _ _ hP.hh).trans rfl, (cell_in _ _ 3 _ _ _ hP.hg).trans rfl, (cell_in _ _ 1 _ _ _ hq).trans rfl⟩
        have hP := hP.kept (S := NoB) ((Only.refl _ _).drew) (fun _ _ f => f) (fun _ _ f => f)
        have hq : wBs.drew.heap[Q]? = _ := hq
        generalize wBs.drew = wC at *
        clear wr1 wr2 tn1
        have tn1 : (2 * (kt : Int) + 1 + 1).toNat = 2 * kt + 1 + 1 := by omega
        have tn2 : (2 * (kt : Int) + 2).toNat = 2 * kt + 1 + 1 := by omega
        have b1 : 2 * (kt : Int) + 1 < 2 * (n : Int) := by omega
        have b2 : 2 * (kt : Int) + 1 + 1 < 2 * (n : Int) + 1 := by omega
        have b3 : (0 : Int) ≤ 2 * (kt : Int) + 1 + 1 := by omega
        have b4 : 2 * kt + 1 < 2 * n := by omega
        have b5 : 2 * kt + 1 + 1 < 2 * n + 1 := by omega
        have wr1 := IntWalk.i64_in (2 * (kt : Int)) (by omega)
        have wr2 := IntWalk.i64_in (2 * (kt : Int) + 1) (by omega)
        have wr3 := IntWalk.i64_in (2 * (kt : Int) + 1 + 1) (by omega)
        have wr4 := IntWalk.i64_in (2 * (kt : Int) + 2) (by omega)
        have cs := hP.at (2 * kt + 1 + 1) (by omega)
        have hcv : cntS A (2 * i + 1) (2 * kt + 1 + 1) = cntK A (2 * i + 1) (key A (2 * i + 1)) := by unfold cntS; rw [if_neg (by omega)]; congr 1; first | (rw [KEY.out.1]; omega) | (rw [KEY.out.2]; omega)
        have hidx : key A (2 * i + 1) + 1 = 2 * kt + 1 + 1 := by first | (rw [KEY.out.1]) | (rw [KEY.out.2])
        have hcl := cntK_small A (2 * i + 1) (key A (2 * i + 1))
        rw [hcv] at cs
        have HST := Lib.hid (fun j => cntS_step A (2 * i + 1) j)
        rw [hidx] at HST
        generalize cntK A (2 * i + 1) (key A (2 * i + 1)) = cv at *
        clear hcv hidx
        have wc1 := IntWalk.i64_in ((cv : Int) + 1) (by omega)
        repeat (first | (refine' along_take (by simp only [List.getElem?_cons_succ, List.getElem?_cons_zero]; rfl) (by rfl) ?_ ?_ ?_; rotate_left 2; (intro w' hS; go_simp; try rfl); (simp only [Act.put, List.setIfInBounds_toArray, List.set_cons_zero, List.set_cons_succ]; try rfl)) | (refine' along_skip (by simp only [List.getElem?_cons_succ, List.getElem?_cons_zero]; rfl) (by rfl) ?_ ?_; rotate_left 1; (simp only [Act.put, List.setIfInBounds_toArray, List.set_cons_zero, List.set_cons_succ]; try rfl)))
        (refine along_do (by simp only [List.getElem?_cons_succ, List.getElem?_cons_zero]; rfl) (by rfl) (fun K hK => ?_); go_simp)
        (refine hK _ _ ⟨(cell_in _ _ 0 _ _ _ hP.hh).trans rfl, (cell_in _ _ 3 _ _ _ hP.hg).trans rfl, (cell_in _ _ 1 _ _ _ hq).trans rfl⟩ ?_; clear hK K)
        repeat (first | (refine' along_take (by simp only [List.getElem?_cons_succ, List.getElem?_cons_zero]; rfl) (by rfl) ?_ ?_ ?_; rotate_left 2; (intro w' hS; go_simp; try rfl); (simp only [Act.put, List.setIfInBounds_toArray, List.set_cons_zero, List.set_cons_succ]; try rfl)) | (refine' along_skip (by simp only [List.getElem?_cons_succ, List.getElem?_cons_zero]; rfl) (by rfl) ?_ ?_; rotate_left 1; (simp only [Act.put, List.setIfInBounds_toArray, List.set_cons_zero, List.set_cons_succ]; try rfl)))
        have fz := frozen_in _ _ (2 * kt + 1 + 1) _ _ hP.hs
        have lz := lt_of_heap hP.hs
        (refine along_do (by simp only [List.getElem?_cons_succ, List.getElem?_cons_zero]; rfl) (by rfl) (fun K hK => ?_); go_simp)
        have oS : Only (B1 Z) wC (World.setCell wC ⟨Z, 2 * kt + 1 + 1, none⟩ (.int .i64 ((cv + 1 : Nat) : Int))) := Only.setCell (S := B1 Z) (Only.refl _ _) (p := ⟨Z, 2 * kt + 1 + 1, none⟩) (fun _ => by unfold B1; rfl) _
        have hq := (oS.block Q (lt_of_heap hq) (fun e => by unfold B1 at e; omega)).trans hq
        have hP := hP.set (2 * kt + 1 + 1) (cv + 1) (by omega) (by omega) (Nat.le_refl _) (by have := hP.ow; have := hP.ha; omega) (s' := cntS A (2 * i + 1 + 1)) (fun j _ => HST.out j)
        rw [show ((cv + 1 : Nat) : Int) = (cv : Int) + 1 from rfl] at oS hq hP
        (refine hK _ _ ⟨(cell_in _ _ 0 _ _ _ hP.hh).trans rfl, (cell_in _ _ 3 _ _ _ hP.hg).trans rfl, (cell_in _ _ 1 _ _ _ hq).trans rfl⟩ ?_; clear hK K)
        clear oS cs fz lz wc1 HST hcl
        generalize World.setCell wC _ _ = wCs at *
        repeat (first | (refine' along_take (by simp only [List.getElem?_cons_succ, List.getElem?_cons_zero]; rfl) (by rfl) ?_ ?_ ?_; rotate_left 2; (intro w' hS; go_simp; try rfl); (simp only [Act.put, List.setIfInBounds_toArray, List.set_cons_zero, List.set_cons_succ]; try rfl)) | (refine' along_skip (by simp only [List.getElem?_cons_succ, List.getElem?_cons_zero]; rfl) (by rfl) ?_ ?_; rotate_left 1; (simp only [Act.put, List.setIfInBounds_toArray, List.set_cons_zero, List.set_cons_succ]; try rfl)))
        refine along_end ?_
        go_wp2_with fail
        go_roundw
        case rel => exact ⟨i + 1, by omega, by go_num, by rw [show 2 * (i + 1) = 2 * i + 1 + 1 by omega]; exact hP⟩
        case measure => simp [intOf]; omega
      · obtain rfl : m = i := by omega
        have hP : Ph w wr h gb Z n m a c Z A (midS A (2 * m) 0) := by rw [midS_zero]; exact hP
        have zX : Z < wr.heap.size := lt_of_heap hP.hs
        have c0 := (cell_in _ _ 0 _ _ _ hP.hh).trans rfl
        have c1 := (cell_in _ _ 0 _ _ _ hP.hg).trans rfl
        have wr1 := IntWalk.i64_in (2 * (n : Int)) (by omega)
        have hkey := keys_lt A m n HG.out
        have HK := Lib.hid hkey
        clear hkey
        go_wp2_with fail
        clear c0 c1 wr1
        go_loopw [78] (fun t wr => ∃ k : Nat, k ≤ 2 * n ∧ t = .int .i64 k ∧ Ph w wr h gb Z n m a c Z A (midS A (2 * m) k)) (fun t _ => 2 * n - (intOf t).toNat)
        case atStart => exact ⟨0, Nat.zero_le _, rfl, hP⟩
        case round =>
          clear hP zX
          obtain ⟨k, hk, rfl, hP⟩ := hrel
          by_cases lt : k < 2 * n
          · have lti : (k : Int) < 2 * (n : Int) := by omega
            have zX : Z < wr.heap.size := lt_of_heap hP.hs
            go_upto_region 14 with fail
            have hP := hP.kept (S := NoB) ((Only.refl _ _).drew) (fun _ _ f => f) (fun _ _ f => f)
            have ck := hP.at k (by omega)
            have cs := hP.at (k + 1) (by omega)
            have e1 : midS A (2 * m) k k = pref A (2 * m) k := by unfold midS; rw [if_pos (Nat.le_refl _)]
            have e2 : midS A (2 * m) k (k + 1) = cntK A (2 * m) k := by unfold midS; rw [if_neg (by omega)]; rfl
            have HST := Lib.hid (fun j => midS_step A (2 * m) k j)
            have hb1 := cntK_small A (2 * m) k
            have hb2 := pref_le A (2 * m) k (2 * n) hk
            rw [pref_all A (2 * m) (2 * n) HK.out] at hb2
            rw [e1] at ck
            rw [e2] at cs
            clear e1 e2
            have hpk : midS A (2 * m) (k + 1) k = pref A (2 * m) k := by unfold midS; rw [if_pos (by omega)]
            have HPK := Lib.hid hpk
            clear hpk
            generalize pref A (2 * m) k = pk at *
            generalize cntK A (2 * m) k = cv at *
            refine wp_region_along (fun w' => w'.cell? ⟨h, 0, none⟩ = some (.pointer (some ⟨gb, 0, none⟩)) ∧ w'.cell? ⟨gb, 3, none⟩ = some (.slice (some ⟨Z, 0, none⟩) (2 * n + 1) (2 * n + 1)) ∧ w'.cell? ⟨Z, k, none⟩ = some (.int .i64 pk)) [(0, true), (1, true), (2, true), (3, true), (4, true), (5, true), (6, true), (8, true), (9, true), (10, true), (11, true), (12, true), (13, true), (14, true), (7, false), (15, true), (16, true), (17, false)] (by kernel_rfl) (by kernel_rfl) ?_ ?_
            · exact ⟨(cell_in _ _ 0 _ _ _ hP.hh).trans rfl, (cell_in _ _ 3 _ _ _ hP.hg).trans rfl, ck⟩
            generalize wr.drew = wA at *
            have wr1 := IntWalk.i64_in ((k : Int) + 1) (by omega)
            have wr2 := IntWalk.i64_in ((cv : Int) + (pk : Int)) (by omega)
            have tn1 : ((k : Int) + 1).toNat = k + 1 := by omega
            have b1 : (k : Int) + 1 < 2 * (n : Int) + 1 := by omega
            have b2 : (0 : Int) ≤ (k : Int) + 1 := by omega
            have b3 : k < 2 * n + 1 := by omega
            have b4 : (k : Int) < 2 * (n : Int) + 1 := by omega
            repeat (first | (refine' along_take (by simp only [List.getElem?_cons_succ, List.getElem?_cons_zero]; rfl) (by rfl) ?_ ?_ ?_; rotate_left 2; (intro w' hS; go_simp; try rfl); (simp only [Act.put, List.setIfInBounds_toArray, List.set_cons_zero, List.set_cons_succ]; try rfl)) | (refine' along_skip (by simp only [List.getElem?_cons_succ, List.getElem?_cons_zero]; rfl) (by rfl) ?_ ?_; rotate_left 1; (simp only [Act.put, List.setIfInBounds_toArray, List.set_cons_zero, List.set_cons_succ]; try rfl)))
            (refine along_do (by simp only [List.getElem?_cons_succ, List.getElem?_cons_zero]; rfl) (by rfl) (fun K hK => ?_); go_simp)
            (refine hK _ _ ⟨(cell_in _ _ 0 _ _ _ hP.hh).trans rfl, (cell_in _ _ 3 _ _ _ hP.hg).trans rfl, ck⟩ ?_; clear hK K)
            repeat (first | (refine' along_take (by simp only [List.getElem?_cons_succ, List.getElem?_cons_zero]; rfl) (by rfl) ?_ ?_ ?_; rotate_left 2; (intro w' hS; go_simp; try rfl); (simp only [Act.put, List.setIfInBounds_toArray, List.set_cons_zero, List.set_cons_succ]; try rfl)) | (refine' along_skip (by simp only [List.getElem?_cons_succ, List.getElem?_cons_zero]; rfl) (by rfl) ?_ ?_; rotate_left 1; (simp only [Act.put, List.setIfInBounds_toArray, List.set_cons_zero, List.set_cons_succ]; try rfl)))
            have fz := frozen_in _ _ (k + 1) _ _ hP.hs
            have lz := lt_of_heap hP.hs
            (refine along_do (by simp only [List.getElem?_cons_succ, List.getElem?_cons_zero]; rfl) (by rfl) (fun K hK => ?_); go_simp)
            have hP := hP.set (k + 1) (cv + pk) (by omega) (by omega) (Nat.le_refl _) (by omega) (s' := midS A (2 * m) (k + 1)) (fun j _ => HST.out j)
            have ck : (World.setCell wA ⟨Z, k + 1, none⟩ (.int .i64 ((cv + pk : Nat) : Int))).cell? ⟨Z, k, none⟩ = some (.int .i64 pk) := by
              have q := hP.at k (by omega)
              rw [show midS A (2 * m) (k + 1) k = pk from HPK.out] at q
              exact q
            rw [show ((cv + pk : Nat) : Int) = (cv : Int) + (pk : Int) from by omega] at hP ck
            (refine hK _ _ ⟨(cell_in _ _ 0 _ _ _ hP.hh).trans rfl, (cell_in _ _ 3 _ _ _ hP.hg).trans rfl, ck⟩ ?_; clear hK K)
            clear cs fz lz wr1 wr2 HST
            generalize World.setCell wA _ _ = wB at *
            repeat (first | (refine' along_take (by simp only [List.getElem?_cons_succ, List.getElem?_cons_zero]; rfl) (by rfl) ?_ ?_ ?_; rotate_left 2; (intro w' hS; go_simp; try rfl); (simp only [Act.put, List.setIfInBounds_toArray, List.set_cons_zero, List.set_cons_succ]; try rfl)) | (refine' along_skip (by simp only [List.getElem?_cons_succ, List.getElem?_cons_zero]; rfl) (by rfl) ?_ ?_; rotate_left 1; (simp only [Act.put, List.setIfInBounds_toArray, List.set_cons_zero, List.set_cons_succ]; try rfl)))
            refine along_end ?_
            go_wp2_with fail
            go_roundw
            case rel => exact ⟨k + 1, by omega, by go_num, hP⟩
            case measure => simp [intOf]; omega
          · obtain rfl : k = 2 * n := by omega
            have zX : Z < wr.heap.size := lt_of_heap hP.hs
            have hs := (RowS.of_cells hP.hs).congr (s' := pref A (2 * m)) (fun j hj => by unfold midS; rw [if_pos (by omega)])
            have hh := hP.hh
            have hg := hP.hg
            have hA := hP.ha
            have ow := hP.ow
            have hpa := pref_all A (2 * m) (2 * n) HK.out
            clear hP
            obtain ⟨M, hM⟩ : ∃ M, M = 2 * m := ⟨_, rfl⟩
            have ck := hs.at (2 * n) (by omega)
            rw [hpa, ← hM] at ck
            clear hpa
            have b4 : M ≤ 80 := by omega
            have HM := Lib.hid hM
            clear hM
            have hmk := make_ints M (by omega)
            have wr1 := IntWalk.i64_in (2 * (n : Int)) (by omega)
            have tn1 : (2 * (n : Int)).toNat = 2 * n := by omega
            have b1 : 2 * (n : Int) < 2 * (n : Int) + 1 := by omega
            have b2 : (0 : Int) ≤ 2 * (n : Int) := by omega
            have b3 : 2 * n < 2 * n + 1 := by omega
            go_upto_region 16 with fail
            refine wp_region_along (fun w' => w'.cell? ⟨h, 0, none⟩ = some (.pointer (some ⟨gb, 0, none⟩)) ∧ w'.cell? ⟨gb, 3, none⟩ = some (.slice (some ⟨Z, 0, none⟩) (2 * n + 1) (2 * n + 1)) ∧ w'.cell? ⟨gb, 0, none⟩ = some (.int .i64 n) ∧ w'.cell? ⟨Z, 2 * n, none⟩ = some (.int .i64 M)) [(0, true), (1, true), (2, true), (3, true), (4, true), (5, true), (6, true), (7, true), (8, true), (9, true), (10, true), (11, true), (12, false), (13, true), (14, true), (15, false)] (by kernel_rfl) (by kernel_rfl) ?_ ?_
            · exact ⟨(cell_in _ _ 0 _ _ _ hh).trans rfl, (cell_in _ _ 3 _ _ _ hg).trans rfl, (cell_in _ _ 0 _ _ _ hg).trans rfl, ck⟩
            have oo : Only NoB wr wr.drew := (Only.refl _ _).drew
            have hh : wr.drew.heap[h]? = _ := hh
            have hg : wr.drew.heap[gb]? = _ := hg
            have hA := hA.kept oo (fun _ _ f => f)
            have hs := hs.kept oo (fun f => f)
            have ow : Only NoB w wr.drew := ow.drew
            have zX : Z < wr.drew.heap.size := zX
            have ck : wr.drew.cell? ⟨Z, 2 * n, none⟩ = some (.int .i64 M) := ck
            clear oo
            generalize wr.drew = Y at *
            repeat (first | (refine' along_take (by simp only [List.getElem?_cons_succ, List.getElem?_cons_zero]; rfl) (by rfl) ?_ ?_ ?_; rotate_left 2; (intro w' hS; go_simp; try rfl); (simp only [Act.put, List.setIfInBounds_toArray, List.set_cons_zero, List.set_cons_succ]; try rfl)) | (refine' along_skip (by simp only [List.getElem?_cons_succ, List.getElem?_cons_zero]; rfl) (by rfl) ?_ ?_; rotate_left 1; (simp only [Act.put, List.setIfInBounds_toArray, List.set_cons_zero, List.set_cons_succ]; try rfl)))
            (refine along_do (by simp only [List.getElem?_cons_succ, List.getElem?_cons_zero]; rfl) (by rfl) (fun K hK => ?_); go_simp)
            have hl := heap_alloc_new Y (.cells (cellsOf M (fun _ => 0)) 3)
            have zs : (Y.alloc (.cells (cellsOf M (fun _ => 0)) 3)).heap.size = Y.heap.size + 1 := by simp
            have oa : Only NoB Y (Y.alloc (.cells (cellsOf M (fun _ => 0)) 3)) := (Only.refl _ _).alloc _
            have hh := (oa.block _ (lt_of_heap hh) (fun f => f)).trans hh
            have hg := (oa.block _ (lt_of_heap hg) (fun f => f)).trans hg
            have hA := hA.kept oa (fun _ _ f => f)
            have hs := hs.kept oa (fun f => f)
            have ck := oa.cell ck (fun f => f)
            have ow := ow.trans oa
            refine hK _ _ ⟨(cell_in _ _ 0 _ _ _ hh).trans rfl, (cell_in _ _ 3 _ _ _ hg).trans rfl, (cell_in _ _ 0 _ _ _ hg).trans rfl, ck⟩ ?_
            clear hK K oa
            generalize hL : Y.heap.size = L at *
            generalize World.alloc Y _ = X at *
            repeat (first | (refine' along_take (by simp only [List.getElem?_cons_succ, List.getElem?_cons_zero]; rfl) (by rfl) ?_ ?_ ?_; rotate_left 2; (intro w' hS; go_simp; try rfl); (simp only [Act.put, List.setIfInBounds_toArray, List.set_cons_zero, List.set_cons_succ]; try rfl)) | (refine' along_skip (by simp only [List.getElem?_cons_succ, List.getElem?_cons_zero]; rfl) (by rfl) ?_ ?_; rotate_left 1; (simp only [Act.put, List.setIfInBounds_toArray, List.set_cons_zero, List.set_cons_succ]; try rfl)))
            have g2 := (cell_in _ _ 2 _ _ _ hg).trans rfl
            have fz := frozen_in _ _ 2 _ _ hg
            have lg := lt_of_heap hg
            (refine along_do (by simp only [List.getElem?_cons_succ, List.getElem?_cons_zero]; rfl) (by rfl) (fun K hK => ?_); go_simp)
            have oS : Only (B1 gb) X (X.setCell ⟨gb, 2, none⟩ (.slice (some ⟨L, 0, none⟩) M M)) := Only.setCell (S := B1 gb) (Only.refl _ _) (p := ⟨gb, 2, none⟩) (fun _ => by unfold B1; rfl) _
            have hg := heap_setCell_at X gb 2 (.slice (some ⟨L, 0, none⟩) M M) _ _ _ hg
            have hh := (oS.block h (lt_of_heap hh) (fun e => by unfold B1 at e; omega)).trans hh
            have hl := RowS.of_cells ((oS.block L (lt_of_heap hl) (fun e => by unfold B1 at e; omega)).trans hl)
            have hs := hs.kept oS (fun e => by unfold B1 at e; omega)
            have ck := oS.cell ck (fun e => by unfold B1 at e; omega)
            refine hK _ _ ⟨(cell_in _ _ 0 _ _ _ hh).trans rfl, (cell_in _ _ 3 _ _ _ hg).trans rfl, (cell_in _ _ 0 _ _ _ hg).trans rfl, ck⟩ ?_
            clear hK K ck hmk wr1 tn1 b1 b2 b3 g2 fz lg
            obtain rfl := HM.out
            have hP : Pq w (X.setCell ⟨gb, 2, none⟩ (.slice (some ⟨L, 0, none⟩) (2 * m) (2 * m))) h gb Z L n m a c A := ⟨hh, hg, hs, hA.kept oS (fun b hb e => by unfold B1 at e; exact hb.2.2.1 e), ow.then oS (fun i hi e => by unfold B1 at e; omega)⟩
            clear oS hg hh hs hA ow
            generalize World.setCell X _ _ = X2 at *
            repeat (first | (refine' along_take (by simp only [List.getElem?_cons_succ, List.getElem?_cons_zero]; rfl) (by rfl) ?_ ?_ ?_; rotate_left 2; (intro w' hS; go_simp; try rfl); (simp only [Act.put, List.setIfInBounds_toArray, List.set_cons_zero, List.set_cons_succ]; try rfl)) | (refine' along_skip (by simp only [List.getElem?_cons_succ, List.getElem?_cons_zero]; rfl) (by rfl) ?_ ?_; rotate_left 1; (simp only [Act.put, List.setIfInBounds_toArray, List.set_cons_zero, List.set_cons_succ]; try rfl)))
            refine along_end ?_
            have zL : L < X2.heap.size := hl.lt
            have zX : Z < L := by omega
            clear zs hL HM
            have c0 := (cell_in _ _ 0 _ _ _ hP.hh).trans rfl
            have c3 := (cell_in _ _ 3 _ _ _ hP.hg).trans rfl
            go_wp2_with fail
            refine (clone_row Z (2 * n + 1) (2 * n + 1) _ X2 hP.hs (by omega) (by omega)).mono ?_
            rintro e w5 ⟨⟨Nb, nc, rfl, hNb, hn8⟩, o5⟩
            clear c0 c3
            have hP := hP.kept o5 (fun _ _ f => f) (fun _ _ f => f)
            have hl := hl.kept o5 (fun f => f)
            clear o5
            have zN : Nb < w5.heap.size := hn8.lt
            have zL2 : L < Nb := by omega
            clear hNb zL
            generalize hQ : w5.heap.size = h8 at *
            go_upto_region 18 with fail
            have hb8 := heap_alloc_new w5 (.cells #[.slice (some ⟨Nb, 0, none⟩) (2 * n + 1) nc] 32)
            have oa : Only NoB w5 (w5.alloc (.cells #[.slice (some ⟨Nb, 0, none⟩) (2 * n + 1) nc] 32)) := (Only.refl _ _).alloc _
            have hP := hP.kept oa (fun _ _ f => f) (fun _ _ f => f)
            have hl := hl.kept oa (fun f => f)
            have hn8 := hn8.kept oa (fun f => f)
            rw [hQ] at hb8
            clear oa hQ
            generalize World.alloc w5 _ = w6 at *
            have c0 := (cell_in _ _ 0 _ _ _ hP.hh).trans rfl
            have c1 := (cell_in _ _ 1 _ _ _ hP.hg).trans rfl
            go_wp2_with fail
            clear c0 c1
            go_loopw [125] (fun t wr => ∃ i : Nat, i ≤ m ∧ t = .int .i64 i ∧ Pq w wr h gb Z L n m a c A ∧ RowS wr L (2 * m) (place A (2 * m) (2 * i)) ∧ RowS wr Nb (2 * n + 1) (nextS A (2 * m) (2 * i)) ∧ wr.heap[h8]? = some (.cells #[.slice (some ⟨Nb, 0, none⟩) (2 * n + 1) nc] 32 (0, 0))) (fun t _ => m - (intOf t).toNat)
            case atStart => exact ⟨0, Nat.zero_le _, rfl, hP, hl, by rw [nextS_zero]; exact hn8, hb8⟩
            case round =>
              clear hP hl hn8 hb8
              obtain ⟨i, hi, rfl, hP, hl, hn8, hb8⟩ := hrel
              have c0 := (cell_in _ _ 0 _ _ _ hP.hh).trans rfl
              by_cases lt : i < m
              · have lti : (i : Int) < m := by omega
                obtain ⟨q1, q2, q3, q4⟩ := HG.out i lt
                have AY := Lib.hid (arc_yes _ gb n m i c a A wr (lt_of_heap hP.hg) ((cell_in _ _ 0 _ _ _ hP.hg).trans rfl) ((cell_in _ _ 1 _ _ _ hP.hg).trans rfl) hP.ha lt hm q1 q2 q3 q4)
                have k1 := key_even A i
                have k2 := key_odd A i
                obtain ⟨kf, hkf⟩ : ∃ kf : Nat, (A i).f = kf := ⟨(A i).f.toNat, by omega⟩
                obtain ⟨kt, hkt⟩ : ∃ kt : Nat, (A i).t = kt := ⟨(A i).t.toNat, by omega⟩
                unfold A5.val at AY
                rw [hkf] at AY q1 q2 k1
                rw [hkt] at AY q3 q4 k2
                rw [Int.toNat_natCast] at k1 k2
                have KE1 := Lib.hid k1
                have KE2 := Lib.hid k2
                clear hkf hkt k1 k2
                generalize (A i).l = xl at *
                generalize (A i).c = xc at *
                generalize (A i).k = xk at *
                go_wp2_with fail
                refine AY.out.mono ?_
                rintro e w5 ⟨rfl, o5⟩
                clear AY c0
                have wr1 := IntWalk.i64_in (2 * (kf : Int)) (by omega)
                have wr2 := IntWalk.i64_in (2 * (kf : Int) + 0) (by omega)
                have wr3 := IntWalk.i64_in (2 * (kt : Int)) (by omega)
                have wr4 := IntWalk.i64_in (2 * (kt : Int) + 1) (by omega)
                go_upto_region 24 with fail
                have oA := o5.trans ((Only.refl _ _).alloc (.cells #[.int .i64 kf, .int .i64 kt, .int .i64 xl, .int .i64 xc, .int .i64 xk] 31))
                have l8 := lt_of_heap hb8
                have lN := hn8.lt
                have lL := hl.lt
                have hP := hP.kept oA (fun _ _ f => f) (fun _ _ f => f)
                have hl := hl.kept oA (fun f => f)
                have hn8 := hn8.kept oA (fun f => f)
                have hb8 := (oA.block h8 l8 (fun f => f)).trans hb8
                have hq := heap_alloc_new w5 (.cells #[.int .i64 kf, .int .i64 kt, .int .i64 xl, .int .i64 xc, .int .i64 xk] 31)
                have zq := o5.size
                generalize World.alloc w5 _ = wA at *
                generalize hQ : w5.heap.size = Q at *
                clear o5 oA hQ
                have cq := (cell_in _ _ 0 _ _ _ hq).trans rfl
                go_wp2_with fail
                refine (show Calls Try.prog 19 #[.int .i64 (2 * (kf : Int)), .int .i64 i, .pointer (some ⟨h, 0, none⟩), .pointer (some ⟨h8, 0, none⟩)] wA _ from by
                  have q := put_any h h8 gb L Nb n m (2 * kf) i (2 * m) nc (place A (2 * m) (2 * i)) (nextS A (2 * m) (2 * i)) wA ((cell_in _ _ 0 _ _ _ hP.hh).trans rfl) ((cell_in _ _ 2 _ _ _ hP.hg).trans rfl) (lt_of_heap hP.hg) ((cell_in _ _ 0 _ _ _ hb8).trans rfl) hl hn8 (by omega) (by omega) (by omega) (by omega) (by omega) (by rw [nextS_pos A (2 * m) (2 * i) (2 * kf) KE1.out]; exact pos_in A (2 * m) (2 * n) _ HK.out (by omega)) hm hn
                  rw [show ((2 * kf : Nat) : Int) = 2 * (kf : Int) from by omega] at q
                  exact q).mono ?_
                rintro e wB ⟨rfl, hl, hn8, oB⟩
                rw [nextS_pos A (2 * m) (2 * i) (2 * kf) KE1.out] at hl
                have hl := hl.congr (fun j _ => place_step A (2 * m) (2 * i) i (by omega) j)
                have hn8 := hn8.congr (fun j _ => nextS_step A (2 * m) (2 * i) (2 * kf) KE1.out j)
                have hP := hP.kept oB (fun k e q => by unfold B2 at q; omega) (fun k e q => by unfold B2 at q; omega)
                have hb8 := (oB.block h8 (lt_of_heap hb8) (fun q => by unfold B2 at q; omega)).trans hb8
                have zB := oB.size
                have hq := (oB.block Q (lt_of_heap hq) (fun q => by unfold B2 at q; omega)).trans hq
                clear oB cq
                have cq := (cell_in _ _ 1 _ _ _ hq).trans rfl
                go_wp2_with fail
                refine (show Calls Try.prog 19 #[.int .i64 (2 * (kt : Int) + 1), .int .i64 i, .pointer (some ⟨h, 0, none⟩), .pointer (some ⟨h8, 0, none⟩)] wB _ from by
                  have q := put_any h h8 gb L Nb n m (2 * kt + 1) i (2 * m) nc (place A (2 * m) (2 * i + 1)) (nextS A (2 * m) (2 * i + 1)) wB ((cell_in _ _ 0 _ _ _ hP.hh).trans rfl) ((cell_in _ _ 2 _ _ _ hP.hg).trans rfl) (lt_of_heap hP.hg) ((cell_in _ _ 0 _ _ _ hb8).trans rfl) hl hn8 (by omega) (by omega) (by omega) (by omega) (by omega) (by rw [nextS_pos A (2 * m) (2 * i + 1) (2 * kt + 1) KE2.out]; exact pos_in A (2 * m) (2 * n) _ HK.out (by omega)) hm hn
                  rw [show ((2 * kt + 1 : Nat) : Int) = 2 * (kt : Int) + 1 from by omega] at q
                  exact q).mono ?_
                rintro e wC ⟨rfl, hl, hn8, oB⟩
                rw [nextS_pos A (2 * m) (2 * i + 1) (2 * kt + 1) KE2.out] at hl
                have hl := hl.congr (fun j _ => place_step A (2 * m) (2 * i + 1) i (by omega) j)
                have hn8 := hn8.congr (fun j _ => nextS_step A (2 * m) (2 * i + 1) (2 * kt + 1) KE2.out j)
                have hP := hP.kept oB (fun k e q => by unfold B2 at q; omega) (fun k e q => by unfold B2 at q; omega)
                have hb8 := (oB.block h8 (lt_of_heap hb8) (fun q => by unfold B2 at q; omega)).trans hb8
                have zB := oB.size
                clear oB cq
                go_wp2_with fail
                go_roundw
                case rel => exact ⟨i + 1, by omega, by go_num, hP, by rw [show 2 * (i + 1) = 2 * i + 1 + 1 by omega]; exact hl, by rw [show 2 * (i + 1) = 2 * i + 1 + 1 by omega]; exact hn8, hb8⟩
                case measure => simp [intOf]; omega
              · obtain rfl : m = i := by omega
                go_wp2_with fail
                go_ret
                exact ⟨⟨gb, rfl, ⟨hn, hm⟩, HG.out, ⟨k2, lt_of_heap hP.hg⟩, a, c, L, 2 * m, Z, 2 * n + 1, hP.hg, ⟨by omega, hl.lt⟩, ⟨by omega, hP.hs.lt⟩, ⟨Nat.le_refl _, hl.lt⟩, hP.ha.lt.mono (fun b hb => ⟨hb.1.1, hb.2⟩), hl.at, hP.hs.at⟩, hP.ow⟩
end Go.Proofs.Ytgaekihcfcoaeaa
