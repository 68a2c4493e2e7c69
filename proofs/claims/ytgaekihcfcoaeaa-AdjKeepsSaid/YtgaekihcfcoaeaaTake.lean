/-
  THE WALKS of inst.take and inst.Copy.
-/
import Derived.Test.YtgaekihcfcoaeaaGraph
import Derived.Maps.AppendAt
set_option linter.unusedVariables false
set_option linter.unusedSimpArgs false
namespace Go.Proofs.Ytgaekihcfcoaeaa
open Go.RowKit

theorem info2 : (Try.prog.info? 2).map (fun i => (i.zero, i.size, i.bytes)) = some (some (.int .i64 0), 1, 8) := by kernel_rfl
theorem info31 : (Try.prog.info? 31).map (fun i => (i.zero, i.size, i.bytes)) = some (some (.agg #[.int .i64 0, .int .i64 0, .int .i64 0, .int .i64 0, .int .i64 0]), 5, 40) := by kernel_rfl

theorem yes26 (z : Int) (w : World) : Calls Try.prog 26 #[.int .i64 z] w fun e w' => e = .returned (.bool true) ∧ w' = w := by
  go_enter Try.func26, Try.ntmps26
  go_wp2_with fail
  go_ret
  exact ⟨rfl, rfl⟩
theorem yes28 (x : A5) (w : World) : Calls Try.prog 28 #[x.val] w fun e w' => e = .returned (.bool true) ∧ Only NoB w w' := by
  unfold A5.val
  go_enter Try.func28, Try.ntmps28
  go_wp2_with fail
  go_ret
  exact ⟨rfl, (Only.refl _ _).alloc _⟩

set_option maxHeartbeats 1000000 in
theorem take_ints (a : Option Addr) (n cap : Nat) (f : Nat → Int) (hn : n ≤ 20) (w : World) (h : 0 < n → ∃ b o, a = some ⟨b, o, none⟩ ∧ ∀ j, j < n → w.cell? ⟨b, o + j, none⟩ = some (.int .i64 (f j))) :
    Calls Try.prog 25 #[.slice a n cap, .func (.func 26) #[] #[]] w fun e w' => (∃ a c, e = .returned (.slice a n c)) ∧ Only NoB w w' := by
  obtain ⟨i0, hi, hz0, hz1, hz2⟩ := info_parts info2
  have HC := Lib.hid h
  clear h
  go_enter Try.func25, Try.ntmps25
  go_wp2_with fail
  go_loopw [5, 10] (fun v s wr => ∃ (k : Nat) (xs : List Value), k ≤ n ∧ s = .int .i64 k ∧ wr.ownsRow w.heap.size 2 1 v k xs ∧ Only NoB w wr) (fun _ s _ => n - (intOf s).toNat)
  case atStart => exact ⟨0, [], Nat.zero_le _, rfl, World.ownsRow_nil _ _ _ _, Only.refl _ _⟩
  case round =>
    obtain ⟨k, xs, hk, rfl, hrow, oo⟩ := hrel
    by_cases lt : k < n
    · have lti : (k : Int) < n := by omega
      obtain ⟨b, o, rfl, hc⟩ := HC.out (by omega)
      have ck := oo.cell (hc k lt) (fun f => f)
      have hz := oo.size
      have hxl := hrow.1
      clear hc
      generalize f k = z at *
      go_wp2_with (first | (go_at_call 26; refine (yes26 _ _).mono ?_; rintro e w' ⟨rfl, rfl⟩) | (at_builtin; refine wpList_append_own_at _ rfl _ _ 23 rfl w.heap.size 2 i0 (.int .i64 0) 1 8 Try.underlying23 hi hz0 hz1 hz2 rfl (by decide) _ _ _ rfl (hrow.alloc _) ⟨w'.heap.size, 0, none⟩ 1 1 [.int .i64 z] rfl rfl (cell_one_new _ _ _) (by simp [Value.oneCell']) (by unfold maxLen; omega) (by omega) (by simp; omega) ?_; intro v' w2 hown' hgrow hnil hloc))
      go_roundw
      case rel => exact ⟨k + 1, _, by omega, by go_num, hown', (oo.alloc _).grown hgrow (fun q hq e => absurd (hrow.lt q e).1 (by omega))⟩
      case measure => simp [intOf]; omega
    · obtain rfl : n = k := by omega
      have hsl : ∃ a c, u5 = .slice a n c := by
        rcases hrow.2 with ⟨rfl, h0⟩ | ⟨g, cap, cur, rfl, _⟩
        · exact ⟨none, 0, by rw [h0]⟩
        · exact ⟨_, _, rfl⟩
      obtain ⟨ua, uc, rfl⟩ := hsl
      go_wp2_with fail
      go_ret
      exact ⟨⟨_, _, rfl⟩, oo⟩

/-- m arcs' cells -/
def arcCells (A : Nat → A5) (m : Nat) : List Value := (List.range m).flatMap fun j => [.int .i64 (A j).f, .int .i64 (A j).t, .int .i64 (A j).l, .int .i64 (A j).c, .int .i64 (A j).k]
theorem arcCells_succ (A : Nat → A5) (m : Nat) : arcCells A (m + 1) = arcCells A m ++ [.int .i64 (A m).f, .int .i64 (A m).t, .int .i64 (A m).l, .int .i64 (A m).c, .int .i64 (A m).k] := by
  unfold arcCells
  rw [List.range_succ, List.flatMap_append]
  simp
theorem arcCells_len (A : Nat → A5) (m : Nat) : (arcCells A m).length = m * 5 := by
  induction m with
  | zero => rfl
  | succ m ih => rw [arcCells_succ, List.length_append, ih]; simp; omega
theorem arcCells_get (A : Nat → A5) (m j : Nat) (h : j < m) : (arcCells A m)[j * 5]? = some (.int .i64 (A j).f) ∧ (arcCells A m)[j * 5 + 1]? = some (.int .i64 (A j).t) ∧ (arcCells A m)[j * 5 + 2]? = some (.int .i64 (A j).l) ∧ (arcCells A m)[j * 5 + 3]? = some (.int .i64 (A j).c) ∧ (arcCells A m)[j * 5 + 4]? = some (.int .i64 (A j).k) := by
  induction m with
  | zero => omega
  | succ m ih =>
    have hl := arcCells_len A m
    rw [arcCells_succ]
    by_cases e : j < m
    · obtain ⟨h0, h1, h2, h3, h4⟩ := ih e
      exact ⟨by rw [List.getElem?_append_left (by omega)]; exact h0, by rw [List.getElem?_append_left (by omega)]; exact h1, by rw [List.getElem?_append_left (by omega)]; exact h2, by rw [List.getElem?_append_left (by omega)]; exact h3, by rw [List.getElem?_append_left (by omega)]; exact h4⟩
    · obtain rfl : j = m := by omega
      refine ⟨?_, ?_, ?_, ?_, ?_⟩ <;> (rw [List.getElem?_append_right (by omega), hl]; simp)
theorem arcs_of_row {w : World} {base m : Nat} {v : Value} {A : Nat → A5} (h : w.ownsRow base 31 5 v m (arcCells A m)) : ∃ a c, v = .slice a m c ∧ ArcsAt (fun k => base ≤ k) w a m A := by
  rcases h.2 with ⟨rfl, h0⟩ | ⟨g, cap, cur, rfl, hg, hb, _, _, _, ht⟩
  · exact ⟨none, 0, by rw [h0], fun h1 => by omega⟩
  · refine ⟨_, cap, rfl, fun _ => ⟨g, 0, rfl, hg, fun j hj => ?_⟩⟩
    obtain ⟨q0, q1, q2, q3, q4⟩ := arcCells_get A m j hj
    have key : ∀ i x, i < m * 5 → (arcCells A m)[i]? = some x → w.cell? ⟨g, 0 + i, none⟩ = some x := fun i x hi hx => by
      rw [cell_in _ _ _ _ _ _ hb, ← Array.getElem?_toList, Nat.zero_add, ← hx, ← ht, List.getElem?_take_of_lt hi]
    exact ⟨key _ _ (by omega) q0, key _ _ (by omega) q1, key _ _ (by omega) q2, key _ _ (by omega) q3, key _ _ (by omega) q4⟩
theorem own_only {w w' : World} {base : Nat} {e : TypeId} {size : Nat} {S : Nat → Prop} {v : Value} {n : Nat} {xs : List Value} (h : w.ownsRow base e size v n xs) (o : Only S w w') (hs : ∀ i, base ≤ i → i < w.heap.size → ¬ S i) : w'.ownsRow base e size v n xs := by
  refine ⟨h.1, ?_⟩
  rcases h.2 with hn | ⟨g, cap, cur, rfl, hg, hh, rest⟩
  · exact .inl hn
  · exact .inr ⟨g, cap, cur, rfl, hg, by rw [o.block g (lt_of_heap hh) (hs g hg (lt_of_heap hh))]; exact hh, rest⟩
theorem five_new (w : World) (x0 x1 x2 x3 x4 : Value) (t : TypeId) : ∀ j u, [x0, x1, x2, x3, x4][j]? = some u → (w.alloc (.cells #[x0, x1, x2, x3, x4] t)).cell? ((⟨w.heap.size, 0, none⟩ : Addr).add j) = some u := by
  intro j u hj
  match j, hj with
  | 0, hj => simp at hj; subst hj; simp [Addr.add]
  | 1, hj => simp at hj; subst hj; simp [Addr.add]
  | 2, hj => simp at hj; subst hj; simp [Addr.add]
  | 3, hj => simp at hj; subst hj; simp [Addr.add]
  | 4, hj => simp at hj; subst hj; simp [Addr.add]
  | j + 5, hj => simp at hj

set_option maxRecDepth 20000 in
set_option maxHeartbeats 2000000 in
theorem take_arcs (p : Nat → Prop) (a : Option Addr) (m cap : Nat) (A : Nat → A5) (hm : m ≤ 40) (w : World) (h : ArcsAt p w a m A) :
    Calls Try.prog 27 #[.slice a m cap, .func (.func 28) #[] #[]] w fun e w' => (∃ a c, e = .returned (.slice a m c) ∧ ArcsAt (fun k => w.heap.size ≤ k) w' a m A) ∧ Only NoB w w' := by
  obtain ⟨i0, hi, hz0, hz1, hz2⟩ := info_parts info31
  have HC := Lib.hid h
  clear h
  go_enter Try.func27, Try.ntmps27
  go_wp2_with fail
  go_loopw [5, 10] (fun v s wr => ∃ (k : Nat), k ≤ m ∧ s = .int .i64 k ∧ wr.ownsRow w.heap.size 31 5 v k (arcCells A k) ∧ Only NoB w wr) (fun _ s _ => m - (intOf s).toNat)
  case atStart => exact ⟨0, Nat.zero_le _, rfl, World.ownsRow_nil _ _ _ _, Only.refl _ _⟩
  case round =>
    obtain ⟨k, hk, rfl, hrow, oo⟩ := hrel
    by_cases lt : k < m
    · have lti : (k : Int) < m := by omega
      obtain ⟨b, o, rfl, _, hc⟩ := HC.out (by omega)
      obtain ⟨x0, x1, x2, x3, x4⟩ := (hc k lt).kept oo (fun f => f)
      have lb := World.block_lt_of_cell? _ _ x0
      have hz := oo.size
      have Y8 := Lib.hid (fun w => yes28 (A k) w)
      have hsc := arcCells_succ A k
      have HS := Lib.hid hsc
      unfold A5.val at Y8
      clear hc hsc
      generalize (A k).f = xf at *
      generalize (A k).t = xt at *
      generalize (A k).l = xl at *
      generalize (A k).c = xc at *
      generalize (A k).k = xk at *
      go_wp2_with fail
      have oa : Only NoB wr (wr.alloc (.cells #[.int .i64 xf, .int .i64 xt, .int .i64 xl, .int .i64 xc, .int .i64 xk] 31)) := (Only.refl _ _).alloc _
      have hb := heap_alloc_new wr (.cells #[.int .i64 xf, .int .i64 xt, .int .i64 xl, .int .i64 xc, .int .i64 xk] 31)
      have za : (wr.alloc (.cells #[.int .i64 xf, .int .i64 xt, .int .i64 xl, .int .i64 xc, .int .i64 xk] 31)).heap.size = wr.heap.size + 1 := by simp
      generalize World.alloc wr _ = wa at *
      refine (Y8.out _).mono ?_
      rintro e w1 ⟨rfl, o1⟩
      have hb := (o1.block wr.heap.size (by omega) (fun f => f)).trans hb
      have hrow1 := own_only (own_only hrow oa (fun _ _ _ f => f)) o1 (fun _ _ _ f => f)
      have oo1 := (oo.trans oa).trans o1
      have z1 := o1.size
      have d0 := (cell_in _ _ 0 _ _ _ hb).trans rfl
      have d1 := (cell_in _ _ 1 _ _ _ hb).trans rfl
      have d2 := (cell_in _ _ 2 _ _ _ hb).trans rfl
      have d3 := (cell_in _ _ 3 _ _ _ hb).trans rfl
      have d4 := (cell_in _ _ 4 _ _ _ hb).trans rfl
      clear x0 x1 x2 x3 x4 hb oa o1
      go_wp2_with (at_builtin; refine wpList_append_own_at _ rfl _ _ 24 rfl w.heap.size 31 i0 _ 5 40 Try.underlying24 hi hz0 hz1 hz2 rfl (by decide) _ _ _ rfl (hrow1.alloc _) ⟨w1.heap.size, 0, none⟩ 1 1 [.int .i64 xf, .int .i64 xt, .int .i64 xl, .int .i64 xc, .int .i64 xk] rfl rfl (five_new _ _ _ _ _ _ _) (by simp [Value.oneCell']) (by unfold maxLen; omega) (by omega) (by simp; omega) ?_; intro v' w2 hown' hgrow hnil hloc)
      go_roundw
      case rel => exact ⟨k + 1, by omega, by go_num, by rw [HS.out]; exact hown', (oo1.alloc _).grown hgrow (fun q hq e => absurd (hrow1.lt q e).1 (by omega))⟩
      case measure => simp [intOf]; omega
    · obtain rfl : m = k := by omega
      obtain ⟨ua, uc, rfl, hA⟩ := arcs_of_row hrow
      go_wp2_with fail
      go_ret
      exact ⟨⟨_, _, rfl, hA⟩, oo⟩
end Go.Proofs.Ytgaekihcfcoaeaa
