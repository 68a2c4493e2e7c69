/-
  THE WALKS of quittanceref04.fit, some, Out and At (of arcs that are all between nodes).
-/
import Derived.Test.YtgaekihcfcoaeaaRowsThree
set_option linter.unusedVariables false
set_option linter.unusedSimpArgs false
namespace Go.Proofs.Ytgaekihcfcoaeaa
open Go.RowKit

theorem outs_succ (A : Nat → A5) (m k : Nat) : outs A (m + 1) k = outs A m k ++ if (A m).f == (k : Int) then [(m : Int)] else [] := by
  unfold outs
  exact filter_snoc _ _ m (fun _ _ => rfl)
theorem touch_succ (A : Nat → A5) (m k : Nat) : touch A (m + 1) k = touch A m k ++ if (A m).f == (k : Int) || (A m).t == (k : Int) then [(m : Int)] else [] := by
  unfold touch
  exact filter_snoc _ _ m (fun _ _ => rfl)

set_option maxRecDepth 20000 in
set_option maxHeartbeats 1000000 in
theorem fit_yes (p : Nat → Prop) (sa aa : Option Addr) (n m j sc ac : Nat) (A : Nat → A5) (w : World) (ha : ArcsAt p w aa m A) (hj : j < m) (hm : m ≤ 40) (g : 0 ≤ (A j).f ∧ (A j).f < n ∧ 0 ≤ (A j).t ∧ (A j).t < n) :
    Calls Try.prog 30 #[.agg #[.slice sa n sc, .slice aa m ac], .int .i64 j] w fun e w' => e = .returned (.bool true) ∧ Only NoB w w' := by
  obtain ⟨b, o, rfl, _, hx⟩ := ha (by omega)
  obtain ⟨x0, x1, x2, x3, x4⟩ := hx j hj
  obtain ⟨g1, g2, g3, g4⟩ := g
  generalize (A j).f = xf at *
  generalize (A j).t = xt at *
  generalize (A j).l = xl at *
  generalize (A j).c = xc at *
  generalize (A j).k = xk at *
  clear hx ha
  have lb := World.block_lt_of_cell? _ _ x0
  have lti : (j : Int) < m := by omega
  have j0 : (0 : Int) ≤ j := Int.natCast_nonneg _
  have d1 : decide ((j : Int) < 0) = false := decide_eq_false (by omega)
  have d2 : decide ((m : Int) ≤ j) = false := decide_eq_false (by omega)
  have d3 : decide (0 ≤ xf) = true := decide_eq_true g1
  have d4 : decide (xf < (n : Int)) = true := decide_eq_true g2
  have d5 : decide (0 ≤ xt) = true := decide_eq_true g3
  have d6 : decide (xt < (n : Int)) = true := decide_eq_true g4
  go_enter Try.func30, Try.ntmps30
  go_wp2_with fail
  go_ret
  exact ⟨rfl, ((Only.refl _ _).alloc _).alloc _⟩

set_option maxRecDepth 20000 in
set_option maxHeartbeats 2000000 in
theorem some_out (p : Nat → Prop) (sa aa : Option Addr) (n m k sc ac : Nat) (A : Nat → A5) (w : World) (ha : ArcsAt p w aa m A) (hm : m ≤ 40) (hg : ∀ j, j < m → 0 ≤ (A j).f ∧ (A j).f < n ∧ 0 ≤ (A j).t ∧ (A j).t < n) :
    Calls Try.prog 23 #[.agg #[.slice sa n sc, .slice aa m ac], .int .i64 k, .bool true, .bool false] w fun e w' => (∃ v, e = .returned v ∧ w'.ownsRow w.heap.size 3 1 v (outs A m k).length ((outs A m k).map (Value.int .i64))) ∧ Only NoB w w' := by
  obtain ⟨i0, hi, hz0, hz1, hz2⟩ := info_parts info3
  have HF : Hid (∀ W j, Only NoB w W → j < m → Calls Try.prog 30 #[.agg #[.slice sa n sc, .slice aa m ac], .int .i64 j] W fun e w' => e = .returned (.bool true) ∧ Only NoB W w') := fun W j o hj => fit_yes p sa aa n m j sc ac A W (ha.kept o (fun _ _ f => f)) hj hm (hg j hj)
  have HA := Lib.hid ha
  have HLn : Hid (∀ q, (outs A q k).length ≤ q) := fun q => outs_len A q k
  clear ha hg
  go_enter Try.func23, Try.ntmps23
  go_wp2_with fail
  have hb := heap_alloc_new w (.cells #[.slice sa n sc, .slice aa m ac] 26)
  have ow : Only NoB w (w.alloc (.cells #[.slice sa n sc, .slice aa m ac] 26)) := (Only.refl _ _).alloc _
  have zw : w.heap.size < (w.alloc (.cells #[.slice sa n sc, .slice aa m ac] 26)).heap.size := by simp
  generalize World.alloc w _ = W at *
  generalize hB : w.heap.size = B at *
  go_loopw [9, 10] (fun v s wr => ∃ q : Nat, q ≤ m ∧ s = .int .i64 q ∧ wr.ownsRow (B + 1) 3 1 v (outs A q k).length ((outs A q k).map (Value.int .i64)) ∧ wr.heap[B]? = some (.cells #[.slice sa n sc, .slice aa m ac] 26 (0, 0)) ∧ Only NoB w wr) (fun _ s _ => m - (intOf s).toNat)
  case atStart => exact ⟨0, Nat.zero_le _, rfl, World.ownsRow_nil _ _ _ _, hb, ow⟩
  case round =>
    clear hb ow zw
    obtain ⟨q, hq, rfl, hrow, hb, oo⟩ := hrel
    have c0 := (cell_in _ _ 0 _ _ _ hb).trans rfl
    have c1 := (cell_in _ _ 1 _ _ _ hb).trans rfl
    by_cases lt : q < m
    · have lti : (q : Int) < m := by omega
      have q0 : (0 : Int) ≤ q := by omega
      have hs := Lib.hid (outs_succ A q k)
      have ln := HLn.out q
      go_wp2_with fail
      refine (HF.out wr q oo lt).mono ?_
      rintro e w1 ⟨rfl, o1⟩
      have hrow := own_block hrow o1 (fun _ _ f => f)
      have hb := (o1.block B (lt_of_heap hb) (fun f => f)).trans hb
      have oo := oo.trans o1
      clear o1 c0 c1
      obtain ⟨b, o, rfl, _, hc⟩ := HA.out.kept oo (fun _ _ f => f) (by omega)
      obtain ⟨x0, x1, x2, x3, x4⟩ := hc q lt
      clear hc x2 x3 x4
      have lb := World.block_lt_of_cell? _ _ x0
      have zB := lt_of_heap hb
      generalize (A q).f = xf at *
      generalize (A q).t = xt at *
      have c0 := (cell_in _ _ 0 _ _ _ hb).trans rfl
      have c1 := (cell_in _ _ 1 _ _ _ hb).trans rfl
      by_cases e1 : xf = k
      · have t1 : (xf == (k : Int)) = true := by simpa using e1
        have HS := hs.out
        have HT : Hid ((xf == (k : Int)) = true) := t1
        rw [if_pos HT.out] at HS
        go_wp2_with (at_builtin; refine wpList_append_own_at _ rfl _ _ 32 rfl (B + 1) 3 i0 (.int .i64 0) 1 8 Try.underlying32 hi hz0 hz1 hz2 rfl (by decide) _ _ _ rfl (hrow.alloc _) ⟨w1.heap.size, 0, none⟩ 1 1 [.int .i64 q] rfl rfl (cell_one_new _ _ _) (by simp [Value.oneCell']) (by unfold maxLen; omega) (by omega) (by simp; omega) ?_; intro v' w2 hown' hgrow hnil hloc)
        go_roundw
        case rel => exact ⟨q + 1, by omega, by go_num, by rw [HS]; simpa using hown', ((((Only.refl (fun g => B + 1 ≤ g) w1).alloc (.cells #[.int .i64 q] 3)).grown hgrow (fun g _ e => (hrow.lt g e).1)).block B zB (fun e => by omega)).trans hb, (oo.alloc _).grown hgrow (fun g hg e => absurd (hrow.lt g e).1 (by omega))⟩
        case measure => simp [intOf]; omega
      · have t1 : (xf == (k : Int)) = false := by simpa using e1
        have HS := hs.out
        have HT : Hid (¬ (xf == (k : Int)) = true) := by rw [t1]; exact Bool.false_ne_true
        rw [if_neg HT.out, List.append_nil] at HS
        go_wp2_with fail
        go_roundw
        case rel => exact ⟨q + 1, by omega, by go_num, by rw [HS]; exact hrow, hb, oo⟩
        case measure => simp [intOf]; omega
    · obtain rfl : m = q := by omega
      go_wp2_with fail
      go_ret
      subst hB
      exact ⟨⟨_, rfl, own_mono hrow (Nat.le_succ _)⟩, oo⟩

set_option maxRecDepth 20000 in
set_option maxHeartbeats 2000000 in
theorem some_at (p : Nat → Prop) (sa aa : Option Addr) (n m k sc ac : Nat) (A : Nat → A5) (w : World) (ha : ArcsAt p w aa m A) (hm : m ≤ 40) (hg : ∀ j, j < m → 0 ≤ (A j).f ∧ (A j).f < n ∧ 0 ≤ (A j).t ∧ (A j).t < n) :
    Calls Try.prog 23 #[.agg #[.slice sa n sc, .slice aa m ac], .int .i64 k, .bool true, .bool true] w fun e w' => (∃ v, e = .returned v ∧ w'.ownsRow w.heap.size 3 1 v (touch A m k).length ((touch A m k).map (Value.int .i64))) ∧ Only NoB w w' := by
  obtain ⟨i0, hi, hz0, hz1, hz2⟩ := info_parts info3
  have HF : Hid (∀ W j, Only NoB w W → j < m → Calls Try.prog 30 #[.agg #[.slice sa n sc, .slice aa m ac], .int .i64 j] W fun e w' => e = .returned (.bool true) ∧ Only NoB W w') := fun W j o hj => fit_yes p sa aa n m j sc ac A W (ha.kept o (fun _ _ f => f)) hj hm (hg j hj)
  have HA := Lib.hid ha
  have HLn : Hid (∀ q, (touch A q k).length ≤ q) := fun q => touch_len A q k
  clear ha hg
  go_enter Try.func23, Try.ntmps23
  go_wp2_with fail
  have hb := heap_alloc_new w (.cells #[.slice sa n sc, .slice aa m ac] 26)
  have ow : Only NoB w (w.alloc (.cells #[.slice sa n sc, .slice aa m ac] 26)) := (Only.refl _ _).alloc _
  have zw : w.heap.size < (w.alloc (.cells #[.slice sa n sc, .slice aa m ac] 26)).heap.size := by simp
  generalize World.alloc w _ = W at *
  generalize hB : w.heap.size = B at *
  go_loopw [9, 10] (fun v s wr => ∃ q : Nat, q ≤ m ∧ s = .int .i64 q ∧ wr.ownsRow (B + 1) 3 1 v (touch A q k).length ((touch A q k).map (Value.int .i64)) ∧ wr.heap[B]? = some (.cells #[.slice sa n sc, .slice aa m ac] 26 (0, 0)) ∧ Only NoB w wr) (fun _ s _ => m - (intOf s).toNat)
  case atStart => exact ⟨0, Nat.zero_le _, rfl, World.ownsRow_nil _ _ _ _, hb, ow⟩
  case round =>
    clear hb ow zw
    obtain ⟨q, hq, rfl, hrow, hb, oo⟩ := hrel
    have c0 := (cell_in _ _ 0 _ _ _ hb).trans rfl
    have c1 := (cell_in _ _ 1 _ _ _ hb).trans rfl
    by_cases lt : q < m
    · have lti : (q : Int) < m := by omega
      have q0 : (0 : Int) ≤ q := by omega
      have hs := Lib.hid (touch_succ A q k)
      have ln := HLn.out q
      go_wp2_with fail
      refine (HF.out wr q oo lt).mono ?_
      rintro e w1 ⟨rfl, o1⟩
      have hrow := own_block hrow o1 (fun _ _ f => f)
      have hb := (o1.block B (lt_of_heap hb) (fun f => f)).trans hb
      have oo := oo.trans o1
      clear o1 c0 c1
      obtain ⟨b, o, rfl, _, hc⟩ := HA.out.kept oo (fun _ _ f => f) (by omega)
      obtain ⟨x0, x1, x2, x3, x4⟩ := hc q lt
      clear hc x2 x3 x4
      have lb := World.block_lt_of_cell? _ _ x0
      have zB := lt_of_heap hb
      generalize (A q).f = xf at *
      generalize (A q).t = xt at *
      have c0 := (cell_in _ _ 0 _ _ _ hb).trans rfl
      have c1 := (cell_in _ _ 1 _ _ _ hb).trans rfl
      by_cases e1 : xf = k
      · have t1 : (xf == (k : Int)) = true := by simpa using e1
        have HS := hs.out
        have HT : Hid ((xf == (k : Int) || xt == (k : Int)) = true) := by rw [t1]; rfl
        rw [if_pos HT.out] at HS
        go_wp2_with (at_builtin; refine wpList_append_own_at _ rfl _ _ 32 rfl (B + 1) 3 i0 (.int .i64 0) 1 8 Try.underlying32 hi hz0 hz1 hz2 rfl (by decide) _ _ _ rfl (hrow.alloc _) ⟨w1.heap.size, 0, none⟩ 1 1 [.int .i64 q] rfl rfl (cell_one_new _ _ _) (by simp [Value.oneCell']) (by unfold maxLen; omega) (by omega) (by simp; omega) ?_; intro v' w2 hown' hgrow hnil hloc)
        go_roundw
        case rel => exact ⟨q + 1, by omega, by go_num, by rw [HS]; simpa using hown', ((((Only.refl (fun g => B + 1 ≤ g) w1).alloc (.cells #[.int .i64 q] 3)).grown hgrow (fun g _ e => (hrow.lt g e).1)).block B zB (fun e => by omega)).trans hb, (oo.alloc _).grown hgrow (fun g hg e => absurd (hrow.lt g e).1 (by omega))⟩
        case measure => simp [intOf]; omega
      · have t1 : (xf == (k : Int)) = false := by simpa using e1
        by_cases e2 : xt = k
        · have t2 : (xt == (k : Int)) = true := by simpa using e2
          have HS := hs.out
          have HT : Hid ((xf == (k : Int) || xt == (k : Int)) = true) := by rw [t1, t2]; rfl
          rw [if_pos HT.out] at HS
          go_wp2_with (at_builtin; refine wpList_append_own_at _ rfl _ _ 32 rfl (B + 1) 3 i0 (.int .i64 0) 1 8 Try.underlying32 hi hz0 hz1 hz2 rfl (by decide) _ _ _ rfl (hrow.alloc _) ⟨w1.heap.size, 0, none⟩ 1 1 [.int .i64 q] rfl rfl (cell_one_new _ _ _) (by simp [Value.oneCell']) (by unfold maxLen; omega) (by omega) (by simp; omega) ?_; intro v' w2 hown' hgrow hnil hloc)
          go_roundw
          case rel => exact ⟨q + 1, by omega, by go_num, by rw [HS]; simpa using hown', ((((Only.refl (fun g => B + 1 ≤ g) w1).alloc (.cells #[.int .i64 q] 3)).grown hgrow (fun g _ e => (hrow.lt g e).1)).block B zB (fun e => by omega)).trans hb, (oo.alloc _).grown hgrow (fun g hg e => absurd (hrow.lt g e).1 (by omega))⟩
          case measure => simp [intOf]; omega
        · have t2 : (xt == (k : Int)) = false := by simpa using e2
          have HS := hs.out
          have HT : Hid (¬ (xf == (k : Int) || xt == (k : Int)) = true) := by rw [t1, t2]; exact Bool.false_ne_true
          rw [if_neg HT.out, List.append_nil] at HS
          go_wp2_with fail
          go_roundw
          case rel => exact ⟨q + 1, by omega, by go_num, by rw [HS]; exact hrow, hb, oo⟩
          case measure => simp [intOf]; omega
    · obtain rfl : m = q := by omega
      go_wp2_with fail
      go_ret
      subst hB
      exact ⟨⟨_, rfl, own_mono hrow (Nat.le_succ _)⟩, oo⟩

set_option maxHeartbeats 1000000 in
theorem refout_any (p : Nat → Prop) (sa aa : Option Addr) (n m k sc ac : Nat) (A : Nat → A5) (w : World) (ha : ArcsAt p w aa m A) (hm : m ≤ 40) (hg : ∀ j, j < m → 0 ≤ (A j).f ∧ (A j).f < n ∧ 0 ≤ (A j).t ∧ (A j).t < n) :
    Calls Try.prog 11 #[.agg #[.slice sa n sc, .slice aa m ac], .int .i64 k] w fun e w' => (∃ v, e = .returned v ∧ w'.ownsRow w.heap.size 3 1 v (outs A m k).length ((outs A m k).map (Value.int .i64))) ∧ Only NoB w w' := by
  have HF : Hid (∀ W, Only NoB w W → Calls Try.prog 23 #[.agg #[.slice sa n sc, .slice aa m ac], .int .i64 k, .bool true, .bool false] W fun e w' => (∃ v, e = .returned v ∧ w'.ownsRow W.heap.size 3 1 v (outs A m k).length ((outs A m k).map (Value.int .i64))) ∧ Only NoB W w') := fun W o => some_out p sa aa n m k sc ac A W (ha.kept o (fun _ _ f => f)) hm hg
  clear ha hg
  go_enter Try.func11, Try.ntmps11
  go_wp2_with fail
  have ow : Only NoB w (w.alloc (.cells #[.slice sa n sc, .slice aa m ac] 26)) := (Only.refl _ _).alloc _
  refine (HF.out _ ow).mono ?_
  rintro e w1 ⟨⟨v, rfl, hv⟩, o1⟩
  have hv := own_mono hv ow.size
  go_wp2_with fail
  go_ret
  exact ⟨⟨_, rfl, hv⟩, ow.trans o1⟩

set_option maxHeartbeats 1000000 in
theorem refat_any (p : Nat → Prop) (sa aa : Option Addr) (n m k sc ac : Nat) (A : Nat → A5) (w : World) (ha : ArcsAt p w aa m A) (hm : m ≤ 40) (hg : ∀ j, j < m → 0 ≤ (A j).f ∧ (A j).f < n ∧ 0 ≤ (A j).t ∧ (A j).t < n) :
    Calls Try.prog 13 #[.agg #[.slice sa n sc, .slice aa m ac], .int .i64 k] w fun e w' => (∃ v, e = .returned v ∧ w'.ownsRow w.heap.size 3 1 v (touch A m k).length ((touch A m k).map (Value.int .i64))) ∧ Only NoB w w' := by
  have HF : Hid (∀ W, Only NoB w W → Calls Try.prog 23 #[.agg #[.slice sa n sc, .slice aa m ac], .int .i64 k, .bool true, .bool true] W fun e w' => (∃ v, e = .returned v ∧ w'.ownsRow W.heap.size 3 1 v (touch A m k).length ((touch A m k).map (Value.int .i64))) ∧ Only NoB W w') := fun W o => some_at p sa aa n m k sc ac A W (ha.kept o (fun _ _ f => f)) hm hg
  clear ha hg
  go_enter Try.func13, Try.ntmps13
  go_wp2_with fail
  have ow : Only NoB w (w.alloc (.cells #[.slice sa n sc, .slice aa m ac] 26)) := (Only.refl _ _).alloc _
  refine (HF.out _ ow).mono ?_
  rintro e w1 ⟨⟨v, rfl, hv⟩, o1⟩
  have hv := own_mono hv ow.size
  go_wp2_with fail
  go_ret
  exact ⟨⟨_, rfl, hv⟩, ow.trans o1⟩
end Go.Proofs.Ytgaekihcfcoaeaa
