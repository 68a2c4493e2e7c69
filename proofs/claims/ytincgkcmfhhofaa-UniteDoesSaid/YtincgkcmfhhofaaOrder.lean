/-
  THE WALK of the law UniteOrder.
-/
import Derived.Test.YtincgkcmfhhofaaKnown
import Derived.Test.YtincgkcmfhhofaaPairs
import Derived.Test.YtincgkcmfhhofaaFine
import Derived.StillTailTactics
set_option linter.unusedVariables false
set_option linter.unusedSimpArgs false
namespace Go.Proofs.Ytincgkcmfhhofaa
open Go.RowKit

def pl (f : Nat → Int) (t : Nat) : List (Int × Int) := (List.range t).map fun i => (f (2 * i) % 20 - 1, f (2 * i + 1) % 20 - 1)
def two (ps : List (Int × Int)) : List (List Int) := ps.map fun q => [q.1, q.2]
theorem prs_pl (f : Nat → Int) (t : Nat) : prs f t = two (pl f t) := by simp [prs, pl, two]
theorem pl_len (f : Nat → Int) (t : Nat) : (pl f t).length = t := by simp [pl]

theorem pair_cells {p : Nat → Prop} {w : World} {v : Value} {ps : List (Int × Int)} (h : GridIn p w v (two ps)) (k : Nat) (hk : k < ps.length) :
    ∃ b o cap b' o' c', v = .slice (some ⟨b, o, none⟩) ps.length cap ∧ p b ∧ p b' ∧ w.cell? ⟨b, o + k, none⟩ = some (.slice (some ⟨b', o', none⟩) 2 c') ∧
      w.cell? ⟨b', o', none⟩ = some (.int .i64 (ps.getD k (0, 0)).1) ∧ w.cell? ⟨b', o' + 1, none⟩ = some (.int .i64 (ps.getD k (0, 0)).2) := by
  obtain ⟨a, cap, rfl, _, hc⟩ := h
  have hl : (two ps).length = ps.length := by simp [two]
  obtain ⟨b, o, rfl, hp, hc⟩ := hc (by omega)
  obtain ⟨x, hx, a', c', rfl, _, hi⟩ := hc k (by omega)
  have e : (two ps).getD k [] = [(ps.getD k (0, 0)).1, (ps.getD k (0, 0)).2] := by
    simp [two, List.getD, List.getElem?_map, List.getElem?_eq_getElem hk]
  rw [e] at hi hx
  obtain ⟨b', o', rfl, hp', hi⟩ := hi (by simp)
  exact ⟨b, o, cap, b', o', c', by rw [hl], hp, hp', hx, by simpa using hi 0 (by simp), by simpa using hi 1 (by simp)⟩

/-- what is read lies where memory is -/
theorem IntsIn.lt {p : Nat → Prop} {w : World} {v : Value} {zs : List Int} (h : IntsIn p w v zs) : IntsIn (fun k => p k ∧ k < w.heap.size) w v zs := by
  obtain ⟨a, cap, rfl, hm, hc⟩ := h
  refine ⟨a, cap, rfl, hm, fun h0 => ?_⟩
  obtain ⟨b, of, rfl, hp, hc⟩ := hc h0
  exact ⟨b, of, rfl, ⟨hp, World.block_lt_of_cell? w _ (hc 0 h0)⟩, hc⟩
theorem GridIn.lt {p : Nat → Prop} {w : World} {v : Value} {gs : List (List Int)} (h : GridIn p w v gs) : GridIn (fun k => p k ∧ k < w.heap.size) w v gs := by
  obtain ⟨a, cap, rfl, hm, hc⟩ := h
  refine ⟨a, cap, rfl, hm, fun h0 => ?_⟩
  obtain ⟨b, of, rfl, hp, hc⟩ := hc h0
  obtain ⟨x, hx, _⟩ := hc 0 h0
  refine ⟨b, of, rfl, ⟨hp, World.block_lt_of_cell? w _ hx⟩, fun j hj => ?_⟩
  obtain ⟨x, hx, hi⟩ := hc j hj
  exact ⟨x, hx, hi.lt⟩
theorem GridIn.len {p : Nat → Prop} {w : World} {v : Value} {gs : List (List Int)} (h : GridIn p w v gs) : ∃ a cap, v = .slice a gs.length cap := by
  obtain ⟨a, cap, rfl, hm, hc⟩ := h
  exact ⟨a, cap, rfl⟩

set_option maxHeartbeats 1000000 in
theorem order_walk (a : Option Addr) (len cap : Nat) (f : Nat → Int) (c : Int) (hc : 0 ≤ c ∧ c ≤ 255) (w : World) (h : BytesIn w a len f) :
    Calls Try.prog 3 #[.slice a len cap, .int .u8 c] w fun e w' => e = .returned (.bool true) ∧ Below w.heap.size w w' := by
  have hc0 := hc.1
  have hc1 := hc.2
  go_enter Try.func3, Try.ntmps3
  go_wp2_with fail
  refine (pairs_any a len cap f w h).mono ?_
  rintro e w1 ⟨⟨v, rfl, hv⟩, o1⟩
  rw [prs_pl] at hv
  have hv1 := hv.lt
  obtain ⟨va, vc, rfl⟩ := hv.len
  clear hv
  have hl : (two (pl f (npairs len))).length = (pl f (npairs len)).length := by simp [two]
  rw [hl]
  generalize hps : pl f (npairs len) = ps at *
  have hps2 : ps.length ≤ 30 := by rw [← hps, pl_len]; unfold npairs; omega
  clear hps hl
  go_wp2_with fail
  refine (new_any _ w1).mono ?_
  rintro e w2 ⟨rfl, h2, o2⟩
  have z1 := o1.size
  have z2 := o2.size
  have q2 := h2.ltb
  go_wp2_with fail
  refine (new_any _ w2).mono ?_
  rintro e w3 ⟨rfl, h3, o3⟩
  have z3 := o3.size
  have q3 := h3.ltb
  have h23 := h2.kept o3 (fun f => f) (fun f => f)
  have o03 : Only (fun i => w1.heap.size ≤ i) w1 w3 := (o2.trans o3).mono (fun _ _ f => f.elim)
  have hl : (two ps).length = ps.length := by simp [two]
  rw [hl] at hv1
  clear h2 hl
  generalize clamp (c % 19) = n at *
  go_wp2_with fail
  go_loopw [8] (fun s wr => ∃ k : Nat, k ≤ ps.length ∧ s = .int .i64 k ∧ Is wr (w1.heap.size + 1) w1.heap.size n (joinAll n (ps.take k)) ∧ Is wr (w2.heap.size + 1) w2.heap.size n (fun i => i) ∧ Only (fun i => w1.heap.size ≤ i) w1 wr)
    (fun s _ => ps.length - (intOf s).toNat)
  case atStart => exact ⟨0, Nat.zero_le _, rfl, h23, h3, o03⟩
  case round =>
    obtain ⟨k, hk, rfl, hs, ht, ho⟩ := hrel
    by_cases lt : k < ps.length
    · have lti : (k : Int) < ps.length := by omega
      obtain ⟨b, o, cap', b', o', c', hva, hb, hb', e0, e1, e2⟩ := pair_cells (hv1.kept ho.drew (fun b hb s => absurd hb.2 (Nat.not_lt.2 s))) k lt
      obtain ⟨rfl, rfl⟩ : va = some ⟨b, o, none⟩ ∧ vc = cap' := by cases hva; exact ⟨rfl, rfl⟩
      have hj := joinAll_take n ps k lt
      have HJ := Lib.hid hj
      clear hj hva
      go_wp2_with fail
      refine wp_region_still_tail 13 (by kernel_rfl) (by kernel_rfl) ?_
      simp only [List.take_succ_cons, List.take_zero, List.drop_succ_cons, List.drop_zero]
      change wpStill _ _ wr.drew (fun a' => wpList _ _ _ _ a' wr.drew) _ _
      have hs' := hs.drew
      have ht' := ht.drew
      have ho' := ho.drew
      generalize wr.drew = wq at *
      generalize (ps.getD k (0, 0)).1 = x at *
      generalize (ps.getD k (0, 0)).2 = y at *
      repeat still_step
      try refine wpStill_nil ?_
      go_wp2_with fail
      refine (join_any (w1.heap.size + 1) w1.heap.size n _ x y wq hs').mono ?_
      rintro e w5 ⟨rfl, h5, o5⟩
      go_wp2_with fail
      go_roundw
      case rel =>
        refine ⟨k + 1, by omega, by go_num, ?_, ht'.kept o5 (by unfold B2; omega) (by unfold B2; omega), ho'.then o5 (fun i _ e => by unfold B2 at e; omega)⟩
        rw [HJ.out]
        exact h5
      case measure => simp [intOf]; omega
    · obtain rfl : ps.length = k := by omega
      rw [List.take_length] at hs
      obtain ⟨wz, rfl⟩ : ∃ wz : World, wz = wr := ⟨_, rfl⟩
      go_wp2_with fail
      go_loopw [9] (fun s wr => ∃ k : Nat, k ≤ ps.length ∧ s = .int .i64 ((k : Int) - 1) ∧ Is wr (w1.heap.size + 1) w1.heap.size n (joinAll n ps) ∧ Is wr (w2.heap.size + 1) w2.heap.size n (joinAll n (back ps k)) ∧ Only (fun i => w1.heap.size ≤ i) w1 wr)
        (fun s _ => (intOf s + 1).toNat)
      case atStart => exact ⟨ps.length, Nat.le_refl _, rfl, hs, by rw [back_end]; exact ht, ho⟩
      case round =>
        obtain ⟨k, hk, rfl, hs, ht, ho⟩ := hrel
        cases k with
        | succ k =>
          have lt : k < ps.length := by omega
          rw [show (((k + 1 : Nat) : Int) - 1) = (k : Int) by omega]
          have lti : (k : Int) < ps.length := by omega
          obtain ⟨b, o, cap', b', o', c', hva, hb, hb', e0, e1, e2⟩ := pair_cells (hv1.kept ho.drew (fun b hb s => absurd hb.2 (Nat.not_lt.2 s))) k lt
          obtain ⟨rfl, rfl⟩ : va = some ⟨b, o, none⟩ ∧ vc = cap' := by cases hva; exact ⟨rfl, rfl⟩
          have hj := back_step n ps k lt
          have HJ := Lib.hid hj
          clear hj hva
          go_wp2_with fail
          refine wp_region_still_tail 13 (by kernel_rfl) (by kernel_rfl) ?_
          simp only [List.take_succ_cons, List.take_zero, List.drop_succ_cons, List.drop_zero]
          change wpStill _ _ wr.drew (fun a' => wpList _ _ _ _ a' wr.drew) _ _
          have hs' := hs.drew
          have ht' := ht.drew
          have ho' := ho.drew
          generalize wr.drew = wq at *
          generalize (ps.getD k (0, 0)).1 = x at *
          generalize (ps.getD k (0, 0)).2 = y at *
          repeat still_step
          try refine wpStill_nil ?_
          go_wp2_with fail
          refine (join_any (w2.heap.size + 1) w2.heap.size n _ y x wq ht').mono ?_
          rintro e w5 ⟨rfl, h5, o5⟩
          go_wp2_with fail
          go_roundw
          case rel =>
            refine ⟨k, by omega, rfl, hs'.kept o5 (by unfold B2; omega) (by unfold B2; omega), ?_, ho'.then o5 (fun i _ e => by unfold B2 at e; omega)⟩
            rw [HJ.out]
            exact h5
          case measure => simp [intOf]
        | zero =>
          rw [show (((0 : Nat) : Int) - 1) = -1 by omega]
          go_wp2_with fail
          refine (known_any wr).mono ?_
          rintro e w4 ⟨rfl, o4⟩
          have hs4 := hs.kept o4 (fun f => f) (fun f => f)
          have ht4 := ht.kept o4 (fun f => f) (fun f => f)
          go_wp2_with fail
          refine (groups_any _ _ _ _ w4 hs4).mono ?_
          rintro e w5 ⟨⟨v1, rfl, hv1⟩, hs5, o5⟩
          have ht5 := ht4.kept o5 (by unfold B1; omega) (by unfold B1; omega)
          go_wp2_with fail
          refine (groups_any _ _ _ _ w5 ht5).mono ?_
          rintro e w6 ⟨⟨v2, rfl, hv2⟩, ht6, o6⟩
          have hs6 := hs5.kept o6 (by unfold B1; omega) (by unfold B1; omega)
          have hv16 := hv1.kept o6 (fun b hb e => by have := ht4.ltu; unfold B1 at e; omega)
          have eqn := order_free n ps
          have EQ := Lib.hid eqn
          clear eqn
          go_wp2_with fail
          have J := lists_any (fun _ => True) v1 v2 _ _ w6 (hv16.mono (fun _ _ => trivial)) (hv2.mono (fun _ _ => trivial))
          rw [groups_congr n _ _ EQ.out, beq_self_eq_true] at J
          refine J.mono ?_
          rintro e w7 ⟨rfl, o7⟩
          clear J
          go_wp2_with fail
          refine (many_any _ _ _ _ w7 (hs6.kept o7 (fun f => f) (fun f => f))).mono ?_
          rintro e w8 ⟨rfl, rfl⟩
          go_wp2_with fail
          refine (many_any _ _ _ _ w7 (ht6.kept o7 (fun f => f) (fun f => f))).mono ?_
          rintro e w8 ⟨rfl, rfl⟩
          have HM := Lib.hid (many_congr n _ _ EQ.out)
          go_wp2_with fail
          go_ret
          refine ⟨ret_bool (by rw [HM.out]; simp), ?_⟩
          have p1 : Only NoB w w7 := ((((o1.then ho (fun i hi s => absurd hi (Nat.not_lt.2 (by omega)))).then o4 (fun _ _ f => f)).then o5 (fun i hi e => by unfold B1 at e; omega)).then o6 (fun i hi e => by unfold B1 at e; omega)).then o7 (fun _ _ f => f)
          exact p1.below
end Go.Proofs.Ytincgkcmfhhofaa
