/-
  THE WALKS of quittanceref03.Ints (of equal lists) and adj.Graph.Other.
-/
import Derived.Test.YtgaekihcfcoaeaaTold
set_option linter.unusedVariables false
set_option linter.unusedSimpArgs false
namespace Go.Proofs.Ytgaekihcfcoaeaa
open Go.RowKit

/-- v is a slice of the numbers zs -/
def Ls (w : World) (v : Value) (zs : List Int) : Prop :=
  ∃ a cap, v = .slice a zs.length cap ∧ (0 < zs.length → ∃ b o, a = some ⟨b, o, none⟩ ∧ ∀ j, j < zs.length → w.cell? ⟨b, o + j, none⟩ = some (.int .i64 (zs.getD j 0)))
theorem Ls.kept {S : Nat → Prop} {w w' : World} {v : Value} {zs : List Int} (h : Ls w v zs) (o : Only S w w') (hs : ∀ b, b < w.heap.size → ¬ S b) : Ls w' v zs := by
  obtain ⟨a, cap, rfl, hc⟩ := h
  refine ⟨a, cap, rfl, fun h0 => ?_⟩
  obtain ⟨b, of, e, hc'⟩ := hc h0
  exact ⟨b, of, e, fun j hj => o.cell (hc' j hj) (hs b (World.block_lt_of_cell? _ _ (hc' j hj)))⟩
theorem Ls.of_own {w : World} {base : Nat} {v : Value} {zs : List Int} (h : w.ownsRow base 3 1 v zs.length (zs.map (Value.int .i64))) : Ls w v zs := by
  rcases h.2 with ⟨rfl, h0⟩ | ⟨g, cap, cur, rfl, hg, hb, _, _, _, ht⟩
  · exact ⟨none, 0, by rw [h0], fun h1 => by omega⟩
  · refine ⟨_, cap, rfl, fun _ => ⟨g, 0, rfl, fun j hj => ?_⟩⟩
    rw [cell_in _ _ _ _ _ _ hb, ← Array.getElem?_toList, Nat.zero_add, ← List.getElem?_take_of_lt (show j < zs.length * 1 by omega), ht]
    simp [List.getD, hj]

set_option maxHeartbeats 1000000 in
theorem ints_same (va vb : Value) (zs : List Int) (hz : zs.length ≤ 1000) (w : World) (ha : Ls w va zs) (hb : Ls w vb zs) :
    Calls Try.prog 10 #[va, vb] w fun e w' => e = .returned (.bool true) ∧ Only NoB w w' := by
  obtain ⟨a, ca, rfl, HA⟩ := ha
  obtain ⟨b, cb, rfl, HB⟩ := hb
  have HA := Lib.hid HA
  have HB := Lib.hid HB
  generalize hn : zs.length = n at *
  clear hn
  have H2 : Hid (∀ j, j < n → ∃ ba oa bb ob z, a = some ⟨ba, oa, none⟩ ∧ b = some ⟨bb, ob, none⟩ ∧ w.cell? ⟨ba, oa + j, none⟩ = some (.int .i64 z) ∧ w.cell? ⟨bb, ob + j, none⟩ = some (.int .i64 z)) := fun j hj => by
    obtain ⟨ba, oa, e1, h1⟩ := HA.out (by omega)
    obtain ⟨bb, ob, e2, h2⟩ := HB.out (by omega)
    exact ⟨ba, oa, bb, ob, _, e1, e2, h1 j hj, h2 j hj⟩
  clear HA HB
  go_enter Try.func10, Try.ntmps10
  go_wp2_with fail
  go_loopw [5] (fun s wr => ∃ k : Nat, k ≤ n ∧ s = .int .i64 k ∧ Only NoB w wr) (fun s _ => n - (intOf s).toNat)
  case atStart => exact ⟨0, Nat.zero_le _, rfl, Only.refl _ _⟩
  case round =>
    obtain ⟨k, hk, rfl, oo⟩ := hrel
    by_cases lt : k < n
    · have lti : (k : Int) < n := by omega
      obtain ⟨ba, oa, bb, ob, z, rfl, rfl, c1, c2⟩ := H2.out k lt
      have c1 := oo.cell c1 (fun f => f)
      have c2 := oo.cell c2 (fun f => f)
      have l1 := World.block_lt_of_cell? _ _ c1
      have l2 := World.block_lt_of_cell? _ _ c2
      go_upto_region 6 with fail
      go_quiet (fail)
      go_wp2_with fail
      go_roundw
      case rel => exact ⟨k + 1, by omega, by go_num, oo.drewN _⟩
      case measure => simp [intOf]; omega
    · obtain rfl : n = k := by omega
      go_wp2_with fail
      go_ret
      exact ⟨rfl, oo⟩

/-- an arc's other end -/
def otherI (x : A5) (k : Int) : Int := if x.f = k then x.t else if x.t = k then x.f else -1
set_option maxHeartbeats 1000000 in
theorem other_any (p : Nat → Prop) (gb n m j : Nat) (k : Int) (A : Nat → A5) (w : World) (hg : Made p w gb n m A) (hj : j < m) :
    Calls Try.prog 15 #[.pointer (some ⟨gb, 0, none⟩), .int .i64 j, .int .i64 k] w fun e w' => e = .returned (.int .i64 (otherI (A j) k)) ∧ Only NoB w w' := by
  obtain ⟨⟨hn, hm⟩, hgood, _, a, c, lb, lc, sb, sc, hb, _, _, _, ha, _, _⟩ := hg
  obtain ⟨g1, g2, g3, g4⟩ := hgood j hj
  have HA := Lib.hid (fun w' (o : Only NoB w w') => arc_yes p gb n m j c a A w' (lt_of_heap ((o.block gb (lt_of_heap hb) (fun f => f)).trans hb)) ((cell_in _ _ 0 _ _ _ ((o.block gb (lt_of_heap hb) (fun f => f)).trans hb)).trans rfl) ((cell_in _ _ 1 _ _ _ ((o.block gb (lt_of_heap hb) (fun f => f)).trans hb)).trans rfl) (ha.kept o (fun _ _ f => f)) hj hm g1 g2 g3 g4)
  unfold A5.val at HA
  obtain ⟨r, hr⟩ : ∃ r, r = otherI (A j) k := ⟨_, rfl⟩
  rw [← hr]
  unfold otherI at hr
  have HR := Lib.hid hr
  clear hr
  generalize (A j).f = xf at *
  generalize (A j).t = xt at *
  generalize (A j).l = xl at *
  generalize (A j).c = xc at *
  generalize (A j).k = xk at *
  clear ha hb hgood hj g1 g2 g3 g4
  go_enter Try.func15, Try.ntmps15
  go_wp2_with fail
  refine (HA.out _ (Only.refl _ _)).mono ?_
  rintro e w1 ⟨rfl, o1⟩
  by_cases c1 : xf = k
  · have hr := HR.out
    rw [if_pos c1] at hr
    subst hr
    have s1 : (xf == k) = true := by simpa using c1
    go_wp2_with fail
    go_ret
    exact ⟨rfl, o1.alloc _⟩
  · have hr := HR.out
    rw [if_neg c1] at hr
    have s1 : (xf == k) = false := by simpa using c1
    by_cases c2 : xt = k
    · rw [if_pos c2] at hr
      subst hr
      have s2 : (xt == k) = true := by simpa using c2
      go_wp2_with fail
      go_ret
      exact ⟨rfl, o1.alloc _⟩
    · rw [if_neg c2] at hr
      subst hr
      have s2 : (xt == k) = false := by simpa using c2
      go_wp2_with fail
      go_ret
      exact ⟨rfl, o1.alloc _⟩
end Go.Proofs.Ytgaekihcfcoaeaa
