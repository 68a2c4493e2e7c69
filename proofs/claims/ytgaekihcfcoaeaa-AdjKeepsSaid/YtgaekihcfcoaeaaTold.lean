/-
  WHAT A GRAPH TELLS: Out, In and At of a graph that New made.
-/
import Derived.Test.YtgaekihcfcoaeaaNew
set_option linter.unusedVariables false
set_option linter.unusedSimpArgs false
namespace Go.Proofs.Ytgaekihcfcoaeaa
open Go.RowKit

/-- a graph as New makes it -/
def Made (p : Nat → Prop) (w : World) (gb n m : Nat) (A : Nat → A5) : Prop := Gr p w gb n m A (place A (2 * m) (2 * m)) (pref A (2 * m))
theorem Made.kept {p S : Nat → Prop} {w w' : World} {gb n m : Nat} {A : Nat → A5} (h : Made p w gb n m A) (k : Only S w w') (hs : ∀ b, p b → ¬ S b) : Made p w' gb n m A := Gr.kept h k hs

theorem outs_eq (A : Nat → A5) (m k : Nat) (h : ∀ j, j < m → 0 ≤ (A j).f) : upto (fun j => ((place A (2 * m) (2 * m) (pref A (2 * m) (2 * k) + j) : Nat) : Int)) (cntK A (2 * m) (2 * k)) = outs A m k :=
  (evs_at A (2 * m) (2 * k) (2 * m) (Nat.le_refl _)).trans (evs_outs A m k h)
theorem ins_eq (A : Nat → A5) (m k : Nat) (h : ∀ j, j < m → 0 ≤ (A j).t) : upto (fun j => ((place A (2 * m) (2 * m) (pref A (2 * m) (2 * k + 1) + j) : Nat) : Int)) (cntK A (2 * m) (2 * k + 1)) = ins A m k :=
  (evs_at A (2 * m) (2 * k + 1) (2 * m) (Nat.le_refl _)).trans (evs_ins A m k h)

theorem out_told (p : Nat → Prop) (gb n m k : Nat) (A : Nat → A5) (w : World) (hg : Made p w gb n m A) (hk : k < n) :
    Calls Try.prog 7 #[.pointer (some ⟨gb, 0, none⟩), .int .i64 k] w fun e w' => ∃ v, e = .returned v ∧ w'.ownsRow w.heap.size 3 1 v (outs A m k).length ((outs A m k).map (Value.int .i64)) ∧ Only NoB w w' := by
  have hgd := Gr.good hg
  have hkey := keys_lt A m n hgd
  have hall := pref_all A (2 * m) (2 * n) hkey
  have l1 := pref_le A (2 * m) (2 * k + 1) (2 * n) (by omega)
  have e := outs_eq A m k (fun j hj => (hgd j hj).1)
  have el := congrArg List.length e
  rw [upto_len] at el
  refine (out_any p gb n m k (pref A (2 * m) (2 * k + 0)) (pref A (2 * m) (2 * k + 0 + 1)) A _ _ w hg hk rfl rfl (pref_le _ _ _ _ (by omega)) (show pref A (2 * m) (2 * k + 1) ≤ 2 * m by omega)).mono ?_
  rintro x w' ⟨v, rfl, h, hb⟩
  rw [show pref A (2 * m) (2 * k + 0 + 1) - pref A (2 * m) (2 * k + 0) = cntK A (2 * m) (2 * k) by simp only [Nat.add_zero, pref]; omega, Nat.add_zero, e, el] at h
  exact ⟨v, rfl, h, Only.of_below hb⟩
theorem in_told (p : Nat → Prop) (gb n m k : Nat) (A : Nat → A5) (w : World) (hg : Made p w gb n m A) (hk : k < n) :
    Calls Try.prog 14 #[.pointer (some ⟨gb, 0, none⟩), .int .i64 k] w fun e w' => ∃ v, e = .returned v ∧ w'.ownsRow w.heap.size 3 1 v (ins A m k).length ((ins A m k).map (Value.int .i64)) ∧ Only NoB w w' := by
  have hgd := Gr.good hg
  have hkey := keys_lt A m n hgd
  have hall := pref_all A (2 * m) (2 * n) hkey
  have l1 := pref_le A (2 * m) (2 * k + 2) (2 * n) (by omega)
  have e := ins_eq A m k (fun j hj => (hgd j hj).2.2.1)
  have el := congrArg List.length e
  rw [upto_len] at el
  refine (in_any p gb n m k (pref A (2 * m) (2 * k + 1)) (pref A (2 * m) (2 * k + 1 + 1)) A _ _ w hg hk rfl rfl (pref_le _ _ _ _ (by omega)) (show pref A (2 * m) (2 * k + 2) ≤ 2 * m by omega)).mono ?_
  rintro x w' ⟨v, rfl, h, hb⟩
  rw [show pref A (2 * m) (2 * k + 1 + 1) - pref A (2 * m) (2 * k + 1) = cntK A (2 * m) (2 * k + 1) by simp only [pref]; omega, e, el] at h
  exact ⟨v, rfl, h, Only.of_below hb⟩
theorem at_told (p : Nat → Prop) (gb n m k : Nat) (A : Nat → A5) (w : World) (hg : Made p w gb n m A) (hk : k < n) :
    Calls Try.prog 12 #[.pointer (some ⟨gb, 0, none⟩), .int .i64 k] w fun e w' => ∃ v, e = .returned v ∧ w'.ownsRow w.heap.size 3 1 v (touch A m k).length ((touch A m k).map (Value.int .i64)) ∧ Only NoB w w' := by
  have hgd := Gr.good hg
  have hkey := keys_lt A m n hgd
  have hall := pref_all A (2 * m) (2 * n) hkey
  have l1 := pref_le A (2 * m) (2 * k + 2) (2 * n) (by omega)
  have l2 := pref_le A (2 * m) (2 * k + 1) (2 * k + 2) (by omega)
  have e1 := outs_eq A m k (fun j hj => (hgd j hj).1)
  have e2 := ins_eq A m k (fun j hj => (hgd j hj).2.2.1)
  have hl : ∀ j, j < 2 * m → place A (2 * m) (2 * m) j < m := fun j hj => place_lt A (2 * m) m (2 * m) (by omega) (Nat.le_refl _) j
  refine (at_any p gb n m k (pref A (2 * m) (2 * k + 0)) (pref A (2 * m) (2 * k + 0 + 1)) (pref A (2 * m) (2 * k + 1)) (pref A (2 * m) (2 * k + 1 + 1)) A _ _ w hg hk rfl rfl (pref_le _ _ _ _ (by omega)) (show pref A (2 * m) (2 * k + 1) ≤ 2 * m by omega) rfl rfl (pref_le _ _ _ _ (by omega)) (show pref A (2 * m) (2 * k + 2) ≤ 2 * m by omega) hl).mono ?_
  rintro x w' ⟨v, zs, rfl, h, hz, hb⟩
  have e3 : (upto (fun j => numOf m (place A (2 * m) (2 * m) (pref A (2 * m) (2 * k + 1) + j))) (cntK A (2 * m) (2 * k + 1))).map (·.1) = ins A m k := by
    rw [upto_map, ← e2]
    refine upto_congr _ _ _ (fun j hj => numOf_val _ _ (hl _ ?_))
    have : pref A (2 * m) (2 * k + 2) = pref A (2 * m) (2 * k + 1) + cntK A (2 * m) (2 * k + 1) := rfl
    omega
  rw [show pref A (2 * m) (2 * k + 0 + 1) - pref A (2 * m) (2 * k + 0) = cntK A (2 * m) (2 * k) by simp only [Nat.add_zero, pref]; omega,
    show pref A (2 * m) (2 * k + 1 + 1) - pref A (2 * m) (2 * k + 1) = cntK A (2 * m) (2 * k + 1) by simp only [pref]; omega, Nat.add_zero, e1, notFrom_map, e3, sort_touch] at hz
  subst hz
  exact ⟨v, rfl, h, Only.of_below hb⟩
end Go.Proofs.Ytgaekihcfcoaeaa
