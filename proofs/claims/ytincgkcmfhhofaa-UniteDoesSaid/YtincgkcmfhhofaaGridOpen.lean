/-
  PLAIN LAW, no program in sight: a [][]int that came in.
-/
import Derived.Test.YtincgkcmfhhofaaDoesAsks
import Derived.Deep.Matrix
set_option linter.unusedVariables false
set_option linter.unusedSimpArgs false
namespace Go.Proofs.Ytincgkcmfhhofaa
open Go.RowKit Go.ChangeShapes Go.WideShapes Go.Deep

theorem flat_add (b o m : Nat) : (⟨b, o, none⟩ : Addr).add m = ⟨b, o + m, none⟩ := by
  simp only [Addr.add]
  split
  · simp_all
  · rfl
theorem grid_open {H : Type} {enc : TypeId × Value → H} {W : World} {fuel : Nat} {a : Option Addr} {n cap : Nat} {x : DataW H × List MemPlace} (h : DataW.trod enc Try.prog W 0 (fun _ => true) true fuel 23 [.slice a n cap] = some x) :
    ∃ gs, GridIn (fun _ => True) W (.slice a n cap) gs := by
  rcases open_int_rows Try.underlying23 Try.underlying28 Try.underlying3 (by kernel_rfl) (by kernel_rfl) h with ⟨hcs, _⟩ | ⟨y, len, cap', A, L, C, Z, hcs, _, hl, hm, _, hx⟩
  · simp at hcs
    obtain ⟨rfl, rfl, rfl⟩ := hcs
    exact ⟨[], none, 0, rfl, Nat.zero_le _, fun h => absurd h (Nat.lt_irrefl _)⟩
  · simp at hcs
    obtain ⟨rfl, rfl, rfl⟩ := hcs
    have gl : ((List.range n).map fun r => (Z r).take (L r)).length = n := by simp
    refine ⟨(List.range n).map fun r => (Z r).take (L r), some y, cap, by rw [gl], by rw [gl]; omega, fun h0 => ?_⟩
    rw [gl] at h0 ⊢
    obtain ⟨b, off, spot⟩ := y
    have hspot : spot = none := by simpa [Addr.add] using World.cell?_spot (hx 0 (by omega)).1
    subst hspot
    refine ⟨b, off, rfl, trivial, fun j hj => ?_⟩
    obtain ⟨c0, r1, r2, r3, _, r5, r6⟩ := hx j (by omega)
    rw [flat_add] at c0
    refine ⟨_, c0, ?_⟩
    have e : ((List.range n).map fun r => (Z r).take (L r)).getD j [] = (Z j).take (L j) := by simp [List.getD, hj]
    have el : ((Z j).take (L j)).length = L j := by rw [List.length_take]; omega
    rw [e]
    refine ⟨A j, C j, by rw [el], by rw [el]; omega, fun h1 => ?_⟩
    rw [el] at h1 ⊢
    cases hA : A j with
    | none => have := r5 hA; omega
    | some a' =>
      obtain ⟨_, r7⟩ := r6 a' hA
      obtain ⟨b', off', spot'⟩ := a'
      have hspot : spot' = none := by simpa [Addr.add] using World.cell?_spot (r7 0 (by omega))
      subst hspot
      refine ⟨b', off', rfl, trivial, fun c hc => ?_⟩
      have := r7 c (by omega)
      rw [flat_add] at this
      rw [this]
      congr 2
      simp [List.getD, List.getElem?_take, hc]
end Go.Proofs.Ytincgkcmfhhofaa
