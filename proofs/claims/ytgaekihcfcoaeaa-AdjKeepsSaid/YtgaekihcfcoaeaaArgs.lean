/-
  HOW ARGUMENTS READ: a slice of bytes that came in, in the walks' own words. (The definition 'IsRow' began as lines of the guide's proof shell.)
-/
import Derived.Test.YtgaekihcfcoaeaaGrid
import Derived.Test.YtgaekihcfcoaeaaRows
import Derived.ProofKit
set_option linter.unusedVariables false
namespace Go.Proofs.Ytgaekihcfcoaeaa
open Go.ChangeShapes Go.WideShapes Go.ChangeAt Go.RowKit

/-- A slice of integers that came in: it is nil; or it leads to a row of 'cap' cells, the numbers 'zs', each fitting its kind. -/
def IsRow (k : IntKind) (w : World) (a : Option Addr) (len cap : Nat) (zs : List Int) : Prop :=
  (a = none ∧ len = 0 ∧ cap = 0 ∧ zs = []) ∨
  ∃ x, a = some x ∧ len ≤ cap ∧ cap ≤ maxLen ∧ zs.length = cap ∧ (∀ i, i < zs.length → w.cell? (x.add i) = some (.int k (zs.getD i 0))) ∧ ∀ n ∈ zs, (Lit.int k n).wf = true

theorem u8_wf {n : Int} (h : (Lit.int .u8 n).wf = true) : 0 ≤ n ∧ n ≤ 255 := by
  simpa [Lit.wf, IntKind.min, IntKind.max, IntKind.signed, IntKind.bits] using h

theorem bytes_of_row {w : World} {a : Option Addr} {len cap : Nat} {zs : List Int} (h : IsRow .u8 w a len cap zs) : ∃ f, BytesIn w a len f := by
  refine ⟨fun j => if j < zs.length then zs.getD j 0 else 0, ?_⟩
  rcases h with ⟨rfl, rfl, rfl, rfl⟩ | ⟨x, rfl, hl, hm, hz, hc, hw⟩
  · exact ⟨Nat.zero_le _, fun j => by simp, fun h => absurd h (Nat.lt_irrefl _)⟩
  · refine ⟨Nat.le_trans hl hm, fun j => ?_, fun h0 => ?_⟩
    · show 0 ≤ (if j < zs.length then zs.getD j 0 else 0) ∧ (if j < zs.length then zs.getD j 0 else 0) ≤ 255
      by_cases hj : j < zs.length
      · rw [if_pos hj]
        have := hw (zs.getD j 0) (by simp [List.getD, List.getElem?_eq_getElem hj])
        exact u8_wf this
      · rw [if_neg hj]; omega
    · obtain ⟨b, off, spot⟩ := x
      have hspot : spot = none := by simpa [Addr.add] using World.cell?_spot (hc 0 (by omega))
      subst hspot
      refine ⟨b, off, rfl, fun j hj => ?_⟩
      have h1 := hc j (by omega)
      rw [add_plain] at h1
      show w.cell? ⟨b, off + j, none⟩ = some (.int .u8 (if j < zs.length then zs.getD j 0 else 0))
      rw [h1, if_pos (by omega)]

end Go.Proofs.Ytgaekihcfcoaeaa
