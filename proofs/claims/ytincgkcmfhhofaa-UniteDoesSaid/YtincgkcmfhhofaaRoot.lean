/-
  THE WALKS of package unite: has, root, Join, Same, Least, Many, New: what each answers, and what becomes of the two blocks of a Sets.
-/
import Derived.Test.YtincgkcmfhhofaaRows
import Derived.Test.YtincgkcmfhhofaaMath
import Derived.Test.YtincgkcmfhhofaaHeap
import Derived.RegionTactic
import Derived.BigRegion
import Derived.Lib.Hide
set_option linter.unusedVariables false
set_option linter.unusedSimpArgs false
namespace Go.Proofs.Ytincgkcmfhhofaa
open Go.RowKit

theorem Try.info3 : (Try.prog.info? 3).map (fun i => (i.zero, i.size, i.bytes)) = some (some (.int .i64 0), 1, 8) := by kernel_rfl
theorem Try.info28 : (Try.prog.info? 28).map (fun i => (i.zero, i.size, i.bytes)) = some (some (.slice none 0 0), 1, 24) := by kernel_rfl

structure SetsAt (w : World) (b u n : Nat) (up : Nat → Nat) (many : Int) : Prop where
  box : w.heap[b]? = some (.cells #[.slice (some ⟨u, 0, none⟩) n n, .int .i64 many] 40 (0, 0))
  row : w.heap[u]? = some (.cells (cellsOf n up) 3 (0, 0))
  ne : b ≠ u
  len : n ≤ 1000

theorem SetsAt.c0 {w : World} {b u n : Nat} {up : Nat → Nat} {many : Int} (h : SetsAt w b u n up many) : w.cell? ⟨b, 0, none⟩ = some (.slice (some ⟨u, 0, none⟩) n n) := by rw [cell_in _ _ _ _ _ _ h.box]; rfl
theorem SetsAt.c1 {w : World} {b u n : Nat} {up : Nat → Nat} {many : Int} (h : SetsAt w b u n up many) : w.cell? ⟨b, 1, none⟩ = some (.int .i64 many) := by rw [cell_in _ _ _ _ _ _ h.box]; rfl
theorem SetsAt.at {w : World} {b u n : Nat} {up : Nat → Nat} {many : Int} (h : SetsAt w b u n up many) (i : Nat) (hi : i < n) : w.cell? ⟨u, i, none⟩ = some (.int .i64 (up i)) := by rw [cell_in _ _ _ _ _ _ h.row, cellsOf_get _ _ _ hi]
theorem SetsAt.fz {w : World} {b u n : Nat} {up : Nat → Nat} {many : Int} (h : SetsAt w b u n up many) (i : Nat) : w.frozen? ⟨u, i, none⟩ = false := frozen_in _ _ _ _ _ h.row
theorem SetsAt.drew {w : World} {b u n : Nat} {up : Nat → Nat} {many : Int} (h : SetsAt w b u n up many) : SetsAt w.drew b u n up many := ⟨h.box, h.row, h.ne, h.len⟩
theorem SetsAt.set {w : World} {b u n : Nat} {up : Nat → Nat} {many : Int} (h : SetsAt w b u n up many) (a y : Nat) : SetsAt (w.setCell ⟨u, a, none⟩ (.int .i64 y)) b u n (upd up a y) many :=
  ⟨by rw [Below.heap_setCell _ _ _ _ h.ne]; exact h.box, by rw [heap_setCell_at _ _ _ _ _ _ _ h.row, cellsOf_set n up (upd up a y) a y (by rw [upd_at]) (fun i _ e => upd_ne _ _ _ _ e)], h.ne, h.len⟩

set_option maxHeartbeats 400000 in
theorem root_any (b u n : Nat) (up L : Nat → Nat) (many : Int) (a : Nat) (w : World) (h : SetsAt w b u n up many) (hr : Rep n up L) (ha : a < n) :
  Calls Try.prog 19 #[.pointer (some ⟨b, 0, none⟩), .int .i64 a] w fun e w' => e = .returned (.int .i64 (L a)) ∧ (∃ up', Rep n up' L ∧ SetsAt w' b u n up' many) ∧ Only (B1 u) w w' := by
  have hn := h.len
  go_enter Try.func19, Try.ntmps19
  go_wp2_with fail
  go_step3
  go_wp2_with fail
  go_step3
  go_wp2_with fail
  go_loopw [1] (fun s wr => ∃ (k : Nat) (up' : Nat → Nat), k < n ∧ s = .int .i64 k ∧ L k = L a ∧ Rep n up' L ∧ SetsAt wr b u n up' many ∧ Only (B1 u) w wr)
    (fun s _ => (intOf s).toNat)
  case atStart => exact ⟨a, up, ha, rfl, rfl, hr, h, Only.refl _ _⟩
  case round =>
    obtain ⟨k, up', hk, rfl, hL, hr', hs, ho⟩ := hrel
    have c0 := hs.c0
    have ck := hs.at k hk
    have hle := hr'.le k hk
    have cp := hs.at (up' k) (by omega)
    have fz := hs.fz k
    have HL := Lib.hid hL
    clear hL
    by_cases e : up' k = k
    · have e' : ((up' k : Int) == k) = true := by simp [e]
      go_wp2
      rw [Exit.noGoto_ret]
      go_ret
      have hk' := hr'.root k hk e
      rw [← HL.out, hk']
      exact ⟨rfl, ⟨up', hr', hs⟩, ho⟩
    · have e' : ((up' k : Int) == k) = false := by simp; omega
      have hs2 := hs.drew.set k (up' (up' k))
      have ck2 := hs2.at k hk
      rw [upd_at] at ck2
      have b2 := hs2.c0
      go_wp2
      go_region
      go_wp2
      go_roundw
      case rel => exact ⟨up' (up' k), _, by have := hr'.le (up' k) (by omega); omega, rfl, by rw [hr'.step (up' k) (by omega), hr'.step k hk]; exact HL.out, hr'.halve k hk, hs2, ho.drew.setCell (p := ⟨u, k, none⟩) (fun _ => rfl) _⟩
      case measure => have := hr'.le (up' k) (by omega); simp [intOf]; omega
end Go.Proofs.Ytincgkcmfhhofaa
