/-
  THE WALK of quittanceref05.Lists: are lists of lists the same?
-/
import Derived.Test.YtincgkcmfhhofaaRows
import Derived.Test.YtincgkcmfhhofaaGrid
import Derived.Lib.Hide
import Derived.Deep.QuietTactic
import Derived.BigQuiet
import Derived.Deep.LoopGhost
set_option linter.unusedVariables false
set_option linter.unusedSimpArgs false
namespace Go.Proofs.Ytincgkcmfhhofaa
open Go.RowKit

set_option maxHeartbeats 800000 in
theorem lists_any (p : Nat → Prop) (v1 v2 : Value) (g1 g2 : List (List Int)) (w : World) (h1 : GridIn p w v1 g1) (h2 : GridIn p w v2 g2) :
    Calls Try.prog 12 #[v1, v2] w fun e w' => e = .returned (.bool (g1 == g2)) ∧ Only NoB w w' := by
  obtain ⟨a1, c1, rfl, m1, d1⟩ := h1
  obtain ⟨a2, c2, rfl, m2, d2⟩ := h2
  unfold maxLen at m1 m2
  by_cases hl : g1.length = g2.length
  · have el : ((g1.length : Int) != (g2.length : Int)) = false := by simp [hl]
    have HL := Lib.hid hl
    clear hl
    have D1 := Lib.hid d1
    have D2 := Lib.hid d2
    clear d1 d2
    go_enter Try.func12, Try.ntmps12
    go_wp2_with fail
    go_loopw [5] (fun s wr => ∃ k : Nat, k ≤ g1.length ∧ s = .int .i64 k ∧ g1.take k = g2.take k ∧ Only NoB w wr)
      (fun s _ => g1.length - (intOf s).toNat)
    case atStart => exact ⟨0, Nat.zero_le _, rfl, rfl, Only.refl _ _⟩
    case round =>
      obtain ⟨k, hk, rfl, ht, ho⟩ := hrel
      have HT := Lib.hid ht
      clear ht
      by_cases lt : k < g1.length
      · obtain ⟨b1, o1, rfl, p1, r1⟩ := D1.out (by omega)
        obtain ⟨b2, o2, rfl, p2, r2⟩ := D2.out (by have := HL.out; omega)
        obtain ⟨x1, e1, i1⟩ := r1 k lt
        obtain ⟨x2, e2, i2⟩ := r2 k (by have := HL.out; omega)
        have i1' := i1.kept ho (fun _ _ f => f)
        have i2' := i2.kept ho (fun _ _ f => f)
        have e1' := ho.cell e1 (fun f => f)
        have e2' := ho.cell e2 (fun f => f)
        obtain ⟨y1, n1, rfl, q1, s1⟩ := i1'
        obtain ⟨y2, n2, rfl, q2, s2⟩ := i2'
        clear i1 i2 r1 r2 e1 e2
        have lt2 : (k : Int) < g2.length := by have := HL.out; omega
        have S1 := Lib.hid s1
        have S2 := Lib.hid s2
        clear s1 s2
        generalize hz1 : g1.getD k [] = z1 at *
        generalize hz2 : g2.getD k [] = z2 at *
        have HZ1 := Lib.hid hz1
        have HZ2 := Lib.hid hz2
        clear hz1 hz2
        obtain ⟨wo, rfl⟩ : ∃ wo : World, wo = wr := ⟨_, rfl⟩
        by_cases lz : z1.length = z2.length
        · have el2 : ((z1.length : Int) != (z2.length : Int)) = false := by simp [lz]
          have LZ := Lib.hid lz
          clear lz
          unfold maxLen at q1 q2
          go_wp2_with fail
          go_quiet (fail)
          go_wp2_with fail
          go_loopw [6] (fun s wr => ∃ j : Nat, j ≤ z1.length ∧ s = .int .i64 j ∧ z1.take j = z2.take j ∧ Only NoB wo wr)
            (fun s _ => z1.length - (intOf s).toNat)
          case atStart => exact ⟨0, Nat.zero_le _, rfl, rfl, (Only.refl _ _).drewN _⟩
          case round =>
            obtain ⟨j, hj, rfl, ht, hoj⟩ := hrel
            have HTj := Lib.hid ht
            clear ht
            have e1j := hoj.cell e1' (fun f => f)
            have e2j := hoj.cell e2' (fun f => f)
            by_cases ltj : j < z1.length
            · obtain ⟨bb1, oo1, rfl, pp1, rr1⟩ := S1.out (by omega)
              obtain ⟨bb2, oo2, rfl, pp2, rr2⟩ := S2.out (by have := LZ.out; omega)
              have f1 := hoj.cell (rr1 j ltj) (fun f => f)
              have f2 := hoj.cell (rr2 j (by have := LZ.out; omega)) (fun f => f)
              have ltj2 : (j : Int) < z2.length := by have := LZ.out; omega
              have ltj1 : (j : Int) < z1.length := by omega
              clear rr1 rr2
              generalize hd1 : z1.getD j 0 = m1' at *
              generalize hd2 : z2.getD j 0 = m2' at *
              have HD1 := Lib.hid hd1
              have HD2 := Lib.hid hd2
              clear hd1 hd2
              by_cases em : m1' = m2'
              · have em' : (m1' != m2') = false := by simp [em]
                have EM := Lib.hid em
                clear em
                go_wp2_with fail
                go_quiet (fail)
                go_wp2_with fail
                go_roundw
                case rel => exact ⟨j + 1, by omega, by go_num, take_succ_eq 0 LZ.out ltj HTj.out (by rw [HD1.out, HD2.out]; exact EM.out), hoj.drewN _⟩
                case measure => simp [intOf]; omega
              · have em' : (m1' != m2') = true := by simp [em]
                have EM := Lib.hid em
                clear em
                go_wp2_with fail
                go_quiet (fail)
                go_wp2_with fail
                go_ret
                exact ⟨ret_bool (by
                  symm; rw [beq_eq_false_iff_ne]; intro q
                  apply EM.out; rw [← HD1.out, ← HD2.out, ← HZ1.out, ← HZ2.out, q]), (ho.trans hoj).drewN _⟩
            · obtain rfl : z1.length = j := by omega
              have hzz : z1 = z2 := list_eq_of_take LZ.out HTj.out
              have HZZ := Lib.hid hzz
              clear hzz
              go_wp2_with fail
              go_roundw
              case rel => exact ⟨k + 1, by omega, by go_num, take_succ_eq [] HL.out lt HT.out (by rw [HZ1.out, HZ2.out]; exact HZZ.out), ho.trans hoj⟩
              case measure => simp [intOf]; omega
        · have el2 : ((z1.length : Int) != (z2.length : Int)) = true := by simp; omega
          have LZ := Lib.hid lz
          clear lz
          go_wp2_with fail
          go_quiet (fail)
          go_wp2_with fail
          go_ret
          exact ⟨ret_bool (by
            symm; rw [beq_eq_false_iff_ne]; intro q
            apply LZ.out; rw [← HZ1.out, ← HZ2.out, q]), ho.drewN _⟩
      · obtain rfl : g1.length = k := by omega
        have HG := Lib.hid (list_eq_of_take HL.out HT.out)
        go_wp2_with fail
        go_ret
        exact ⟨ret_bool (by rw [HG.out]; simp), ho⟩
  · have el : ((g1.length : Int) != (g2.length : Int)) = true := by simp; omega
    have HL := Lib.hid hl
    clear hl d1 d2
    go_enter Try.func12, Try.ntmps12
    go_wp2_with fail
    go_ret
    exact ⟨ret_bool (by symm; rw [beq_eq_false_iff_ne]; intro q; exact HL.out (by rw [q])), Only.refl _ _⟩
end Go.Proofs.Ytincgkcmfhhofaa
