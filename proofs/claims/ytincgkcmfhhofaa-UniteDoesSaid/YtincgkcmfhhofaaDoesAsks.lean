/-
  THE WALK of quittancelaw05.UniteDoes.
-/
import Derived.Test.YtincgkcmfhhofaaDoes
import Derived.Test.YtincgkcmfhhofaaKnown
set_option linter.unusedVariables false
set_option linter.unusedSimpArgs false
namespace Go.Proofs.Ytincgkcmfhhofaa
open Go.RowKit

set_option maxHeartbeats 2000000 in
theorem asks_any (p : Nat → Prop) (n : Int) (v : Value) (gs : List (List Int)) (a : Option Addr) (len cap : Nat) (f : Nat → Int) (k : Int) (hk : 0 ≤ k ∧ k ≤ 255) (w : World) (hg : GridIn p w v gs) (h : BytesIn w a len f) :
    Calls Try.prog 5 #[.int .i64 n, v, .slice a len cap, .int .u8 k] w fun e w' => e = .returned (.bool true) ∧ Below w.heap.size w w' := by
  have KK := Lib.hid (fun w => known_any w)
  have DD : Hid (∀ W, Only NoB w W → Calls Try.prog 16 #[.int .i64 n, v] W fun e w' => e = .returned (.bool true) ∧ Only NoB W w') := fun W o => does_any p n v gs W (hg.kept o (fun _ _ f => f))
  have PP : Hid (∀ W, Only NoB w W → Calls Try.prog 8 #[.slice a len cap] W fun e w' => (∃ v, e = .returned v ∧ GridIn (fun k => W.heap.size ≤ k) w' v (prs f (npairs len))) ∧ Only NoB W w') := fun W o => pairs_any a len cap f W (h.kept o (fun _ _ f => f))
  obtain ⟨ga, gc, rfl⟩ := hg.len
  have hgl : gs.length ≤ maxLen := by obtain ⟨_, _, _, h, _⟩ := hg; exact h
  unfold maxLen at hgl
  obtain ⟨ga2, gc2, hge, _, hgc⟩ := hg
  obtain ⟨rfl, rfl⟩ : ga = ga2 ∧ gc = gc2 := by cases hge; exact ⟨rfl, rfl⟩
  have HG := Lib.hid hgc
  clear hge hgc h
  by_cases h30 : gs.length ≤ 30
  · have l30 : ¬ (30 : Int) < (gs.length : Int) := by omega
    go_enter Try.func5, Try.ntmps5
    go_wp2_with fail
    refine (KK.out _).mono ?_
    rintro e w1 ⟨rfl, o1⟩
    go_wp2_with fail
    go_loopw [9] (fun t wr => ∃ j : Nat, j ≤ gs.length ∧ t = .int .i64 j ∧ Only NoB w wr) (fun t _ => gs.length - (intOf t).toNat)
    case atStart => exact ⟨0, Nat.zero_le _, rfl, o1⟩
    case round =>
      obtain ⟨j, hj, rfl, oR⟩ := hrel
      by_cases lt : j < gs.length
      · have lti : (j : Int) < gs.length := by omega
        obtain ⟨gb, go, rfl, hp, hgc⟩ := HG.out (by omega)
        obtain ⟨x, hx, hi⟩ := hgc j lt
        obtain ⟨xa, xc, rfl, hxl, hxc⟩ := hi
        unfold maxLen at hxl
        have ex := oR.cell hx (fun f => f)
        clear hgc hxc hx
        generalize gs.getD j [] = z at *
        by_cases l20 : z.length ≤ 20
        · have l20i : ¬ (20 : Int) < (z.length : Int) := by omega
          go_wp2_with fail
          go_roundw
          case rel => exact ⟨j + 1, by omega, by go_num, oR⟩
          case measure => simp [intOf]; omega
        · have l20i : (20 : Int) < (z.length : Int) := by omega
          go_wp2_with fail
          refine (KK.out _).mono ?_
          rintro e w2 ⟨rfl, o2⟩
          go_wp2_with fail
          go_ret
          exact ⟨rfl, (oR.trans o2).below⟩
      · obtain rfl : gs.length = j := by omega
        have km : k.tmod 20 = k % 20 := Int.tmod_eq_emod_of_nonneg hk.1
        by_cases n2 : n ≤ 200
        · have n2i : ¬ (200 : Int) < n := by omega
          go_wp2_with fail
          refine (DD.out _ oR).mono ?_
          rintro e w2 ⟨rfl, o2⟩
          go_wp2_with fail
          refine (PP.out _ (oR.trans o2)).mono ?_
          rintro e w3 ⟨⟨v, rfl, hv⟩, o3⟩
          obtain ⟨va, vc, rfl⟩ := hv.len
          go_wp2_with fail
          refine (does_any _ _ _ _ _ hv).mono ?_
          rintro e w4 ⟨rfl, o4⟩
          go_wp2_with fail
          go_ret
          exact ⟨rfl, (((oR.trans o2).trans o3).trans o4).below⟩
        · have n2i : (200 : Int) < n := by omega
          go_wp2_with fail
          refine (PP.out _ oR).mono ?_
          rintro e w3 ⟨⟨v, rfl, hv⟩, o3⟩
          obtain ⟨va, vc, rfl⟩ := hv.len
          go_wp2_with fail
          refine (does_any _ _ _ _ _ hv).mono ?_
          rintro e w4 ⟨rfl, o4⟩
          go_wp2_with fail
          go_ret
          exact ⟨rfl, ((oR.trans o3).trans o4).below⟩
  · have l30 : (30 : Int) < (gs.length : Int) := by omega
    go_enter Try.func5, Try.ntmps5
    go_wp2_with fail
    refine (KK.out _).mono ?_
    rintro e w1 ⟨rfl, o1⟩
    go_wp2_with fail
    go_ret
    exact ⟨rfl, o1.below⟩
end Go.Proofs.Ytincgkcmfhhofaa
