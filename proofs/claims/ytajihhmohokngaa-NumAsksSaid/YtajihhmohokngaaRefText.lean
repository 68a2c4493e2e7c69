import Derived.Test.YtajihhmohokngaaRefTen
import Derived.Test.YtajihhmohokngaaRefLess
set_option linter.unusedVariables false
set_option linter.unusedSimpArgs false
namespace Go.Proofs.Ytajihhmohokngaa
open Go.RowKit

theorem tenth_at (m k : Nat) (w : World) (hm : m < 340282366920938463463374607431768211456) :
    Calls Try.prog 51 #[.int .u64 (hiQ m k), .int .u64 (loQ m k)] w fun e w' => e = .returned (.tuple #[.int .u64 (hiQ m (k + 1)), .int .u64 (loQ m (k + 1)), .int .i64 (dig m k)]) ∧ w' = w := by
  refine (tenth_any (hiQ m k) (loQ m k) (m / 10 ^ k : Nat) w (hiQ_in m k hm) (loQ_in m k) (by unfold hiQ loQ; omega)).mono ?_
  rintro e w' ⟨H, L, E, ⟨e0, e1, h0, h1, l0, l1, hq⟩, rfl, rfl⟩
  rw [Int.pow_zero, Int.ediv_one] at hq
  have q := quo_step m k
  have e1 : H = hiQ m (k + 1) := by unfold hiQ; omega
  have e2 : L = loQ m (k + 1) := by unfold loQ; omega
  have e3 : E = (dig m k : Int) := by unfold dig; omega
  exact ⟨by rw [e1, e2, e3], rfl⟩
theorem digs_succ (m k : Nat) : digs m (k + 1) = UInt8.ofNat (48 + dig m k) :: digs m k := by
  unfold digs
  rw [List.range_succ_eq_map, List.map_cons, List.map_map]
  congr 1
  simp
  intro j hj
  rw [show k - (j + 1) = k - 1 - j by omega]

theorem one_digit (d : Nat) (hd : d < 10) : ({ data := #[48, 49, 50, 51, 52, 53, 54, 55, 56, 57] } : ByteArray).extract d (d + 1) = ⟨#[UInt8.ofNat (48 + d)]⟩ := by
  have : d = 0 ∨ d = 1 ∨ d = 2 ∨ d = 3 ∨ d = 4 ∨ d = 5 ∨ d = 6 ∨ d = 7 ∨ d = 8 ∨ d = 9 := by omega
  rcases this with rfl | rfl | rfl | rfl | rfl | rfl | rfl | rfl | rfl | rfl <;> rfl
theorem bytes_app (a b : Array UInt8) : (⟨a⟩ ++ ⟨b⟩ : ByteArray) = ⟨a ++ b⟩ := by
  apply ByteArray.ext
  simp
theorem digs_more (m k : Nat) : ({ data := #[48, 49, 50, 51, 52, 53, 54, 55, 56, 57] } : ByteArray).extract (dig m k) (dig m k + 1) ++ ⟨(digs m k).toArray⟩ = ⟨(digs m (k + 1)).toArray⟩ := by
  rw [one_digit _ (dig_lt m k), bytes_app, digs_succ]
  simp
set_option maxRecDepth 100000 in
set_option maxHeartbeats 2000000 in
theorem rtext_pos (x : Int) (w : World) (hx : In128 x) (h0 : 0 ≤ x) :
    Calls Try.prog 47 #[.agg #[.int .i64 (hi64 x), .int .u64 (lo64 x)]] w fun e w' => (∃ n, Len x.natAbs n ∧ e = .returned (.string ⟨(textL x n).toArray⟩)) ∧ Below w.heap.size w w' := by
  have g0 : ¬ hi64 x < 0 := by unfold hi64; omega
  have u1 : IntKind.u64.wrap (hi64 x) = hiQ x.natAbs 0 := by rw [u64_eq]; unfold In128 at hx; unfold hi64 lo64 hiQ; omega
  have u2 : lo64 x = loQ x.natAbs 0 := by unfold lo64 loQ; omega
  have hm : x.natAbs < 340282366920938463463374607431768211456 := by unfold In128 at hx; omega
  have ht : ∀ n, textL x n = digs x.natAbs n := by intro n; unfold textL; rw [if_neg (by omega)]; rfl
  simp only [ht]
  rw [u2]
  have TT := Lib.hid (fun k w => tenth_at x.natAbs k w hm)
  clear ht h0 hx u2
  generalize x.natAbs = m at *
  generalize hi64 x = hx at *
  go_enter Try.func47, Try.ntmps47
  go_wp2_with fail
  have bb := Below.alloc (Below.refl w.heap.size w) (Nat.le_refl _) (Obj.cells #[Value.int IntKind.i64 hx, Value.int IntKind.u64 (loQ m 0)] 27)
  generalize World.alloc w _ = wd at *
  go_loopw [4, 5, 6] (fun h l s wr => ∃ k : Nat, k ≤ 39 ∧ h = .int .u64 (hiQ m k) ∧ l = .int .u64 (loQ m k) ∧ s = .string ⟨(digs m k).toArray⟩ ∧ (∀ j, 1 ≤ j → j < k → m / 10 ^ j ≠ 0) ∧ Below w.heap.size w wr) (fun _ _ s _ => match s with | .string b => 40 - b.data.size | _ => 0)
  case atStart => exact ⟨0, by omega, rfl, rfl, rfl, fun j a b => absurd b (by omega), bb⟩
  case round =>
    clear bb
    obtain ⟨k, hk, rfl, rfl, rfl, hz, bb⟩ := hrel
    obtain ⟨q0, q1⟩ := hiQ_in m k hm
    obtain ⟨l0, l1⟩ := loQ_in m k
    have dl := dig_lt m k
    have DL := Lib.hid (digs_len m k)
    have DL1 := Lib.hid (digs_len m (k + 1))
    have DM := Lib.hid (digs_more m k)
    have T := Lib.hid (TT.out k)
    have hsplit : (k < 39 ∧ (∀ j, 1 ≤ j → j < k + 1 → m / 10 ^ j ≠ 0) ∧ ((0 < hiQ m k) ∨ (hiQ m k = 0 ∧ 0 < loQ m k) ∨ (hiQ m k = 0 ∧ loQ m k = 0 ∧ k = 0))) ∨ (hiQ m k = 0 ∧ loQ m k = 0 ∧ 1 ≤ k ∧ Len m k) := by
      have z := quo_zero m k
      by_cases c : m / 10 ^ k = 0
      · by_cases k0 : k = 0
        · exact .inl ⟨by omega, fun j a b => absurd a (by omega), .inr (.inr ⟨(z.1 c).1, (z.1 c).2, k0⟩)⟩
        · exact .inr ⟨(z.1 c).1, (z.1 c).2, by omega, by omega, c, hz⟩
      · refine .inl ⟨len_top hm c, fun j a b => ?_, ?_⟩
        · by_cases e : j = k
          · rw [e]; exact c
          · exact hz j a (by omega)
        · omega
    clear hz
    rcases hsplit with ⟨lt, nx, c⟩ | ⟨c1, c2, k1, len⟩
    · have NX := Lib.hid nx
      clear nx
      rcases c with c1 | ⟨c1, c2⟩ | ⟨c1, c2, c3⟩
      · generalize hiQ m k = hh at *
        generalize loQ m k = ll at *
        go_wp2_with fail
        refine (T.out _).mono ?_
        rintro e w1 ⟨rfl, rfl⟩
        go_wp2_with fail
        · exfalso; rename_i hh; revert hh; rw [DL.out]; omega
        · go_roundw
          case rel => exact ⟨k + 1, by omega, rfl, rfl, congrArg Value.string DM.out, NX.out, bb⟩
          case measure =>
            rw [DM.out]
            simp [DL.out, DL1.out]
            omega
      · generalize hiQ m k = hh at *
        generalize loQ m k = ll at *
        subst c1
        go_wp2_with fail
        refine (T.out _).mono ?_
        rintro e w1 ⟨rfl, rfl⟩
        go_wp2_with fail
        · exfalso; rename_i hh; revert hh; rw [DL.out]; omega
        · go_roundw
          case rel => exact ⟨k + 1, by omega, rfl, rfl, congrArg Value.string DM.out, NX.out, bb⟩
          case measure =>
            rw [DM.out]
            simp [DL.out, DL1.out]
            omega
      · generalize hiQ m k = hh at *
        generalize loQ m k = ll at *
        subst c1 c2
        have EM : (digs m k).isEmpty = true := by rw [c3]; rfl
        clear c3
        go_wp2_with fail
        refine (T.out _).mono ?_
        rintro e w1 ⟨rfl, rfl⟩
        go_wp2_with fail
        · exfalso; rename_i hh; revert hh; rw [DL.out]; omega
        · go_roundw
          case rel => exact ⟨k + 1, by omega, rfl, rfl, congrArg Value.string DM.out, NX.out, bb⟩
          case measure =>
            rw [DM.out]
            simp [DL.out, DL1.out]
            omega
    · generalize hiQ m k = hh at *
      generalize loQ m k = ll at *
      subst c1 c2
      have EM : (digs m k).isEmpty = false := by
        have := DL.out
        cases h : digs m k with
        | nil => rw [h] at this; simp at this; omega
        | cons a b => rfl
      have E0 : ({ data := #[] } ++ { data := (digs m k).toArray } : ByteArray) = ⟨(digs m k).toArray⟩ := (bytes_app _ _).trans (by simp)
      have E0 := Lib.hid E0
      go_wp2_with fail
      · exfalso; rename_i hh; revert hh; rw [DL.out]; omega
      · refine bodyPost_ret (v := .string ({ data := #[] } ++ { data := (digs m k).toArray })) (by simp [results, Try.results47, go_sem]; try exact E0.out.symm) rfl ⟨⟨k, len, ?_⟩, bb⟩
        rw [E0.out]
set_option maxRecDepth 100000 in
set_option maxHeartbeats 2000000 in
theorem rtext_neg (x : Int) (w : World) (hx : In128 x) (h0 : x < 0) :
    Calls Try.prog 47 #[.agg #[.int .i64 (hi64 x), .int .u64 (lo64 x)]] w fun e w' => (∃ n, Len x.natAbs n ∧ e = .returned (.string ⟨(textL x n).toArray⟩)) ∧ Below w.heap.size w w' := by
  have g0 : hi64 x < 0 := by unfold hi64; omega
  have u1 : IntKind.u64.wrap (hi64 (w128 (0 - x))) = hiQ x.natAbs 0 := by rw [u64_eq]; unfold In128 at hx; unfold hi64 lo64 hiQ w128; omega
  have u2 : lo64 (w128 (0 - x)) = loQ x.natAbs 0 := by unfold lo64 loQ w128; omega
  have hm : x.natAbs < 340282366920938463463374607431768211456 := by unfold In128 at hx; omega
  have ht : ∀ n, textL x n = 45 :: digs x.natAbs n := by intro n; unfold textL; rw [if_pos h0]; rfl
  simp only [ht]
  have TT := Lib.hid (fun k w => tenth_at x.natAbs k w hm)
  have RL := Lib.hid (fun w => rless_any x w hx)
  clear ht h0 hx
  generalize x.natAbs = m at *
  generalize w128 (0 - x) = y at *
  go_enter Try.func47, Try.ntmps47
  go_wp2_with fail
  have l1 := (lay_ok w x).1
  have i4 := WideIn.new w x
  have bb := l1
  change Calls _ _ _ (lay w x) _
  generalize lay w x = wd at *
  clear l1
  refine (RL.out _).mono ?_
  rintro e w2 ⟨rfl, bq⟩
  have bb := bb.trans (bq.mono bb.size)
  have i4 := i4.kept (B := 0) bq
  have f0 := i4.f0 0
  have f1 := i4.f0 1
  have d0 := i4.c0
  have d1 := i4.c1
  have lt4 := i4.lt
  go_wp2_with fail
  have bb := put2_below bb y (c := w.heap.size) (Nat.le_refl _)
  unfold put2 at bb
  rw [u2] at bb
  generalize World.setCell _ _ _ = wd2 at *
  clear d0 d1 f0 f1 lt4 i4
  go_loopw [4, 5, 6] (fun h l s wr => ∃ k : Nat, k ≤ 39 ∧ h = .int .u64 (hiQ m k) ∧ l = .int .u64 (loQ m k) ∧ s = .string ⟨(digs m k).toArray⟩ ∧ (∀ j, 1 ≤ j → j < k → m / 10 ^ j ≠ 0) ∧ Below w.heap.size w wr) (fun _ _ s _ => match s with | .string b => 40 - b.data.size | _ => 0)
  case atStart => exact ⟨0, by omega, rfl, rfl, rfl, fun j a b => absurd b (by omega), bb⟩
  case round =>
    clear bb
    obtain ⟨k, hk, rfl, rfl, rfl, hz, bb⟩ := hrel
    obtain ⟨q0, q1⟩ := hiQ_in m k hm
    obtain ⟨l0, l1⟩ := loQ_in m k
    have dl := dig_lt m k
    have DL := Lib.hid (digs_len m k)
    have DL1 := Lib.hid (digs_len m (k + 1))
    have DM := Lib.hid (digs_more m k)
    have T := Lib.hid (TT.out k)
    have hsplit : (k < 39 ∧ (∀ j, 1 ≤ j → j < k + 1 → m / 10 ^ j ≠ 0) ∧ ((0 < hiQ m k) ∨ (hiQ m k = 0 ∧ 0 < loQ m k) ∨ (hiQ m k = 0 ∧ loQ m k = 0 ∧ k = 0))) ∨ (hiQ m k = 0 ∧ loQ m k = 0 ∧ 1 ≤ k ∧ Len m k) := by
      have z := quo_zero m k
      by_cases c : m / 10 ^ k = 0
      · by_cases k0 : k = 0
        · exact .inl ⟨by omega, fun j a b => absurd a (by omega), .inr (.inr ⟨(z.1 c).1, (z.1 c).2, k0⟩)⟩
        · exact .inr ⟨(z.1 c).1, (z.1 c).2, by omega, by omega, c, hz⟩
      · refine .inl ⟨len_top hm c, fun j a b => ?_, ?_⟩
        · by_cases e : j = k
          · rw [e]; exact c
          · exact hz j a (by omega)
        · omega
    clear hz
    rcases hsplit with ⟨lt, nx, c⟩ | ⟨c1, c2, k1, len⟩
    · have NX := Lib.hid nx
      clear nx
      rcases c with c1 | ⟨c1, c2⟩ | ⟨c1, c2, c3⟩
      · generalize hiQ m k = hh at *
        generalize loQ m k = ll at *
        go_wp2_with fail
        refine (T.out _).mono ?_
        rintro e w1 ⟨rfl, rfl⟩
        go_wp2_with fail
        · exfalso; rename_i hh; revert hh; rw [DL.out]; omega
        · go_roundw
          case rel => exact ⟨k + 1, by omega, rfl, rfl, congrArg Value.string DM.out, NX.out, bb⟩
          case measure =>
            rw [DM.out]
            simp [DL.out, DL1.out]
            omega
      · generalize hiQ m k = hh at *
        generalize loQ m k = ll at *
        subst c1
        go_wp2_with fail
        refine (T.out _).mono ?_
        rintro e w1 ⟨rfl, rfl⟩
        go_wp2_with fail
        · exfalso; rename_i hh; revert hh; rw [DL.out]; omega
        · go_roundw
          case rel => exact ⟨k + 1, by omega, rfl, rfl, congrArg Value.string DM.out, NX.out, bb⟩
          case measure =>
            rw [DM.out]
            simp [DL.out, DL1.out]
            omega
      · generalize hiQ m k = hh at *
        generalize loQ m k = ll at *
        subst c1 c2
        have EM : (digs m k).isEmpty = true := by rw [c3]; rfl
        clear c3
        go_wp2_with fail
        refine (T.out _).mono ?_
        rintro e w1 ⟨rfl, rfl⟩
        go_wp2_with fail
        · exfalso; rename_i hh; revert hh; rw [DL.out]; omega
        · go_roundw
          case rel => exact ⟨k + 1, by omega, rfl, rfl, congrArg Value.string DM.out, NX.out, bb⟩
          case measure =>
            rw [DM.out]
            simp [DL.out, DL1.out]
            omega
    · generalize hiQ m k = hh at *
      generalize loQ m k = ll at *
      subst c1 c2
      have EM : (digs m k).isEmpty = false := by
        have := DL.out
        cases h : digs m k with
        | nil => rw [h] at this; simp at this; omega
        | cons a b => rfl
      have E0 : ({ data := #[45] } ++ { data := (digs m k).toArray } : ByteArray) = ⟨(45 :: digs m k).toArray⟩ := (bytes_app _ _).trans (by simp)
      have E0 := Lib.hid E0
      go_wp2_with fail
      · exfalso; rename_i hh; revert hh; rw [DL.out]; omega
      · refine bodyPost_ret (v := .string ({ data := #[45] } ++ { data := (digs m k).toArray })) (by simp [results, Try.results47, go_sem]; try exact E0.out.symm) rfl ⟨⟨k, len, ?_⟩, bb⟩
        rw [E0.out]

theorem rtext_any (x : Int) (w : World) (hx : In128 x) :
    Calls Try.prog 47 #[.agg #[.int .i64 (hi64 x), .int .u64 (lo64 x)]] w fun e w' => (∃ n, Len x.natAbs n ∧ e = .returned (.string ⟨(textL x n).toArray⟩)) ∧ Below w.heap.size w w' := by
  by_cases h : x < 0
  · exact rtext_neg x w hx h
  · exact rtext_pos x w hx (by omega)
end Go.Proofs.Ytajihhmohokngaa
