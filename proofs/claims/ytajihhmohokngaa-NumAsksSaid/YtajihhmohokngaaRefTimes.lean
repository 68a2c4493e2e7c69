import Derived.Test.YtajihhmohokngaaRefAdd
set_option linter.unusedVariables false
set_option linter.unusedSimpArgs false
namespace Go.Proofs.Ytajihhmohokngaa
open Go.RowKit

theorem mod_step (u : Int) (k : Nat) : u % 2 ^ (k + 1) = u % 2 ^ k + 2 ^ k * (u / 2 ^ k % 2) := by
  rw [Int.pow_succ]
  have p : (0 : Int) < 2 ^ k := Int.pow_pos (by omega)
  have h1 := Int.emod_add_mul_ediv u (2 ^ k * 2)
  have h2 := Int.emod_add_mul_ediv u (2 ^ k)
  have h3 := Int.emod_add_mul_ediv (u / 2 ^ k) 2
  have h4 : u / (2 ^ k * 2) = u / 2 ^ k / 2 := (Int.ediv_ediv_of_nonneg (by omega)).symm
  rw [h4] at h1
  generalize (2 : Int) ^ k = n at *
  grind
theorem w128_plus (a b : Int) : w128 (w128 a + w128 b) = w128 (a + b) := by unfold w128; omega
theorem w128_minus (a b : Int) : w128 (w128 a - w128 b) = w128 (a - b) := by unfold w128; omega
/-- what the reference's product has gathered behind k bits -/
def gath (a u p : Int) (k : Nat) : Int := if k = 64 then p else a * (u % 2 ^ k)
theorem gath_no (a b u : Int) (k : Nat) (hk : k < 64) (hu : u = lo64 b) (hb : In64 b) (hbit : u / 2 ^ k % 2 = 0) : gath a u (a * b) (k + 1) = gath a u (a * b) k := by
  unfold gath
  rw [if_neg (show ¬ k = 64 by omega)]
  have q := mod_step u k
  rw [hbit] at q
  by_cases e : k + 1 = 64
  · rw [if_pos e]
    obtain rfl : k = 63 := by omega
    have e2 : u % 2 ^ (63 + 1) = u := by rw [hu]; unfold lo64; simp
    have : u % 2 ^ 63 = b := by
      have n : (2 : Int) ^ 63 = 9223372036854775808 := rfl
      rw [n] at hbit ⊢
      unfold In64 at hb
      unfold lo64 at hu
      omega
    rw [this]
  · rw [if_neg e, q]; simp
theorem gath_yes (a b u : Int) (k : Nat) (hk : k < 63) (hbit : u / 2 ^ k % 2 = 1) : gath a u (a * b) (k + 1) = gath a u (a * b) k + a * 2 ^ k := by
  unfold gath
  rw [if_neg (show ¬ k = 64 by omega), if_neg (show ¬ k + 1 = 64 by omega), mod_step, hbit, Int.mul_one, Int.mul_add]
theorem gath_last (a b u : Int) (hu : u = lo64 b) (hb : In64 b) (hbit : u / 2 ^ 63 % 2 = 1) : gath a u (a * b) 64 = gath a u (a * b) 63 - a * 2 ^ 63 := by
  unfold gath
  rw [if_pos rfl, if_neg (by omega), ← Int.mul_sub]
  congr 1
  have n : (2 : Int) ^ 63 = 9223372036854775808 := rfl
  rw [n] at hbit ⊢
  unfold In64 at hb
  unfold lo64 at hu
  omega

set_option maxHeartbeats 4000000 in
theorem rtimes_any (a b : Int) (w : World) (ha : In64 a) (hb : In64 b) :
    Calls Try.prog 28 #[.int .i64 a, .int .i64 b] w fun e w' => e = .returned (.agg #[.int .i64 (hi64 (a * b)), .int .u64 (lo64 (a * b))]) ∧ Below w.heap.size w w' := by
  have O1 := Lib.hid (fun w => rof_any a w ha)
  have ub := u64_eq b
  obtain ⟨u, hu⟩ : ∃ u, lo64 b = u := ⟨_, rfl⟩
  rw [hu] at ub
  have HU := Lib.hid hu.symm
  have u0 : 0 ≤ u ∧ u < 18446744073709551616 := by rw [← hu]; exact lo64_in b
  go_enter Try.func28, Try.ntmps28
  go_wp2_with fail
  have l1 := (lay_ok w 0).1
  have l2 := (lay_ok (lay w 0) 0).1
  have e1 : (lay w 0).heap.size = w.heap.size + 1 := by simp [lay]
  have i4 := (WideIn.new w 0).kept (B := 0) l2
  have i5 := WideIn.new (lay w 0) 0
  rw [e1] at i5
  have bb := l1.trans (l2.mono (by rw [e1]; omega))
  change Calls _ _ _ (lay (lay w 0) 0) _
  generalize lay (lay w 0) 0 = X at *
  clear l1 l2 e1
  refine (O1.out _).mono ?_
  rintro e w1 ⟨rfl, bq⟩
  have bb := bb.trans (bq.mono bb.size)
  have i4 := i4.kept (B := 0) bq
  have i5 := i5.kept (B := 0) bq
  go_wp2_with fail
  have l3 := (lay_ok w1 a).1
  have n4 := i4.lt
  have n5 := i5.lt
  have i4 := i4.kept (B := 0) l3
  have i5 := i5.kept (B := 0) l3
  have i6 := WideIn.new w1 a
  have bb := bb.trans (l3.mono bb.size)
  refine at_world ?_
  intro W hW
  change W = lay w1 a at hW
  subst hW
  generalize lay w1 a = W at *
  generalize hq : w1.heap.size = q at *
  clear l3 bq hq
  go_loopw [7] (fun v wr => ∃ k : Nat, k ≤ 64 ∧ v = .int .i64 k ∧ WideIn wr w.heap.size 0 ∧ WideIn wr (w.heap.size + 1) (w128 (gath a u (a * b) k)) ∧ WideIn wr q (w128 (a * 2 ^ k)) ∧ Below w.heap.size w wr) (fun v _ => 70 - (intOf v).toNat)
  case atStart =>
    refine ⟨0, by omega, rfl, i4, ?_, ?_, bb⟩
    · have z : w128 (gath a u (a * b) 0) = 0 := by unfold gath; simp; rfl
      rw [z]; exact i5
    · simp; rw [w128_of ha.wide]; exact i6
  case round =>
    clear i4 i5 i6 bb
    obtain ⟨k, hk, rfl, i4, i5, i6, bb⟩ := hrel
    by_cases lt : k < 64
    · have lti : (k : Int) < 64 := by omega
      have hx2 := fun w => rtwice_any (w128 (a * 2 ^ k)) w (w128_in _)
      rw [w128_plus] at hx2
      have e2 : a * 2 ^ k + a * 2 ^ k = a * 2 ^ (k + 1) := pow_step a k
      rw [e2] at hx2
      have X2 := Lib.hid hx2
      clear hx2 e2
      have PP := fun w => rplus_any (w128 (gath a u (a * b) k)) (w128 (a * 2 ^ k)) w (w128_in _) (w128_in _)
      have MM := fun w => rminus_any (w128 (gath a u (a * b) k)) (w128 (a * 2 ^ k)) w (w128_in _) (w128_in _)
      rw [w128_plus] at PP
      rw [w128_minus] at MM
      have tb : (u / 2 ^ k).tmod 2 = u / 2 ^ k % 2 := Int.tmod_eq_emod_of_nonneg (Int.ediv_nonneg u0.1 (Int.le_of_lt (Int.pow_pos (by omega))))
      have hb2 : u / 2 ^ k % 2 = 0 ∨ u / 2 ^ k % 2 = 1 := by omega
      by_cases bit : u / 2 ^ k % 2 = 1
      · by_cases l63 : k = 63
        · have t1 : ((u / 2 ^ k).tmod 2 == 1) = true := by rw [tb, bit]; rfl
          have t2 : ((k : Int) == 63) = true := by simp; omega
          have gn : gath a u (a * b) (k + 1) = gath a u (a * b) k - a * 2 ^ k := by subst l63; exact gath_last a b u HU.out hb bit
          have GN := Lib.hid gn
          rw [← gn] at MM
          have CC := Lib.hid MM
          clear PP MM tb hb2 bit gn l63
          generalize hG : gath a u (a * b) k = G at *
          generalize hV : w128 (gath a u (a * b) (k + 1)) = V at *
          generalize hG1 : w128 G = G1 at *
          generalize hY : w128 (a * 2 ^ k) = Y at *
          generalize hZ : w128 (a * 2 ^ (k + 1)) = Z at *
          have HZ := Lib.hid hZ
          have HV := Lib.hid hV
          clear hZ hY hG hV hG1
          have e0 := i6.c0
          have e1 := i6.c1
          have e2 := i5.c0
          have e3 := i5.c1
          go_wp2_with fail
          refine (CC.out _).mono ?_
          rintro e w2 ⟨rfl, bq⟩
          have bb := bb.trans (bq.mono bb.size)
          have i4 := i4.kept (B := 0) bq
          have i5 := i5.kept (B := 0) bq
          have i6 := i6.kept (B := 0) bq
          clear bq e0 e1 e2 e3
          have f0 := i5.f0 0
          have f1 := i5.f0 1
          have d0 := i5.c0
          have d1 := i5.c1
          have lt5 := i5.lt
          have g0 := i6.c0
          have g1 := i6.c1
          go_wp2_with fail
          change Calls _ _ _ (put2 w2 (w.heap.size + 1) V) _
          have i4 := i4.far (c := w.heap.size + 1) V (by omega)
          have i6 := i6.far (c := w.heap.size + 1) V (by omega)
          have i5 := i5.set V
          have bb := put2_below bb V (c := w.heap.size + 1) (by omega)
          clear f0 f1 d0 d1 lt5 g0 g1
          generalize put2 w2 (w.heap.size + 1) V = w3 at *
          refine (X2.out _).mono ?_
          rintro e w4 ⟨rfl, bq⟩
          have bb := bb.trans (bq.mono bb.size)
          have i4 := i4.kept (B := 0) bq
          have i5 := i5.kept (B := 0) bq
          have i6 := i6.kept (B := 0) bq
          clear bq
          have f0 := i6.f0 0
          have f1 := i6.f0 1
          have d0 := i6.c0
          have d1 := i6.c1
          have lt6 := i6.lt
          go_wp2_with fail
          go_roundw
          case rel =>
            refine ⟨k + 1, by omega, by go_num, i4.far Z (by omega), ?_, ?_, put2_below bb Z (by omega)⟩
            · rw [HV.out]; exact i5.far Z (by omega)
            · rw [HZ.out]; exact i6.set Z
          case measure => first | (simp [intOf]; done) | (simp [intOf]; omega)
        · have t1 : ((u / 2 ^ k).tmod 2 == 1) = true := by rw [tb, bit]; rfl
          have t2 : ((k : Int) == 63) = false := by simp; omega
          have gn := gath_yes a b u k (by omega) bit
          have GN := Lib.hid gn
          rw [← gn] at PP
          have CC := Lib.hid PP
          clear PP MM tb hb2 bit gn l63
          generalize hG : gath a u (a * b) k = G at *
          generalize hV : w128 (gath a u (a * b) (k + 1)) = V at *
          generalize hG1 : w128 G = G1 at *
          generalize hY : w128 (a * 2 ^ k) = Y at *
          generalize hZ : w128 (a * 2 ^ (k + 1)) = Z at *
          have HZ := Lib.hid hZ
          have HV := Lib.hid hV
          clear hZ hY hG hV hG1
          have e0 := i6.c0
          have e1 := i6.c1
          have e2 := i5.c0
          have e3 := i5.c1
          go_wp2_with fail
          refine (CC.out _).mono ?_
          rintro e w2 ⟨rfl, bq⟩
          have bb := bb.trans (bq.mono bb.size)
          have i4 := i4.kept (B := 0) bq
          have i5 := i5.kept (B := 0) bq
          have i6 := i6.kept (B := 0) bq
          clear bq e0 e1 e2 e3
          have f0 := i5.f0 0
          have f1 := i5.f0 1
          have d0 := i5.c0
          have d1 := i5.c1
          have lt5 := i5.lt
          have g0 := i6.c0
          have g1 := i6.c1
          go_wp2_with fail
          change Calls _ _ _ (put2 w2 (w.heap.size + 1) V) _
          have i4 := i4.far (c := w.heap.size + 1) V (by omega)
          have i6 := i6.far (c := w.heap.size + 1) V (by omega)
          have i5 := i5.set V
          have bb := put2_below bb V (c := w.heap.size + 1) (by omega)
          clear f0 f1 d0 d1 lt5 g0 g1
          generalize put2 w2 (w.heap.size + 1) V = w3 at *
          refine (X2.out _).mono ?_
          rintro e w4 ⟨rfl, bq⟩
          have bb := bb.trans (bq.mono bb.size)
          have i4 := i4.kept (B := 0) bq
          have i5 := i5.kept (B := 0) bq
          have i6 := i6.kept (B := 0) bq
          clear bq
          have f0 := i6.f0 0
          have f1 := i6.f0 1
          have d0 := i6.c0
          have d1 := i6.c1
          have lt6 := i6.lt
          go_wp2_with fail
          go_roundw
          case rel =>
            refine ⟨k + 1, by omega, by go_num, i4.far Z (by omega), ?_, ?_, put2_below bb Z (by omega)⟩
            · rw [HV.out]; exact i5.far Z (by omega)
            · rw [HZ.out]; exact i6.set Z
          case measure => first | (simp [intOf]; done) | (simp [intOf]; omega)
      · have t1 : ((u / 2 ^ k).tmod 2 == 1) = false := by rw [tb]; simp; omega
        have gn := gath_no a b u k lt HU.out hb (by omega)
        have GN := Lib.hid gn
        have d0 := i5.c0
        clear PP MM tb hb2 bit gn d0
        generalize hG : gath a u (a * b) k = G at *
        generalize hY : w128 (a * 2 ^ k) = Y at *
        generalize hZ : w128 (a * 2 ^ (k + 1)) = Z at *
        have HZ := Lib.hid hZ
        have HG := Lib.hid hG
        clear hZ hY hG
        have e0 := i6.c0
        have e1 := i6.c1
        go_wp2_with fail
        refine (X2.out _).mono ?_
        rintro e w2 ⟨rfl, bq⟩
        have bb := bb.trans (bq.mono bb.size)
        have i4 := i4.kept (B := 0) bq
        have i5 := i5.kept (B := 0) bq
        have i6 := i6.kept (B := 0) bq
        clear bq e0 e1
        have f0 := i6.f0 0
        have f1 := i6.f0 1
        have d0 := i6.c0
        have d1 := i6.c1
        have lt6 := i6.lt
        go_wp2_with fail
        go_roundw
        case rel =>
          refine ⟨k + 1, by omega, by go_num, i4.far Z (by omega), ?_, ?_, put2_below bb Z (by omega)⟩
          · rw [GN.out]; exact i5.far Z (by omega)
          · rw [HZ.out]; exact i6.set Z
        case measure => first | (simp [intOf]; done) | (simp [intOf]; omega)
    · have e : k = 64 := by omega
      subst e
      have z : w128 (gath a u (a * b) 64) = a * b := by unfold gath; rw [if_pos rfl]; exact w128_of (prod_in ha hb)
      rw [z] at i5
      generalize hpp : a * b = p at *
      have e32 : ((64 : Nat) : Int) = 64 := rfl
      rw [e32]
      clear e32 z
      have d0 := i5.c0
      have d1 := i5.c1
      have f0 := i4.f0 0
      have f1 := i4.f0 1
      have c0 := i4.c0
      have c1 := i4.c1
      have lt4 := i4.lt
      go_wp2_with fail
      have bb := put2_below bb p (c := w.heap.size) (Nat.le_refl _)
      refine bodyPost_ret (v := .agg #[.int .i64 (hi64 p), .int .u64 (lo64 p)]) (by simp [results, Try.results28, go_sem, c0, c1, f0, f1, lt4]) rfl ⟨by rw [hpp], bb⟩
end Go.Proofs.Ytajihhmohokngaa
