import Derived.Test.YtajihhmohokngaaOrderLaw
set_option linter.unusedVariables false
set_option linter.unusedSimpArgs false
namespace Go.Proofs.Ytajihhmohokngaa
open Go.RowKit

theorem pow_step (x : Int) (k : Nat) : x * 2 ^ k + x * 2 ^ k = x * 2 ^ (k + 1) := by
  rw [Int.pow_succ, ← Int.mul_assoc]; omega
theorem pow_in (x : Int) (k : Nat) (h0 : 0 ≤ x) (h1 : x < 1125899906842624) (hk : k ≤ 64) : In128 (x * 2 ^ k) := by
  have e : (2 : Int) ^ k = ((2 ^ k : Nat) : Int) := by simp
  have n : 2 ^ k ≤ 2 ^ 64 := Nat.pow_le_pow_right (by omega) hk
  generalize (2 ^ k : Nat) = N at *
  have m := Int.mul_le_mul (Int.le_of_lt h1) (show (N : Int) ≤ 18446744073709551616 by omega) (by omega) (by omega : (0 : Int) ≤ 1125899906842624)
  have p : 0 ≤ x * (N : Int) := Int.mul_nonneg h0 (by omega)
  rw [e]
  unfold In128
  omega
/-- a wide number's block, as a whole -/
def WideIn (w : World) (b : Nat) (x : Int) : Prop := w.heap[b]? = some (.cells #[.int .i64 (hi64 x), .int .u64 (lo64 x)] 27 (0, 0))
theorem WideIn.lt {w : World} {b : Nat} {x : Int} (h : WideIn w b x) : b < w.heap.size := (Array.getElem?_eq_some_iff.1 h).1
theorem WideIn.c0 {w : World} {b : Nat} {x : Int} (h : WideIn w b x) : w.cell? ⟨b, 0, none⟩ = some (.int .i64 (hi64 x)) := (cell_in _ _ _ _ _ _ h).trans rfl
theorem WideIn.c1 {w : World} {b : Nat} {x : Int} (h : WideIn w b x) : w.cell? ⟨b, 1, none⟩ = some (.int .u64 (lo64 x)) := (cell_in _ _ _ _ _ _ h).trans rfl
theorem WideIn.f0 {w : World} {b : Nat} {x : Int} (h : WideIn w b x) (j : Nat) : w.frozen? ⟨b, j, none⟩ = false := frozen_in _ _ _ _ _ h
theorem WideIn.kept {w w' : World} {b B : Nat} {x : Int} (h : WideIn w b x) (k : Below w.heap.size w w') : WideIn w' b x := (k.block b h.lt).trans h
theorem WideIn.new (w : World) (x : Int) : WideIn (lay w x) w.heap.size x := heap_new _ _
def put2 (w : World) (b : Nat) (y : Int) : World := (w.setCell ⟨b, 0, none⟩ (.int .i64 (hi64 y))).setCell ⟨b, 1, none⟩ (.int .u64 (lo64 y))
theorem WideIn.set {w : World} {b : Nat} {x : Int} (h : WideIn w b x) (y : Int) : WideIn (put2 w b y) b y :=
  (heap_setCell_at _ _ _ _ _ _ _ (heap_setCell_at _ _ _ _ _ _ _ h)).trans rfl
theorem WideIn.far {w : World} {b c : Nat} {x : Int} (h : WideIn w b x) (y : Int) (hne : b ≠ c) : WideIn (put2 w c y) b x := by
  unfold WideIn put2
  rw [Below.heap_setCell _ _ _ _ hne, Below.heap_setCell _ _ _ _ hne]
  exact h
theorem put2_below {B : Nat} {w u : World} {c : Nat} (h : Below B u w) (y : Int) (hc : B ≤ c) : Below B u (put2 w c y) := Below.setCell (Below.setCell h hc _) hc _
theorem put2_size (w : World) (c : Nat) (y : Int) : (put2 w c y).heap.size = w.heap.size := by simp [put2]
theorem halves_sum (a b c d : Int) : (c * 4294967296 + a) * (d * 4294967296 + b) = a * b + (a * d + c * b) * 2 ^ 32 + c * d * 2 ^ (32 + 32) := by
  have e1 : (2 : Int) ^ 32 = 4294967296 := rfl
  have e2 : (2 : Int) ^ (32 + 32) = 4294967296 * 4294967296 := rfl
  rw [e1, e2]
  grind

set_option maxHeartbeats 4000000 in
theorem halves_walk (a b c d : Int) (w : World) (ha : 0 ≤ a ∧ a < 4294967296) (hb : 0 ≤ b ∧ b < 4294967296) (hc : 0 ≤ c ∧ c < 65536) (hd : 0 ≤ d ∧ d < 65536) :
    Calls Try.prog 8 #[.int .u32 a, .int .u32 b, .int .u16 c, .int .u16 d] w fun e w' => e = .returned (.bool true) ∧ Below w.heap.size w w' := by
  have KK := Lib.hid (fun w => known_any w)
  have a6 : In64 a := by unfold In64; omega
  have b6 : In64 b := by unfold In64; omega
  have c6 : In64 c := by unfold In64; omega
  have d6 : In64 d := by unfold In64; omega
  have x6 : In64 (c * 4294967296 + a) := by unfold In64; omega
  have y6 : In64 (d * 4294967296 + b) := by unfold In64; omega
  have M1 := fun w => times_any a b w a6 b6
  have M2 := fun w => times_any a d w a6 d6
  have M3 := fun w => times_any c b w c6 b6
  have M4 := fun w => times_any c d w c6 d6
  have M5 := fun w => times_any (c * 4294967296 + a) (d * 4294967296 + b) w x6 y6
  have hsum := halves_sum a b c d
  have l0 : 0 ≤ a * b := Int.mul_nonneg ha.1 hb.1
  have l1 := Int.mul_le_mul (Int.le_of_lt ha.2) (Int.le_of_lt hb.2) hb.1 (by omega : (0 : Int) ≤ 4294967296)
  have m0 : 0 ≤ a * d := Int.mul_nonneg ha.1 hd.1
  have m1 := Int.mul_le_mul (Int.le_of_lt ha.2) (Int.le_of_lt hd.2) hd.1 (by omega : (0 : Int) ≤ 4294967296)
  have n0 : 0 ≤ c * b := Int.mul_nonneg hc.1 hb.1
  have n1 := Int.mul_le_mul (Int.le_of_lt hc.2) (Int.le_of_lt hb.2) hb.1 (by omega : (0 : Int) ≤ 65536)
  have t0 : 0 ≤ c * d := Int.mul_nonneg hc.1 hd.1
  have t1 := Int.mul_le_mul (Int.le_of_lt hc.2) (Int.le_of_lt hd.2) hd.1 (by omega : (0 : Int) ≤ 65536)
  have P1 := fun w => plus_any (a * d) (c * b) w (prod_in a6 d6) (prod_in c6 b6)
  rw [w128_of (by unfold In128; omega)] at P1
  have p5 := prod_in x6 y6
  rw [hsum] at M5 p5
  clear hsum a6 b6 c6 d6 x6 y6
  generalize hlo : a * b = lo at *
  generalize hm1 : a * d = md1 at *
  generalize hm2 : c * b = md2 at *
  generalize hto : c * d = to at *
  obtain ⟨md, hmd⟩ : ∃ md, md1 + md2 = md := ⟨_, rfl⟩
  rw [hmd] at P1 M5 p5
  have md0 : 0 ≤ md ∧ md < 1125899906842624 := by omega
  have to0 : 0 ≤ to ∧ to < 1125899906842624 := by omega
  have lo1 : 0 ≤ lo ∧ lo ≤ 18446744073709551616 := by omega
  have lo0 : In128 lo := by unfold In128; omega
  have M1 := Lib.hid M1
  have M2 := Lib.hid M2
  have M3 := Lib.hid M3
  have M4 := Lib.hid M4
  have M5 := Lib.hid M5
  have P1 := Lib.hid P1
  have F5 := Lib.hid p5
  clear hlo hm1 hm2 hto hmd l0 l1 m0 m1 n0 n1 t0 t1 p5
  have bb := Below.refl w.heap.size w
  go_enter Try.func8, Try.ntmps8
  go_wp2_with fail
  refine (M1.out _).mono ?_
  rintro e w1 ⟨rfl, bq⟩
  have bb := bb.trans (bq.mono bb.size)
  clear bq
  go_wp2_with fail
  have bl := (lay_ok w1 (lo)).1
  have i1 := WideIn.new w1 (lo)
  have pl := bb.size
  have bb := bb.trans (bl.mono bb.size)
  clear bl
  change Calls _ _ _ (lay w1 (lo)) _
  generalize lay w1 (lo) = X1 at *
  have q1 := i1.lt
  have pl1 := pl
  generalize hp1 : w1.heap.size = p1 at *
  refine (M2.out _).mono ?_
  rintro e w2 ⟨rfl, bq⟩
  have bb := bb.trans (bq.mono bb.size)
  have i1 := i1.kept (B := 0) bq
  clear bq
  go_wp2_with fail
  refine (M3.out _).mono ?_
  rintro e w3 ⟨rfl, bq⟩
  have bb := bb.trans (bq.mono bb.size)
  have i1 := i1.kept (B := 0) bq
  clear bq
  go_wp2_with fail
  refine (P1.out _).mono ?_
  rintro e w4 ⟨rfl, bq⟩
  have bb := bb.trans (bq.mono bb.size)
  have i1 := i1.kept (B := 0) bq
  clear bq
  go_wp2_with fail
  have q2 := i1.lt
  have bl := (lay_ok w4 (md)).1
  have i2 := WideIn.new w4 (md)
  have i1 := i1.kept (B := 0) bl
  have pl := bb.size
  have bb := bb.trans (bl.mono bb.size)
  clear bl
  change Calls _ _ _ (lay w4 (md)) _
  generalize lay w4 (md) = X2 at *
  have pl2 := pl
  generalize hp2 : w4.heap.size = p2 at *
  refine (M4.out _).mono ?_
  rintro e w5 ⟨rfl, bq⟩
  have bb := bb.trans (bq.mono bb.size)
  have i1 := i1.kept (B := 0) bq
  have i2 := i2.kept (B := 0) bq
  clear bq
  go_wp2_with fail
  have q3 := i1.lt
  have q4 := i2.lt
  have bl := (lay_ok w5 (to)).1
  have i3 := WideIn.new w5 (to)
  have i1 := i1.kept (B := 0) bl
  have i2 := i2.kept (B := 0) bl
  have pl := bb.size
  have bb := bb.trans (bl.mono bb.size)
  clear bl
  refine at_world ?_
  intro W hW
  change W = lay w5 (to) at hW
  subst hW
  generalize lay w5 (to) = W at *
  have pl3 := pl
  generalize hp3 : w5.heap.size = p3 at *
  have n12 : p1 ≠ p2 := by omega
  have n13 : p1 ≠ p3 := by omega
  have n23 : p2 ≠ p3 := by omega
  have n21 : p2 ≠ p1 := by omega
  have n31 : p3 ≠ p1 := by omega
  have n32 : p3 ≠ p2 := by omega
  have cc := Lib.hid (show w.heap.size ≤ p1 ∧ w.heap.size ≤ p2 ∧ w.heap.size ≤ p3 from ⟨pl1, pl2, pl3⟩)
  clear hp1 hp2 hp3 q1 q2 q3 q4 pl pl1 pl2 pl3 ha hb hc hd
  go_loopw [14] (fun s wr => ∃ k : Nat, k ≤ 32 ∧ s = .int .i64 k ∧ WideIn wr p1 lo ∧ WideIn wr p2 (md * 2 ^ k) ∧ WideIn wr p3 (to * 2 ^ k) ∧ Below w.heap.size w wr) (fun s _ => 40 - (intOf s).toNat)
  case atStart => exact ⟨0, by omega, rfl, i1, by simpa using i2, by simpa using i3, bb⟩
  case round =>
    clear i1 i2 i3 bb
    obtain ⟨k, hk, rfl, i1, i2, i3, bb⟩ := hrel
    have in2 := pow_in md k md0.1 md0.2 (by omega)
    have in3 := pow_in to k to0.1 to0.2 (by omega)
    have PM := fun w => plus_any (md * 2 ^ k) (md * 2 ^ k) w in2 in2
    have PT := fun w => plus_any (to * 2 ^ k) (to * 2 ^ k) w in3 in3
    have c20 := i2.c0
    have c21 := i2.c1
    by_cases lt : k < 32
    · have lti : (k : Int) < 32 := by omega
      simp only [pow_step] at PM PT
      rw [w128_of (pow_in md (k + 1) md0.1 md0.2 (by omega))] at PM
      rw [w128_of (pow_in to (k + 1) to0.1 to0.2 (by omega))] at PT
      have PM := Lib.hid PM
      have PT := Lib.hid PT
      clear in2 in3
      generalize hy2 : md * 2 ^ k = y2 at *
      generalize hz2 : md * 2 ^ (k + 1) = z2 at *
      generalize hy3 : to * 2 ^ k = y3 at *
      generalize hz3 : to * 2 ^ (k + 1) = z3 at *
      go_wp2_with fail
      refine (PM.out _).mono ?_
      rintro e u1 ⟨rfl, b1⟩
      have i1 := i1.kept (B := 0) b1
      have i2 := i2.kept (B := 0) b1
      have i3 := i3.kept (B := 0) b1
      have bb := bb.trans (b1.mono bb.size)
      clear b1 c20 c21
      have g0 := i2.f0 0
      have g1 := i2.f0 1
      have d0 := i2.c0
      have d1 := i2.c1
      have e0 := i3.c0
      have e1 := i3.c1
      have lt2 := i2.lt
      have lt3 := i3.lt
      go_wp2_with fail
      change Calls _ _ _ (put2 u1 p2 z2) _
      have i1 := i1.far z2 n12
      have i3 := i3.far z2 n32
      have i2 := i2.set z2
      have bb := put2_below bb z2 cc.out.2.1
      clear g0 g1 d0 d1 e0 e1 lt2 lt3
      generalize put2 u1 p2 z2 = u2 at *
      refine (PT.out _).mono ?_
      rintro e u3 ⟨rfl, b1⟩
      have i1 := i1.kept (B := 0) b1
      have i2 := i2.kept (B := 0) b1
      have i3 := i3.kept (B := 0) b1
      have bb := bb.trans (b1.mono bb.size)
      clear b1
      have g0 := i3.f0 0
      have g1 := i3.f0 1
      have d0 := i3.c0
      have d1 := i3.c1
      have lt3 := i3.lt
      go_wp2_with fail
      go_roundw
      case rel =>
        refine ⟨k + 1, by omega, by go_num, i1.far z3 n13, ?_, ?_, put2_below bb z3 cc.out.2.2⟩
        · rw [hz2]; exact i2.far z3 n23
        · rw [hz3]; exact i3.set z3
      case measure => simp [intOf]; omega
    · obtain rfl : k = 32 := by omega
      clear PM PT in2 in3 lt hk
      have e32 : ((32 : Nat) : Int) = 32 := rfl
      rw [e32]
      clear e32
      go_wp2_with fail
      obtain ⟨mid, hmid⟩ : ∃ mid, md * 2 ^ 32 = mid := ⟨_, rfl⟩
      rw [hmid] at i2 c20 c21
      go_loopw [15] (fun s wr => ∃ k : Nat, k ≤ 32 ∧ s = .int .i64 k ∧ WideIn wr p1 lo ∧ WideIn wr p2 mid ∧ WideIn wr p3 (to * 2 ^ (32 + k)) ∧ Below w.heap.size w wr) (fun s _ => 40 - (intOf s).toNat)
      case atStart => exact ⟨0, by omega, rfl, i1, i2, i3, bb⟩
      case round =>
        clear i1 i2 i3 bb c20 c21
        obtain ⟨k, hk, rfl, i1, i2, i3, bb⟩ := hrel
        have in3 := pow_in to (32 + k) to0.1 to0.2 (by omega)
        have PT := fun w => plus_any (to * 2 ^ (32 + k)) (to * 2 ^ (32 + k)) w in3 in3
        by_cases lt : k < 32
        · have lti : (k : Int) < 32 := by omega
          simp only [pow_step] at PT
          rw [w128_of (pow_in to (32 + k + 1) to0.1 to0.2 (by omega))] at PT
          have PT := Lib.hid PT
          clear in3
          generalize hy3 : to * 2 ^ (32 + k) = y3 at *
          generalize hz3 : to * 2 ^ (32 + k + 1) = z3 at *
          have e0 := i3.c0
          have e1 := i3.c1
          go_wp2_with fail
          refine (PT.out _).mono ?_
          rintro e u3 ⟨rfl, b1⟩
          have i1 := i1.kept (B := 0) b1
          have i2 := i2.kept (B := 0) b1
          have i3 := i3.kept (B := 0) b1
          have bb := bb.trans (b1.mono bb.size)
          clear b1 e0 e1
          have g0 := i3.f0 0
          have g1 := i3.f0 1
          have d0 := i3.c0
          have d1 := i3.c1
          have lt3 := i3.lt
          go_wp2_with fail
          go_roundw
          case rel =>
            refine ⟨k + 1, by omega, by go_num, i1.far z3 n13, i2.far z3 n23, ?_, put2_below bb z3 cc.out.2.2⟩
            rw [← Nat.add_assoc, hz3]; exact i3.set z3
          case measure => simp [intOf]; omega
        · obtain rfl : k = 32 := by omega
          clear PT lt hk
          have PA := fun w => plus_any lo mid w lo0 (by rw [← hmid]; exact pow_in md 32 md0.1 md0.2 (by omega))
          have lm : In128 (lo + mid) := by
            have q := pow_in md 32 md0.1 md0.2 (by omega)
            have e : md * 2 ^ 32 = md * 4294967296 := rfl
            rw [hmid] at e
            unfold In128
            omega
          rw [w128_of lm] at PA
          have PB := fun w => plus_any (lo + mid) (to * 2 ^ (32 + 32)) w lm in3
          have MF := M5.out
          have FF := F5.out
          rw [hmid] at MF FF
          rw [w128_of FF] at PB
          clear M5 F5
          generalize lo + mid + to * 2 ^ (32 + 32) = all at *
          generalize to * 2 ^ (32 + 32) = top at *
          generalize lo + mid = lm at *
          have PA := Lib.hid PA
          have PB := Lib.hid PB
          have MG := Lib.hid MF
          clear MF
          clear in3 hmid FF md0 to0 lo0 M1 M2 M3 M4 P1
          have e32 : ((32 : Nat) : Int) = 32 := rfl
          rw [e32]
          clear e32
          go_wp2_with fail
          have mk : ∀ w', Below wr.heap.size wr w' → Below w.heap.size w w' ∧ WideIn w' p1 lo ∧ WideIn w' p2 mid ∧ WideIn w' p3 top := fun w' h => ⟨bb.trans (h.mono bb.size), i1.kept (B := 0) h, i2.kept (B := 0) h, i3.kept (B := 0) h⟩
          have mk2 : ∀ w', Below wr.heap.size wr w' → Below w.heap.size w w' ∧ (w'.cell? ⟨p1, 0, none⟩ = some (.int .i64 (hi64 lo)) ∧ w'.cell? ⟨p1, 1, none⟩ = some (.int .u64 (lo64 lo)) ∧ p1 < w'.heap.size) ∧ (w'.cell? ⟨p2, 0, none⟩ = some (.int .i64 (hi64 mid)) ∧ w'.cell? ⟨p2, 1, none⟩ = some (.int .u64 (lo64 mid)) ∧ p2 < w'.heap.size) ∧ (w'.cell? ⟨p3, 0, none⟩ = some (.int .i64 (hi64 top)) ∧ w'.cell? ⟨p3, 1, none⟩ = some (.int .u64 (lo64 top)) ∧ p3 < w'.heap.size) := fun w' h => by
            obtain ⟨q, j1, j2, j3⟩ := mk w' h
            exact ⟨q, ⟨j1.c0, j1.c1, j1.lt⟩, ⟨j2.c0, j2.c1, j2.lt⟩, ⟨j3.c0, j3.c1, j3.lt⟩⟩
          clear bb i1 i2 i3 mk
          have MK := Lib.hid mk2
          clear mk2
          refine wp_region_along (fun w' => Below w.heap.size w w' ∧ (w'.cell? ⟨p1, 0, none⟩ = some (.int .i64 (hi64 lo)) ∧ w'.cell? ⟨p1, 1, none⟩ = some (.int .u64 (lo64 lo)) ∧ p1 < w'.heap.size) ∧ (w'.cell? ⟨p2, 0, none⟩ = some (.int .i64 (hi64 mid)) ∧ w'.cell? ⟨p2, 1, none⟩ = some (.int .u64 (lo64 mid)) ∧ p2 < w'.heap.size) ∧ (w'.cell? ⟨p3, 0, none⟩ = some (.int .i64 (hi64 top)) ∧ w'.cell? ⟨p3, 1, none⟩ = some (.int .u64 (lo64 top)) ∧ p3 < w'.heap.size)) [(0, false), (1, true), (2, true), (3, true), (5, true), (6, true), (8, true), (4, false), (7, false), (9, false), (10, true), (11, true), (12, true)] (by kernel_rfl) (by kernel_rfl) ?_ ?_
          · exact MK.out _ (Below.drew (Below.refl _ _))
          · have tt := Below.drew (Below.refl wr.heap.size wr)
            generalize wr.drew = Y at *
            repeat (first | (refine' along_take (by simp only [List.getElem?_cons_succ, List.getElem?_cons_zero]; rfl) (by rfl) ?_ ?_ ?_; rotate_left 2; (intro w' hS; go_simp; try rfl); (simp only [Act.put, List.setIfInBounds_toArray, List.set_cons_zero, List.set_cons_succ]; try rfl)) | (refine' along_skip (by simp only [List.getElem?_cons_succ, List.getElem?_cons_zero]; rfl) (by rfl) ?_ ?_; rotate_left 1; (simp only [Act.put, List.setIfInBounds_toArray, List.set_cons_zero, List.set_cons_succ]; try rfl)))
            (refine along_do (by simp only [List.getElem?_cons_succ, List.getElem?_cons_zero]; rfl) (by rfl) (fun K hK => ?_); go_simp)
            refine (KK.out _).mono ?_
            rintro e w' ⟨rfl, b1⟩
            have tt := tt.trans (b1.mono tt.size)
            clear b1
            (refine hK _ _ (MK.out _ tt) ?_; clear hK K)
            repeat (first | (refine' along_take (by simp only [List.getElem?_cons_succ, List.getElem?_cons_zero]; rfl) (by rfl) ?_ ?_ ?_; rotate_left 2; (intro w' hS; go_simp; try rfl); (simp only [Act.put, List.setIfInBounds_toArray, List.set_cons_zero, List.set_cons_succ]; try rfl)) | (refine' along_skip (by simp only [List.getElem?_cons_succ, List.getElem?_cons_zero]; rfl) (by rfl) ?_ ?_; rotate_left 1; (simp only [Act.put, List.setIfInBounds_toArray, List.set_cons_zero, List.set_cons_succ]; try rfl)))
            (refine along_do (by simp only [List.getElem?_cons_succ, List.getElem?_cons_zero]; rfl) (by rfl) (fun K hK => ?_); go_simp)
            refine (MG.out _).mono ?_
            rintro e w' ⟨rfl, b1⟩
            have tt := tt.trans (b1.mono tt.size)
            clear b1
            (refine hK _ _ (MK.out _ tt) ?_; clear hK K)
            repeat (first | (refine' along_take (by simp only [List.getElem?_cons_succ, List.getElem?_cons_zero]; rfl) (by rfl) ?_ ?_ ?_; rotate_left 2; (intro w' hS; go_simp; try rfl); (simp only [Act.put, List.setIfInBounds_toArray, List.set_cons_zero, List.set_cons_succ]; try rfl)) | (refine' along_skip (by simp only [List.getElem?_cons_succ, List.getElem?_cons_zero]; rfl) (by rfl) ?_ ?_; rotate_left 1; (simp only [Act.put, List.setIfInBounds_toArray, List.set_cons_zero, List.set_cons_succ]; try rfl)))
            (refine along_do (by simp only [List.getElem?_cons_succ, List.getElem?_cons_zero]; rfl) (by rfl) (fun K hK => ?_); go_simp)
            refine (PA.out _).mono ?_
            rintro e w' ⟨rfl, b1⟩
            have tt := tt.trans (b1.mono tt.size)
            clear b1
            (refine hK _ _ (MK.out _ tt) ?_; clear hK K)
            repeat (first | (refine' along_take (by simp only [List.getElem?_cons_succ, List.getElem?_cons_zero]; rfl) (by rfl) ?_ ?_ ?_; rotate_left 2; (intro w' hS; go_simp; try rfl); (simp only [Act.put, List.setIfInBounds_toArray, List.set_cons_zero, List.set_cons_succ]; try rfl)) | (refine' along_skip (by simp only [List.getElem?_cons_succ, List.getElem?_cons_zero]; rfl) (by rfl) ?_ ?_; rotate_left 1; (simp only [Act.put, List.setIfInBounds_toArray, List.set_cons_zero, List.set_cons_succ]; try rfl)))
            (refine along_do (by simp only [List.getElem?_cons_succ, List.getElem?_cons_zero]; rfl) (by rfl) (fun K hK => ?_); go_simp)
            refine (PB.out _).mono ?_
            rintro e w' ⟨rfl, b1⟩
            have tt := tt.trans (b1.mono tt.size)
            clear b1
            (refine hK _ _ (MK.out _ tt) ?_; clear hK K)
            repeat (first | (refine' along_take (by simp only [List.getElem?_cons_succ, List.getElem?_cons_zero]; rfl) (by rfl) ?_ ?_ ?_; rotate_left 2; (intro w' hS; go_simp; try rfl); (simp only [Act.put, List.setIfInBounds_toArray, List.set_cons_zero, List.set_cons_succ]; try rfl)) | (refine' along_skip (by simp only [List.getElem?_cons_succ, List.getElem?_cons_zero]; rfl) (by rfl) ?_ ?_; rotate_left 1; (simp only [Act.put, List.setIfInBounds_toArray, List.set_cons_zero, List.set_cons_succ]; try rfl)))
            refine along_end ?_
            go_wp2_with fail
            go_ret
            exact ⟨rfl, (MK.out _ tt).1⟩
end Go.Proofs.Ytajihhmohokngaa
