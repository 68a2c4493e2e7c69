import Derived.Test.YtajihhmohokngaaOrderLaw
import Derived.Deep.RegionWith
set_option linter.unusedVariables false
set_option linter.unusedSimpArgs false
namespace Go.Proofs.Ytajihhmohokngaa
open Go.RowKit

/-- a wide number's block, as a whole -/
def WideOf (w : World) (b : Nat) (x : Int) : Prop := w.heap[b]? = some (.cells #[.int .i64 (hi64 x), .int .u64 (lo64 x)] 27 (0, 0))
theorem WideOf.lt {w : World} {b : Nat} {x : Int} (h : WideOf w b x) : b < w.heap.size := (Array.getElem?_eq_some_iff.1 h).1
theorem WideOf.c0 {w : World} {b : Nat} {x : Int} (h : WideOf w b x) : w.cell? ⟨b, 0, none⟩ = some (.int .i64 (hi64 x)) := (cell_in _ _ _ _ _ _ h).trans rfl
theorem WideOf.c1 {w : World} {b : Nat} {x : Int} (h : WideOf w b x) : w.cell? ⟨b, 1, none⟩ = some (.int .u64 (lo64 x)) := (cell_in _ _ _ _ _ _ h).trans rfl
theorem WideOf.f0 {w : World} {b : Nat} {x : Int} (h : WideOf w b x) (j : Nat) : w.frozen? ⟨b, j, none⟩ = false := frozen_in _ _ _ _ _ h
theorem WideOf.kept {w w' : World} {b B : Nat} {x : Int} (h : WideOf w b x) (k : Below w.heap.size w w') : WideOf w' b x := (k.block b h.lt).trans h
theorem WideOf.new (w : World) (x : Int) : WideOf (lay w x) w.heap.size x := heap_new _ _
def putW (w : World) (b : Nat) (y : Int) : World := (w.setCell ⟨b, 0, none⟩ (.int .i64 (hi64 y))).setCell ⟨b, 1, none⟩ (.int .u64 (lo64 y))
theorem WideOf.set {w : World} {b : Nat} {x : Int} (h : WideOf w b x) (y : Int) : WideOf (putW w b y) b y :=
  (heap_setCell_at _ _ _ _ _ _ _ (heap_setCell_at _ _ _ _ _ _ _ h)).trans rfl
theorem WideOf.far {w : World} {b c : Nat} {x : Int} (h : WideOf w b x) (y : Int) (hne : b ≠ c) : WideOf (putW w c y) b x := by
  unfold WideOf putW
  rw [Below.heap_setCell _ _ _ _ hne, Below.heap_setCell _ _ _ _ hne]
  exact h
theorem putW_below {B : Nat} {w u : World} {c : Nat} (h : Below B u w) (y : Int) (hc : B ≤ c) : Below B u (putW w c y) := Below.setCell (Below.setCell h hc _) hc _
theorem putW_size (w : World) (c : Nat) (y : Int) : (putW w c y).heap.size = w.heap.size := by simp [putW]
def sumZ (f : Nat → Int) : Nat → Int
  | 0 => 0
  | n + 1 => sumZ f n + f n
theorem sumZ_in (f : Nat → Int) (h : ∀ k, In64 (f k)) : ∀ n, n ≤ 400 → -9223372036854775808 * n ≤ sumZ f n ∧ sumZ f n ≤ 9223372036854775808 * n := by
  intro n
  induction n with
  | zero => intro _; simp [sumZ]
  | succ n ih =>
    intro hn
    have a := ih (by omega)
    have b := h n
    unfold In64 at b
    simp only [sumZ]
    omega
theorem sumZ_wide (f : Nat → Int) (h : ∀ k, In64 (f k)) (n : Nat) (hn : n ≤ 400) : In128 (sumZ f n) := by
  have := sumZ_in f h n hn
  unfold In128
  omega
/-- n numbers, behind one address -/
structure IntsAt (w : World) (a : Option Addr) (n : Nat) (f : Nat → Int) : Prop where
  fit : ∀ k, In64 (f k)
  len : n ≤ 400
  cells : 0 < n → ∃ b o, a = some ⟨b, o, none⟩ ∧ ∀ k, k < n → w.cell? ⟨b, o + k, none⟩ = some (.int .i64 (f k))
theorem IntsAt.below {w w' : World} {a : Option Addr} {n : Nat} {f : Nat → Int} (h : IntsAt w a n f) (k : Below w.heap.size w w') : IntsAt w' a n f :=
  ⟨h.fit, h.len, fun h0 => by
    obtain ⟨b, o, e, hc⟩ := h.cells h0
    exact ⟨b, o, e, fun i hi => by rw [k.cell (World.block_lt_of_cell? _ _ (hc i hi))]; exact hc i hi⟩⟩

set_option maxHeartbeats 2000000 in
theorem sum_any (a : Option Addr) (n cap : Nat) (f : Nat → Int) (w : World) (h : IntsAt w a n f) :
    Calls Try.prog 22 #[.slice a n cap] w fun e w' => e = .returned (.agg #[.int .i64 (hi64 (sumZ f n)), .int .u64 (lo64 (sumZ f n))]) ∧ Below w.heap.size w w' := by
  have O0 := fun w => of_any 0 w (by unfold In64; omega)
  simp only [hi64_zero, lo64_zero] at O0
  have O0 := Lib.hid O0
  have hn := h.len
  have bb := Below.refl w.heap.size w
  go_enter Try.func22, Try.ntmps22
  go_wp2_with fail
  refine (O0.out _).mono ?_
  rintro e w1 ⟨rfl, b1⟩
  go_wp2_with fail
  have L1 := (lay_ok w1 0).1
  have z1 := b1.size
  simp only [World.size_alloc] at z1
  have hr := (heap_new w (.cells #[.int .i64 0, .int .u64 0] 27))
  have i0 : WideOf w1 w.heap.size 0 := (b1.block w.heap.size (by simp)).trans hr
  have i1 : WideOf (lay w1 0) w.heap.size 0 := i0.kept (B := 0) L1
  have i2 := WideOf.new w1 0
  have bb : Below w.heap.size w (lay w1 0) := Below.trans (Below.alloc (Below.refl _ _) (Nat.le_refl _) _) ((b1.mono (by simp)).trans (L1.mono (by omega)))
  have n12 : w.heap.size ≠ w1.heap.size := by omega
  have h1 : IntsAt (lay w1 0) a n f := h.below bb
  have c1 : w.heap.size ≤ w1.heap.size := by omega
  refine at_world ?_
  intro W hW
  change W = lay w1 0 at hW
  subst hW
  generalize lay w1 0 = W at *
  generalize hq1 : w.heap.size = q1 at *
  generalize hq2 : w1.heap.size = q2 at *
  have HI := Lib.hid h1
  have H0 := Lib.hid h
  clear b1 L1 z1 hr i0 h1 h hq2
  have n21 : q2 ≠ q1 := fun e => n12 e.symm
  go_loopw [9] (fun s wr => ∃ k : Nat, k ≤ n ∧ s = .int .i64 k ∧ WideOf wr q1 0 ∧ WideOf wr q2 (sumZ f k) ∧ Below q1 w wr) (fun s _ => n - (intOf s).toNat)
  case atStart => exact ⟨0, by omega, rfl, i1, i2, bb⟩
  case round =>
    clear i1 i2 HI bb
    obtain ⟨k, hk, rfl, i1, i2, bb⟩ := hrel
    have hi : IntsAt wr a n f := IntsAt.below H0.out (by rw [hq1]; exact bb)
    by_cases lt : k < n
    · have lti : (k : Int) < n := by omega
      obtain ⟨b, o, rfl, hc⟩ := hi.cells (by omega)
      have ck := hc k lt
      have HI := Lib.hid hi
      have fk := hi.fit k
      have O := Lib.hid (fun w => of_any (f k) w fk)
      have P := fun w => plus_any (sumZ f k) (f k) w (sumZ_wide f hi.fit k (by omega)) fk.wide
      have ss := sumZ_wide f hi.fit (k + 1) (by omega)
      simp only [sumZ] at ss
      rw [w128_of ss] at P
      have P := Lib.hid P
      have hs : sumZ f (k + 1) = sumZ f k + f k := rfl
      have HS := Lib.hid hs
      clear hc hi ss hs
      unfold In64 at fk
      generalize sumZ f k = sk at *
      generalize f k = fkv at *
      have e0 := i2.c0
      have e1 := i2.c1
      go_wp2_with fail
      go_region_with (first
        | (go_at_call 17; refine (O.out _).mono ?_; rintro e u1 ⟨rfl, b1⟩; have j1 : WideOf u1 q1 0 := WideOf.kept (w := wr.drew) (B := 0) i1 b1; have j2 : WideOf u1 q2 sk := WideOf.kept (w := wr.drew) (B := 0) i2 b1; have d0 := j2.c0; have d1 := j2.c1)
        | (go_at_call 19; refine (P.out _).mono ?_; rintro e u2 ⟨rfl, b2⟩; have k1 := WideOf.kept (B := 0) j1 b2; have k2 := WideOf.kept (B := 0) j2 b2; have g0 := k2.f0 0; have g1 := k2.f0 1; have d2 := k2.c0; have d3 := k2.c1; have lt2 := k2.lt))
      all_goals (
        have b12 : Below wr.drew.heap.size wr.drew u2 := b1.trans (b2.mono b1.size)
        have bt := (Below.drew bb).trans (b12.mono (show q1 ≤ wr.drew.heap.size from (by rw [← hq1]; exact bb.size)))
        clear d0 d1 e0 e1
        go_wp2_with fail
        go_roundw
        case rel =>
          refine ⟨k + 1, by omega, by go_num, k1.far (sk + fkv) n12, ?_, putW_below bt (sk + fkv) c1⟩
          rw [HS.out]
          exact k2.set (sk + fkv)
        case measure => simp [intOf]; omega)
    · obtain rfl : k = n := by omega
      have e0 := i2.c0
      have e1 := i2.c1
      have g0 := i1.f0 0
      have g1 := i1.f0 1
      have d0 := i1.c0
      have d1 := i1.c1
      have lt1 := i1.lt
      generalize hsk : sumZ f k = sk at *
      clear hi H0
      go_wp2_with fail
      have j1 := i1.set sk
      have r0 := j1.c0
      have r1 := j1.c1
      have hb := putW_below bb sk (Nat.le_refl _)
      refine bodyPost_ret (v := .agg #[.int .i64 (hi64 sk), .int .u64 (lo64 sk)]) (by simp [results, Try.results22, go_sem, d0, d1, g0, g1, lt1]) rfl ⟨by rw [hsk], ?_⟩
      first | exact hb | (rw [hq1]; exact hb)
end Go.Proofs.Ytajihhmohokngaa
