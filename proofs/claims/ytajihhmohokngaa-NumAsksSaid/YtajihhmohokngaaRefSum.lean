import Derived.Test.YtajihhmohokngaaSum
import Derived.Test.YtajihhmohokngaaRefMul
import Derived.Deep.RegionWith
set_option linter.unusedVariables false
set_option linter.unusedSimpArgs false
namespace Go.Proofs.Ytajihhmohokngaa
open Go.RowKit

set_option maxHeartbeats 2000000 in
theorem rsum_any (a : Option Addr) (n cap : Nat) (f : Nat → Int) (w : World) (h : IntsAt w a n f) :
    Calls Try.prog 26 #[.slice a n cap] w fun e w' => e = .returned (.agg #[.int .i64 (hi64 (sumZ f n)), .int .u64 (lo64 (sumZ f n))]) ∧ Below w.heap.size w w' := by
  have hn := h.len
  have bb := Below.refl w.heap.size w
  go_enter Try.func26, Try.ntmps26
  go_wp2_with fail
  have L0 := (lay_ok w 0).1
  have L1 := (lay_ok (lay w 0) 0).1
  have e1 : (lay w 0).heap.size = w.heap.size + 1 := by simp [lay]
  have i1 := (WideOf.new w 0).kept (B := 0) L1
  have i2 := WideOf.new (lay w 0) 0
  rw [e1] at i2
  have bb : Below w.heap.size w (lay (lay w 0) 0) := L0.trans (L1.mono (by omega))
  have h1 : IntsAt (lay (lay w 0) 0) a n f := h.below bb
  refine at_world ?_
  intro W hW
  change W = lay (lay w 0) 0 at hW
  subst hW
  generalize lay (lay w 0) 0 = W at *
  have n12 : w.heap.size ≠ w.heap.size + 1 := by omega
  have c1 : w.heap.size ≤ w.heap.size + 1 := by omega
  generalize hq2 : w.heap.size + 1 = q2 at *
  generalize hq1 : w.heap.size = q1 at *
  have HI := Lib.hid h1
  have H0 := Lib.hid h
  clear L0 L1 e1 h1 h hq2
  have n21 : q2 ≠ q1 := fun e => n12 e.symm
  go_loopw [4] (fun s wr => ∃ k : Nat, k ≤ n ∧ s = .int .i64 k ∧ WideOf wr q1 0 ∧ WideOf wr q2 (sumZ f k) ∧ Below q1 w wr) (fun s _ => n - (intOf s).toNat)
  case atStart => exact ⟨0, by omega, rfl, i1, i2, bb⟩
  case round =>
    clear i1 i2 HI bb
    obtain ⟨k, hk, rfl, i1, i2, bb⟩ := hrel
    have hi : IntsAt wr a n f := IntsAt.below H0.out (by rw [hq1]; exact bb)
    by_cases lt : k < n
    · have lti : (k : Int) < n := by omega
      obtain ⟨b, o, rfl, hc⟩ := hi.cells (by omega)
      have ck := hc k lt
      have HI := Lib.hid hi
      have fk := hi.fit k
      have O := Lib.hid (fun w => rof_any (f k) w fk)
      have P := fun w => rplus_any (sumZ f k) (f k) w (sumZ_wide f hi.fit k (by omega)) fk.wide
      have ss := sumZ_wide f hi.fit (k + 1) (by omega)
      simp only [sumZ] at ss
      rw [w128_of ss] at P
      have P := Lib.hid P
      have hs : sumZ f (k + 1) = sumZ f k + f k := rfl
      have HS := Lib.hid hs
      clear hc hi ss hs
      unfold In64 at fk
      generalize sumZ f k = sk at *
      generalize f k = fkv at *
      have e0 := i2.c0
      have e1 := i2.c1
      go_wp2_with fail
      go_region_with (first
        | (go_at_call 27; refine (O.out _).mono ?_; rintro e u1 ⟨rfl, b1⟩; have j1 : WideOf u1 q1 0 := WideOf.kept (w := wr.drew) (B := 0) i1 b1; have j2 : WideOf u1 q2 sk := WideOf.kept (w := wr.drew) (B := 0) i2 b1; have d0 := j2.c0; have d1 := j2.c1)
        | (go_at_call 36; refine (P.out _).mono ?_; rintro e u2 ⟨rfl, b2⟩; have k1 := WideOf.kept (B := 0) j1 b2; have k2 := WideOf.kept (B := 0) j2 b2; have g0 := k2.f0 0; have g1 := k2.f0 1; have d2 := k2.c0; have d3 := k2.c1; have lt2 := k2.lt))
      all_goals (
        have b12 : Below wr.drew.heap.size wr.drew u2 := b1.trans (b2.mono b1.size)
        have bt := (Below.drew bb).trans (b12.mono (show q1 ≤ wr.drew.heap.size from (by rw [← hq1]; exact bb.size)))
        clear d0 d1 e0 e1
        go_wp2_with fail
        go_roundw
        case rel =>
          refine ⟨k + 1, by omega, by go_num, k1.far (sk + fkv) n12, ?_, putW_below bt (sk + fkv) c1⟩
          rw [HS.out]
          exact k2.set (sk + fkv)
        case measure => simp [intOf]; omega)
    · obtain rfl : k = n := by omega
      have e0 := i2.c0
      have e1 := i2.c1
      have g0 := i1.f0 0
      have g1 := i1.f0 1
      have d0 := i1.c0
      have d1 := i1.c1
      have lt1 := i1.lt
      generalize hsk : sumZ f k = sk at *
      clear hi H0
      go_wp2_with fail
      have j1 := i1.set sk
      have r0 := j1.c0
      have r1 := j1.c1
      have hb := putW_below bb sk (Nat.le_refl _)
      refine bodyPost_ret (v := .agg #[.int .i64 (hi64 sk), .int .u64 (lo64 sk)]) (by simp [results, Try.results26, go_sem, d0, d1, g0, g1, lt1]) rfl ⟨by rw [hsk], ?_⟩
      first | exact hb | (rw [hq1]; exact hb)
end Go.Proofs.Ytajihhmohokngaa
