import Derived.Test.YtajihhmohokngaaAsks
import Derived.OpenShut
import Derived.Deep.Slices
set_option linter.unusedVariables false
set_option linter.unusedSimpArgs false
namespace Go.Proofs.Ytajihhmohokngaa
open Go.RowKit Go.ChangeShapes Go.WideShapes Go.Deep

theorem cells60 : Try.prog.cellsOf 60 = 3 := by kernel_rfl
theorem cellsOf2 : Try.prog.cellsOf 2 = 1 := by kernel_rfl
theorem cellsOf5 : Try.prog.cellsOf 5 = 1 := by kernel_rfl
theorem deeds_open {H : Type} {enc : TypeId × Value → H} {W : World} {fuel : Nat} {a : Option Addr} {n cap : Nat} {x : DataW H × List MemPlace} (h : DataW.trod enc Try.prog W 0 (fun _ => true) true fuel 46 [.slice a n cap] = some x) :
    ∃ K A B, DeedsAt W a n K A B := by
  rcases open_slice Try.underlying46 h with ⟨hcs, _⟩ | ⟨y, len, cap', m, nn, D, Pl, hcs, hb, hl, hm, hmm, _, hx⟩
  · simp at hcs
    obtain ⟨rfl, rfl, rfl⟩ := hcs
    exact ⟨fun _ => 0, fun _ => 0, fun _ => 0, fun k => by unfold In64; omega, fun h => absurd h (Nat.lt_irrefl _)⟩
  · simp at hcs
    obtain ⟨rfl, rfl, rfl⟩ := hcs
    simp at hmm
    subst hmm
    have each : ∀ i, i < n → ∃ q : Int × Int × Int, (W.cell? (y.add (i * 3)) = some (.int .u8 q.1) ∧ W.cell? (y.add (i * 3 + 1)) = some (.int .i64 q.2.1) ∧ W.cell? (y.add (i * 3 + 2)) = some (.int .i64 q.2.2)) ∧ 0 ≤ q.1 ∧ q.1 < 256 ∧ In64 q.2.1 ∧ In64 q.2.2 := by
      intro i hi
      obtain ⟨cs', h1, h2⟩ := hx i (by omega)
      rw [cells60] at h1
      obtain ⟨_, hlen, hcell⟩ := World.cells?_some h1
      obtain ⟨xs, k, hk, hxy, _, hxl, hf⟩ := DataW.trod_struct Try.underlying60 h2
      match xs, hxl, cs', hlen with
      | [y0, y1, y2], _, [v0, v1, v2], _ =>
        have g0 := hf 0 _ rfl
        have g1 := hf 1 _ rfl
        have g2 := hf 2 _ rfl
        simp [cellsOf2, cellsOf5] at g0 g1 g2
        have e0 := hcell 0 (by omega)
        have e1 := hcell 1 (by omega)
        have e2 := hcell 2 (by omega)
        rw [add_add] at e0 e1 e2
        obtain ⟨z0, f0, s0, u0⟩ := DataW.trod_int Try.underlying5 g0
        obtain ⟨z1, f1, s1, u1⟩ := DataW.trod_int Try.underlying2 g1
        obtain ⟨z2, f2, s2, u2⟩ := DataW.trod_int Try.underlying2 g2
        simp at f0 f1 f2
        subst f0 f1 f2
        have r0 := u8_wf u0
        exact ⟨(z0, z1, z2), ⟨by simpa using e0, by simpa using e1, by simpa using e2⟩, r0.1, by omega, i64_wf u1, i64_wf u2⟩
    obtain ⟨q, hq⟩ := choose_lt each
    refine ⟨fun k => if k < n then (q k).1 else 0, fun k => if k < n then (q k).2.1 else 0, fun k => if k < n then (q k).2.2 else 0, fun k => ?_, fun h0 => ?_⟩
    · by_cases hk : k < n
      · simp only [if_pos hk]
        exact (hq k hk).2
      · simp only [if_neg hk]
        unfold In64; omega
    · obtain ⟨b, off, spot⟩ := y
      have hspot : spot = none := by simpa [Addr.add] using World.cell?_spot (hq 0 h0).1.1
      subst hspot
      refine ⟨b, off, rfl, fun k hk => ?_⟩
      simp only [if_pos hk]
      have := (hq k hk).1
      rw [add_flat, add_flat, add_flat] at this
      exact this
end Go.Proofs.Ytajihhmohokngaa
