/-
  NumAsks returns true for every input, and leaves its arguments as they were. No conditions.
  (The frame began as the print of the guide's proof shell.)
-/
import Derived.Test.YtajihhmohokngaaRows
import Derived.Test.YtajihhmohokngaaAsksOpen
import Derived.WalkKit
import Derived.ProofKit
import Derived.OpenShut
import Derived.ShutString
import Derived.Below
import Derived.Lib.SmallJoins
namespace Go.Proofs.Ytajihhmohokngaa.numAsks
open Go.ChangeShapes Go.WideShapes Go.ChangeAt Go.RowKit Go.Joins
set_option linter.unusedVariables false

theorem own : ownKnob Try.prog.godebug = none := by kernel_rfl
theorem laidOut : laidOutB Try.prog = true := by kernel_rfl
theorem cells27 : Try.prog.cellsOf 27 = 2 := by kernel_rfl
theorem u64_wf {a : Int} (h : (Lit.int .u64 a).wf = true) : 0 ≤ a ∧ a < 18446744073709551616 := by
  have e1 : IntKind.u64.min = 0 := rfl
  have e2 : IntKind.u64.max = 18446744073709551615 := rfl
  simp [Lit.wf, e1, e2] at h
  omega
/-- two words are a number -/
theorem wide_of {h l : Int} (wh : (Lit.int .i64 h).wf = true) (wl : (Lit.int .u64 l).wf = true) : ∃ x, In128 x ∧ h = hi64 x ∧ l = lo64 x := by
  have a := i64_wf wh
  have b := u64_wf wl
  exact ⟨h * 18446744073709551616 + l, by unfold In128; omega, by unfold hi64; omega, by unfold lo64; omega⟩

set_option maxRecDepth 100000 in
theorem lifted (os : Os) (started : os.Started) (H : Type) (enc : TypeId × Value → H) :
    ReturnsInHanded {} Try.checked os 10 .any (Rows.numAsksSpec.pre6 enc Try.prog Try.f10 Rows.numAsksRow.domain false) (Rows.numAsksSpec.post enc Try.prog Try.f10 false true false false) := by
  refine returnsInHanded_of_change (C := Try.checked) own started (by kernel_rfl) Try.func10
    (ChangeSpec.witness6 (enc := enc) (C := Try.checked) false ⟨#[], #[.int .i64 0, .int .i64 0, .agg #[.int .i64 0, .int .u64 0], .agg #[.int .i64 0, .int .u64 0], .slice none 0 0, .slice none 0 0, .slice none 0 0], []⟩ 8 (by kernel_rfl) (by kernel_rfl) (by kernel_rfl) (by kernel_rfl)) ?_
  intro W base args ds gs before hval0 hW hcnd _
  have hval : ∀ (j : Nat) t v, Try.f10.params[j]? = some t → args[j]? = some v → Value.okWide Try.prog W .any base t v := hval0
  have hW' := hW
  obtain ⟨p, q, hA0, hV, rfl, hfz, hnd⟩ := hW
  have hA : DataW.TrodAll enc Try.prog W 0 (fun _ => true) true Try.f10.params.toList args.toList ds p := hA0
  rw [Try.params10] at hA hval
  obtain ⟨v0, vs0, d0, ds0, p0, q0, hargs, rfl, rfl, h0, r0⟩ := trodAll_cons hA
  obtain ⟨v1, vs1, d1, ds1, p1, q1, rfl, rfl, rfl, h1, r1⟩ := trodAll_cons r0
  obtain ⟨v2, vs2, d2, ds2, p2, q2, rfl, rfl, rfl, h2, r2⟩ := trodAll_cons r1
  obtain ⟨v3, vs3, d3, ds3, p3, q3, rfl, rfl, rfl, h3, r3⟩ := trodAll_cons r2
  obtain ⟨v4, vs4, d4, ds4, p4, q4, rfl, rfl, rfl, h4, r4⟩ := trodAll_cons r3
  obtain ⟨v5, vs5, d5, ds5, p5, q5, rfl, rfl, rfl, h5, r5⟩ := trodAll_cons r4
  obtain ⟨v6, vs6, d6, ds6, p6, q6, rfl, rfl, rfl, h6, r6⟩ := trodAll_cons r5
  obtain ⟨rfl, rfl, rfl⟩ := trodAll_nil r6
  obtain rfl : args = #[v0, v1, v2, v3, v4, v5, v6] := by cases args; simp_all
  obtain ⟨rfl, rfl⟩ := trodVars_none hV
  obtain ⟨a0, rfl, rfl, rfl, w0⟩ := open_int Try.underlying2 (hval 0 2 v0 rfl rfl) h0
  obtain ⟨a1, rfl, rfl, rfl, w1⟩ := open_int Try.underlying2 (hval 1 2 v1 rfl rfl) h1
  obtain ⟨c2, e2, y2, z2, m2, rfl, rfl, rfl, hy2, hz2⟩ := open_agg2 Try.underlying27 (by kernel_rfl) cells27 (hval 2 27 v2 rfl rfl) h2
  obtain ⟨x2, f2, rfl, u2⟩ := DataW.trod_int Try.underlying2 hy2
  obtain ⟨l2, g2, rfl, t2⟩ := DataW.trod_int Try.underlying25 hz2
  simp at f2 g2
  subst f2 g2
  have s2 : ∀ (W' : World) (sp : Nat → Bool), DataW.Trod enc Try.prog W' 0 sp true 27 (.agg #[.int .i64 x2, .int .u64 l2]) (.agg [.lit (.int .i64 x2), .lit (.int .u64 l2)]) [] := fun W' sp =>
    shut_agg2 (y0 := (.lit (.int .i64 x2), [])) (y1 := (.lit (.int .u64 l2), [])) Try.underlying27 (by kernel_rfl) cells27 ⟨1, by simp [DataW.trod, Try.underlying2, u2]⟩ ⟨1, by simp [DataW.trod, Try.underlying25, t2]⟩
  obtain ⟨a2, w2, rfl, rfl⟩ := wide_of u2 t2
  obtain ⟨c3, e3, y3, z3, m3, rfl, rfl, rfl, hy3, hz3⟩ := open_agg2 Try.underlying27 (by kernel_rfl) cells27 (hval 3 27 v3 rfl rfl) h3
  obtain ⟨x3, f3, rfl, u3⟩ := DataW.trod_int Try.underlying2 hy3
  obtain ⟨l3, g3, rfl, t3⟩ := DataW.trod_int Try.underlying25 hz3
  simp at f3 g3
  subst f3 g3
  have s3 : ∀ (W' : World) (sp : Nat → Bool), DataW.Trod enc Try.prog W' 0 sp true 27 (.agg #[.int .i64 x3, .int .u64 l3]) (.agg [.lit (.int .i64 x3), .lit (.int .u64 l3)]) [] := fun W' sp =>
    shut_agg2 (y0 := (.lit (.int .i64 x3), [])) (y1 := (.lit (.int .u64 l3), [])) Try.underlying27 (by kernel_rfl) cells27 ⟨1, by simp [DataW.trod, Try.underlying2, u3]⟩ ⟨1, by simp [DataW.trod, Try.underlying25, t3]⟩
  obtain ⟨a3, w3, rfl, rfl⟩ := wide_of u3 t3
  obtain ⟨a4, len4, cap4, rfl⟩ := okWide_slice Try.underlying43 (hval 4 43 v4 rfl rfl)
  have k4 := h4
  have lt4 : ∀ x ∈ p4, x.block < W.heap.size := by obtain ⟨m, hm⟩ := k4; exact DataW.trod_lt m _ _ _ hm
  obtain ⟨z4, w4⟩ : ∃ zs, IsRow .i64 W a4 len4 cap4 zs := by
    obtain ⟨fuel, hf⟩ := h4
    rcases open_ints Try.underlying43 Try.underlying2 (by kernel_rfl) hf with ⟨hcs, _⟩ | ⟨x, l, c, zs, hcs, _, hl, hm, hz, _, hcell, hwz⟩
    · simp [Value.cells] at hcs
      obtain ⟨rfl, rfl, rfl⟩ := hcs
      exact ⟨[], .inl ⟨rfl, rfl, rfl, rfl⟩⟩
    · simp [Value.cells] at hcs
      obtain ⟨rfl, rfl, rfl⟩ := hcs
      exact ⟨zs, .inr ⟨_, rfl, hl, hm, by simpa using hz, hcell, hwz⟩⟩
  obtain ⟨a5, len5, cap5, rfl⟩ := okWide_slice Try.underlying46 (hval 5 46 v5 rfl rfl)
  have k5 := h5
  have lt5 : ∀ x ∈ p5, x.block < W.heap.size := by obtain ⟨m, hm⟩ := k5; exact DataW.trod_lt m _ _ _ hm
  obtain ⟨K5, A5, B5, w5⟩ : ∃ K A B, DeedsAt W a5 len5 K A B := by
    obtain ⟨fuel, hf⟩ := h5
    exact deeds_open hf
  obtain ⟨a6, len6, cap6, rfl⟩ := okWide_slice Try.underlying46 (hval 6 46 v6 rfl rfl)
  have k6 := h6
  have lt6 : ∀ x ∈ p6, x.block < W.heap.size := by obtain ⟨m, hm⟩ := k6; exact DataW.trod_lt m _ _ _ hm
  obtain ⟨K6, A6, B6, w6⟩ : ∃ K A B, DeedsAt W a6 len6 K A B := by
    obtain ⟨fuel, hf⟩ := h6
    exact deeds_open hf
  clear hA0 hval0
  refine (asks_walk a0 a1 a2 a3 a4 a5 a6 len4 cap4 len5 cap5 len6 cap6 K5 A5 B5 K6 A6 B6 z4 W (i64_wf w0) (i64_wf w1) w2 w3 w4 w5 w6).mono fun e W' ⟨he, bel⟩ => ?_
  subst he
  exact ⟨_, rfl, _, _, _, [], _, [], hW', trodAll_mk1 (shut_bool Try.underlying4 _), (trodAll_cons_mk (shut_int Try.underlying2 w0) (trodAll_cons_mk (shut_int Try.underlying2 w1) (trodAll_cons_mk (s2 _ _) (trodAll_cons_mk (s3 _ _) (trodAll_cons_mk (Below.trod laidOut (by kernel_rfl) (of_decide_eq_true (by kernel_rfl)) k4 bel lt4) (trodAll_cons_mk (Below.trod laidOut (by kernel_rfl) (of_decide_eq_true (by kernel_rfl)) k5 bel lt5) (trodAll_cons_mk (Below.trod laidOut (by kernel_rfl) (of_decide_eq_true (by kernel_rfl)) k6 bel lt6) trodAll_mk0))))))), rfl, bel.frame _, fun h => by cases h⟩

theorem over : Rows.numAsksRow.holds Try.pinned (OpenSpec.ofChange Rows.numAsksSpec) :=
  OpenClaim.holds_of_wide 10 Try.f10 rfl rfl rfl rfl rfl rfl rfl ⟨rfl, rfl, rfl, rfl, rfl⟩ rfl rfl rfl rfl rfl (by kernel_rfl) Try.func10 (by kernel_rfl)
    (of_decide_eq_true (by kernel_rfl)) (by unfold Func.isWrapper; first | (rw [if_pos (by decide +kernel)]; kernel_rfl) | (rw [if_neg (by decide +kernel)]; exact ⟨rfl, rfl⟩))
    (fun os started H enc _ => lifted os started H enc)

/-- THE STATEMENT -/
theorem proved : Rows.NumAsksSaid :=
  over
#print axioms proved
end Go.Proofs.Ytajihhmohokngaa.numAsks
