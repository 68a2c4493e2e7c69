/-
  NumText returns true for every input, and leaves its arguments as they were. No conditions.
  (The frame began as the print of the guide's proof shell.)
-/
import Derived.Test.YtajihhmohokngaaRows
import Derived.Test.YtajihhmohokngaaTextLaw
import Derived.WalkKit
import Derived.ProofKit
import Derived.OpenShut
import Derived.ShutString
import Derived.Below
import Derived.Lib.SmallJoins
namespace Go.Proofs.Ytajihhmohokngaa.numText
open Go.ChangeShapes Go.WideShapes Go.ChangeAt Go.RowKit Go.Joins
set_option linter.unusedVariables false

theorem own : ownKnob Try.prog.godebug = none := by kernel_rfl
theorem cells27 : Try.prog.cellsOf 27 = 2 := by kernel_rfl
theorem u64_wf {a : Int} (h : (Lit.int .u64 a).wf = true) : 0 ≤ a ∧ a < 18446744073709551616 := by
  have e1 : IntKind.u64.min = 0 := rfl
  have e2 : IntKind.u64.max = 18446744073709551615 := rfl
  simp [Lit.wf, e1, e2] at h
  omega
/-- two words are a number -/
theorem wide_of {h l : Int} (wh : (Lit.int .i64 h).wf = true) (wl : (Lit.int .u64 l).wf = true) : ∃ x, In128 x ∧ h = hi64 x ∧ l = lo64 x := by
  have a := i64_wf wh
  have b := u64_wf wl
  exact ⟨h * 18446744073709551616 + l, by unfold In128; omega, by unfold hi64; omega, by unfold lo64; omega⟩

set_option maxRecDepth 100000 in
theorem lifted (os : Os) (started : os.Started) (H : Type) (enc : TypeId × Value → H) :
    ReturnsInHanded {} Try.checked os 6 .any (Rows.numTextSpec.pre6 enc Try.prog Try.f6 Rows.numTextRow.domain false) (Rows.numTextSpec.post enc Try.prog Try.f6 false true false false) := by
  refine returnsInHanded_of_change (C := Try.checked) own started (by kernel_rfl) Try.func6
    (ChangeSpec.witness6 (enc := enc) (C := Try.checked) false ⟨#[], #[.agg #[.int .i64 0, .int .u64 0]], []⟩ 8 (by kernel_rfl) (by kernel_rfl) (by kernel_rfl) (by kernel_rfl)) ?_
  intro W base args ds gs before hval0 hW hcnd _
  have hval : ∀ (j : Nat) t v, Try.f6.params[j]? = some t → args[j]? = some v → Value.okWide Try.prog W .any base t v := hval0
  have hW' := hW
  obtain ⟨p, q, hA0, hV, rfl, hfz, hnd⟩ := hW
  have hA : DataW.TrodAll enc Try.prog W 0 (fun _ => true) true Try.f6.params.toList args.toList ds p := hA0
  rw [Try.params6] at hA hval
  obtain ⟨v0, vs0, d0, ds0, p0, q0, hargs, rfl, rfl, h0, r0⟩ := trodAll_cons hA
  obtain ⟨rfl, rfl, rfl⟩ := trodAll_nil r0
  obtain rfl : args = #[v0] := by cases args; simp_all
  obtain ⟨rfl, rfl⟩ := trodVars_none hV
  obtain ⟨c0, e0, y0, z0, m0, rfl, rfl, rfl, hy0, hz0⟩ := open_agg2 Try.underlying27 (by kernel_rfl) cells27 (hval 0 27 v0 rfl rfl) h0
  obtain ⟨x0, f0, rfl, u0⟩ := DataW.trod_int Try.underlying2 hy0
  obtain ⟨l0, g0, rfl, t0⟩ := DataW.trod_int Try.underlying25 hz0
  simp at f0 g0
  subst f0 g0
  have s0 : ∀ (W' : World) (sp : Nat → Bool), DataW.Trod enc Try.prog W' 0 sp true 27 (.agg #[.int .i64 x0, .int .u64 l0]) (.agg [.lit (.int .i64 x0), .lit (.int .u64 l0)]) [] := fun W' sp =>
    shut_agg2 (y0 := (.lit (.int .i64 x0), [])) (y1 := (.lit (.int .u64 l0), [])) Try.underlying27 (by kernel_rfl) cells27 ⟨1, by simp [DataW.trod, Try.underlying2, u0]⟩ ⟨1, by simp [DataW.trod, Try.underlying25, t0]⟩
  obtain ⟨a0, w0, rfl, rfl⟩ := wide_of u0 t0
  clear hA0 hval0
  refine (ntext_walk a0 W w0).mono fun e W' ⟨he, bel⟩ => ?_
  subst he
  exact ⟨_, rfl, _, _, _, [], _, [], hW', trodAll_mk1 (shut_bool Try.underlying4 _), (trodAll_cons_mk (s0 _ _) trodAll_mk0), rfl, bel.frame _, fun h => by cases h⟩

theorem over : Rows.numTextRow.holds Try.pinned (OpenSpec.ofChange Rows.numTextSpec) :=
  OpenClaim.holds_of_wide 6 Try.f6 rfl rfl rfl rfl rfl rfl rfl ⟨rfl, rfl, rfl, rfl, rfl⟩ rfl rfl rfl rfl rfl (by kernel_rfl) Try.func6 (by kernel_rfl)
    (of_decide_eq_true (by kernel_rfl)) (by unfold Func.isWrapper; first | (rw [if_pos (by decide +kernel)]; kernel_rfl) | (rw [if_neg (by decide +kernel)]; exact ⟨rfl, rfl⟩))
    (fun os started H enc _ => lifted os started H enc)

/-- THE STATEMENT -/
theorem proved : Rows.NumTextSaid :=
  over
#print axioms proved
end Go.Proofs.Ytajihhmohokngaa.numText
