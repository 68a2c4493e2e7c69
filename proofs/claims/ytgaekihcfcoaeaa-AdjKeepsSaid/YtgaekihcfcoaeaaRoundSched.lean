/-
  A drawn region within a round of a loop over an iterator, along a schedule.
-/
import Derived.RangeFuncCalls
import Derived.OrdersIn
import Derived.Test.YtgaekihcfcoaeaaSched
set_option linter.unusedVariables false
set_option linter.unusedSimpArgs false
namespace Go.Proofs.Ytgaekihcfcoaeaa

section
variable {P : Program} {ops : Array Oper} {l : List Oper} {Q : Exit → Act → World → Prop} {S : World → Prop}

def noDefer (o : Oper) : Bool := match o.op with | .defer _ => false | _ => true

theorem op_inRound {lp n : Nat} {Q' : Exit → Act → World → Prop} (hlo : ¬ LetsOut Q') (hq : ∀ c a w, Q' (.panic c) a w → Q (.panic c) a w) {o : Oper} (hd : noDefer o = true) {a : Act} {w : World} {K K' : Act → World → Prop} (hK : ∀ a w, K a w → K' a w)
    (h : o.wp P a w K Q') : o.wpIn (Fence.wide.inRound lp) n P a w K' Q := by
  have e : ∀ c, o.op ≠ .defer c := fun c e => by unfold noDefer at hd; rw [e] at hd; cases hd
  unfold Oper.wpIn
  refine ⟨fun _ _ => trivial, ?_⟩
  rw [Oper.semAt_eq _ _ _ e]
  unfold Oper.wp at h
  generalize (execOp a.eval o).run P w = r at *
  cases r with
  | ok x w' =>
    cases x <;> simp only [Oper.upon, Oper.uponIn] at h ⊢
    case value v => exact hK _ _ h
    case skip => exact hK _ _ h
    case defer d => exact hK _ _ h
    case enter f args =>
      refine ⟨(fun e => by cases e), CallsIn.inRound lp (callsIn_wide.2 ?_)⟩
      refine h.mono fun e w'' he => ?_
      cases e with
      | returned v => exact hK _ _ he
      | panicked c => exact hq _ _ _ he
      | outgrown => exact absurd he hlo
    case row row args =>
      refine ⟨(fun e => by cases e), fun c cs _ => ?_⟩
      obtain ⟨v, w2, hv, hs⟩ := h c cs
      exact ⟨v, w2, hK _ _ hv, stepsIn_wide.2 hs⟩
  | halt x w' =>
    cases x <;> simp only [Oper.upon, Oper.uponIn] at h ⊢
    case panic v => exact hq _ _ _ h

theorem wpOp_inRound {lp n i : Nat} {Q' : Exit → Act → World → Prop} (hlo : ¬ LetsOut Q') (hq : ∀ c a w, Q' (.panic c) a w → Q (.panic c) a w) (hd : ∀ (i : Nat) (o : Oper), ops[i]? = some o → noDefer o = true) {a : Act} {w : World} {K K' : Act → World → Prop} (hK : ∀ a w, K a w → K' a w)
    (h : wpOp P ops Q' i K a w) : wpOpIn (Fence.wide.inRound lp) n P ops Q i K' a w := by
  unfold wpOp at h
  unfold wpOpIn
  cases ho : ops[i]? with
  | none => rw [ho] at h; exact hK _ _ h
  | some o =>
    rw [ho] at h
    simp only at h ⊢
    by_cases hw : Region.wanted o (yielded ops a.tmps) = true
    · rw [if_pos hw] at h ⊢
      rcases h with h | ⟨_, h⟩
      · exact op_inRound hlo hq (hd i o ho) hK h
      · exact absurd h hlo
    · rw [if_neg hw] at h ⊢
      exact ⟨fun _ _ => trivial, hK _ _ h⟩

theorem any_inRound {lp n : Nat} {md : Region.Mode} {Q' : Exit → Act → World → Prop} (hlo : ¬ LetsOut Q') (hq : ∀ c a w, Q' (.panic c) a w → Q (.panic c) a w) (hn : ∀ a w, Q' .normal a w → Q .normal a w) (hd : ∀ (i : Nat) (o : Oper), ops[i]? = some o → noDefer o = true) :
    ∀ (fuel : Nat) (listed : Array Bool) (a : Act) (w : World), wpAny P md ops Q' fuel listed a w → wpAnyIn (Fence.wide.inRound lp) n P md ops Q fuel listed a w := by
  intro fuel
  induction fuel with
  | zero => intro listed a w h; exact ⟨h.1, hn _ _ h.2⟩
  | succ fuel ih =>
    intro listed a w h
    refine ⟨fun e => hn _ _ (h.1 e), fun i hi => ?_⟩
    exact wpOp_inRound hlo hq hd (fun a w => ih _ a w) (h.2 i hi)

/-- THE LAW: a drawn region in a round goes along a schedule, as elsewhere. -/
theorem wpIn_region_along {lp n id : Nat} {a : Act} {w : World} (S : World → Prop) (sc : List (Nat × Bool)) (hm : P.follows .mixedOrders = true)
    (hB : (Region.noSelect l.toArray && (decide (sc.length = l.length) && schedB .any l.toArray sc (Array.replicate l.length false))) = true) (hd : l.all noDefer = true) (hS : S w.drew)
    (h : Along P l (fun e a w => e = .normal ∧ Q .normal a w) S sc a w.drew) : (Code.region id l.toArray true).wpIn (Fence.wide.inRound lp) n P Q a w := by
  simp only [Bool.and_eq_true, decide_eq_true_eq] at hB
  refine wpIn_region_any hm ?_
  have hs := along_sound (Q := fun e a w => e = Exit.normal ∧ Q .normal a w) hB.1 (fun c d v a w h => by cases h.1) sc (Array.replicate l.length false) a w.drew hB.2.2 hS h
  rw [hB.2.1] at hs
  have hs := wpAny_of_held _ _ _ _ hs
  have e : l.toArray.size = l.length := by simp
  rw [e]
  refine any_inRound (Q' := fun e a w => e = Exit.normal ∧ Q .normal a w) (fun ⟨_, _, h, _⟩ => by cases h) (fun c a w h => by cases h.1) (fun a w h => h.2) (fun i o ho => ?_) _ _ _ _ hs
  have : o ∈ l := by simpa using Array.mem_of_getElem? ho
  exact List.all_eq_true.1 hd o this
theorem along_done {a : Act} {w : World} (h : Q .normal a w) : Along P l (fun e a w => e = .normal ∧ Q .normal a w) S [] a w := ⟨rfl, h⟩
end
end Go.Proofs.Ytgaekihcfcoaeaa
