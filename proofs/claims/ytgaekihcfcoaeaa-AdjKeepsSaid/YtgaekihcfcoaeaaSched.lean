import Derived.OrdersHeld
import Derived.Deep.RegionHeld3
set_option linter.unusedVariables false
set_option linter.unusedSimpArgs false
namespace Go.Proofs.Ytgaekihcfcoaeaa

section
variable {P : Program} {l : List Oper} {Q : Exit → Act → World → Prop} {S : World → Prop}

/-- A schedule, number by number: 'true': the operation may be taken first, as it is apart from all others that have not come up; 'false': it is the only one that may come up. -/
def schedB (md : Region.Mode) (ops : Array Oper) : List (Nat × Bool) → Array Bool → Bool
  | [], listed => (Region.ready md ops listed).isEmpty
  | (k, true) :: r, listed => (Region.ready md ops listed).contains k && (Region.free md ops listed k && schedB md ops r (listed.setIfInBounds k true))
  | (k, false) :: r, listed => decide (Region.ready md ops listed = [k]) && schedB md ops r (listed.setIfInBounds k true)

/-- The walk along a schedule. -/
def Along (P : Program) (l : List Oper) (Q : Exit → Act → World → Prop) (S : World → Prop) : List (Nat × Bool) → Act → World → Prop
  | [], a, w => Q .normal a w
  | (k, true) :: r, a, w => ∃ o v, l[k]? = some o ∧ YieldsIf P l.toArray S o v a ∧ Along P l Q S r (a.put o.dst v) w
  | (k, false) :: r, a, w => wpOp P l.toArray Q k (fun a' w' => S w' ∧ Along P l Q S r a' w') a w

theorem along_sound (hs : Region.noSelect l.toArray = true) (hQ : ∀ c d v a w, Q (.panic c) (Act.put a d v) w → Q (.panic c) a w) :
    ∀ (sc : List (Nat × Bool)) (listed : Array Bool) (a : Act) (w : World), schedB .any l.toArray sc listed = true → S w → Along P l Q S sc a w → wpAnyH P .any l.toArray Q S sc.length listed a w := by
  intro sc
  induction sc with
  | nil =>
    intro listed a w hB hS h
    exact wpAnyH_done (by simpa [schedB] using hB) h 0
  | cons p r ih =>
    intro listed a w hB hS h
    obtain ⟨k, b⟩ := p
    cases b with
    | true =>
      simp only [schedB, Bool.and_eq_true] at hB
      obtain ⟨o, v, ho, hy, h⟩ := h
      exact wpAnyH_take (oi := o) (by simpa using ho) hs hB.2.1 hB.1 (fun c a w => hQ c o.dst v a w) hy hS (ih _ _ _ hB.2.2 hS h)
    | false =>
      simp only [schedB, Bool.and_eq_true, decide_eq_true_eq] at hB
      refine wpAnyH_all hB.1 (by simp) (fun i hi => ?_)
      obtain rfl : i = k := by simpa using hi
      exact wpOp_mono (fun a' w' h' => ⟨h'.1, ih _ _ _ hB.2 h'.1 h'.2⟩) h

/-- THE LAW: a region that asks the tape for its order goes along one schedule, if S, a condition on the world that each carried-out operation hands on, gives what the others read. -/
theorem wp_region_along {id : Nat} {a : Act} {w : World} (S : World → Prop) (sc : List (Nat × Bool)) (hm : P.follows .mixedOrders = true)
    (hB : (Region.noSelect l.toArray && (decide (sc.length = l.length) && schedB .any l.toArray sc (Array.replicate l.length false))) = true) (hS : S w.drew)
    (h : Along P l (NoPanic Q) S sc a w.drew) : (Code.region id l.toArray true).wp P Q a w := by
  simp only [Bool.and_eq_true, decide_eq_true_eq] at hB
  refine wp_region_noPanic (wp_region_held (S := S) hm ?_)
  have := along_sound (Q := NoPanic Q) hB.1 (fun c d v a w h => h) sc (Array.replicate l.length false) a w.drew hB.2.2 hS h
  rw [hB.2.1] at this
  have e : l.toArray.size = l.length := by simp
  rw [e]
  exact this

theorem along_take {k : Nat} {o : Oper} {v : Value} {a a' : Act} {w : World} {r : List (Nat × Bool)} (ho : l[k]? = some o) (hw : Region.wanted o (yielded l.toArray a.tmps) = true)
    (hy : ∀ w', S w' → (execOp a.eval o).run P w' = .ok (.value v) w') (ha : a.put o.dst v = a') (h : Along P l Q S r a' w) : Along P l Q S ((k, true) :: r) a w :=
  ⟨o, v, ho, .inl ⟨hw, hy⟩, by rw [ha]; exact h⟩
theorem along_skip {k : Nat} {o : Oper} {a a' : Act} {w : World} {r : List (Nat × Bool)} (ho : l[k]? = some o) (hw : Region.wanted o (yielded l.toArray a.tmps) = false)
    (ha : a.put o.dst undef = a') (h : Along P l Q S r a' w) : Along P l Q S ((k, true) :: r) a w :=
  ⟨o, undef, ho, .inr ⟨hw, rfl⟩, by rw [ha]; exact h⟩
theorem along_do {k : Nat} {o : Oper} {a : Act} {w : World} {r : List (Nat × Bool)} (ho : l[k]? = some o) (hw : Region.wanted o (yielded l.toArray a.tmps) = true)
    (h : ∀ K : Act → World → Prop, (∀ a' w', S w' → Along P l Q S r a' w' → K a' w') → o.wp P a w K Q) : Along P l Q S ((k, false) :: r) a w := by
  show wpOp P l.toArray Q k _ a w
  unfold wpOp
  have : l.toArray[k]? = some o := by simpa using ho
  rw [this]
  simp only [hw, if_true]
  exact .inl (h _ (fun a' w' hS h' => ⟨hS, h'⟩))
theorem along_pass {k : Nat} {o : Oper} {a a' : Act} {w : World} {r : List (Nat × Bool)} (ho : l[k]? = some o) (hw : Region.wanted o (yielded l.toArray a.tmps) = false)
    (hS : S w) (ha : a.put o.dst undef = a') (h : Along P l Q S r a' w) : Along P l Q S ((k, false) :: r) a w := by
  show wpOp P l.toArray Q k _ a w
  unfold wpOp
  have : l.toArray[k]? = some o := by simpa using ho
  rw [this]
  simp only [hw, Bool.false_eq_true, if_false]
  rw [ha]
  exact ⟨hS, h⟩
theorem along_end {a : Act} {w : World} (h : Q .normal a w) : Along P l (NoPanic Q) S [] a w := h
end
end Go.Proofs.Ytgaekihcfcoaeaa
