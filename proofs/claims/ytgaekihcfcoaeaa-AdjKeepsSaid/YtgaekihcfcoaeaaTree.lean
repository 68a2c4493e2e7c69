/-
  A drawn region along a TREE of schedules: where two operations that are carried out may come up beside each other, both ways are walked.
-/
import Derived.Test.YtgaekihcfcoaeaaSched
set_option linter.unusedVariables false
set_option linter.unusedSimpArgs false
namespace Go.Proofs.Ytgaekihcfcoaeaa

inductive Sch where
  | done : Sch
  | take (k : Nat) (r : Sch) : Sch
  | one (k : Nat) (r : Sch) : Sch
  | two (k : Nat) (r : Sch) (k' : Nat) (r' : Sch) : Sch
  | three (k : Nat) (r : Sch) (k' : Nat) (r' : Sch) (k'' : Nat) (r'' : Sch) : Sch

section
variable {P : Program} {l : List Oper} {Q : Exit → Act → World → Prop} {S : World → Prop}

def treeB (md : Region.Mode) (ops : Array Oper) : Sch → Nat → Array Bool → Bool
  | .done, n, listed => decide (n = 0) && (Region.ready md ops listed).isEmpty
  | .take k r, n, listed => decide (0 < n) && ((Region.ready md ops listed).contains k && (Region.free md ops listed k && treeB md ops r (n - 1) (listed.setIfInBounds k true)))
  | .one k r, n, listed => decide (0 < n) && (decide (Region.ready md ops listed = [k]) && treeB md ops r (n - 1) (listed.setIfInBounds k true))
  | .two k r k' r', n, listed => decide (0 < n) && (decide (Region.ready md ops listed = [k, k']) && (treeB md ops r (n - 1) (listed.setIfInBounds k true) && treeB md ops r' (n - 1) (listed.setIfInBounds k' true)))
  | .three k r k' r' k'' r'', n, listed => decide (0 < n) && (decide (Region.ready md ops listed = [k, k', k'']) && (treeB md ops r (n - 1) (listed.setIfInBounds k true) && (treeB md ops r' (n - 1) (listed.setIfInBounds k' true) && treeB md ops r'' (n - 1) (listed.setIfInBounds k'' true))))

def Tree (P : Program) (l : List Oper) (Q : Exit → Act → World → Prop) (S : World → Prop) : Sch → Act → World → Prop
  | .done, a, w => Q .normal a w
  | .take k r, a, w => ∃ o v, l[k]? = some o ∧ YieldsIf P l.toArray S o v a ∧ Tree P l Q S r (a.put o.dst v) w
  | .one k r, a, w => wpOp P l.toArray Q k (fun a' w' => S w' ∧ Tree P l Q S r a' w') a w
  | .two k r k' r', a, w => wpOp P l.toArray Q k (fun a' w' => S w' ∧ Tree P l Q S r a' w') a w ∧ wpOp P l.toArray Q k' (fun a' w' => S w' ∧ Tree P l Q S r' a' w') a w
  | .three k r k' r' k'' r'', a, w => wpOp P l.toArray Q k (fun a' w' => S w' ∧ Tree P l Q S r a' w') a w ∧ wpOp P l.toArray Q k' (fun a' w' => S w' ∧ Tree P l Q S r' a' w') a w ∧ wpOp P l.toArray Q k'' (fun a' w' => S w' ∧ Tree P l Q S r'' a' w') a w

theorem tree_sound (hs : Region.noSelect l.toArray = true) (hQ : ∀ c d v a w, Q (.panic c) (Act.put a d v) w → Q (.panic c) a w) :
    ∀ (sc : Sch) (n : Nat) (listed : Array Bool) (a : Act) (w : World), treeB .any l.toArray sc n listed = true → S w → Tree P l Q S sc a w → wpAnyH P .any l.toArray Q S n listed a w := by
  intro sc
  induction sc with
  | done =>
    intro n listed a w hB hS h
    simp only [treeB, Bool.and_eq_true, decide_eq_true_eq] at hB
    obtain ⟨rfl, hB⟩ := hB
    exact wpAnyH_done (by simpa using hB) h 0
  | take k r ih =>
    intro n listed a w hB hS h
    simp only [treeB, Bool.and_eq_true, decide_eq_true_eq] at hB
    obtain ⟨n, rfl⟩ : ∃ m, n = m + 1 := ⟨n - 1, by omega⟩
    obtain ⟨o, v, ho, hy, h⟩ := h
    exact wpAnyH_take (oi := o) (by simpa using ho) hs hB.2.2.1 hB.2.1 (fun c a w => hQ c o.dst v a w) hy hS (ih _ _ _ _ hB.2.2.2 hS h)
  | one k r ih =>
    intro n listed a w hB hS h
    simp only [treeB, Bool.and_eq_true, decide_eq_true_eq] at hB
    obtain ⟨n, rfl⟩ : ∃ m, n = m + 1 := ⟨n - 1, by omega⟩
    refine wpAnyH_all hB.2.1 (by simp) (fun i hi => ?_)
    obtain rfl : i = k := by simpa using hi
    exact wpOp_mono (fun a' w' h' => ⟨h'.1, ih _ _ _ _ hB.2.2 h'.1 h'.2⟩) h
  | two k r k' r' ih ih' =>
    intro n listed a w hB hS h
    simp only [treeB, Bool.and_eq_true, decide_eq_true_eq] at hB
    obtain ⟨n, rfl⟩ : ∃ m, n = m + 1 := ⟨n - 1, by omega⟩
    refine wpAnyH_all hB.2.1 (by simp) (fun i hi => ?_)
    have hi' : i = k ∨ i = k' := by simpa using hi
    rcases hi' with rfl | rfl
    · exact wpOp_mono (fun a' w' h' => ⟨h'.1, ih _ _ _ _ hB.2.2.1 h'.1 h'.2⟩) h.1
    · exact wpOp_mono (fun a' w' h' => ⟨h'.1, ih' _ _ _ _ hB.2.2.2 h'.1 h'.2⟩) h.2
  | three k r k' r' k'' r'' ih ih' ih'' =>
    intro n listed a w hB hS h
    simp only [treeB, Bool.and_eq_true, decide_eq_true_eq] at hB
    obtain ⟨n, rfl⟩ : ∃ m, n = m + 1 := ⟨n - 1, by omega⟩
    refine wpAnyH_all hB.2.1 (by simp) (fun i hi => ?_)
    have hi' : i = k ∨ i = k' ∨ i = k'' := by simpa using hi
    rcases hi' with rfl | rfl | rfl
    · exact wpOp_mono (fun a' w' h' => ⟨h'.1, ih _ _ _ _ hB.2.2.1 h'.1 h'.2⟩) h.1
    · exact wpOp_mono (fun a' w' h' => ⟨h'.1, ih' _ _ _ _ hB.2.2.2.1 h'.1 h'.2⟩) h.2.1
    · exact wpOp_mono (fun a' w' h' => ⟨h'.1, ih'' _ _ _ _ hB.2.2.2.2 h'.1 h'.2⟩) h.2.2

theorem wp_region_tree {id : Nat} {a : Act} {w : World} (S : World → Prop) (sc : Sch) (hm : P.follows .mixedOrders = true)
    (hB : (Region.noSelect l.toArray && treeB .any l.toArray sc l.length (Array.replicate l.length false)) = true) (hS : S w.drew)
    (h : Tree P l (NoPanic Q) S sc a w.drew) : (Code.region id l.toArray true).wp P Q a w := by
  simp only [Bool.and_eq_true] at hB
  refine wp_region_noPanic (wp_region_held (S := S) hm ?_)
  have := tree_sound (Q := NoPanic Q) hB.1 (fun c d v a w h => h) sc l.length (Array.replicate l.length false) a w.drew hB.2 hS h
  have e : l.toArray.size = l.length := by simp
  rw [e]
  exact this

theorem tree_take {k : Nat} {o : Oper} {v : Value} {a a' : Act} {w : World} {r : Sch} (ho : l[k]? = some o) (hw : Region.wanted o (yielded l.toArray a.tmps) = true)
    (hy : ∀ w', S w' → (execOp a.eval o).run P w' = .ok (.value v) w') (ha : a.put o.dst v = a') (h : Tree P l Q S r a' w) : Tree P l Q S (.take k r) a w :=
  ⟨o, v, ho, .inl ⟨hw, hy⟩, by rw [ha]; exact h⟩
theorem tree_op {k : Nat} {o : Oper} {a : Act} {w : World} {r : Sch} (ho : l[k]? = some o) (hw : Region.wanted o (yielded l.toArray a.tmps) = true)
    (h : ∀ K : Act → World → Prop, (∀ a' w', S w' → Tree P l Q S r a' w' → K a' w') → o.wp P a w K Q) : wpOp P l.toArray Q k (fun a' w' => S w' ∧ Tree P l Q S r a' w') a w := by
  unfold wpOp
  have : l.toArray[k]? = some o := by simpa using ho
  rw [this]
  simp only [hw, if_true]
  exact .inl (h _ (fun a' w' hS h' => ⟨hS, h'⟩))
theorem tree_do {k : Nat} {o : Oper} {a : Act} {w : World} {r : Sch} (ho : l[k]? = some o) (hw : Region.wanted o (yielded l.toArray a.tmps) = true)
    (h : ∀ K : Act → World → Prop, (∀ a' w', S w' → Tree P l Q S r a' w' → K a' w') → o.wp P a w K Q) : Tree P l Q S (.one k r) a w := tree_op ho hw h
theorem tree_two {k k' : Nat} {a : Act} {w : World} {r r' : Sch} (h : wpOp P l.toArray Q k (fun a' w' => S w' ∧ Tree P l Q S r a' w') a w) (h' : wpOp P l.toArray Q k' (fun a' w' => S w' ∧ Tree P l Q S r' a' w') a w) : Tree P l Q S (.two k r k' r') a w := ⟨h, h'⟩
theorem tree_three {k k' k'' : Nat} {a : Act} {w : World} {r r' r'' : Sch} (h : wpOp P l.toArray Q k (fun a' w' => S w' ∧ Tree P l Q S r a' w') a w) (h' : wpOp P l.toArray Q k' (fun a' w' => S w' ∧ Tree P l Q S r' a' w') a w) (h'' : wpOp P l.toArray Q k'' (fun a' w' => S w' ∧ Tree P l Q S r'' a' w') a w) : Tree P l Q S (.three k r k' r' k'' r'') a w := ⟨h, h', h''⟩
theorem tree_end {a : Act} {w : World} (h : Q .normal a w) : Tree P l (NoPanic Q) S .done a w := h
end
end Go.Proofs.Ytgaekihcfcoaeaa
