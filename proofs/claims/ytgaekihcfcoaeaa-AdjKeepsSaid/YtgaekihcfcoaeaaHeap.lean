/-
  PLAIN LAW, no program in sight: what of memory stays (Only), and rows of numbers.
-/
import Derived.WalkKit
import Derived.Below
import Derived.WalkSpells
import Derived.WalkLawsBesides
set_option linter.unusedVariables false
set_option linter.unusedSimpArgs false
namespace Go.Proofs.Ytgaekihcfcoaeaa
open Go.RowKit

/-- Nothing that was there has turned but blocks of S. -/
structure Only (S : Nat → Prop) (w w' : World) : Prop where
  os : w'.os = w.os
  tape : w'.tape = w.tape
  output : w'.output = w.output
  size : w.heap.size ≤ w'.heap.size
  block : ∀ k, k < w.heap.size → ¬ S k → w'.heap[k]? = w.heap[k]?

def NoB : Nat → Prop := fun _ => False
def B1 (u : Nat) : Nat → Prop := fun k => k = u
def B2 (u v : Nat) : Nat → Prop := fun k => k = u ∨ k = v

theorem Only.refl (S : Nat → Prop) (w : World) : Only S w w := ⟨rfl, rfl, rfl, Nat.le_refl _, fun _ _ _ => rfl⟩
theorem Only.mono {S T : Nat → Prop} {w w' : World} (h : Only S w w') (hs : ∀ k, k < w.heap.size → S k → T k) : Only T w w' :=
  ⟨h.os, h.tape, h.output, h.size, fun k hk hn => h.block k hk fun s => hn (hs k hk s)⟩
theorem Only.trans {S : Nat → Prop} {a b c : World} (h : Only S a b) (k : Only S b c) : Only S a c :=
  ⟨k.os.trans h.os, k.tape.trans h.tape, k.output.trans h.output, Nat.le_trans h.size k.size,
    fun i hi hn => (k.block i (Nat.lt_of_lt_of_le hi h.size) hn).trans (h.block i hi hn)⟩
/-- The later step may turn more: only what is new since a. -/
theorem Only.then {S T : Nat → Prop} {a b c : World} (h : Only S a b) (k : Only T b c) (hs : ∀ i, i < a.heap.size → T i → S i) : Only S a c :=
  ⟨k.os.trans h.os, k.tape.trans h.tape, k.output.trans h.output, Nat.le_trans h.size k.size,
    fun i hi hn => (k.block i (Nat.lt_of_lt_of_le hi h.size) (fun t => hn (hs i hi t))).trans (h.block i hi hn)⟩
theorem Only.drew {S : Nat → Prop} {a w : World} (h : Only S a w) : Only S a w.drew := ⟨h.os, h.tape, h.output, h.size, h.block⟩
theorem Only.drewN {S : Nat → Prop} {a w : World} (h : Only S a w) (n : Nat) : Only S a (w.drewN n) := ⟨h.os, h.tape, h.output, h.size, h.block⟩
theorem Only.alloc {S : Nat → Prop} {a w : World} (h : Only S a w) (o : Obj) : Only S a (w.alloc o) :=
  h.then (T := NoB) ⟨rfl, rfl, rfl, by simp, fun k hk _ => Below.heap_alloc _ _ _ hk⟩ (fun _ _ f => f.elim)
theorem Only.setCell {S : Nat → Prop} {a w : World} (h : Only S a w) {p : Addr} (hp : p.block < a.heap.size → S p.block) (v : Value) : Only S a (w.setCell p v) :=
  h.then (T := B1 p.block) ⟨rfl, rfl, rfl, by simp [World.setCell], fun k hk hn => Below.heap_setCell _ _ _ _ (fun e => hn e)⟩ (fun i hi e => by unfold B1 at e; subst e; exact hp hi)
theorem Only.grown {S : Nat → Prop} {a w w' : World} {row : Option Nat} (h : Only S a w) (hg : w.grownBy w' row) (hr : ∀ k, k < a.heap.size → row = some k → S k) : Only S a w' :=
  h.then (T := fun k => some k = row) ⟨hg.os, hg.tape, hg.output, hg.size, fun k hk hn => hg.block k hk hn⟩ (fun i hi e => hr i hi e.symm)
theorem Only.below {w w' : World} (h : Only NoB w w') : Below w.heap.size w w' := ⟨h.os, h.tape, h.output, h.size, fun k hk => h.block k hk fun f => f⟩
theorem Only.of_below {S : Nat → Prop} {w w' : World} (h : Below w.heap.size w w') : Only S w w' := ⟨h.os, h.tape, h.output, h.size, fun k hk _ => h.block k hk⟩

/-- a row of n numbers -/
def cellsOf (n : Nat) (f : Nat → Nat) : Array Value := ((List.range n).map fun i => Value.int .i64 (f i)).toArray
theorem cellsOf_size (n : Nat) (f : Nat → Nat) : (cellsOf n f).size = n := by simp [cellsOf]
theorem cellsOf_get (n : Nat) (f : Nat → Nat) (i : Nat) (h : i < n) : (cellsOf n f)[i]? = some (.int .i64 (f i)) := by simp [cellsOf, h]
theorem cellsOf_set (n : Nat) (f g : Nat → Nat) (a : Nat) (y : Int) (hy : y = g a) (hg : ∀ i, i < n → i ≠ a → g i = f i) : (cellsOf n f).setIfInBounds a (.int .i64 y) = cellsOf n g := by
  subst hy
  apply Array.ext_getElem?
  intro i
  rw [Array.getElem?_setIfInBounds]
  by_cases e : a = i
  · subst e
    rw [if_pos rfl, cellsOf_size]
    by_cases h : a < n
    · rw [if_pos h, cellsOf_get _ _ _ h]
    · rw [if_neg h, Array.getElem?_eq_none (by rw [cellsOf_size]; omega)]
  · rw [if_neg e]
    by_cases h : i < n
    · rw [cellsOf_get _ _ _ h, cellsOf_get _ _ _ h, hg i h (fun q => e q.symm)]
    · rw [Array.getElem?_eq_none (by rw [cellsOf_size]; omega), Array.getElem?_eq_none (by rw [cellsOf_size]; omega)]

theorem heap_setCell_at (w : World) (u a : Nat) (v : Value) (c : Array Value) (t : TypeId) (fz : Nat × Nat) (h : w.heap[u]? = some (.cells c t fz)) :
    (w.setCell ⟨u, a, none⟩ v).heap[u]? = some (.cells (c.setIfInBounds a v) t fz) := by
  simp [World.setCell, Array.getElem?_modify, h]

theorem cell_in (w : World) (u a : Nat) (c : Array Value) (t : TypeId) (fz : Nat × Nat) (h : w.heap[u]? = some (.cells c t fz)) : w.cell? ⟨u, a, none⟩ = c[a]? := by
  simp [World.cell?, h]
theorem frozen_in (w : World) (u a : Nat) (c : Array Value) (t : TypeId) (h : w.heap[u]? = some (.cells c t (0, 0))) : w.frozen? ⟨u, a, none⟩ = false := by
  simp [World.frozen?, h]
theorem lt_of_heap {w : World} {u : Nat} {o : Obj} (h : w.heap[u]? = some o) : u < w.heap.size := (Array.getElem?_eq_some_iff.1 h).1

theorem ret_bool {a b : Bool} (h : a = b) : Ending.returned (.bool a) = .returned (.bool b) := by rw [h]
theorem ret_int {k : IntKind} {a b : Int} (h : a = b) : Ending.returned (.int k a) = .returned (.int k b) := by rw [h]

end Go.Proofs.Ytgaekihcfcoaeaa
