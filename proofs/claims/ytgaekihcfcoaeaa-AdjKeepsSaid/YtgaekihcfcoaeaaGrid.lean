/-
  PLAIN LAW, no program in sight: slices of numbers, and of slices of numbers, as memory holds them.
-/
import Derived.Test.YtgaekihcfcoaeaaHeap
set_option linter.unusedVariables false
set_option linter.unusedSimpArgs false
namespace Go.Proofs.Ytgaekihcfcoaeaa
open Go.RowKit

/-- v is a slice of the numbers zs, which lie in blocks of p. -/
def IntsIn (p : Nat → Prop) (w : World) (v : Value) (zs : List Int) : Prop :=
  ∃ a cap, v = .slice a zs.length cap ∧ zs.length ≤ maxLen ∧ (0 < zs.length → ∃ b o, a = some ⟨b, o, none⟩ ∧ p b ∧ ∀ j, j < zs.length → w.cell? ⟨b, o + j, none⟩ = some (.int .i64 (zs.getD j 0)))
/-- v is a slice of slices of numbers. -/
def GridIn (p : Nat → Prop) (w : World) (v : Value) (gs : List (List Int)) : Prop :=
  ∃ a cap, v = .slice a gs.length cap ∧ gs.length ≤ maxLen ∧ (0 < gs.length → ∃ b o, a = some ⟨b, o, none⟩ ∧ p b ∧ ∀ j, j < gs.length → ∃ x, w.cell? ⟨b, o + j, none⟩ = some x ∧ IntsIn p w x (gs.getD j []))

theorem Only.cell {S : Nat → Prop} {w w' : World} (h : Only S w w') {b o : Nat} {v : Value} (hc : w.cell? ⟨b, o, none⟩ = some v) (hs : ¬ S b) : w'.cell? ⟨b, o, none⟩ = some v := by
  rw [← hc]
  exact World.cell?_of_block (w := w) (h.block b (World.block_lt_of_cell? w _ hc) hs)

theorem IntsIn.kept {p S : Nat → Prop} {w w' : World} {v : Value} {zs : List Int} (h : IntsIn p w v zs) (o : Only S w w') (hs : ∀ b, p b → ¬ S b) : IntsIn p w' v zs := by
  obtain ⟨a, cap, rfl, hm, hc⟩ := h
  refine ⟨a, cap, rfl, hm, fun h0 => ?_⟩
  obtain ⟨b, of, rfl, hp, hc⟩ := hc h0
  exact ⟨b, of, rfl, hp, fun j hj => o.cell (hc j hj) (hs b hp)⟩
theorem GridIn.kept {p S : Nat → Prop} {w w' : World} {v : Value} {gs : List (List Int)} (h : GridIn p w v gs) (o : Only S w w') (hs : ∀ b, p b → ¬ S b) : GridIn p w' v gs := by
  obtain ⟨a, cap, rfl, hm, hc⟩ := h
  refine ⟨a, cap, rfl, hm, fun h0 => ?_⟩
  obtain ⟨b, of, rfl, hp, hc⟩ := hc h0
  refine ⟨b, of, rfl, hp, fun j hj => ?_⟩
  obtain ⟨x, hx, hi⟩ := hc j hj
  exact ⟨x, o.cell hx (hs b hp), hi.kept o hs⟩
theorem IntsIn.mono {p q : Nat → Prop} {w : World} {v : Value} {zs : List Int} (h : IntsIn p w v zs) (hs : ∀ b, p b → q b) : IntsIn q w v zs := by
  obtain ⟨a, cap, rfl, hm, hc⟩ := h
  refine ⟨a, cap, rfl, hm, fun h0 => ?_⟩
  obtain ⟨b, of, rfl, hp, hc⟩ := hc h0
  exact ⟨b, of, rfl, hs b hp, hc⟩
theorem GridIn.mono {p q : Nat → Prop} {w : World} {v : Value} {gs : List (List Int)} (h : GridIn p w v gs) (hs : ∀ b, p b → q b) : GridIn q w v gs := by
  obtain ⟨a, cap, rfl, hm, hc⟩ := h
  refine ⟨a, cap, rfl, hm, fun h0 => ?_⟩
  obtain ⟨b, of, rfl, hp, hc⟩ := hc h0
  refine ⟨b, of, rfl, hs b hp, fun j hj => ?_⟩
  obtain ⟨x, hx, hi⟩ := hc j hj
  exact ⟨x, hx, hi.mono hs⟩

theorem list_eq_of_take {α : Type} {g h : List α} (hl : g.length = h.length) (e : g.take g.length = h.take g.length) : g = h := by
  rw [List.take_length, hl, List.take_length] at e
  exact e
theorem take_succ_eq {α : Type} {g h : List α} (d : α) {k : Nat} (hl : g.length = h.length) (hk : k < g.length) (e : g.take k = h.take k) (ek : g.getD k d = h.getD k d) : g.take (k + 1) = h.take (k + 1) := by
  rw [List.take_add_one, List.take_add_one, e]
  congr 1
  rw [List.getElem?_eq_getElem hk, List.getElem?_eq_getElem (by omega)]
  simp [List.getD, List.getElem?_eq_getElem hk, List.getElem?_eq_getElem (hl ▸ hk : k < h.length)] at ek
  simp [ek]
/-- a slice of bytes that came in: byte j is f j -/
def BytesIn (w : World) (a : Option Addr) (len : Nat) (f : Nat → Int) : Prop :=
  len ≤ maxLen ∧ (∀ j, 0 ≤ f j ∧ f j ≤ 255) ∧ (0 < len → ∃ b o, a = some ⟨b, o, none⟩ ∧ ∀ j, j < len → w.cell? ⟨b, o + j, none⟩ = some (.int .u8 (f j)))
theorem BytesIn.kept {S : Nat → Prop} {w w' : World} {a : Option Addr} {len : Nat} {f : Nat → Int} (h : BytesIn w a len f) (o : Only S w w') (hs : ∀ b, b < w.heap.size → ¬ S b) : BytesIn w' a len f := by
  obtain ⟨hm, hf, hc⟩ := h
  refine ⟨hm, hf, fun h0 => ?_⟩
  obtain ⟨b, of, rfl, hc'⟩ := hc h0
  exact ⟨b, of, rfl, fun j hj => o.cell (hc' j hj) (hs b (World.block_lt_of_cell? w _ (hc' j hj)))⟩

/-- a slice of slices that the call itself grows, element by element -/
def GridOwn (B : Nat) (w : World) (v : Value) (vals : List Value) (gs : List (List Int)) : Prop :=
  w.ownsRow B 28 1 v vals.length vals ∧ vals.length = gs.length ∧ ∀ j, j < gs.length → IntsIn (fun k => B ≤ k ∧ some k ≠ v.ownBlock ∧ k < w.heap.size) w (vals.getD j undef) (gs.getD j [])

theorem GridOwn.nil (B : Nat) (w : World) : GridOwn B w (.slice none 0 0) [] [] := ⟨World.ownsRow_nil _ _ _ _, rfl, fun j hj => absurd hj (Nat.not_lt_zero _)⟩
theorem GridOwn.snoc {B : Nat} {w w1 : World} {v v' x : Value} {vals : List Value} {gs : List (List Int)} {g : List Int} (h : GridOwn B w v vals gs)
    (hx : IntsIn (fun k => B ≤ k ∧ some k ≠ v.ownBlock ∧ k < w.heap.size) w x g) (hown : w1.ownsRow B 28 1 v' (vals.length + 1) (vals ++ [x])) (hg : w.grownBy w1 v.ownBlock)
    (hat : v'.ownBlock = v.ownBlock ∨ ∃ k, v'.ownBlock = some k ∧ w.heap.size ≤ k) : GridOwn B w1 v' (vals ++ [x]) (gs ++ [g]) := by
  obtain ⟨h0, h1, h2⟩ := h
  have kept : ∀ {y : Value} {l : List Int}, IntsIn (fun k => B ≤ k ∧ some k ≠ v.ownBlock ∧ k < w.heap.size) w y l → IntsIn (fun k => B ≤ k ∧ some k ≠ v'.ownBlock ∧ k < w1.heap.size) w1 y l := by
    intro y l hy
    refine (hy.kept ((Only.refl (fun k => some k = v.ownBlock) w).grown hg (fun k _ e => e.symm)) (fun b hb e => hb.2.1 e)).mono ?_
    intro b hb
    refine ⟨hb.1, fun e => ?_, Nat.lt_of_lt_of_le hb.2.2 hg.size⟩
    rcases hat with q | ⟨k, q, hk⟩
    · rw [q] at e; exact hb.2.1 e
    · rw [q] at e; cases e; exact absurd hb.2.2 (by omega)
  refine ⟨by simpa using hown, by simp [h1], fun j hj => ?_⟩
  rw [List.length_append, List.length_singleton] at hj
  by_cases e : j < gs.length
  · have := h2 j e
    rw [List.getD, List.getD, List.getElem?_append_left (by omega), List.getElem?_append_left e]
    exact kept this
  · obtain rfl : gs.length = j := by omega
    rw [List.getD, List.getD, List.getElem?_append_right (by omega), List.getElem?_append_right (by omega), h1]
    simpa using kept hx
theorem GridOwn.grid {B : Nat} {w : World} {v : Value} {vals : List Value} {gs : List (List Int)} (h : GridOwn B w v vals gs) : GridIn (fun k => B ≤ k) w v gs := by
  obtain ⟨hrow, h1, h2⟩ := h
  rcases hrow.2 with ⟨rfl, h0⟩ | ⟨g, cap, cur, rfl, hg, hh, hn, hc, _⟩
  · exact ⟨none, 0, by rw [← h1, h0], by unfold maxLen; omega, fun h3 => by omega⟩
  · refine ⟨_, cap, by rw [h1], by omega, fun h3 => ⟨g, 0, rfl, hg, fun j hj => ?_⟩⟩
    refine ⟨vals.getD j undef, ?_, (h2 j hj).mono (fun b hb => hb.1)⟩
    rw [Nat.zero_add, hrow.cellAt j (by omega)]
    simp [List.getD, List.getElem?_eq_getElem (h1 ▸ hj : j < vals.length)]
theorem GridOwn.kept {B : Nat} {S : Nat → Prop} {w w' : World} {v : Value} {vals : List Value} {gs : List (List Int)} (h : GridOwn B w v vals gs) (o : Only S w w') (hs : ∀ b, B ≤ b → b < w.heap.size → ¬ S b) : GridOwn B w' v vals gs := by
  obtain ⟨⟨q1, q2⟩, h1, h2⟩ := h
  refine ⟨⟨q1, ?_⟩, h1, fun j hj => ((h2 j hj).kept o (fun b hb => hs b hb.1 hb.2.2)).mono (fun b hb => ⟨hb.1, hb.2.1, Nat.lt_of_lt_of_le hb.2.2 o.size⟩)⟩
  rcases q2 with q2 | ⟨g, cap, cur, rfl, hg, hh, rest⟩
  · exact .inl q2
  · exact .inr ⟨g, cap, cur, rfl, hg, by rw [o.block g (lt_of_heap hh) (hs g hg (lt_of_heap hh))]; exact hh, rest⟩

end Go.Proofs.Ytgaekihcfcoaeaa
