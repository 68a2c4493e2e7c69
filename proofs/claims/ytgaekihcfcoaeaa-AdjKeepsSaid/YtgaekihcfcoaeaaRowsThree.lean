/-
  PLAIN LAW, no program in sight: a further arc; rows of the call's own beside each other.
-/
import Derived.Test.YtgaekihcfcoaeaaInst
set_option linter.unusedVariables false
set_option linter.unusedSimpArgs false
namespace Go.Proofs.Ytgaekihcfcoaeaa
open Go.RowKit

/-- one arc more, behind all -/
def snoc (A : Nat → A5) (m : Nat) (x : A5) : Nat → A5 := fun j => if j < m then A j else x
theorem snoc_lt (A : Nat → A5) (m : Nat) (x : A5) (j : Nat) (h : j < m) : snoc A m x j = A j := if_pos h
theorem snoc_last (A : Nat → A5) (m : Nat) (x : A5) : snoc A m x m = x := if_neg (Nat.lt_irrefl _)
theorem arcCells_congr (A B : Nat → A5) (m : Nat) (h : ∀ j, j < m → A j = B j) : arcCells A m = arcCells B m := by
  induction m with
  | zero => rfl
  | succ m ih => rw [arcCells_succ, arcCells_succ, ih (fun j hj => h j (by omega)), h m (by omega)]
theorem arcCells_snoc (A : Nat → A5) (m : Nat) (x : A5) : arcCells (snoc A m x) (m + 1) = arcCells A m ++ [.int .i64 x.f, .int .i64 x.t, .int .i64 x.l, .int .i64 x.c, .int .i64 x.k] := by
  rw [arcCells_succ, snoc_last, arcCells_congr (snoc A m x) A m (fun j hj => snoc_lt A m x j hj)]
theorem filter_snoc (p q : Nat → Bool) (m : Nat) (h : ∀ j, j < m → p j = q j) : ((List.range (m + 1)).filter p).map (fun a => ((a : Nat) : Int)) = ((List.range m).filter q).map (fun a => ((a : Nat) : Int)) ++ if p m then [(m : Int)] else [] := by
  rw [List.range_succ, List.filter_append, List.map_append]
  congr 1
  · congr 1
    exact List.filter_congr fun j hj => h j (List.mem_range.1 hj)
  · cases e : p m <;> simp [e]
theorem outs_snoc (A : Nat → A5) (m : Nat) (x : A5) (k : Nat) : outs (snoc A m x) (m + 1) k = outs A m k ++ if x.f == (k : Int) then [(m : Int)] else [] := by
  unfold outs
  rw [filter_snoc (fun a => (snoc A m x a).f == (k : Int)) (fun a => (A a).f == (k : Int)) m (fun j hj => by rw [snoc_lt A m x j hj])]
  simp only [snoc_last]
theorem ins_snoc (A : Nat → A5) (m : Nat) (x : A5) (k : Nat) : ins (snoc A m x) (m + 1) k = ins A m k ++ if x.t == (k : Int) then [(m : Int)] else [] := by
  unfold ins
  rw [filter_snoc (fun a => (snoc A m x a).t == (k : Int)) (fun a => (A a).t == (k : Int)) m (fun j hj => by rw [snoc_lt A m x j hj])]
  simp only [snoc_last]
theorem touch_snoc (A : Nat → A5) (m : Nat) (x : A5) (k : Nat) : touch (snoc A m x) (m + 1) k = touch A m k ++ if x.f == (k : Int) || x.t == (k : Int) then [(m : Int)] else [] := by
  unfold touch
  rw [filter_snoc (fun a => (snoc A m x a).f == (k : Int) || (snoc A m x a).t == (k : Int)) (fun a => (A a).f == (k : Int) || (A a).t == (k : Int)) m (fun j hj => by rw [snoc_lt A m x j hj])]
  simp only [snoc_last]
theorem len_filter (p : Nat → Bool) (m : Nat) : (((List.range m).filter p).map (fun a => ((a : Nat) : Int))).length ≤ m := by
  rw [List.length_map]
  exact Nat.le_trans (List.length_filter_le _ _) (by simp)
theorem outs_len (A : Nat → A5) (m k : Nat) : (outs A m k).length ≤ m := len_filter _ _
theorem ins_len (A : Nat → A5) (m k : Nat) : (ins A m k).length ≤ m := len_filter _ _
theorem touch_len (A : Nat → A5) (m k : Nat) : (touch A m k).length ≤ m := len_filter _ _

/-- a block's numbers, of whatever values, as a supply -/
theorem RowI.sup {w : World} {b n : Nat} (h : RowI w b n) : ∃ f, SupAt (fun k => k = b) w (some ⟨b, 0, none⟩) n f := by
  obtain ⟨cur, h1, h2, h3⟩ := h
  obtain ⟨f, hf⟩ : ∃ f : Nat → Int, ∀ j, j < n → cur[j]? = some (.int .i64 (f j)) :=
    ⟨fun j => if c : j < n then Classical.choose (h3 j c) else 0, fun j hj => by
      have := Classical.choose_spec (h3 j hj)
      simp only [hj, ↓reduceDIte]
      exact this⟩
  exact ⟨f, fun _ => ⟨b, 0, rfl, rfl, fun j hj => by rw [cell_in _ _ _ _ _ _ h1, Nat.zero_add, hf j hj]⟩⟩

theorem own_block {w w' : World} {base : Nat} {e : TypeId} {size : Nat} {S : Nat → Prop} {v : Value} {n : Nat} {xs : List Value} (h : w.ownsRow base e size v n xs) (o : Only S w w') (hs : ∀ g, v.ownBlock = some g → ¬ S g) : w'.ownsRow base e size v n xs := by
  refine ⟨h.1, ?_⟩
  rcases h.2 with hn | ⟨g, cap, cur, rfl, hg, hh, rest⟩
  · exact .inl hn
  · exact .inr ⟨g, cap, cur, rfl, hg, by rw [o.block g (lt_of_heap hh) (hs g rfl)]; exact hh, rest⟩
def Apart (v v' : Value) : Prop := ∀ g, v.ownBlock = some g → v'.ownBlock ≠ some g
theorem Apart.symm {v v' : Value} (h : Apart v v') : Apart v' v := fun g e f => h g f e
/-- a row that is made later lies apart -/
theorem Apart.later {w w1 : World} {base : Nat} {e e' : TypeId} {size size' : Nat} {v v' : Value} {n n' : Nat} {xs xs' : List Value} (h : w.ownsRow base e size v n xs) (h' : w1.ownsRow w.heap.size e' size' v' n' xs') : Apart v v' := fun g q f => by
  have h1 := (h.lt g q).2
  have h2 := (h'.lt g f).1
  omega
/-- three rows of numbers, apart from each other -/
structure Rows3 (B : Nat) (w : World) (vo vi va : Value) (lo li la : List Int) : Prop where
  ho : w.ownsRow B 3 1 vo lo.length (lo.map (Value.int .i64))
  hi : w.ownsRow B 3 1 vi li.length (li.map (Value.int .i64))
  ha : w.ownsRow B 3 1 va la.length (la.map (Value.int .i64))
  oi : Apart vo vi
  oa : Apart vo va
  ia : Apart vi va
theorem Rows3.kept {B : Nat} {w w' : World} {vo vi va : Value} {lo li la : List Int} (h : Rows3 B w vo vi va lo li la) (o : Only NoB w w') : Rows3 B w' vo vi va lo li la :=
  ⟨own_block h.ho o (fun _ _ f => f), own_block h.hi o (fun _ _ f => f), own_block h.ha o (fun _ _ f => f), h.oi, h.oa, h.ia⟩
theorem Rows3.turn {B : Nat} {w : World} {vo vi va : Value} {lo li la : List Int} (h : Rows3 B w vo vi va lo li la) : Rows3 B w vi va vo li la lo :=
  ⟨h.hi, h.ha, h.ho, h.ia, h.oi.symm, h.oa.symm⟩
/-- the first of them has grown by one -/
theorem Rows3.more {B : Nat} {w w' : World} {vo vi va v' : Value} {lo li la : List Int} {z : Int} (h : Rows3 B w vo vi va lo li la) (hown : w'.ownsRow B 3 1 v' (lo.length + 1) (lo.map (Value.int .i64) ++ [.int .i64 z])) (hgrow : w.grownBy w' vo.ownBlock)
    (hloc : v'.ownBlock = vo.ownBlock ∨ v'.ownBlock = some w.heap.size) : Rows3 B w' v' vi va (lo ++ [z]) li la := by
  have o : Only (fun k => some k = vo.ownBlock) w w' := (Only.refl _ _).grown hgrow (fun k _ e => e.symm)
  have ap : ∀ {v : Value} {l : List Int}, w.ownsRow B 3 1 v l.length (l.map (Value.int .i64)) → Apart vo v → Apart v' v := fun hv q g e f => by
    rcases hloc with c | c
    · rw [c] at e; exact q g e f
    · rw [c] at e
      cases e
      have := (hv.lt _ f).2
      omega
  refine ⟨by simpa using hown, own_block h.hi o (fun g e f => h.oi g f.symm e), own_block h.ha o (fun g e f => h.oa g f.symm e), ap h.hi h.oi, ap h.ha h.oa, h.ia⟩
theorem Rows3.lo' {B : Nat} {w : World} {vo vi va : Value} {lo li la : List Int} (h : Rows3 B w vo vi va lo li la) : Ls w vo lo := Ls.of_own h.ho
theorem Rows3.li' {B : Nat} {w : World} {vo vi va : Value} {lo li la : List Int} (h : Rows3 B w vo vi va lo li la) : Ls w vi li := Ls.of_own h.hi
theorem Rows3.la' {B : Nat} {w : World} {vo vi va : Value} {lo li la : List Int} (h : Rows3 B w vo vi va lo li la) : Ls w va la := Ls.of_own h.ha
theorem Rows3.mk' {B : Nat} {w0 w1 w2 w3 : World} {vo vi va : Value} {lo li la : List Int} (hB : B ≤ w0.heap.size) (h1 : w1.ownsRow w0.heap.size 3 1 vo lo.length (lo.map (Value.int .i64))) (h2 : w2.ownsRow w1.heap.size 3 1 vi li.length (li.map (Value.int .i64)))
    (h3 : w3.ownsRow w2.heap.size 3 1 va la.length (la.map (Value.int .i64))) (o1 : Only NoB w0 w1) (o2 : Only NoB w1 w2) (o3 : Only NoB w2 w3) : Rows3 B w3 vo vi va lo li la := by
  have z1 := o1.size
  have z2 := o2.size
  have h1' := own_block h1 o2 (fun _ _ f => f)
  exact ⟨own_mono (own_block h1' o3 (fun _ _ f => f)) hB, own_mono (own_block h2 o3 (fun _ _ f => f)) (by omega), own_mono h3 (by omega), Apart.later h1 h2, Apart.later h1' h3, Apart.later h2 h3⟩
end Go.Proofs.Ytgaekihcfcoaeaa
