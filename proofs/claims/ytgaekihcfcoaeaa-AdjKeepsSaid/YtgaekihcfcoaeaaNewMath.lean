/-
  PLAIN LAW, no program in sight: arcs by nodes: where the pieces of the list begin, and what stands in them.
-/
import Derived.Test.YtgaekihcfcoaeaaAt
set_option linter.unusedVariables false
set_option linter.unusedSimpArgs false
namespace Go.Proofs.Ytgaekihcfcoaeaa

section
variable (A : Nat → A5)
/-- the piece of event e: arc e / 2 goes out of a node, or comes into one -/
def key (e : Nat) : Nat := if e % 2 = 0 then 2 * (A (e / 2)).f.toNat else 2 * (A (e / 2)).t.toNat + 1
/-- how many of the first e are of piece k -/
def cntK : Nat → Nat → Nat
  | 0, _ => 0
  | e + 1, k => cntK e k + if key A e = k then 1 else 0
/-- where piece k begins -/
def pref (E : Nat) : Nat → Nat
  | 0 => 0
  | k + 1 => pref E k + cntK A E k
/-- where event e is put -/
def pos (E e : Nat) : Nat := pref A E (key A e) + cntK A e (key A e)
end

theorem key_even (A : Nat → A5) (a : Nat) : key A (2 * a) = 2 * (A a).f.toNat := by
  unfold key
  rw [if_pos (by omega), show 2 * a / 2 = a by omega]
theorem key_odd (A : Nat → A5) (a : Nat) : key A (2 * a + 1) = 2 * (A a).t.toNat + 1 := by
  unfold key
  rw [if_neg (by omega), show (2 * a + 1) / 2 = a by omega]
theorem cntK_le (A : Nat → A5) (k a b : Nat) (h : a ≤ b) : cntK A a k ≤ cntK A b k := by
  induction b with
  | zero => obtain rfl : a = 0 := by omega
            exact Nat.le_refl _
  | succ b ih =>
    by_cases e : a = b + 1
    · rw [e]; exact Nat.le_refl _
    · have := ih (by omega)
      simp only [cntK]
      omega
theorem cntK_lt (A : Nat → A5) (a b : Nat) (h : a < b) : cntK A a (key A a) < cntK A b (key A a) := by
  have h1 := cntK_le A (key A a) (a + 1) b h
  have h2 : cntK A (a + 1) (key A a) = cntK A a (key A a) + 1 := by simp [cntK]
  omega
theorem pref_le (A : Nat → A5) (E a b : Nat) (h : a ≤ b) : pref A E a ≤ pref A E b := by
  induction b with
  | zero => obtain rfl : a = 0 := by omega
            exact Nat.le_refl _
  | succ b ih =>
    by_cases e : a = b + 1
    · rw [e]; exact Nat.le_refl _
    · have := ih (by omega)
      simp only [pref]
      omega
theorem pref_more (A : Nat → A5) (E k : Nat) : pref A (E + 1) k = pref A E k + if key A E < k then 1 else 0 := by
  induction k with
  | zero => simp [pref]
  | succ k ih =>
    simp only [pref, cntK]
    rw [ih]
    by_cases c1 : key A E < k
    · rw [if_pos c1, if_neg (by omega), if_pos (by omega)]; omega
    · by_cases c2 : key A E = k
      · rw [if_neg c1, if_pos c2, if_pos (by omega)]; omega
      · rw [if_neg c1, if_neg c2, if_neg (by omega)]; omega
theorem pref_all (A : Nat → A5) (E N : Nat) (h : ∀ e, e < E → key A e < N) : pref A E N = E := by
  induction E with
  | zero =>
    induction N with
    | zero => rfl
    | succ N ih => simp only [pref]; rw [ih (by omega)]; simp [cntK]
  | succ E ih => rw [pref_more, ih (fun e he => h e (by omega)), if_pos (h E (by omega))]
theorem pos_lt (A : Nat → A5) (E e : Nat) (h : e < E) : pos A E e < pref A E (key A e + 1) := by
  have := cntK_lt A e E h
  unfold pos
  simp only [pref]
  omega
theorem pos_in (A : Nat → A5) (E N e : Nat) (hk : ∀ e, e < E → key A e < N) (h : e < E) : pos A E e < E := by
  have h1 := pos_lt A E e h
  have h2 := pref_le A E (key A e + 1) N (hk e h)
  rw [pref_all A E N hk] at h2
  omega
theorem pos_ne (A : Nat → A5) (E a b : Nat) (h : a < b) (hb : b < E) : pos A E a ≠ pos A E b := by
  intro e
  by_cases c : key A a = key A b
  · have := cntK_lt A a b h
    unfold pos at e
    rw [← c] at e
    omega
  · have ha := pos_lt A E a (by omega)
    have hb' := pos_lt A E b hb
    rcases Nat.lt_or_gt_of_ne c with q | q
    · have := pref_le A E (key A a + 1) (key A b) q
      have : pref A E (key A b) ≤ pos A E b := Nat.le_add_right _ _
      omega
    · have := pref_le A E (key A b + 1) (key A a) q
      have : pref A E (key A a) ≤ pos A E a := Nat.le_add_right _ _
      omega
/-- f, but y at a -/
def upd (f : Nat → Nat) (a y : Nat) : Nat → Nat := fun i => if i = a then y else f i
/-- the list when the first e have been put -/
def place (A : Nat → A5) (E : Nat) : Nat → Nat → Nat
  | 0 => fun _ => 0
  | e + 1 => upd (place A E e) (pos A E e) (e / 2)
theorem place_at (A : Nat → A5) (E e' e : Nat) (h : e < e') (he : e' ≤ E) : place A E e' (pos A E e) = e / 2 := by
  induction e' with
  | zero => omega
  | succ e' ih =>
    simp only [place, upd]
    by_cases c : e = e'
    · rw [c, if_pos rfl]
    · rw [if_neg (pos_ne A E e e' (by omega) (by omega))]
      exact ih (by omega) (by omega)
theorem place_lt (A : Nat → A5) (E m e : Nat) (hm : 0 < m) (h : e ≤ 2 * m) (i : Nat) : place A E e i < m := by
  induction e with
  | zero => exact hm
  | succ e ih =>
    simp only [place, upd]
    split
    · omega
    · exact ih (by omega)
/-- the arcs of a piece, of the first e -/
def evs (A : Nat → A5) (e k : Nat) : List Int := ((List.range e).filter fun x => key A x == k).map fun x => ((x / 2 : Nat) : Int)
theorem evs_at (A : Nat → A5) (E k e : Nat) (he : e ≤ E) : upto (fun j => ((place A E E (pref A E k + j) : Nat) : Int)) (cntK A e k) = evs A e k := by
  induction e with
  | zero => rfl
  | succ e ih =>
    have h := ih (by omega)
    unfold evs at *
    rw [List.range_succ, List.filter_append, List.map_append, ← h]
    simp only [cntK]
    by_cases c : key A e = k
    · rw [if_pos c, upto_succ]
      congr 1
      have := place_at A E E e (by omega) (Nat.le_refl _)
      unfold pos at this
      rw [c] at this
      rw [this]
      simp [c]
    · rw [if_neg c]
      simp [c]
/-- arcs out of a node; into one -/
def outs (A : Nat → A5) (m k : Nat) : List Int := ((List.range m).filter fun a => (A a).f == (k : Int)).map fun a => ((a : Nat) : Int)
def ins (A : Nat → A5) (m k : Nat) : List Int := ((List.range m).filter fun a => (A a).t == (k : Int)).map fun a => ((a : Nat) : Int)
theorem evs_outs (A : Nat → A5) (m k : Nat) (h : ∀ j, j < m → 0 ≤ (A j).f) : evs A (2 * m) (2 * k) = outs A m k := by
  induction m with
  | zero => rfl
  | succ m ih =>
    have q := ih (fun j hj => h j (by omega))
    have hf := h m (by omega)
    unfold evs outs at *
    rw [show 2 * (m + 1) = 2 * m + 1 + 1 by omega, List.range_succ, List.range_succ, List.range_succ, List.filter_append, List.filter_append, List.filter_append, List.map_append, List.map_append, List.map_append, q, List.append_assoc]
    congr 1
    have k1 := key_even A m
    have k2 := key_odd A m
    by_cases c : (A m).f = k
    · have e1 : (key A (2 * m) == 2 * k) = true := by rw [k1]; simp; omega
      have e2 : (key A (2 * m + 1) == 2 * k) = false := by rw [k2]; simp; omega
      simp [e1, e2, c]
    · have e1 : (key A (2 * m) == 2 * k) = false := by rw [k1]; simp; omega
      have e2 : (key A (2 * m + 1) == 2 * k) = false := by rw [k2]; simp; omega
      simp [e1, e2, c]
theorem evs_ins (A : Nat → A5) (m k : Nat) (h : ∀ j, j < m → 0 ≤ (A j).t) : evs A (2 * m) (2 * k + 1) = ins A m k := by
  induction m with
  | zero => rfl
  | succ m ih =>
    have q := ih (fun j hj => h j (by omega))
    have hf := h m (by omega)
    unfold evs ins at *
    rw [show 2 * (m + 1) = 2 * m + 1 + 1 by omega, List.range_succ, List.range_succ, List.range_succ, List.filter_append, List.filter_append, List.filter_append, List.map_append, List.map_append, List.map_append, q, List.append_assoc]
    congr 1
    have k1 := key_even A m
    have k2 := key_odd A m
    by_cases c : (A m).t = k
    · have e1 : (key A (2 * m) == 2 * k + 1) = false := by rw [k1]; simp; omega
      have e2 : (key A (2 * m + 1) == 2 * k + 1) = true := by rw [k2]; simp; omega
      simp [e1, e2, c]
      omega
    · have e1 : (key A (2 * m) == 2 * k + 1) = false := by rw [k1]; simp; omega
      have e2 : (key A (2 * m + 1) == 2 * k + 1) = false := by rw [k2]; simp; omega
      simp [e1, e2, c]
/-- arcs that touch a node -/
def touch (A : Nat → A5) (m k : Nat) : List Int := ((List.range m).filter fun a => (A a).f == (k : Int) || (A a).t == (k : Int)).map fun a => ((a : Nat) : Int)
theorem touch_perm (A : Nat → A5) (m k : Nat) : (outs A m k ++ (ins A m k).filter fun x => (A x.toNat).f != (k : Int)).Perm (touch A m k) := by
  induction m with
  | zero => exact List.Perm.refl _
  | succ m ih =>
    have e1 : outs A (m + 1) k = outs A m k ++ if (A m).f == (k : Int) then [(m : Int)] else [] := by
      unfold outs
      rw [List.range_succ, List.filter_append, List.map_append]
      congr 1
      cases h : ((A m).f == (k : Int)) <;> simp [h]
    have e2 : ins A (m + 1) k = ins A m k ++ if (A m).t == (k : Int) then [(m : Int)] else [] := by
      unfold ins
      rw [List.range_succ, List.filter_append, List.map_append]
      congr 1
      cases h : ((A m).t == (k : Int)) <;> simp [h]
    have e3 : touch A (m + 1) k = touch A m k ++ if ((A m).f == (k : Int) || (A m).t == (k : Int)) then [(m : Int)] else [] := by
      unfold touch
      rw [List.range_succ, List.filter_append, List.map_append]
      congr 1
      cases h : ((A m).f == (k : Int) || (A m).t == (k : Int)) <;> simp [h]
    rw [e1, e2, e3, List.filter_append]
    generalize (ins A m k).filter (fun x => (A x.toNat).f != (k : Int)) = Y at *
    generalize outs A m k = X at *
    generalize touch A m k = T at *
    cases c1 : ((A m).f == (k : Int))
    · cases c2 : ((A m).t == (k : Int))
      · simpa using ih
      · have : ([(m : Int)].filter fun x => (A x.toNat).f != (k : Int)) = [(m : Int)] := by simp [bne, c1]
        simp only [Bool.false_or, if_true, Bool.false_eq_true, if_false, List.append_nil]
        rw [this, ← List.append_assoc]
        exact ih.append_right _
    · have : ((if (A m).t == (k : Int) then [(m : Int)] else []).filter fun x => (A x.toNat).f != (k : Int)) = [] := by
        split <;> simp [bne, c1]
      rw [this]
      simp only [Bool.true_or, if_true, List.append_nil]
      refine List.Perm.trans ?_ (ih.append_right _)
      rw [List.append_assoc, List.append_assoc]
      exact List.Perm.append_left _ (List.perm_append_comm)
theorem touch_sorted (A : Nat → A5) (m k : Nat) : (touch A m k).Pairwise fun a b => decide (a ≤ b) = true := by
  unfold touch
  refine List.Pairwise.map (R := fun a b => a < b) _ (fun a b h => ?_) (List.pairwise_lt_range.filter _)
  simp only [decide_eq_true_eq]
  omega
theorem sort_touch (A : Nat → A5) (m k : Nat) : ((outs A m k ++ (ins A m k).filter fun x => (A x.toNat).f != (k : Int)).mergeSort fun x y => decide (x ≤ y)) = touch A m k := by
  refine List.Perm.eq_of_pairwise (le := fun a b => decide (a ≤ b) = true) (fun a b _ _ h1 h2 => by simp only [decide_eq_true_eq] at h1 h2; omega) (List.pairwise_mergeSort (fun a b c h1 h2 => by simp only [decide_eq_true_eq] at *; omega) (fun a b => by simp; omega) _) (touch_sorted A m k) ((List.mergeSort_perm _ _).trans (touch_perm A m k))
theorem notFrom_map {m : Nat} (A : Nat → A5) (k : Nat) (l : List (Num m)) : notFrom A k l = (l.map (·.1)).filter fun x => (A x.toNat).f != (k : Int) := by
  unfold notFrom
  rw [List.filter_map]
  rfl
theorem upto_map {α β : Type} (g : α → β) (f : Nat → α) (n : Nat) : (upto f n).map g = upto (fun j => g (f j)) n := by
  unfold upto
  rw [List.map_map]
  rfl
theorem upto_congr {α : Type} (f g : Nat → α) (n : Nat) (h : ∀ j, j < n → f j = g j) : upto f n = upto g n := by
  unfold upto
  exact List.map_congr_left fun j hj => h j (List.mem_range.1 hj)
end Go.Proofs.Ytgaekihcfcoaeaa
