/-
  PLAIN LAW, no program in sight: lists of parents (path halving, joins) and what they come to: of each number the least one of its group.
-/
set_option linter.unusedVariables false
set_option linter.unusedSimpArgs false
namespace Go.Proofs.Ytincgkcmfhhofaa

/-- f, but y at a. -/
def upd (f : Nat → Nat) (a y : Nat) : Nat → Nat := fun i => if i = a then y else f i
theorem upd_at (f : Nat → Nat) (a y : Nat) : upd f a y a = y := by simp [upd]
theorem upd_ne (f : Nat → Nat) (a y i : Nat) (h : i ≠ a) : upd f a y i = f i := by simp [upd, h]

/-- 'L' tells of each of n numbers the least one of its group: what the list 'up' of parents comes to. -/
structure Rep (n : Nat) (up L : Nat → Nat) : Prop where
  le : ∀ i, i < n → up i ≤ i
  step : ∀ i, i < n → L (up i) = L i
  root : ∀ i, i < n → up i = i → L i = i

theorem Rep.least_le {n : Nat} {up L : Nat → Nat} (h : Rep n up L) : ∀ i, i < n → L i ≤ i := by
  intro i
  induction i using Nat.strongRecOn with
  | _ i ih =>
    intro hi
    by_cases e : up i = i
    · exact Nat.le_of_eq (h.root i hi e)
    · have h1 := h.le i hi
      have h2 := ih (up i) (by omega) (by omega)
      have h3 := h.step i hi
      omega

theorem Rep.idem {n : Nat} {up L : Nat → Nat} (h : Rep n up L) : ∀ i, i < n → L (L i) = L i := by
  intro i
  induction i using Nat.strongRecOn with
  | _ i ih =>
    intro hi
    by_cases e : up i = i
    · rw [h.root i hi e, h.root i hi e]
    · have h1 := h.le i hi
      have h2 := ih (up i) (by omega) (by omega)
      have h3 := h.step i hi
      rw [h3] at h2
      exact h2

/-- The way is halved. -/
theorem Rep.halve {n : Nat} {up L : Nat → Nat} (h : Rep n up L) (a : Nat) (ha : a < n) : Rep n (upd up a (up (up a))) L := by
  have h1 := h.le a ha
  have h2 := h.le (up a) (by omega)
  refine ⟨fun i hi => ?_, fun i hi => ?_, fun i hi e => ?_⟩
  · by_cases q : i = a
    · subst q; rw [upd_at]; omega
    · rw [upd_ne _ _ _ _ q]; exact h.le i hi
  · by_cases q : i = a
    · subst q; rw [upd_at, h.step (up i) (by omega), h.step i hi]
    · rw [upd_ne _ _ _ _ q]; exact h.step i hi
  · by_cases q : i = a
    · subst q; rw [upd_at] at e; exact h.root i hi (by omega)
    · rw [upd_ne _ _ _ _ q] at e; exact h.root i hi e

/-- Two groups, told by their least ones x and y, are one. -/
def joinL (L : Nat → Nat) (x y : Nat) : Nat → Nat := fun i => if L i = max x y then min x y else L i

theorem Rep.join {n : Nat} {up L : Nat → Nat} (h : Rep n up L) (x y : Nat) (hx : x < n) (hy : y < n) (ex : L x = x) (ey : L y = y) (hne : x ≠ y) :
    Rep n (upd up (max x y) (min x y)) (joinL L x y) := by
  have eM : L (max x y) = max x y := by rcases Nat.le_total x y with q | q <;> simp [Nat.max_def, q] <;> (try split) <;> (try assumption) <;> (try omega)
  have em : L (min x y) = min x y := by rcases Nat.le_total x y with q | q <;> simp [Nat.min_def, q] <;> (try split) <;> (try assumption) <;> (try omega)
  have hmM : min x y < max x y := by omega
  refine ⟨fun i hi => ?_, fun i hi => ?_, fun i hi e => ?_⟩
  · by_cases q : i = max x y
    · subst q; rw [upd_at]; omega
    · rw [upd_ne _ _ _ _ q]; exact h.le i hi
  · by_cases q : i = max x y
    · subst q; rw [upd_at]; unfold joinL; rw [em, eM, if_pos rfl, if_neg (by omega)]
    · rw [upd_ne _ _ _ _ q]; unfold joinL; rw [h.step i hi]
  · by_cases q : i = max x y
    · subst q; rw [upd_at] at e; omega
    · rw [upd_ne _ _ _ _ q] at e
      have := h.root i hi e
      unfold joinL
      rw [this, if_neg q]

theorem Rep.id (n : Nat) : Rep n (fun i => i) (fun i => i) := ⟨fun _ _ => Nat.le_refl _, fun _ _ => rfl, fun _ _ _ => rfl⟩

/-- How many of 0, .., n - 1. -/
def cnt (p : Nat → Bool) : Nat → Nat
  | 0 => 0
  | n + 1 => cnt p n + if p n then 1 else 0
theorem cnt_congr (p q : Nat → Bool) (n : Nat) (h : ∀ i, i < n → p i = q i) : cnt p n = cnt q n := by
  induction n with
  | zero => rfl
  | succ n ih => simp only [cnt]; rw [ih (fun i hi => h i (by omega)), h n (by omega)]
theorem cnt_less (p q : Nat → Bool) (m : Nat) (hp : p m = true) (hq : q m = false) : ∀ n, m < n → (∀ i, i < n → i ≠ m → q i = p i) → cnt q n + 1 = cnt p n := by
  intro n
  induction n with
  | zero => intro h; omega
  | succ n ih =>
    intro hm h
    simp only [cnt]
    by_cases e : m = n
    · subst e
      rw [hp, hq, cnt_congr q p m (fun i hi => h i (by omega) (by omega))]
      simp
    · rw [← ih (by omega) (fun i hi hn => h i (by omega) hn), h n (by omega) (fun q => e q.symm)]
      omega
theorem cnt_le (p : Nat → Bool) (n : Nat) : cnt p n ≤ n := by
  induction n with
  | zero => exact Nat.le_refl _
  | succ n ih => simp only [cnt]; split <;> omega
theorem cnt_filter (p : Nat → Bool) (n : Nat) : ((List.range n).filter p).length = cnt p n := by
  induction n with
  | zero => rfl
  | succ n ih =>
    rw [List.range_succ, List.filter_append, List.length_append, ih]
    simp only [cnt, List.filter_cons, List.filter_nil]
    split <;> simp_all

/-- how many groups there are -/
def many (n : Nat) (L : Nat → Nat) : Nat := cnt (fun i => L i == i) n
theorem many_id (n : Nat) : many n (fun i => i) = n := by
  unfold many
  induction n with
  | zero => rfl
  | succ n ih => simp only [cnt]; rw [ih]; simp

/-- A tidy list of least ones. -/
structure Tidy (n : Nat) (L : Nat → Nat) : Prop where
  le : ∀ i, i < n → L i ≤ i
  idem : ∀ i, i < n → L (L i) = L i
theorem Rep.tidy {n : Nat} {up L : Nat → Nat} (h : Rep n up L) : Tidy n L := ⟨h.least_le, h.idem⟩

theorem joinL_self (L : Nat → Nat) (x : Nat) : joinL L x x = L := by
  funext i
  unfold joinL
  split <;> simp_all

theorem many_join {n : Nat} {L : Nat → Nat} (h : Tidy n L) (x y : Nat) (hx : x < n) (hy : y < n) (ex : L x = x) (ey : L y = y) (hne : x ≠ y) : many n (joinL L x y) + 1 = many n L := by
  have eM : L (max x y) = max x y := by rcases Nat.le_total x y with q | q <;> simp [q] <;> assumption
  refine cnt_less _ _ (max x y) (by simp [eM]) ?_ n (by omega) ?_
  · unfold joinL; rw [if_pos eM]; simp; omega
  · intro i hi hn
    unfold joinL
    by_cases e : L i = max x y
    · rw [if_pos e, e]
      have := h.le i hi
      rw [beq_eq_false_iff_ne.2 (by omega), beq_eq_false_iff_ne.2 (by omega)]
    · rw [if_neg e]

/-- Is a one of n numbers? -/
def inB (n : Nat) (a : Int) : Bool := decide (0 ≤ a) && decide (a < n)
/-- Does a join of any two numbers do something? -/
def joins (n : Nat) (L : Nat → Nat) (a b : Int) : Bool := inB n a && (inB n b && !(L a.toNat == L b.toNat))
/-- What it leaves. -/
def joinI (n : Nat) (L : Nat → Nat) (a b : Int) : Nat → Nat := if joins n L a b then joinL L (L a.toNat) (L b.toNat) else L
/-- Are two of one group? -/
def sameI (n : Nat) (L : Nat → Nat) (a b : Int) : Bool := inB n a && (inB n b && (L a.toNat == L b.toNat))
/-- the least one of a's group -/
def leastI (n : Nat) (L : Nat → Nat) (a : Int) : Int := if inB n a then L a.toNat else -1

end Go.Proofs.Ytincgkcmfhhofaa
