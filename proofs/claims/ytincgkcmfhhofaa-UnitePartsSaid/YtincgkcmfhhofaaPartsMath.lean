/-
  PLAIN LAW, no program in sight: each number is of one group, told by its least one: places of numbers in groups.
-/
import Derived.Test.YtincgkcmfhhofaaFine
set_option linter.unusedVariables false
set_option linter.unusedSimpArgs false
namespace Go.Proofs.Ytincgkcmfhhofaa

theorem cnt_mono (p : Nat → Bool) (a b : Nat) (h : a ≤ b) : cnt p a ≤ cnt p b := by
  induction b with
  | zero => obtain rfl : a = 0 := by omega
            exact Nat.le_refl _
  | succ b ih =>
    by_cases e : a = b + 1
    · subst e; exact Nat.le_refl _
    · have := ih (by omega)
      simp only [cnt]
      omega
theorem cnt_at (p : Nat → Bool) (a : Nat) (h : p a = true) : cnt p (a + 1) = cnt p a + 1 := by simp [cnt, h]
theorem cnt_lt (p : Nat → Bool) (a b : Nat) (hp : p a = true) (h : a < b) : cnt p a < cnt p b := by
  have h1 := cnt_mono p (a + 1) b h
  rw [cnt_at p a hp] at h1
  omega
theorem cnt_inj (p : Nat → Bool) (a b : Nat) (ha : p a = true) (hb : p b = true) (h : cnt p a = cnt p b) : a = b := by
  rcases Nat.lt_trichotomy a b with q | q | q
  · have := cnt_lt p a b ha q; omega
  · exact q
  · have := cnt_lt p b a hb q; omega

/-- the j-th of those that p tells -/
def sel (p : Nat → Bool) (n j : Nat) : Nat := ((List.range n).filter p).getD j 0
theorem sel_spec (p : Nat → Bool) (n : Nat) : ∀ j, j < cnt p n → sel p n j < n ∧ p (sel p n j) = true ∧ cnt p (sel p n j) = j := by
  induction n with
  | zero => intro j h; simp [cnt] at h
  | succ n ih =>
    intro j h
    have hl : ((List.range n).filter p).length = cnt p n := cnt_filter p n
    have e : (List.range (n + 1)).filter p = (List.range n).filter p ++ (if p n then [n] else []) := by
      rw [List.range_succ, List.filter_append]
      simp only [List.filter_cons, List.filter_nil]
    by_cases hj : j < cnt p n
    · have e2 : sel p (n + 1) j = sel p n j := by
        unfold sel
        rw [e, List.getD, List.getD, List.getElem?_append_left (by omega)]
      rw [e2]
      obtain ⟨h1, h2, h3⟩ := ih j hj
      exact ⟨by omega, h2, h3⟩
    · cases hp : p n
      · simp [cnt, hp] at h; omega
      · have hj2 : j = cnt p n := by simp [cnt, hp] at h; omega
        have e2 : sel p (n + 1) j = n := by
          unfold sel
          rw [e, hp, List.getD, List.getElem?_append_right (by omega), hl, hj2]
          simp
        rw [e2]
        exact ⟨by omega, hp, hj2.symm⟩
theorem sel_mono (p : Nat → Bool) (n i j : Nat) (hi : i < j) (hj : j < cnt p n) : sel p n i < sel p n j := by
  obtain ⟨_, _, h1⟩ := sel_spec p n i (by omega)
  obtain ⟨_, _, h2⟩ := sel_spec p n j hj
  rcases Nat.lt_or_ge (sel p n i) (sel p n j) with q | q
  · exact q
  · have := cnt_mono p _ _ q; omega

section
variable (n : Nat) (L : Nat → Nat)
/-- the k-th least one; how many lie below one; the j-th of a group; how many of its group lie below one -/
def rootN (k : Nat) : Nat := sel (fun r => L r == r) n k
def rank (r : Nat) : Nat := cnt (fun i => L i == i) r
def memN (r j : Nat) : Nat := sel (fun a => L a == r) n j
def size (r : Nat) : Nat := cnt (fun a => L a == r) n
def pos (v : Nat) : Nat := cnt (fun i => L i == L v) v
end

theorem groups_get (n : Nat) (L : Nat → Nat) (k : Nat) (hk : k < many n L) : (groups n L).getD k [] = gat L (rootN n L k) n := by
  have hl : ((List.range n).filter (fun r => L r == r)).length = many n L := cnt_filter _ n
  unfold groups rootN sel
  simp [List.getD, List.getElem?_map, List.getElem?_eq_getElem (hl ▸ hk : k < ((List.range n).filter (fun r => L r == r)).length)]
theorem gat_length (n : Nat) (L : Nat → Nat) (r : Nat) : (gat L r n).length = size n L r := by
  unfold gat size
  rw [List.length_map, cnt_filter]
theorem gat_get (n : Nat) (L : Nat → Nat) (r j : Nat) (hj : j < size n L r) : (gat L r n).getD j 0 = (memN n L r j : Int) := by
  have hl : ((List.range n).filter (fun a => L a == r)).length = size n L r := cnt_filter _ n
  unfold gat memN sel
  simp [List.getD, List.getElem?_map, List.getElem?_eq_getElem (hl ▸ hj : j < ((List.range n).filter (fun a => L a == r)).length)]

theorem rootN_spec (n : Nat) (L : Nat → Nat) (k : Nat) (hk : k < many n L) : rootN n L k < n ∧ L (rootN n L k) = rootN n L k ∧ rank L (rootN n L k) = k := by
  obtain ⟨h1, h2, h3⟩ := sel_spec (fun r => L r == r) n k hk
  exact ⟨h1, beq_iff_eq.1 h2, h3⟩
theorem rootN_mono (n : Nat) (L : Nat → Nat) (i j : Nat) (hi : i < j) (hj : j < many n L) : rootN n L i < rootN n L j := sel_mono _ n i j hi hj
theorem memN_spec (n : Nat) (L : Nat → Nat) (r j : Nat) (hj : j < size n L r) : memN n L r j < n ∧ L (memN n L r j) = r ∧ pos L (memN n L r j) = j := by
  obtain ⟨h1, h2, h3⟩ := sel_spec (fun a => L a == r) n j hj
  have h2' : L (memN n L r j) = r := beq_iff_eq.1 h2
  refine ⟨h1, h2', ?_⟩
  unfold pos
  rw [h2']
  exact h3
theorem memN_mono (n : Nat) (L : Nat → Nat) (r i j : Nat) (hi : i < j) (hj : j < size n L r) : memN n L r i < memN n L r j := sel_mono _ n i j hi hj
theorem size_pos (n : Nat) (L : Nat → Nat) (r : Nat) (hr : r < n) (h : L r = r) : 0 < size n L r := by
  have h1 := cnt_mono (fun a => L a == r) (r + 1) n hr
  rw [cnt_at _ r (by simp [h])] at h1
  unfold size
  omega
theorem memN_zero {n : Nat} {L : Nat → Nat} (ht : Tidy n L) (r : Nat) (hr : r < n) (h : L r = r) : memN n L r 0 = r := by
  obtain ⟨h1, h2, h3⟩ := sel_spec (fun a => L a == r) n 0 (size_pos n L r hr h)
  have h2' : L (memN n L r 0) = r := beq_iff_eq.1 h2
  have h3' : cnt (fun a => L a == r) (memN n L r 0) = 0 := h3
  have h4 := ht.le _ h1
  rcases Nat.lt_or_ge r (memN n L r 0) with q | q
  · have := cnt_lt (fun a => L a == r) r _ (by simp [h]) q
    omega
  · have : L (memN n L r 0) ≤ memN n L r 0 := h4
    omega

/-- what has been seen, of groups before the k-th, and of its first j -/
def seenN (L : Nat → Nat) (k j : Nat) : Nat → Nat := fun v => if rank L (L v) < k then 1 else if rank L (L v) = k ∧ pos L v < j then 1 else 0
theorem seen_zero (L : Nat → Nat) (v : Nat) : seenN L 0 0 v = 0 := by simp [seenN]
theorem seen_step {n : Nat} {L : Nat → Nat} (ht : Tidy n L) (k j : Nat) (hk : k < many n L) (hj : j < size n L (rootN n L k)) :
    ∀ i, i < n → upd (seenN L k j) (memN n L (rootN n L k) j) 1 i = seenN L k (j + 1) i := by
  obtain ⟨r1, r2, r3⟩ := rootN_spec n L k hk
  obtain ⟨m1, m2, m3⟩ := memN_spec n L (rootN n L k) j hj
  intro i hi
  by_cases e : i = memN n L (rootN n L k) j
  · subst e
    rw [upd_at]
    unfold seenN
    rw [m2, r3, m3, if_neg (Nat.lt_irrefl _), if_pos ⟨rfl, by omega⟩]
  · rw [upd_ne _ _ _ _ e]
    unfold seenN
    by_cases c1 : rank L (L i) < k
    · rw [if_pos c1, if_pos c1]
    · rw [if_neg c1, if_neg c1]
      by_cases c2 : rank L (L i) = k ∧ pos L i < j
      · rw [if_pos c2, if_pos ⟨c2.1, by omega⟩]
      · rw [if_neg c2]
        by_cases c3 : rank L (L i) = k ∧ pos L i < j + 1
        · exfalso
          apply e
          have hLi : L i = rootN n L k := by
            refine cnt_inj (fun i => L i == i) _ _ ?_ ?_ ?_
            · simp [ht.idem i hi]
            · simp [r2]
            · exact c3.1.trans r3.symm
          have hp : pos L i = j := by
            by_cases q : pos L i < j
            · exact absurd ⟨c3.1, q⟩ c2
            · omega
          refine cnt_inj (fun a => L a == rootN n L k) _ _ (by simp [hLi]) (by simp [m2]) ?_
          have h1 : cnt (fun a => L a == rootN n L k) i = j := by
            rw [← hLi]; exact hp
          have h2 : cnt (fun a => L a == rootN n L k) (memN n L (rootN n L k) j) = j := (sel_spec (fun a => L a == rootN n L k) n j hj).2.2
          rw [h1, h2]
        · rw [if_neg c3]
theorem seen_now {n : Nat} {L : Nat → Nat} (k j : Nat) (hk : k < many n L) (hj : j < size n L (rootN n L k)) : seenN L k j (memN n L (rootN n L k) j) = 0 := by
  obtain ⟨r1, r2, r3⟩ := rootN_spec n L k hk
  obtain ⟨m1, m2, m3⟩ := memN_spec n L (rootN n L k) j hj
  unfold seenN
  rw [m2, r3, m3, if_neg (Nat.lt_irrefl _), if_neg (by omega)]
theorem seen_next {n : Nat} {L : Nat → Nat} (ht : Tidy n L) (k : Nat) (hk : k < many n L) : ∀ i, i < n → seenN L k (size n L (rootN n L k)) i = seenN L (k + 1) 0 i := by
  obtain ⟨r1, r2, r3⟩ := rootN_spec n L k hk
  intro i hi
  unfold seenN
  by_cases c1 : rank L (L i) < k
  · rw [if_pos c1, if_pos (by omega)]
  · rw [if_neg c1]
    by_cases c2 : rank L (L i) = k
    · have hLi : L i = rootN n L k := by
        refine cnt_inj (fun i => L i == i) _ _ ?_ ?_ ?_
        · simp [ht.idem i hi]
        · simp [r2]
        · exact c2.trans r3.symm
      have hp : pos L i < size n L (rootN n L k) := by
        unfold pos size
        rw [hLi]
        exact cnt_lt _ i n (by simp [hLi]) hi
      rw [if_pos ⟨c2, hp⟩, if_pos (by omega)]
    · rw [if_neg (by omega), if_neg (by omega), if_neg (by omega)]
theorem seen_all {n : Nat} {L : Nat → Nat} (ht : Tidy n L) : ∀ i, i < n → seenN L (many n L) 0 i = 1 := by
  intro i hi
  unfold seenN
  have h1 := ht.le i hi
  have : rank L (L i) < many n L := cnt_lt _ (L i) n (by simp [ht.idem i hi]) (by omega)
  rw [if_pos this]

end Go.Proofs.Ytincgkcmfhhofaa
