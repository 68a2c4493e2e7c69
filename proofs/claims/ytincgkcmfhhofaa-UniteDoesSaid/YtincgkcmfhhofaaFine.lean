/-
  PLAIN LAW, no program in sight: in whatever order pairs are put together, and whichever way round, the groups are the same.
-/
import Derived.Test.YtincgkcmfhhofaaMath
import Derived.Test.YtincgkcmfhhofaaGmap
set_option linter.unusedVariables false
set_option linter.unusedSimpArgs false
namespace Go.Proofs.Ytincgkcmfhhofaa

/-- M does not part what a pair puts together -/
def Resp (n : Nat) (M : Nat → Nat) (ps : List (Int × Int)) : Prop := ∀ p ∈ ps, inB n p.1 = true → inB n p.2 = true → M p.1.toNat = M p.2.toNat
/-- L tells what all pairs together come to: no group is greater than it has to be -/
structure Fine (n : Nat) (ps : List (Int × Int)) (L : Nat → Nat) : Prop where
  tidy : Tidy n L
  resp : Resp n L ps
  least : ∀ M, Resp n M ps → ∀ i, i < n → M (L i) = M i

theorem Tidy.id (n : Nat) : Tidy n (fun i => i) := ⟨fun _ _ => Nat.le_refl _, fun _ _ => rfl⟩
theorem inB_toNat {n : Nat} {a : Int} (h : inB n a = true) : a.toNat < n := by
  simp [inB] at h
  omega
theorem min_or (x y : Nat) : min x y = x ∧ max x y = y ∨ min x y = y ∧ max x y = x := by omega

theorem Tidy.joinL {n : Nat} {L : Nat → Nat} (h : Tidy n L) (x y : Nat) (hx : x < n) (hy : y < n) (ex : L x = x) (ey : L y = y) : Tidy n (joinL L x y) := by
  have em : L (min x y) = min x y := by rcases min_or x y with ⟨q, _⟩ | ⟨q, _⟩ <;> rw [q] <;> assumption
  refine ⟨fun i hi => ?_, fun i hi => ?_⟩
  · unfold Ytincgkcmfhhofaa.joinL
    have := h.le i hi
    split <;> omega
  · unfold Ytincgkcmfhhofaa.joinL
    by_cases e : L i = max x y
    · rw [if_pos e, em]
      split <;> omega
    · rw [if_neg e, h.idem i hi, if_neg e]
theorem Tidy.joinI {n : Nat} {L : Nat → Nat} (h : Tidy n L) (a b : Int) : Tidy n (joinI n L a b) := by
  unfold Ytincgkcmfhhofaa.joinI
  by_cases j : joins n L a b = true
  · rw [if_pos j]
    unfold joins at j
    simp only [Bool.and_eq_true] at j
    have ha := inB_toNat j.1
    have hb := inB_toNat j.2.1
    have la := h.le _ ha
    have lb := h.le _ hb
    exact h.joinL _ _ (by omega) (by omega) (h.idem _ ha) (h.idem _ hb)
  · rw [if_neg j]; exact h

theorem joinI_same {n : Nat} {L : Nat → Nat} {a b : Int} (h : joins n L a b = false) : joinI n L a b = L := by unfold joinI; rw [if_neg (by simp [h])]
theorem joinI_in {n : Nat} {L : Nat → Nat} {a b : Int} (ha : inB n a = true) (hb : inB n b = true) : joinI n L a b = joinL L (L a.toNat) (L b.toNat) := by
  by_cases e : L a.toNat = L b.toNat
  · rw [joinI_same (by simp [joins, ha, hb, e]), e, joinL_self]
  · unfold joinI; rw [if_pos (by simp [joins, ha, hb, e])]
theorem joinI_out {n : Nat} {L : Nat → Nat} {a b : Int} (h : inB n a = false ∨ inB n b = false) : joinI n L a b = L := by
  have : joins n L a b = false := by
    unfold joins
    rcases h with h | h <;> simp [h]
  unfold joinI
  rw [if_neg (by simp [this])]

theorem Fine.id (n : Nat) : Fine n [] (fun i => i) := ⟨Tidy.id n, (fun p hp => by cases hp), fun _ _ _ _ => rfl⟩

theorem Fine.snoc {n : Nat} {ps : List (Int × Int)} {L : Nat → Nat} (h : Fine n ps L) (a b : Int) : Fine n (ps ++ [(a, b)]) (joinI n L a b) := by
  refine ⟨h.tidy.joinI a b, ?_, ?_⟩
  · intro p hp h1 h2
    rcases List.mem_append.1 hp with hp | hp
    · have e := h.resp p hp h1 h2
      by_cases q : inB n a = true ∧ inB n b = true
      · rw [joinI_in q.1 q.2]; unfold joinL; rw [e]
      · rw [joinI_out (by cases x : inB n a <;> cases y : inB n b <;> simp_all)]; exact e
    · simp only [List.mem_singleton] at hp
      subst hp
      rw [joinI_in h1 h2]
      unfold joinL
      rcases min_or (L a.toNat) (L b.toNat) with ⟨q1, q2⟩ | ⟨q1, q2⟩ <;> rw [q1, q2] <;> simp
  · intro M hM i hi
    have hM1 : Resp n M ps := fun p hp => hM p (List.mem_append.2 (.inl hp))
    have hi' := h.least M hM1 i hi
    by_cases q : inB n a = true ∧ inB n b = true
    · rw [joinI_in q.1 q.2]
      have hab := hM (a, b) (List.mem_append.2 (.inr (List.mem_singleton.2 rfl))) q.1 q.2
      have ha := h.least M hM1 a.toNat (inB_toNat q.1)
      have hb := h.least M hM1 b.toNat (inB_toNat q.2)
      unfold joinL
      by_cases e : L i = max (L a.toNat) (L b.toNat)
      · rw [if_pos e]
        rw [e] at hi'
        rcases min_or (L a.toNat) (L b.toNat) with ⟨q1, q2⟩ | ⟨q1, q2⟩ <;> rw [q1] <;> rw [q2] at hi'
        · rw [← hi', ha, hb]; exact hab
        · rw [← hi', ha, hb]; exact hab.symm
      · rw [if_neg e]; exact hi'
    · rw [joinI_out (by cases x : inB n a <;> cases y : inB n b <;> simp_all)]; exact hi'

theorem Fine.unique {n : Nat} {ps qs : List (Int × Int)} {L M : Nat → Nat} (h : Fine n ps L) (k : Fine n qs M) (e : ∀ F, Resp n F ps ↔ Resp n F qs) : ∀ i, i < n → L i = M i := by
  intro i hi
  have h1 := h.least M ((e M).2 k.resp) i hi
  have h2 := k.least L ((e L).1 h.resp) i hi
  have l1 := h.tidy.le i hi
  have l2 := k.tidy.le i hi
  have l3 := h.tidy.le (M i) (by omega)
  have l4 := k.tidy.le (L i) (by omega)
  omega

/-- all joins of a list, one by one -/
def joinAll (n : Nat) (ps : List (Int × Int)) : Nat → Nat := ps.foldl (fun L p => joinI n L p.1 p.2) (fun i => i)
theorem joinAll_nil (n : Nat) : joinAll n [] = fun i => i := rfl
theorem joinAll_snoc (n : Nat) (ps : List (Int × Int)) (p : Int × Int) : joinAll n (ps ++ [p]) = joinI n (joinAll n ps) p.1 p.2 := by simp [joinAll, List.foldl_append]
theorem joinAll_fine (n : Nat) (ps : List (Int × Int)) : Fine n ps (joinAll n ps) := by
  have : ∀ (l : List (Int × Int)), Fine n l.reverse (joinAll n l.reverse) := by
    intro l
    induction l with
    | nil => exact Fine.id n
    | cons p l ih =>
      rw [List.reverse_cons, joinAll_snoc]
      exact ih.snoc p.1 p.2
  have h := this ps.reverse
  rwa [List.reverse_reverse] at h

theorem joinAll_take (n : Nat) (ps : List (Int × Int)) (k : Nat) (hk : k < ps.length) : joinAll n (ps.take (k + 1)) = joinI n (joinAll n (ps.take k)) (ps.getD k (0, 0)).1 (ps.getD k (0, 0)).2 := by
  rw [List.take_add_one, List.getElem?_eq_getElem hk]
  simp only [Option.toList_some]
  rw [joinAll_snoc]
  simp [List.getD, List.getElem?_eq_getElem hk]

/-- the pairs the other way round, the last one first -/
def back (ps : List (Int × Int)) (k : Nat) : List (Int × Int) := ((ps.drop k).reverse).map fun p => (p.2, p.1)
theorem back_end (ps : List (Int × Int)) : back ps ps.length = [] := by simp [back]
theorem back_step (n : Nat) (ps : List (Int × Int)) (k : Nat) (hk : k < ps.length) : joinAll n (back ps k) = joinI n (joinAll n (back ps (k + 1))) (ps.getD k (0, 0)).2 (ps.getD k (0, 0)).1 := by
  have e : back ps k = back ps (k + 1) ++ [((ps.getD k (0, 0)).2, (ps.getD k (0, 0)).1)] := by
    unfold back
    rw [List.drop_eq_getElem_cons hk, List.reverse_cons, List.map_append]
    simp [List.getD, List.getElem?_eq_getElem hk]
  rw [e, joinAll_snoc]
theorem resp_back (n : Nat) (ps : List (Int × Int)) (F : Nat → Nat) : Resp n F ps ↔ Resp n F (back ps 0) := by
  unfold Resp back
  constructor
  · intro h p hp h1 h2
    obtain ⟨q, hq, rfl⟩ := List.mem_map.1 hp
    exact (h q (by simpa using hq) h2 h1).symm
  · intro h p hp h1 h2
    exact (h (p.2, p.1) (List.mem_map.2 ⟨p, by simpa using hp, rfl⟩) h2 h1).symm

theorem order_free (n : Nat) (ps : List (Int × Int)) : ∀ i, i < n → joinAll n ps i = joinAll n (back ps 0) i :=
  (joinAll_fine n ps).unique (joinAll_fine n (back ps 0)) (resp_back n ps)

theorem groups_congr (n : Nat) (L M : Nat → Nat) (h : ∀ i, i < n → L i = M i) : groups n L = groups n M := by
  have e1 : ∀ r, gat L r n = gat M r n := by
    intro r
    unfold gat
    congr 1
    apply List.filter_congr
    intro a ha
    rw [h a (List.mem_range.1 ha)]
  unfold groups
  have e2 : (List.range n).filter (fun r => L r == r) = (List.range n).filter (fun r => M r == r) := by
    apply List.filter_congr
    intro a ha
    rw [h a (List.mem_range.1 ha)]
  rw [e2]
  apply List.map_congr_left
  intro r _
  exact e1 r
theorem many_congr (n : Nat) (L M : Nat → Nat) (h : ∀ i, i < n → L i = M i) : many n L = many n M :=
  cnt_congr _ _ n fun i hi => by rw [h i hi]

end Go.Proofs.Ytincgkcmfhhofaa
