/-
  PLAIN LAW, no program in sight: the groups, as lists; the map in which they are gathered, round by round.
-/
import Derived.Test.YtincgkcmfhhofaaMath
import Derived.Test.YtincgkcmfhhofaaGrid
import Derived.Maps.OwnRows
import Derived.Maps.Views
set_option linter.unusedVariables false
set_option linter.unusedSimpArgs false
namespace Go.Proofs.Ytincgkcmfhhofaa
open Go.RowKit Go.ChangeShapes

/-- r's group among the first k numbers -/
def gat (L : Nat → Nat) (r k : Nat) : List Int := ((List.range k).filter fun a => L a == r).map (fun (a : Nat) => (a : Int))
theorem gat_same (L : Nat → Nat) (k : Nat) : gat L (L k) (k + 1) = gat L (L k) k ++ [(k : Int)] := by
  simp [gat, List.range_succ, List.filter_append, List.filter_cons]
theorem gat_other (L : Nat → Nat) (r k : Nat) (h : L k ≠ r) : gat L r (k + 1) = gat L r k := by
  simp [gat, List.range_succ, List.filter_append, List.filter_cons, h]
theorem gat_len (L : Nat → Nat) (r k : Nat) : (gat L r k).length ≤ k := by
  unfold gat
  rw [List.length_map]
  exact Nat.le_trans (List.length_filter_le _ _) (by simp)
theorem gat_ne (L : Nat → Nat) (n r : Nat) (hr : r < n) (h : L r = r) : gat L r n ≠ [] := by
  unfold gat
  intro e
  have h1 := List.map_eq_nil_iff.1 e
  have h2 : r ∈ (List.range n).filter (fun a => L a == r) := List.mem_filter.2 ⟨List.mem_range.2 hr, by simp [h]⟩
  rw [h1] at h2
  cases h2
theorem gat_nil (L : Nat → Nat) (n r : Nat) (ht : Tidy n L) (h : L r ≠ r) (hr : r < n) : gat L r n = [] := by
  unfold gat
  rw [List.map_eq_nil_iff, List.filter_eq_nil_iff]
  intro a ha e
  have ha' := List.mem_range.1 ha
  have e' : L a = r := by simpa using e
  have := ht.idem a ha'
  rw [e'] at this
  exact h this

/-- the map behind k rounds -/
def gmap (L : Nat → Nat) : Nat → DataW Unit
  | 0 => .map []
  | k + 1 => (gmap L k).put (.int .i64 (L k)) (.slice (lits .i64 (gat L (L k) (k + 1))) [])
theorem gmap_map (L : Nat → Nat) (k : Nat) : Maps.IsMap (gmap L k) := by
  cases k with
  | zero => exact ⟨[], rfl⟩
  | succ k => exact (show Maps.IsMap (gmap L k) from gmap_map L k).put _ _
theorem gmap_at (L : Nat → Nat) (r k : Nat) (z : DataW Unit) : (gmap L k).atKey (.int .i64 r) z = if gat L r k = [] then z else .slice (lits .i64 (gat L r k)) [] := by
  induction k with
  | zero => simp [gmap, gat, DataW.atKey]
  | succ k ih =>
    by_cases h : L k = r
    · subst h
      simp only [gmap]
      rw [Maps.atKey_put_same (gmap_map L k) (by simp [WideAt.IsKeyLit]), if_neg (by rw [gat_same]; simp)]
    · simp only [gmap]
      rw [Maps.atKey_put_other (by simp; omega), ih, gat_other L r k h]

theorem lits_inj {q : IntKind} {a b : List Int} (h : lits (H := Unit) q a = lits q b) : a = b := by
  unfold lits at h
  exact (List.map_inj_right (fun x y e => by cases e; rfl)).1 h

/-- all groups, by their least ones -/
def groups (n : Nat) (L : Nat → Nat) : List (List Int) := ((List.range n).filter fun r => L r == r).map fun r => gat L r n
def groupsTo (n : Nat) (L : Nat → Nat) (j : Nat) : List (List Int) := ((List.range j).filter fun r => L r == r).map fun r => gat L r n
theorem groupsTo_yes (n : Nat) (L : Nat → Nat) (j : Nat) (h : L j = j) : groupsTo n L (j + 1) = groupsTo n L j ++ [gat L j n] := by
  simp [groupsTo, List.range_succ, List.filter_append, List.filter_cons, h]
theorem groupsTo_no (n : Nat) (L : Nat → Nat) (j : Nat) (h : L j ≠ j) : groupsTo n L (j + 1) = groupsTo n L j := by
  simp [groupsTo, List.range_succ, List.filter_append, List.filter_cons, h]
theorem groupsTo_len (n : Nat) (L : Nat → Nat) (j : Nat) : (groupsTo n L j).length ≤ j := by
  unfold groupsTo
  rw [List.length_map]
  exact Nat.le_trans (List.length_filter_le _ _) (by simp)
theorem groups_len (n : Nat) (L : Nat → Nat) : (groups n L).length = many n L := by
  unfold groups many
  rw [List.length_map, cnt_filter]

section
variable {P : Program} {w w' : World} {m n : Nat} {L : Nat → Nat}
open Go.Maps (Keyed)
open Go.WideElems (Fit rd rg pl rd_val elemAt)

theorem owns_kept {e : TypeId} {q : IntKind} {S : Nat → Prop} {v : Value} {zs : List Int} (ho : w.ownsInts (m + 1) e q v zs) (o : Only S w w') (hs : ∀ i, m ≤ i → i < w.heap.size → ¬ S i) : w'.ownsInts (m + 1) e q v zs := by
  obtain ⟨⟨h1, h2⟩, h3⟩ := ho
  refine ⟨⟨h1, ?_⟩, h3⟩
  rcases h2 with h2 | ⟨g, cap, cur, rfl, hg, hh, rest⟩
  · exact .inl h2
  · exact .inr ⟨g, cap, cur, rfl, hg, by rw [o.block g (lt_of_heap hh) (hs g (by omega) (lt_of_heap hh))]; exact hh, rest⟩

/-- a map of rows of numbers stays where no block from its own on turns -/
theorem groups_kept {k e : TypeId} {q : IntKind} {D : DataW Unit} {S : Nat → Prop} (h : w.ownsGroups P k (m + 1) e q m n D) (o : Only S w w') (hs : ∀ i, m ≤ i → i < w.heap.size → ¬ S i) : w'.ownsGroups P k (m + 1) e q m n D := by
  obtain ⟨es, clock, hb, F, hn, rfl, hbb, hlen, hap⟩ := h
  obtain ⟨F2, hmap2, _⟩ := F.stay (R' := rowElem w' (m + 1) e q) (fun x _ z hz => by
    obtain ⟨zs, ho, rfl⟩ := rowElem_inv hz
    exact rowElem_mk (owns_kept ho o hs))
  refine ⟨es, clock, by rw [o.block m (lt_of_heap hb) (hs m (Nat.le_refl _) (lt_of_heap hb))]; exact hb, F2, hn, by rw [hmap2], hbb, ?_, hap⟩
  intro x hx zs ho
  obtain ⟨y, hy⟩ := F.reads x hx
  obtain ⟨z, hz, _⟩ := rd_val hy
  obtain ⟨zs', ho', _⟩ := rowElem_inv hz
  rw [ho.unique (owns_kept ho' o hs)]
  exact hlen x hx zs' ho'

/-- 'v, ok := m[r]' behind all rounds, in a world that has only grown -/
theorem groups_look {e E t : TypeId} (K : Keyed P 3) (ht : P.underlying t = some (.map 3 E)) (hk3 : P.underlying 3 = some (.int .i64)) (hz : (zeroValue E).run P w' = .ok (.slice none 0 0) w') (h : w.ownsGroups P 3 (m + 1) e .i64 m n (gmap L n)) (o : Only NoB w w') (r : Nat) (hr : r ≤ 1000) :
    (gat L r n = [] ∧ (Instr.lookup t (.map (some m)) (.int .i64 r) true).run P w' = .ok (.tuple #[.slice none 0 0, .bool false]) w') ∨
    (gat L r n ≠ [] ∧ ∃ v, (Instr.lookup t (.map (some m)) (.int .i64 r) true).run P w' = .ok (.tuple #[v, .bool true]) w' ∧ w.ownsInts (m + 1) e .i64 v (gat L r n)) := by
  have hat0 := fun z => gmap_at L r n z
  have h' := h
  obtain ⟨es, clock, hb, F0, hn, hD0, hbb, hlen, hap⟩ := h
  obtain ⟨F, hmap2, _⟩ := F0.stay (R' := rowElem w' (m + 1) e .i64) (fun x _ z hz => by
    obtain ⟨zs, ho, rfl⟩ := rowElem_inv hz
    exact rowElem_mk (owns_kept ho o (fun _ _ _ f => f)))
  rw [← hmap2] at hD0
  have hb' : w'.heap[m]? = some (.map es clock) := by rw [o.block m (lt_of_heap hb) (fun f => f)]; exact hb
  have hD := hD0
  have hkey : keyOf P 3 (.int .i64 r) = some (.int .i64 r) := Maps.keyOf_int_mk hk3 (WalkArith.wf_i64 (by omega))
  rcases Maps.fit_look true K ht hz hb' F hkey with ⟨hrun, _, hat⟩ | ⟨e0, y, hm0, h3, hrun, hR, hat, _⟩
  · refine .inl ⟨?_, by simpa using hrun⟩
    have h1 := (hat .nil).symm.trans ((congrArg (fun D => DataW.atKey D (.int .i64 r) .nil) hD).symm.trans (hat0 .nil))
    by_cases e : gat L r n = []
    · exact e
    · rw [if_neg e] at h1
      cases h1
  · obtain ⟨zs, ho, rfl⟩ := rowElem_inv hR
    have h1 : ∀ z, rowDatum .i64 e0.val zs = if gat L r n = [] then z else .slice (lits .i64 (gat L r n)) [] := fun z => (hat z).symm.trans ((congrArg (fun D => DataW.atKey D (.int .i64 r) z) hD).symm.trans (hat0 z))
    by_cases e : gat L r n = []
    · have h2 := h1 .nil
      have h3 := h1 (.ptr .nil)
      rw [if_pos e] at h2 h3
      rw [h2] at h3
      cases h3
    · refine .inr ⟨e, e0.val, by simpa using hrun, ?_⟩
      obtain ⟨y0, hy0⟩ := F0.reads e0 hm0
      obtain ⟨z0, hz0, _⟩ := rd_val hy0
      obtain ⟨zs0, ho0, _⟩ := rowElem_inv hz0
      have hzz := ho.unique (owns_kept ho0 o (fun _ _ _ f => f))
      have h2 := h1 .nil
      rw [if_neg e] at h2
      rcases ho.datum (H := Unit) with ⟨q1, q2⟩ | q1
      · rw [q1] at h2
        cases h2
      · rw [q1] at h2
        have h3 : lits (H := Unit) .i64 zs = lits .i64 (gat L r n) := by injection h2
        rw [← lits_inj h3, hzz]
        exact ho0

theorem ints_of_owns {base : Nat} {e : TypeId} {v : Value} {zs : List Int} (h : w.ownsInts base e .i64 v zs) : IntsIn (fun k => base ≤ k) w v zs := by
  have hrow := h.1
  rcases h.1.2 with ⟨rfl, h0⟩ | ⟨g, cap, cur, rfl, hg, hh, hn, hc, hs, ht⟩
  · exact ⟨none, 0, by rw [h0], by rw [h0]; exact Nat.zero_le _, fun h1 => by omega⟩
  · refine ⟨_, cap, rfl, Nat.le_trans hn hc, fun _ => ⟨g, 0, rfl, hg, fun j hj => ?_⟩⟩
    rw [Nat.zero_add, hrow.cellAt j (by omega)]
    simp [List.getD, List.getElem?_eq_getElem hj]
end
end Go.Proofs.Ytincgkcmfhhofaa
