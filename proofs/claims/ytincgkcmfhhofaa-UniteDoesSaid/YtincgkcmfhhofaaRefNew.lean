/-
  THE WALKS of quittanceref05: New, Sets.Join.
-/
import Derived.Test.YtincgkcmfhhofaaRefSame
set_option linter.unusedVariables false
set_option linter.unusedSimpArgs false
namespace Go.Proofs.Ytincgkcmfhhofaa
open Go.RowKit Go.Maps Go.ChangeShapes

/-- n numbers, as a list -/
def intsL (L : Nat → Nat) (n : Nat) : List Int := (List.range n).map fun i => ((L i : Nat) : Int)
theorem intsL_len (L : Nat → Nat) (n : Nat) : (intsL L n).length = n := by simp [intsL]
theorem intsL_succ (L : Nat → Nat) (n : Nat) : intsL L (n + 1) = intsL L n ++ [((L n : Nat) : Int)] := by simp [intsL, List.range_succ]
theorem intsL_get (L : Nat → Nat) (n j : Nat) (h : j < n) : (intsL L n).getD j 0 = ((L j : Nat) : Int) := by simp [intsL, List.getD, h]
theorem ris_of_owns {w : World} {base n : Nat} {v : Value} {L : Nat → Nat} (h : w.ownsInts base 3 .i64 v (intsL L n)) (hn : n ≤ 1000) (ht : Tidy n L) : RIs (fun b => base ≤ b) w (.agg #[v]) n L := by
  obtain ⟨a, cap, rfl, _, hc⟩ := ints_of_owns h
  rw [intsL_len] at hc ⊢
  refine ⟨hn, ht, a, cap, rfl, fun h0 => ?_⟩
  obtain ⟨b, o, rfl, hp, hc⟩ := hc h0
  exact ⟨b, o, rfl, hp, fun j hj => by rw [hc j hj, intsL_get _ _ _ hj]⟩
theorem owns_slice {w : World} {base : Nat} {v : Value} {zs : List Int} (h : w.ownsInts base 3 .i64 v zs) : ∃ a b c, v = .slice a b c := by
  rcases h.1.2 with ⟨rfl, _⟩ | ⟨g, cap, cur, rfl, _⟩
  · exact ⟨_, _, _, rfl⟩
  · exact ⟨_, _, _, rfl⟩

theorem owns_stay {w w' : World} {base : Nat} {e : TypeId} {q : IntKind} {S : Nat → Prop} {v : Value} {zs : List Int} (ho : w.ownsInts base e q v zs) (o : Only S w w') (hs : ∀ i, base ≤ i → i < w.heap.size → ¬ S i) : w'.ownsInts base e q v zs := by
  obtain ⟨⟨h1, h2⟩, h3⟩ := ho
  refine ⟨⟨h1, ?_⟩, h3⟩
  rcases h2 with h2 | ⟨g, cap, cur, rfl, hg, hh, rest⟩
  · exact .inl h2
  · exact .inr ⟨g, cap, cur, rfl, hg, by rw [o.block g (lt_of_heap hh) (hs g hg (lt_of_heap hh))]; exact hh, rest⟩
theorem grow_keep {wr w2 : World} {base k : Nat} {v : Value} {zs : List Int} {X o : Obj} (hoi : wr.ownsInts base 3 .i64 v zs) (hg : (wr.alloc X).grownBy w2 v.ownBlock) (h : wr.heap[k]? = some o) (hk : k < base) : w2.heap[k]? = some o := by
  have l := lt_of_heap h
  rw [hg.block k (by simp; omega) (fun e => by have := (hoi.1.lt k e.symm).1; omega), Below.heap_alloc _ _ _ l]
  exact h

set_option maxRecDepth 20000 in
set_option maxHeartbeats 2000000 in
theorem rnew_any (n : Int) (w : World) :
    Calls Try.prog 20 #[.int .i64 n] w fun e w' => (∃ v, e = .returned v ∧ RIs (fun b => w.heap.size ≤ b) w' v (clamp n) (fun i => i)) ∧ Only NoB w w' := by
  obtain ⟨i0, hi, hz0, hz1, hz2⟩ := info_parts Try.info3
  go_enter Try.func20, Try.ntmps20
  go_wp2_with fail
  have o1 : Only NoB w (w.alloc (.cells #[.slice none 0 0] 45)) := (Only.refl _ _).alloc _
  have h1 := heap_alloc_new w (.cells #[.slice none 0 0] 45)
  have o2 : Only NoB (w.alloc (.cells #[.slice none 0 0] 45)) ((w.alloc (.cells #[.slice none 0 0] 45)).alloc (.cells #[.slice none 0 0] 45)) := (Only.refl _ _).alloc _
  have h2 := heap_alloc_new (w.alloc (.cells #[.slice none 0 0] 45)) (.cells #[.slice none 0 0] 45)
  have e1 : (w.alloc (.cells #[.slice none 0 0] 45)).heap.size = w.heap.size + 1 := by simp
  have h1 := (o2.block w.heap.size (by rw [e1]; omega) (fun f => f)).trans h1
  rw [e1] at h2
  have z2 : ((w.alloc (.cells #[.slice none 0 0] 45)).alloc (.cells #[.slice none 0 0] 45)).heap.size = w.heap.size + 2 := by simp
  have o1 := o1.trans o2
  clear o2 e1
  generalize World.alloc (World.alloc w _) _ = W at *
  go_loopw [4] (fun s wr => ∃ (k : Nat) (l : Value), k ≤ clamp n ∧ s = .int .i64 k ∧ wr.heap[w.heap.size]? = some (.cells #[.slice none 0 0] 45 (0, 0)) ∧ wr.heap[w.heap.size + 1]? = some (.cells #[l] 45 (0, 0)) ∧ wr.ownsInts (w.heap.size + 2) 3 .i64 l (intsL (fun i => i) k) ∧ Only NoB w wr ∧ w.heap.size + 2 ≤ wr.heap.size)
    (fun s _ => 1001 - (intOf s).toNat)
  case atStart => exact ⟨0, _, Nat.zero_le _, rfl, h1, h2, World.ownsInts_nil _ _ _ _, o1, by omega⟩
  case round =>
    clear h1 h2 o1
    obtain ⟨k, l, hk, rfl, h1, h2, hoi, o1, z2⟩ := hrel
    have c0 := (cell_in _ _ 0 _ _ _ h2).trans rfl
    have cn : (clamp n : Int) = min (max n 0) 1000 := by unfold clamp; omega
    by_cases lt : k < clamp n
    · have l1 : (k : Int) < n := by omega
      have l2 : (k : Int) < 1000 := by omega
      have il := intsL_len (fun i => i) k
      obtain ⟨la, lb, lc, rfl⟩ := owns_slice hoi
      clear cn
      go_wp2_with (at_builtin; refine wpList_append_own_at _ rfl _ _ 28 rfl (w.heap.size + 2) 3 i0 (.int .i64 0) 1 8 Try.underlying28 hi hz0 hz1 hz2 rfl (by decide) _ _ _ rfl (hoi.1.alloc _) ⟨wr.heap.size, 0, none⟩ 1 1 [.int .i64 k] rfl rfl (cell_one_new _ _ _) (ints_oneCell .i64 [(k : Int)]) (by unfold maxLen; omega) (by omega) (by simp; omega) ?_; intro v' w2 hown' hgrow hnil hloc; have hn2 := hoi.appended hown' (WalkArith.wf_i64 (by omega)); have g1 := grow_keep hoi hgrow h1 (by omega); have g2 := grow_keep hoi hgrow h2 (by omega); have gf := frozen_in _ _ 0 _ _ g2; have gc := (cell_in _ _ 0 _ _ _ g2).trans rfl; obtain ⟨ma, mb, mc, rfl⟩ := owns_slice hn2)
      have oo := (o1.alloc (.cells #[.int .i64 k] 3)).grown hgrow (fun q hq e => absurd (hoi.1.lt q e).1 (by omega))
      have zz := hgrow.size
      have zx : (wr.alloc (.cells #[.int .i64 k] 3)).heap.size = wr.heap.size + 1 := by simp
      have q1 := (Below.heap_setCell w2 ⟨w.heap.size + 1, 0, none⟩ (.slice ma mb mc) w.heap.size (by simp)).trans g1
      have q2 := heap_setCell_at w2 (w.heap.size + 1) 0 (.slice ma mb mc) _ _ _ g2
      have o3 : Only (B1 (w.heap.size + 1)) w2 (w2.setCell ⟨w.heap.size + 1, 0, none⟩ (.slice ma mb mc)) := Only.setCell (S := B1 (w.heap.size + 1)) (Only.refl _ _) (p := ⟨w.heap.size + 1, 0, none⟩) (fun _ => by unfold B1; rfl) _
      go_roundw
      case rel =>
        exact ⟨k + 1, _, by omega, by go_num, q1, q2, by rw [intsL_succ]; exact owns_stay hn2 o3 (fun i hi _ e => by unfold B1 at e; omega), oo.then o3 (fun i hi e => by unfold B1 at e; omega), by have := o3.size; omega⟩
      case measure => simp [intOf]; omega
    · have e : k = clamp n := by omega
      have HE := Lib.hid e
      clear e
      obtain ⟨la, lb, lc, rfl⟩ := owns_slice hoi
      have d0 := (cell_in _ _ 0 _ _ _ h1).trans rfl
      have df := frozen_in _ _ 0 _ _ h1
      have lw := lt_of_heap h1
      have q1 := heap_setCell_at wr w.heap.size 0 (.slice la lb lc) _ _ _ h1
      have r0 := (cell_in _ _ 0 _ _ _ q1).trans rfl
      have o3 : Only (B1 w.heap.size) wr (wr.setCell ⟨w.heap.size, 0, none⟩ (.slice la lb lc)) := Only.setCell (S := B1 w.heap.size) (Only.refl _ _) (p := ⟨w.heap.size, 0, none⟩) (fun _ => by unfold B1; rfl) _
      have hn2 := owns_stay hoi o3 (fun i hi _ e => by unfold B1 at e; omega)
      have hr := ris_of_owns hn2 (by unfold clamp at hk; omega) ⟨fun i _ => Nat.le_refl _, fun i _ => rfl⟩
      have HR := Lib.hid hr
      have oo := o1.then o3 (fun i hi e => by unfold B1 at e; omega)
      clear hr hn2 o3 q1
      have fin : ∀ W, W = (wr.setCell ⟨w.heap.size, 0, none⟩ (.slice la lb lc)) → (∃ v, Ending.returned (.agg #[.slice la lb lc]) = .returned v ∧ RIs (fun b => w.heap.size ≤ b) W v (clamp n) (fun i => i)) ∧ Only NoB w W := fun W e => by
        subst e
        refine ⟨⟨_, rfl, ?_⟩, oo⟩
        rw [← HE.out]
        exact HR.out.mono (fun b hb => by omega)
      by_cases l1 : (k : Int) < n
      · have l2 : ¬ (k : Int) < 1000 := by omega
        clear cn lt
        go_wp2_with fail
        exact bodyPost_ret (v := .agg #[.slice la lb lc]) (by simp [results, Try.results20, go_sem, d0, df, lw]) rfl (fin _ rfl)
      · clear cn lt
        go_wp2_with fail
        exact bodyPost_ret (v := .agg #[.slice la lb lc]) (by simp [results, Try.results20, go_sem, d0, df, lw]) rfl (fin _ rfl)
end Go.Proofs.Ytincgkcmfhhofaa
