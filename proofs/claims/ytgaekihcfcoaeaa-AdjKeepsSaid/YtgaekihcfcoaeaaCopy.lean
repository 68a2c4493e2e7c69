/-
  THE WALK of inst.Copy.
-/
import Derived.Test.YtgaekihcfcoaeaaTake
set_option linter.unusedVariables false
set_option linter.unusedSimpArgs false
namespace Go.Proofs.Ytgaekihcfcoaeaa
open Go.RowKit

/-- n numbers behind an address, in blocks of p -/
def SupAt (p : Nat → Prop) (w : World) (a : Option Addr) (n : Nat) (f : Nat → Int) : Prop :=
  0 < n → ∃ b o, a = some ⟨b, o, none⟩ ∧ p b ∧ ∀ j, j < n → w.cell? ⟨b, o + j, none⟩ = some (.int .i64 (f j))
theorem SupAt.kept {p S : Nat → Prop} {w w' : World} {a : Option Addr} {n : Nat} {f : Nat → Int} (h : SupAt p w a n f) (k : Only S w w') (hs : ∀ b, p b → ¬ S b) : SupAt p w' a n f := fun h0 => by
  obtain ⟨b, o, e, hp, hc⟩ := h h0
  exact ⟨b, o, e, hp, fun j hj => k.cell (hc j hj) (hs b hp)⟩
theorem SupAt.mono {p q : Nat → Prop} {w : World} {a : Option Addr} {n : Nat} {f : Nat → Int} (h : SupAt p w a n f) (hs : ∀ b, p b → q b) : SupAt q w a n f := fun h0 => by
  obtain ⟨b, o, e, hp, hc⟩ := h h0
  exact ⟨b, o, e, hs b hp, hc⟩

set_option maxHeartbeats 1000000 in
theorem copy_any (p : Nat → Prop) (sa aa : Option Addr) (n m sc ac : Nat) (f : Nat → Int) (A : Nat → A5) (hn : n ≤ 20) (hm : m ≤ 40) (w : World) (hs : SupAt p w sa n f) (ha : ArcsAt p w aa m A) :
    Calls Try.prog 17 #[.agg #[.slice sa n sc, .slice aa m ac]] w fun e w' => (∃ s c a c', e = .returned (.agg #[.slice s n c, .slice a m c']) ∧ ArcsAt (fun k => w.heap.size ≤ k) w' a m A) ∧ Only NoB w w' := by
  have CS : Hid (∀ W, Only NoB w W → Calls Try.prog 25 #[.slice sa n sc, .func (.func 26) #[] #[]] W fun e w' => (∃ a c, e = .returned (.slice a n c)) ∧ Only NoB W w') := fun W o => take_ints sa n sc f hn W (fun h0 => by
    obtain ⟨b, o', e, _, hc⟩ := hs.kept o (fun _ _ f => f) h0
    exact ⟨b, o', e, hc⟩)
  have CA : Hid (∀ W, Only NoB w W → Calls Try.prog 27 #[.slice aa m ac, .func (.func 28) #[] #[]] W fun e w' => (∃ a c, e = .returned (.slice a m c) ∧ ArcsAt (fun k => W.heap.size ≤ k) w' a m A) ∧ Only NoB W w') := fun W o => take_arcs p aa m ac A hm W (ha.kept o (fun _ _ f => f))
  clear hs ha
  go_enter Try.func17, Try.ntmps17
  go_wp2_with fail
  have hb := heap_alloc_new w (.cells #[.slice sa n sc, .slice aa m ac] 26)
  have zb : (w.alloc (.cells #[.slice sa n sc, .slice aa m ac] 26)).heap.size = w.heap.size + 1 := by simp
  have o1 : Only NoB w (w.alloc (.cells #[.slice sa n sc, .slice aa m ac] 26)) := (Only.refl _ _).alloc _
  have hr := heap_alloc_new (w.alloc (.cells #[.slice sa n sc, .slice aa m ac] 26)) (.cells #[.slice none 0 0, .slice none 0 0] 26)
  rw [zb] at hr
  have o2 : Only NoB (w.alloc (.cells #[.slice sa n sc, .slice aa m ac] 26)) ((w.alloc (.cells #[.slice sa n sc, .slice aa m ac] 26)).alloc (.cells #[.slice none 0 0, .slice none 0 0] 26)) := (Only.refl _ _).alloc _
  have zr : ((w.alloc (.cells #[.slice sa n sc, .slice aa m ac] 26)).alloc (.cells #[.slice none 0 0, .slice none 0 0] 26)).heap.size = w.heap.size + 2 := by simp
  have hb := (o2.block w.heap.size (by omega) (fun f => f)).trans hb
  have ob := o1.trans o2
  clear o1 o2 zb
  generalize World.alloc (World.alloc w _) _ = W at *
  have MK : Hid (∀ w', Only (B1 (w.heap.size + 1)) W w' → w'.cell? ⟨w.heap.size, 0, none⟩ = some (.slice sa n sc) ∧ w'.cell? ⟨w.heap.size, 1, none⟩ = some (.slice aa m ac)) := fun w' oo => ⟨Only.cell oo ((cell_in _ _ 0 _ _ _ hb).trans rfl) (fun e => by unfold B1 at e; omega), Only.cell oo ((cell_in _ _ 1 _ _ _ hb).trans rfl) (fun e => by unfold B1 at e; omega)⟩
  refine wp_region_along (fun w' => w'.cell? ⟨w.heap.size, 0, none⟩ = some (.slice sa n sc) ∧ w'.cell? ⟨w.heap.size, 1, none⟩ = some (.slice aa m ac)) [(0, true), (1, true), (3, true), (4, true), (2, false), (5, false), (6, true), (7, false)] (by kernel_rfl) (by kernel_rfl) ?_ ?_
  · exact MK.out _ ((Only.refl _ _).drew)
  · have oo : Only NoB W W.drew := (Only.refl _ _).drew
    generalize W.drew = Y at *
    repeat (first | (refine' along_take (by simp only [List.getElem?_cons_succ, List.getElem?_cons_zero]; rfl) (by rfl) ?_ ?_ ?_; rotate_left 2; (intro w' hS; go_simp; try rfl); (simp only [Act.put, List.setIfInBounds_toArray, List.set_cons_zero, List.set_cons_succ]; try rfl)) | (refine' along_skip (by simp only [List.getElem?_cons_succ, List.getElem?_cons_zero]; rfl) (by rfl) ?_ ?_; rotate_left 1; (simp only [Act.put, List.setIfInBounds_toArray, List.set_cons_zero, List.set_cons_succ]; try rfl)))
    (refine along_do (by simp only [List.getElem?_cons_succ, List.getElem?_cons_zero]; rfl) (by rfl) (fun K hK => ?_); go_simp)
    refine (CS.out _ (ob.trans oo)).mono ?_
    rintro e w1 ⟨⟨ra, rc, rfl⟩, o1⟩
    have oo := oo.trans o1
    (refine hK _ _ (MK.out _ (oo.mono (fun _ _ f => f.elim))) ?_; clear hK K)
    repeat (first | (refine' along_take (by simp only [List.getElem?_cons_succ, List.getElem?_cons_zero]; rfl) (by rfl) ?_ ?_ ?_; rotate_left 2; (intro w' hS; go_simp; try rfl); (simp only [Act.put, List.setIfInBounds_toArray, List.set_cons_zero, List.set_cons_succ]; try rfl)) | (refine' along_skip (by simp only [List.getElem?_cons_succ, List.getElem?_cons_zero]; rfl) (by rfl) ?_ ?_; rotate_left 1; (simp only [Act.put, List.setIfInBounds_toArray, List.set_cons_zero, List.set_cons_succ]; try rfl)))
    (refine along_do (by simp only [List.getElem?_cons_succ, List.getElem?_cons_zero]; rfl) (by rfl) (fun K hK => ?_); go_simp)
    refine (CA.out _ (ob.trans oo)).mono ?_
    rintro e w2 ⟨⟨qa, qc, rfl, hA⟩, o2⟩
    have z1 := oo.size
    have oo := oo.trans o2
    (refine hK _ _ (MK.out _ (oo.mono (fun _ _ f => f.elim))) ?_; clear hK K)
    repeat (first | (refine' along_take (by simp only [List.getElem?_cons_succ, List.getElem?_cons_zero]; rfl) (by rfl) ?_ ?_ ?_; rotate_left 2; (intro w' hS; go_simp; try rfl); (simp only [Act.put, List.setIfInBounds_toArray, List.set_cons_zero, List.set_cons_succ]; try rfl)) | (refine' along_skip (by simp only [List.getElem?_cons_succ, List.getElem?_cons_zero]; rfl) (by rfl) ?_ ?_; rotate_left 1; (simp only [Act.put, List.setIfInBounds_toArray, List.set_cons_zero, List.set_cons_succ]; try rfl)))
    have hr2 := (oo.block (w.heap.size + 1) (by omega) (fun f => f)).trans hr
    have e0 := (cell_in _ _ 0 _ _ _ hr2).trans rfl
    have e1 := (cell_in _ _ 1 _ _ _ hr2).trans rfl
    have f0 := frozen_in _ _ 0 _ _ hr2
    have f1 := frozen_in _ _ 1 _ _ hr2
    have lr := lt_of_heap hr2
    (refine along_do (by simp only [List.getElem?_cons_succ, List.getElem?_cons_zero]; rfl) (by rfl) (fun K hK => ?_); go_simp)
    have oS : Only (B1 (w.heap.size + 1)) w2 ((w2.setCell ⟨w.heap.size + 1, 0, none⟩ (.slice ra n rc)).setCell ⟨w.heap.size + 1, 1, none⟩ (.slice qa m qc)) := Only.setCell (S := B1 (w.heap.size + 1)) (p := ⟨w.heap.size + 1, 1, none⟩) (Only.setCell (S := B1 (w.heap.size + 1)) (p := ⟨w.heap.size + 1, 0, none⟩) (Only.refl _ _) (fun _ => by unfold B1; rfl) _) (fun _ => by unfold B1; rfl) _
    (refine hK _ _ (MK.out _ ((oo.mono (fun _ _ f => f.elim)).trans oS)) ?_; clear hK K)
    repeat (first | (refine' along_take (by simp only [List.getElem?_cons_succ, List.getElem?_cons_zero]; rfl) (by rfl) ?_ ?_ ?_; rotate_left 2; (intro w' hS; go_simp; try rfl); (simp only [Act.put, List.setIfInBounds_toArray, List.set_cons_zero, List.set_cons_succ]; try rfl)) | (refine' along_skip (by simp only [List.getElem?_cons_succ, List.getElem?_cons_zero]; rfl) (by rfl) ?_ ?_; rotate_left 1; (simp only [Act.put, List.setIfInBounds_toArray, List.set_cons_zero, List.set_cons_succ]; try rfl)))
    refine along_end ?_
    go_wp2_with fail
    refine bodyPost_ret (v := .agg #[.slice ra n rc, .slice qa m qc]) (by simp [results, Try.results17, go_sem, e0, e1, f0, f1, lr]) rfl ⟨⟨_, _, _, _, rfl, (hA.kept oS (fun b hb e => by unfold B1 at e; omega)).mono (fun b hb => by omega)⟩, (ob.trans oo).then oS (fun i hi e => by unfold B1 at e; omega)⟩
end Go.Proofs.Ytgaekihcfcoaeaa
