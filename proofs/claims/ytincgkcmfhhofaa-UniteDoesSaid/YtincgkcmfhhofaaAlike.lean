/-
  THE WALK of quittancelaw05.alike: all that is asked of a Sets is what the reference tells.
-/
import Derived.Test.YtincgkcmfhhofaaRefGroups
import Derived.Test.YtincgkcmfhhofaaRefJoin
import Derived.Test.YtincgkcmfhhofaaOrder
set_option linter.unusedVariables false
set_option linter.unusedSimpArgs false
namespace Go.Proofs.Ytincgkcmfhhofaa
open Go.RowKit

set_option maxHeartbeats 2000000 in
theorem alike_any (p : Nat → Prop) (b u n : Nat) (L : Nat → Nat) (v : Value) (a : Int) (w : World) (hs : Is w b u n L) (hr : RIs p w v n L) (hp : ∀ k, p k → k ≠ u) :
    Calls Try.prog 22 #[.pointer (some ⟨b, 0, none⟩), v, .int .i64 a] w fun e w' => e = .returned (.bool true) ∧ Is w' b u n L ∧ Only (B1 u) w w' := by
  have HR := Lib.hid hr
  have lu := hs.ltu
  obtain ⟨hn, ht, s, cap, rfl, hc⟩ := hr
  clear hc ht
  go_enter Try.func22, Try.ntmps22
  go_wp2_with fail
  have ob : Only NoB w (w.alloc (.cells #[.slice s n cap] 45)) := (Only.refl _ _).alloc _
  have hb := heap_alloc_new w (.cells #[.slice s n cap] 45)
  have zb : (w.alloc (.cells #[.slice s n cap] 45)).heap.size = w.heap.size + 1 := by simp
  generalize World.alloc w _ = W at *
  refine (rgroups_any p _ n L W (HR.out.kept ob (fun _ _ f => f))).mono ?_
  rintro e w1 ⟨⟨g, rfl, hg⟩, o1⟩
  have hb := (o1.block w.heap.size (by omega) (fun f => f)).trans hb
  have hs := hs.kept (ob.trans o1) (fun f => f) (fun f => f)
  have o1 : Only (B1 u) w w1 := (ob.trans o1).mono (fun _ _ f => f.elim)
  have hg := hg.mono (q := fun k => w.heap.size ≤ k) (fun k hk => by omega)
  obtain ⟨ga, gc, rfl⟩ := hg.len
  rw [groups_len] at *
  have HG := Lib.hid hg
  clear hg
  go_wp2_with fail
  have MK : Hid (∀ w', Only (B1 u) w1 w' → w'.cell? ⟨w.heap.size, 0, none⟩ = some (.slice s n cap)) := fun w' oo => Only.cell oo ((cell_in _ _ _ _ _ _ hb).trans rfl) (fun e => by unfold B1 at e; omega)
  refine wp_region_along (fun w' => w'.cell? ⟨w.heap.size, 0, none⟩ = some (.slice s n cap)) [(0, true), (2, true), (1, false), (3, false), (4, true), (5, true), (7, true), (8, true), (6, false), (9, true), (10, true), (11, true), (12, true), (13, true), (15, true), (16, true), (14, false), (17, false), (18, true), (19, true), (20, true)] (by kernel_rfl) (by kernel_rfl) ?_ ?_
  · exact MK.out _ ((Only.refl _ _).drew)
  · have oo : Only (B1 u) w1 w1.drew := (Only.refl _ _).drew
    have hs := hs.drew
    generalize w1.drew = Y at *
    repeat (first | (refine' along_take (by simp only [List.getElem?_cons_succ, List.getElem?_cons_zero]; rfl) (by rfl) ?_ ?_ ?_; rotate_left 2; (intro w' hS; go_simp; try rfl); (simp only [Act.put, List.setIfInBounds_toArray, List.set_cons_zero, List.set_cons_succ]; try rfl)) | (refine' along_skip (by simp only [List.getElem?_cons_succ, List.getElem?_cons_zero]; rfl) (by rfl) ?_ ?_; rotate_left 1; (simp only [Act.put, List.setIfInBounds_toArray, List.set_cons_zero, List.set_cons_succ]; try rfl)))
    (refine along_do (by simp only [List.getElem?_cons_succ, List.getElem?_cons_zero]; rfl) (by rfl) (fun K hK => ?_); go_simp)
    refine (groups_any b u n L _ hs).mono ?_
    rintro e w2 ⟨⟨g2, rfl, hg2⟩, h2, o2⟩
    have zz := o1.size
    have zy := oo.size
    have oo := oo.trans o2
    have hg2 := hg2.mono (q := fun k => w.heap.size ≤ k) (fun k hk => by omega)
    (refine hK _ _ (MK.out _ oo) ?_; clear hK K)
    repeat (first | (refine' along_take (by simp only [List.getElem?_cons_succ, List.getElem?_cons_zero]; rfl) (by rfl) ?_ ?_ ?_; rotate_left 2; (intro w' hS; go_simp; try rfl); (simp only [Act.put, List.setIfInBounds_toArray, List.set_cons_zero, List.set_cons_succ]; try rfl)) | (refine' along_skip (by simp only [List.getElem?_cons_succ, List.getElem?_cons_zero]; rfl) (by rfl) ?_ ?_; rotate_left 1; (simp only [Act.put, List.setIfInBounds_toArray, List.set_cons_zero, List.set_cons_succ]; try rfl)))
    (refine along_do (by simp only [List.getElem?_cons_succ, List.getElem?_cons_zero]; rfl) (by rfl) (fun K hK => ?_); go_simp)
    refine (lists_any _ _ _ _ _ _ hg2 (HG.out.kept oo (fun k hk e => by unfold B1 at e; omega))).mono ?_
    rintro e w3 ⟨rfl, o3⟩
    have h2 := h2.kept o3 (fun f => f) (fun f => f)
    have oo := oo.then o3 (fun _ _ f => f.elim)
    rw [beq_self_eq_true]
    (refine hK _ _ (MK.out _ oo) ?_; clear hK K)
    repeat (first | (refine' along_take (by simp only [List.getElem?_cons_succ, List.getElem?_cons_zero]; rfl) (by rfl) ?_ ?_ ?_; rotate_left 2; (intro w' hS; go_simp; try rfl); (simp only [Act.put, List.setIfInBounds_toArray, List.set_cons_zero, List.set_cons_succ]; try rfl)) | (refine' along_skip (by simp only [List.getElem?_cons_succ, List.getElem?_cons_zero]; rfl) (by rfl) ?_ ?_; rotate_left 1; (simp only [Act.put, List.setIfInBounds_toArray, List.set_cons_zero, List.set_cons_succ]; try rfl)))
    (refine along_do (by simp only [List.getElem?_cons_succ, List.getElem?_cons_zero]; rfl) (by rfl) (fun K hK => ?_); go_simp)
    refine (many_any b u n L _ h2).mono ?_
    rintro e w4 ⟨rfl, rfl⟩
    (refine hK _ _ (MK.out _ oo) ?_; clear hK K)
    repeat (first | (refine' along_take (by simp only [List.getElem?_cons_succ, List.getElem?_cons_zero]; rfl) (by rfl) ?_ ?_ ?_; rotate_left 2; (intro w' hS; go_simp; try rfl); (simp only [Act.put, List.setIfInBounds_toArray, List.set_cons_zero, List.set_cons_succ]; try rfl)) | (refine' along_skip (by simp only [List.getElem?_cons_succ, List.getElem?_cons_zero]; rfl) (by rfl) ?_ ?_; rotate_left 1; (simp only [Act.put, List.setIfInBounds_toArray, List.set_cons_zero, List.set_cons_succ]; try rfl)))
    (refine along_do (by simp only [List.getElem?_cons_succ, List.getElem?_cons_zero]; rfl) (by rfl) (fun K hK => ?_); go_simp)
    refine (least_any b u n L a _ h2).mono ?_
    rintro e w5 ⟨rfl, h5, o5⟩
    have oo := oo.trans o5
    (refine hK _ _ (MK.out _ oo) ?_; clear hK K)
    repeat (first | (refine' along_take (by simp only [List.getElem?_cons_succ, List.getElem?_cons_zero]; rfl) (by rfl) ?_ ?_ ?_; rotate_left 2; (intro w' hS; go_simp; try rfl); (simp only [Act.put, List.setIfInBounds_toArray, List.set_cons_zero, List.set_cons_succ]; try rfl)) | (refine' along_skip (by simp only [List.getElem?_cons_succ, List.getElem?_cons_zero]; rfl) (by rfl) ?_ ?_; rotate_left 1; (simp only [Act.put, List.setIfInBounds_toArray, List.set_cons_zero, List.set_cons_succ]; try rfl)))
    (refine along_do (by simp only [List.getElem?_cons_succ, List.getElem?_cons_zero]; rfl) (by rfl) (fun K hK => ?_); go_simp)
    refine (rleast_any p _ n L a _ (HR.out.kept (o1.trans oo) (fun k hk e => hp k hk (by unfold B1 at e; exact e)))).mono ?_
    rintro e w6 ⟨rfl, o6⟩
    have h6 := h5.kept o6 (fun f => f) (fun f => f)
    have oo := oo.then o6 (fun _ _ f => f.elim)
    (refine hK _ _ (MK.out _ oo) ?_; clear hK K)
    repeat (first | (refine' along_take (by simp only [List.getElem?_cons_succ, List.getElem?_cons_zero]; rfl) (by rfl) ?_ ?_ ?_; rotate_left 2; (intro w' hS; go_simp; try rfl); (simp only [Act.put, List.setIfInBounds_toArray, List.set_cons_zero, List.set_cons_succ]; try rfl)) | (refine' along_skip (by simp only [List.getElem?_cons_succ, List.getElem?_cons_zero]; rfl) (by rfl) ?_ ?_; rotate_left 1; (simp only [Act.put, List.setIfInBounds_toArray, List.set_cons_zero, List.set_cons_succ]; try rfl)))
    refine along_end ?_
    go_wp2_with fail
    go_ret
    exact ⟨rfl, h6, o1.trans oo⟩
end Go.Proofs.Ytincgkcmfhhofaa
