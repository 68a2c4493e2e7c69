import Derived.Test.YtajihhmohokngaaRefCmp
set_option linter.unusedVariables false
set_option linter.unusedSimpArgs false
namespace Go.Proofs.Ytajihhmohokngaa
open Go.RowKit

set_option maxHeartbeats 1000000 in
theorem rminus_any (a b : Int) (w : World) (ha : In128 a) (hb : In128 b) :
    Calls Try.prog 37 #[.agg #[.int .i64 (hi64 a), .int .u64 (lo64 a)], .agg #[.int .i64 (hi64 b), .int .u64 (lo64 b)]] w fun e w' => e = .returned (.agg #[.int .i64 (hi64 (w128 (a - b))), .int .u64 (lo64 (w128 (a - b)))]) ∧ Below w.heap.size w w' := by
  have L := Lib.hid (fun w => rless_any b w hb)
  have P := fun w => rplus_any a (w128 (0 - b)) w ha (w128_in _)
  rw [show w128 (a + w128 (0 - b)) = w128 (a - b) by unfold w128; omega] at P
  have P := Lib.hid P
  generalize w128 (0 - b) = nb at *
  generalize w128 (a - b) = s at *
  clear ha hb
  go_enter Try.func37, Try.ntmps37
  go_wp2_with fail
  have l1 := (lay_ok w a).1
  have l2 := (lay_ok (lay w a) b).1
  have l3 := (lay_ok (lay (lay w a) b) 0).1
  have e1 : (lay w a).heap.size = w.heap.size + 1 := by simp [lay]
  have e2 : (lay (lay w a) b).heap.size = w.heap.size + 2 := by simp [lay]
  have i1 := ((WideIn.new w a).kept (B := 0) l2).kept (B := 0) l3
  have i2 := (WideIn.new (lay w a) b).kept (B := 0) l3
  have i3 := WideIn.new (lay (lay w a) b) 0
  have bb := l1.trans ((l2.mono (by rw [e1]; omega)).trans (l3.mono (by rw [e2]; omega)))
  rw [e1] at i2
  rw [e2] at i3
  refine at_world ?_
  intro W hW
  change W = lay (lay (lay w a) b) 0 at hW
  subst hW
  generalize lay (lay (lay w a) b) 0 = W at *
  clear l1 l2 l3 e1 e2
  refine wp_region_along (fun w' => (w'.cell? ⟨w.heap.size, 0, none⟩ = some (.int .i64 (hi64 a)) ∧ w'.cell? ⟨w.heap.size, 1, none⟩ = some (.int .u64 (lo64 a))) ∧ (w'.cell? ⟨w.heap.size + 1, 0, none⟩ = some (.int .i64 (hi64 b)) ∧ w'.cell? ⟨w.heap.size + 1, 1, none⟩ = some (.int .u64 (lo64 b)))) [(0, true), (1, true), (2, false), (3, false), (4, false)] (by kernel_rfl) (by kernel_rfl) ⟨⟨i1.c0, i1.c1⟩, ⟨i2.c0, i2.c1⟩⟩ ?_
  have bb := Below.drew bb
  have i1 : WideIn W.drew w.heap.size a := i1
  have i2 : WideIn W.drew (w.heap.size + 1) b := i2
  have i3 : WideIn W.drew (w.heap.size + 2) 0 := i3
  generalize W.drew = Y at *
  repeat (first | (refine' along_take (by simp only [List.getElem?_cons_succ, List.getElem?_cons_zero]; rfl) (by rfl) ?_ ?_ ?_; rotate_left 2; (intro w' hS; go_simp; try rfl); (simp only [Act.put, List.setIfInBounds_toArray, List.set_cons_zero, List.set_cons_succ]; try rfl)) | (refine' along_skip (by simp only [List.getElem?_cons_succ, List.getElem?_cons_zero]; rfl) (by rfl) ?_ ?_; rotate_left 1; (simp only [Act.put, List.setIfInBounds_toArray, List.set_cons_zero, List.set_cons_succ]; try rfl)))
  (refine along_do (by simp only [List.getElem?_cons_succ, List.getElem?_cons_zero]; rfl) (by rfl) (fun K hK => ?_); go_simp)
  refine (L.out _).mono ?_
  rintro e w' ⟨rfl, bq⟩
  have bb := bb.trans (bq.mono bb.size)
  have i1 := i1.kept (B := 0) bq
  have i2 := i2.kept (B := 0) bq
  have i3 := i3.kept (B := 0) bq
  clear bq
  refine hK _ _ ⟨⟨i1.c0, i1.c1⟩, ⟨i2.c0, i2.c1⟩⟩ ?_
  clear hK K
  repeat (first | (refine' along_take (by simp only [List.getElem?_cons_succ, List.getElem?_cons_zero]; rfl) (by rfl) ?_ ?_ ?_; rotate_left 2; (intro w' hS; go_simp; try rfl); (simp only [Act.put, List.setIfInBounds_toArray, List.set_cons_zero, List.set_cons_succ]; try rfl)) | (refine' along_skip (by simp only [List.getElem?_cons_succ, List.getElem?_cons_zero]; rfl) (by rfl) ?_ ?_; rotate_left 1; (simp only [Act.put, List.setIfInBounds_toArray, List.set_cons_zero, List.set_cons_succ]; try rfl)))
  (refine along_do (by simp only [List.getElem?_cons_succ, List.getElem?_cons_zero]; rfl) (by rfl) (fun K hK => ?_); go_simp)
  refine (P.out _).mono ?_
  rintro e w' ⟨rfl, bq⟩
  have bb := bb.trans (bq.mono bb.size)
  have i1 := i1.kept (B := 0) bq
  have i2 := i2.kept (B := 0) bq
  have i3 := i3.kept (B := 0) bq
  clear bq
  refine hK _ _ ⟨⟨i1.c0, i1.c1⟩, ⟨i2.c0, i2.c1⟩⟩ ?_
  clear hK K
  repeat (first | (refine' along_take (by simp only [List.getElem?_cons_succ, List.getElem?_cons_zero]; rfl) (by rfl) ?_ ?_ ?_; rotate_left 2; (intro w' hS; go_simp; try rfl); (simp only [Act.put, List.setIfInBounds_toArray, List.set_cons_zero, List.set_cons_succ]; try rfl)) | (refine' along_skip (by simp only [List.getElem?_cons_succ, List.getElem?_cons_zero]; rfl) (by rfl) ?_ ?_; rotate_left 1; (simp only [Act.put, List.setIfInBounds_toArray, List.set_cons_zero, List.set_cons_succ]; try rfl)))
  have f0 := i3.f0 0
  have f1 := i3.f0 1
  have d0 := i3.c0
  have d1 := i3.c1
  have lt3 := i3.lt
  (refine along_do (by simp only [List.getElem?_cons_succ, List.getElem?_cons_zero]; rfl) (by rfl) (fun K hK => ?_); go_simp)
  have j1 := i1.far (c := w.heap.size + 2) s (by omega)
  have j2 := i2.far (c := w.heap.size + 2) s (by omega)
  have j3 := i3.set s
  have bb := put2_below bb s (c := w.heap.size + 2) (by omega)
  refine hK _ _ ⟨⟨j1.c0, j1.c1⟩, ⟨j2.c0, j2.c1⟩⟩ ?_
  refine along_end ?_
  go_wp2_with fail
  refine bodyPost_ret (v := .agg #[.int .i64 (hi64 s), .int .u64 (lo64 s)]) (by simp [results, Try.results37, go_sem, d0, d1, f0, f1, lt3]) rfl ⟨rfl, bb⟩
end Go.Proofs.Ytajihhmohokngaa
