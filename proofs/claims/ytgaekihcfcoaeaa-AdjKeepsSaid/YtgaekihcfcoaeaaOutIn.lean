/-
  THE WALKS of adj.Graph.Out and In.
-/
import Derived.Test.YtgaekihcfcoaeaaPiece
set_option linter.unusedVariables false
set_option linter.unusedSimpArgs false
namespace Go.Proofs.Ytgaekihcfcoaeaa
open Go.RowKit Go.Shelf

attribute [local go_sem] Oper.semAt_some

theorem info3 : (Try.prog.info? 3).map (fun i => (i.zero, i.size, i.bytes)) = some (some (.int .i64 0), 1, 8) := by kernel_rfl

set_option maxRecDepth 100000 in
set_option maxHeartbeats 2000000 in
/-- arcs out of a node -/
theorem out_any (p : Nat → Prop) (gb n m k o1 o2 : Nat) (A : Nat → A5) (ls st : Nat → Nat) (w : World) (hg : Gr p w gb n m A ls st) (hk : k < n) (e1 : st (2 * k + 0) = o1) (e2 : st (2 * k + 0 + 1) = o2) (ho : o1 ≤ o2) (ho2 : o2 ≤ 2 * m) :
    Calls Try.prog 7 #[.pointer (some ⟨gb, 0, none⟩), .int .i64 k] w fun e W' => ∃ v, e = .returned v ∧ W'.ownsRow w.heap.size 3 1 v (o2 - o1) ((upto (fun j => (ls (o1 + j) : Int)) (o2 - o1)).map (Value.int .i64)) ∧ Below w.heap.size w W' := by
  obtain ⟨⟨hn, hm⟩, _, _, a, c, lb, lc, sb, sc, hb, _, _, ⟨hlc, llb⟩, _, hls, hst⟩ := hg
  have hc0 := (cell_in _ _ 0 _ _ _ hb).trans rfl
  have hc2 := (cell_in _ _ 2 _ _ _ hb).trans rfl
  have hc3 := (cell_in _ _ 3 _ _ _ hb).trans rfl
  have hs1 := hst (2 * k + 0) (by omega)
  have hs2 := hst (2 * k + 0 + 1) (by omega)
  rw [e1] at hs1
  rw [e2] at hs2
  have lg := lt_of_heap hb
  have lsb := World.block_lt_of_cell? _ _ hs1
  have HS := Lib.hid hls
  clear hb hst e1 e2 hls
  obtain ⟨i0, hi, hz0, hz1, hz2⟩ := info_parts info3
  refine (callsIn_wide (n := 5)).1 ?_
  refine callsIn_of_wp_marks Try.func7 rfl trivial ?_ rfl
  simp only [Try.ntmps7, List.size_toArray, List.length_cons, List.length_nil, Nat.reduceAdd, Nat.reduceSub, Array.replicate_succ, Array.replicate_zero, List.push_toArray, List.append_toArray, List.nil_append, List.cons_append]
  gi_wp2_with (refine ⟨trivial, ?_⟩; gi_at_call 20; refine (piece_in 4 _ _ _ _ ⟨_, rfl⟩ ⟨_, rfl⟩ ⟨_, rfl⟩).mono ?_; rintro e w' ⟨rfl, rfl⟩)
  have bO := Boxed.new w 32 (.slice none 0 0)
  have b1 := (cell_in _ _ 0 _ _ _ (heap_alloc_new (w.alloc (.cells #[.slice none 0 0] 32)) (.cells #[.pointer (some ⟨gb, 0, none⟩)] 28))).trans rfl
  have b2 := (cell_in _ _ 0 _ _ _ (heap_alloc_new ((w.alloc (.cells #[.slice none 0 0] 32)).alloc (.cells #[.pointer (some ⟨gb, 0, none⟩)] 28)) (.cells #[.int .i64 k] 3))).trans rfl
  have b3 := (cell_in _ _ 0 _ _ _ (heap_alloc_new (((w.alloc (.cells #[.slice none 0 0] 32)).alloc (.cells #[.pointer (some ⟨gb, 0, none⟩)] 28)).alloc (.cells #[.int .i64 k] 3)) (.cells #[.int .i64 0] 3))).trans rfl
  have e1 : (w.alloc (.cells #[.slice none 0 0] 32)).heap.size = w.heap.size + 1 := by simp
  have e2 : ((w.alloc (.cells #[.slice none 0 0] 32)).alloc (.cells #[.pointer (some ⟨gb, 0, none⟩)] 28)).heap.size = w.heap.size + 2 := by simp
  have e3 : (((w.alloc (.cells #[.slice none 0 0] 32)).alloc (.cells #[.pointer (some ⟨gb, 0, none⟩)] 28)).alloc (.cells #[.int .i64 k] 3)).heap.size = w.heap.size + 3 := by simp
  have e4 : ((((w.alloc (.cells #[.slice none 0 0] 32)).alloc (.cells #[.pointer (some ⟨gb, 0, none⟩)] 28)).alloc (.cells #[.int .i64 k] 3)).alloc (.cells #[.int .i64 0] 3)).heap.size = w.heap.size + 4 := by simp
  rw [e1] at b1
  rw [e2] at b2
  rw [e3] at b3
  have o2' : Only NoB ((w.alloc (.cells #[.slice none 0 0] 32)).alloc (.cells #[.pointer (some ⟨gb, 0, none⟩)] 28)) (((w.alloc (.cells #[.slice none 0 0] 32)).alloc (.cells #[.pointer (some ⟨gb, 0, none⟩)] 28)).alloc (.cells #[.int .i64 k] 3)) := (Only.refl _ _).alloc _
  have o3' : Only NoB (((w.alloc (.cells #[.slice none 0 0] 32)).alloc (.cells #[.pointer (some ⟨gb, 0, none⟩)] 28)).alloc (.cells #[.int .i64 k] 3)) ((((w.alloc (.cells #[.slice none 0 0] 32)).alloc (.cells #[.pointer (some ⟨gb, 0, none⟩)] 28)).alloc (.cells #[.int .i64 k] 3)).alloc (.cells #[.int .i64 0] 3)) := (Only.refl _ _).alloc _
  have b1 := (o2'.trans o3').cell b1 (fun f => f)
  have b2 := o3'.cell b2 (fun f => f)
  have oo : Only NoB w ((((w.alloc (.cells #[.slice none 0 0] 32)).alloc (.cells #[.pointer (some ⟨gb, 0, none⟩)] 28)).alloc (.cells #[.int .i64 k] 3)).alloc (.cells #[.int .i64 0] 3)) := ((((Only.refl _ _).alloc _).alloc _).alloc _).alloc _
  have bO := ((bO.alloc (.cells #[.pointer (some ⟨gb, 0, none⟩)] 28)).alloc (.cells #[.int .i64 k] 3)).alloc (.cells #[.int .i64 0] 3)
  clear e1 e2 e3 o2' o3'
  have hB0 := oo.below
  rw [show w.heap.size + 1 + 1 = w.heap.size + 2 by omega, show w.heap.size + 1 + 2 = w.heap.size + 3 by omega]
  generalize World.alloc (World.alloc (World.alloc (World.alloc w _) _) _) _ = W0 at *
  refine wpIn_rangeFunc_ownG rfl (by omega) (gf := 29) (lb := #[.pointer (some ⟨w.heap.size + 1, 0, none⟩), .pointer (some ⟨w.heap.size + 2, 0, none⟩), .pointer (some ⟨w.heap.size + 3, 0, none⟩)]) rfl trivial (enters_of Try.func29 (by kernel_rfl) rfl)
    (piece_stops (α := Int) id (fun j => (ls (o1 + j) : Int)) 4 (by omega) (w.heap.size + 1) (w.heap.size + 2) (w.heap.size + 3) w.heap.size gb n m k 0 lb lc sb sc o1 o2 ls (fun j _ => rfl) W0 (by omega) (by omega) (by omega) lg lsb llb (by omega) b1 b2 b3 (by omega) hk hn (oo.cell hc0 (fun f => f)) (oo.cell hc2 (fun f => f)) (oo.cell hc3 (fun f => f)) (oo.cell hs1 (fun f => f)) (oo.cell hs2 (fun f => f)) ho ho2 hm hlc (fun j hj => oo.cell (HS.out j hj) (fun f => f)))
    belowK_t (belowK_b (by omega)) (Below.refl _ _) (fun _ => rfl)
    (fun pre W => (∃ v, Boxed W w.heap.size 32 v ∧ W.ownsRow w.heap.size 3 1 v pre.length (pre.map (Value.int .i64)) ∧ (v = .slice none 0 0 ↔ pre = [])) ∧ Below w.heap.size w W)
    (fun _ _ _ => False)
    (OwnFrom.and (Own.from (holdsRow_own w.heap.size w.heap.size 32 3 1 (fun pre => pre.length) (fun pre => pre.map (Value.int .i64)) (fun pre v => v = .slice none 0 0 ↔ pre = [])) _) (ownFrom_below (Nat.le_refl _) (by omega)))
    (fun _ _ _ _ _ hs _ _ => hs)
    ⟨⟨_, bO, World.ownsRow_nil _ _ _ _, by simp⟩, hB0⟩
    (fun x => { tmps := #[.pointer (some ⟨gb, 0, none⟩), .int .i64 k, undef, undef, .slice none 0 0, .pointer (some ⟨w.heap.size, 0, none⟩), .int .i64 x, .pointer (some ⟨gb, 0, none⟩), .int .i64 k, .func (.func 29) #[] #[.pointer (some ⟨w.heap.size + 1, 0, none⟩), .pointer (some ⟨w.heap.size + 2, 0, none⟩), .pointer (some ⟨w.heap.size + 3, 0, none⟩)], .int .i64 x, undef, undef, undef, undef, undef], defers := [] }) ?assign ?body ?done ?stop
  case assign =>
    intro l x W K hK
    gi_wp2
    exact hK
  case body =>
    rintro l pre x W ⟨⟨v, hv, hrow, hnil⟩, hB⟩ hlt
    have hc := hv.cell
    have hz := hB.size
    gi_wp2_with (gi_at_builtin; refine wpListIn_append_own _ rfl _ _ 32 rfl w.heap.size 3 i0 (.int .i64 0) 1 8 Try.underlying32 hi hz0 hz1 hz2 rfl (by decide) _ _ _ rfl (hrow.alloc _) ⟨W.heap.size, 0, none⟩ 1 1 [.int .i64 x] rfl rfl (cell_one_new _ _ _) (by simp [Value.oneCell']) (by unfold maxLen; omega) (by omega) (by simp; omega) ?_; intro v' w1 hown' hgrow _; obtain ⟨g', cap', rfl⟩ := ownsRow_succ hown'; obtain ⟨hv1, hv2, hr2, hk2, hb2⟩ := hv.appended (by decide) hrow hB.size (Nat.le_refl _) hown' hgrow; have hc1 := hv1.cell; have hf1 := hv1.frozen)
    exact ⟨hk2.from _, hb2, ⟨_, hv2, by simpa using hr2, by simp⟩, hB.trans hb2⟩
  case done =>
    rintro D ys W hD rfl ⟨⟨v, hv, hrow, hnil⟩, hB⟩ hK
    have hc := hv.cell
    gi_wp2
    refine ⟨by simp, .inl ⟨_, _, rfl, run_takeDeferred hK, ?_⟩⟩
    rw [upto_length] at hrow
    exact ⟨_, results_tmp rfl _ _ _, v, rfl, ownsRow_putObj hrow _ hK rfl, hB.trans (belowK_b (w := w) (Nat.le_refl _) W D _ _ (by omega) hK rfl rfl)⟩
  case stop =>
    rintro D c pre W _ _ h _
    exact h.elim

set_option maxRecDepth 100000 in
set_option maxHeartbeats 2000000 in
/-- arcs into a node -/
theorem in_any (p : Nat → Prop) (gb n m k o1 o2 : Nat) (A : Nat → A5) (ls st : Nat → Nat) (w : World) (hg : Gr p w gb n m A ls st) (hk : k < n) (e1 : st (2 * k + 1) = o1) (e2 : st (2 * k + 1 + 1) = o2) (ho : o1 ≤ o2) (ho2 : o2 ≤ 2 * m) :
    Calls Try.prog 14 #[.pointer (some ⟨gb, 0, none⟩), .int .i64 k] w fun e W' => ∃ v, e = .returned v ∧ W'.ownsRow w.heap.size 3 1 v (o2 - o1) ((upto (fun j => (ls (o1 + j) : Int)) (o2 - o1)).map (Value.int .i64)) ∧ Below w.heap.size w W' := by
  obtain ⟨⟨hn, hm⟩, _, _, a, c, lb, lc, sb, sc, hb, _, _, ⟨hlc, llb⟩, _, hls, hst⟩ := hg
  have hc0 := (cell_in _ _ 0 _ _ _ hb).trans rfl
  have hc2 := (cell_in _ _ 2 _ _ _ hb).trans rfl
  have hc3 := (cell_in _ _ 3 _ _ _ hb).trans rfl
  have hs1 := hst (2 * k + 1) (by omega)
  have hs2 := hst (2 * k + 1 + 1) (by omega)
  rw [e1] at hs1
  rw [e2] at hs2
  have lg := lt_of_heap hb
  have lsb := World.block_lt_of_cell? _ _ hs1
  have HS := Lib.hid hls
  clear hb hst e1 e2 hls
  obtain ⟨i0, hi, hz0, hz1, hz2⟩ := info_parts info3
  refine (callsIn_wide (n := 5)).1 ?_
  refine callsIn_of_wp_marks Try.func14 rfl trivial ?_ rfl
  simp only [Try.ntmps14, List.size_toArray, List.length_cons, List.length_nil, Nat.reduceAdd, Nat.reduceSub, Array.replicate_succ, Array.replicate_zero, List.push_toArray, List.append_toArray, List.nil_append, List.cons_append]
  gi_wp2_with (refine ⟨trivial, ?_⟩; gi_at_call 20; refine (piece_in 4 _ _ _ _ ⟨_, rfl⟩ ⟨_, rfl⟩ ⟨_, rfl⟩).mono ?_; rintro e w' ⟨rfl, rfl⟩)
  have bO := Boxed.new w 32 (.slice none 0 0)
  have b1 := (cell_in _ _ 0 _ _ _ (heap_alloc_new (w.alloc (.cells #[.slice none 0 0] 32)) (.cells #[.pointer (some ⟨gb, 0, none⟩)] 28))).trans rfl
  have b2 := (cell_in _ _ 0 _ _ _ (heap_alloc_new ((w.alloc (.cells #[.slice none 0 0] 32)).alloc (.cells #[.pointer (some ⟨gb, 0, none⟩)] 28)) (.cells #[.int .i64 k] 3))).trans rfl
  have b3 := (cell_in _ _ 0 _ _ _ (heap_alloc_new (((w.alloc (.cells #[.slice none 0 0] 32)).alloc (.cells #[.pointer (some ⟨gb, 0, none⟩)] 28)).alloc (.cells #[.int .i64 k] 3)) (.cells #[.int .i64 1] 3))).trans rfl
  have e1 : (w.alloc (.cells #[.slice none 0 0] 32)).heap.size = w.heap.size + 1 := by simp
  have e2 : ((w.alloc (.cells #[.slice none 0 0] 32)).alloc (.cells #[.pointer (some ⟨gb, 0, none⟩)] 28)).heap.size = w.heap.size + 2 := by simp
  have e3 : (((w.alloc (.cells #[.slice none 0 0] 32)).alloc (.cells #[.pointer (some ⟨gb, 0, none⟩)] 28)).alloc (.cells #[.int .i64 k] 3)).heap.size = w.heap.size + 3 := by simp
  have e4 : ((((w.alloc (.cells #[.slice none 0 0] 32)).alloc (.cells #[.pointer (some ⟨gb, 0, none⟩)] 28)).alloc (.cells #[.int .i64 k] 3)).alloc (.cells #[.int .i64 1] 3)).heap.size = w.heap.size + 4 := by simp
  rw [e1] at b1
  rw [e2] at b2
  rw [e3] at b3
  have o2' : Only NoB ((w.alloc (.cells #[.slice none 0 0] 32)).alloc (.cells #[.pointer (some ⟨gb, 0, none⟩)] 28)) (((w.alloc (.cells #[.slice none 0 0] 32)).alloc (.cells #[.pointer (some ⟨gb, 0, none⟩)] 28)).alloc (.cells #[.int .i64 k] 3)) := (Only.refl _ _).alloc _
  have o3' : Only NoB (((w.alloc (.cells #[.slice none 0 0] 32)).alloc (.cells #[.pointer (some ⟨gb, 0, none⟩)] 28)).alloc (.cells #[.int .i64 k] 3)) ((((w.alloc (.cells #[.slice none 0 0] 32)).alloc (.cells #[.pointer (some ⟨gb, 0, none⟩)] 28)).alloc (.cells #[.int .i64 k] 3)).alloc (.cells #[.int .i64 1] 3)) := (Only.refl _ _).alloc _
  have b1 := (o2'.trans o3').cell b1 (fun f => f)
  have b2 := o3'.cell b2 (fun f => f)
  have oo : Only NoB w ((((w.alloc (.cells #[.slice none 0 0] 32)).alloc (.cells #[.pointer (some ⟨gb, 0, none⟩)] 28)).alloc (.cells #[.int .i64 k] 3)).alloc (.cells #[.int .i64 1] 3)) := ((((Only.refl _ _).alloc _).alloc _).alloc _).alloc _
  have bO := ((bO.alloc (.cells #[.pointer (some ⟨gb, 0, none⟩)] 28)).alloc (.cells #[.int .i64 k] 3)).alloc (.cells #[.int .i64 1] 3)
  clear e1 e2 e3 o2' o3'
  have hB0 := oo.below
  rw [show w.heap.size + 1 + 1 = w.heap.size + 2 by omega, show w.heap.size + 1 + 2 = w.heap.size + 3 by omega]
  generalize World.alloc (World.alloc (World.alloc (World.alloc w _) _) _) _ = W0 at *
  refine wpIn_rangeFunc_ownG rfl (by omega) (gf := 29) (lb := #[.pointer (some ⟨w.heap.size + 1, 0, none⟩), .pointer (some ⟨w.heap.size + 2, 0, none⟩), .pointer (some ⟨w.heap.size + 3, 0, none⟩)]) rfl trivial (enters_of Try.func29 (by kernel_rfl) rfl)
    (piece_stops (α := Int) id (fun j => (ls (o1 + j) : Int)) 4 (by omega) (w.heap.size + 1) (w.heap.size + 2) (w.heap.size + 3) w.heap.size gb n m k 1 lb lc sb sc o1 o2 ls (fun j _ => rfl) W0 (by omega) (by omega) (by omega) lg lsb llb (by omega) b1 b2 b3 (by omega) hk hn (oo.cell hc0 (fun f => f)) (oo.cell hc2 (fun f => f)) (oo.cell hc3 (fun f => f)) (oo.cell hs1 (fun f => f)) (oo.cell hs2 (fun f => f)) ho ho2 hm hlc (fun j hj => oo.cell (HS.out j hj) (fun f => f)))
    belowK_t (belowK_b (by omega)) (Below.refl _ _) (fun _ => rfl)
    (fun pre W => (∃ v, Boxed W w.heap.size 32 v ∧ W.ownsRow w.heap.size 3 1 v pre.length (pre.map (Value.int .i64)) ∧ (v = .slice none 0 0 ↔ pre = [])) ∧ Below w.heap.size w W)
    (fun _ _ _ => False)
    (OwnFrom.and (Own.from (holdsRow_own w.heap.size w.heap.size 32 3 1 (fun pre => pre.length) (fun pre => pre.map (Value.int .i64)) (fun pre v => v = .slice none 0 0 ↔ pre = [])) _) (ownFrom_below (Nat.le_refl _) (by omega)))
    (fun _ _ _ _ _ hs _ _ => hs)
    ⟨⟨_, bO, World.ownsRow_nil _ _ _ _, by simp⟩, hB0⟩
    (fun x => { tmps := #[.pointer (some ⟨gb, 0, none⟩), .int .i64 k, undef, undef, .slice none 0 0, .pointer (some ⟨w.heap.size, 0, none⟩), .int .i64 x, .pointer (some ⟨gb, 0, none⟩), .int .i64 k, .func (.func 29) #[] #[.pointer (some ⟨w.heap.size + 1, 0, none⟩), .pointer (some ⟨w.heap.size + 2, 0, none⟩), .pointer (some ⟨w.heap.size + 3, 0, none⟩)], .int .i64 x, undef, undef, undef, undef, undef], defers := [] }) ?assign ?body ?done ?stop
  case assign =>
    intro l x W K hK
    gi_wp2
    exact hK
  case body =>
    rintro l pre x W ⟨⟨v, hv, hrow, hnil⟩, hB⟩ hlt
    have hc := hv.cell
    have hz := hB.size
    gi_wp2_with (gi_at_builtin; refine wpListIn_append_own _ rfl _ _ 32 rfl w.heap.size 3 i0 (.int .i64 0) 1 8 Try.underlying32 hi hz0 hz1 hz2 rfl (by decide) _ _ _ rfl (hrow.alloc _) ⟨W.heap.size, 0, none⟩ 1 1 [.int .i64 x] rfl rfl (cell_one_new _ _ _) (by simp [Value.oneCell']) (by unfold maxLen; omega) (by omega) (by simp; omega) ?_; intro v' w1 hown' hgrow _; obtain ⟨g', cap', rfl⟩ := ownsRow_succ hown'; obtain ⟨hv1, hv2, hr2, hk2, hb2⟩ := hv.appended (by decide) hrow hB.size (Nat.le_refl _) hown' hgrow; have hc1 := hv1.cell; have hf1 := hv1.frozen)
    exact ⟨hk2.from _, hb2, ⟨_, hv2, by simpa using hr2, by simp⟩, hB.trans hb2⟩
  case done =>
    rintro D ys W hD rfl ⟨⟨v, hv, hrow, hnil⟩, hB⟩ hK
    have hc := hv.cell
    gi_wp2
    refine ⟨by simp, .inl ⟨_, _, rfl, run_takeDeferred hK, ?_⟩⟩
    rw [upto_length] at hrow
    exact ⟨_, results_tmp rfl _ _ _, v, rfl, ownsRow_putObj hrow _ hK rfl, hB.trans (belowK_b (w := w) (Nat.le_refl _) W D _ _ (by omega) hK rfl rfl)⟩
  case stop =>
    rintro D c pre W _ _ h _
    exact h.elim
end Go.Proofs.Ytgaekihcfcoaeaa
