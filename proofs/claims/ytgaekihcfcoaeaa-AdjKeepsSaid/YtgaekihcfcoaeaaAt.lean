/-
  THE WALK of adj.Graph.At.
-/
import Derived.Test.YtgaekihcfcoaeaaOutIn
import Derived.Test.YtgaekihcfcoaeaaShelf
import Derived.Test.YtgaekihcfcoaeaaRoundSched
import Derived.Sort.OwnSortedInts
set_option linter.unusedVariables false
set_option linter.unusedSimpArgs false
namespace Go.Proofs.Ytgaekihcfcoaeaa
open Go.RowKit Go.Shelf

attribute [local go_sem] Oper.semAt_some

/-- an arc's number, of m arcs (if there are any) -/
abbrev Num (m : Nat) := { x : Int // m = 0 ∨ (0 ≤ x ∧ x < m) }
def numOf (m : Nat) (x : Nat) : Num m := if h : x < m then ⟨(x : Int), .inr ⟨by omega, by omega⟩⟩ else ⟨0, by omega⟩
theorem numOf_val (m x : Nat) (h : x < m) : (numOf m x).1 = (x : Int) := by unfold numOf; rw [dif_pos h]
/-- those that do not begin at k -/
def notFrom {m : Nat} (A : Nat → A5) (k : Nat) (l : List (Num m)) : List Int := (l.filter fun x => (A x.1.toNat).f != (k : Int)).map (·.1)
theorem notFrom_yes {m : Nat} (A : Nat → A5) (k : Nat) (l : List (Num m)) (x : Num m) (h : ((A x.1.toNat).f != (k : Int)) = true) : notFrom A k (l ++ [x]) = notFrom A k l ++ [x.1] := by
  unfold notFrom
  rw [List.filter_append, List.map_append]
  simp [h]
theorem notFrom_no {m : Nat} (A : Nat → A5) (k : Nat) (l : List (Num m)) (x : Num m) (h : ((A x.1.toNat).f != (k : Int)) = false) : notFrom A k (l ++ [x]) = notFrom A k l := by
  unfold notFrom
  rw [List.filter_append, List.map_append]
  simp [h]
theorem notFrom_len {m : Nat} (A : Nat → A5) (k : Nat) (l : List (Num m)) : (notFrom A k l).length ≤ l.length := by
  unfold notFrom
  rw [List.length_map]
  exact List.length_filter_le _ _

theorem own_mono {w : World} {base base' : Nat} {e : TypeId} {size : Nat} {v : Value} {n : Nat} {xs : List Value} (h : w.ownsRow base e size v n xs) (hb : base' ≤ base) : w.ownsRow base' e size v n xs := by
  refine ⟨h.1, ?_⟩
  rcases h.2 with hn | ⟨g, cap, cur, rfl, hb', rest⟩
  · exact .inl hn
  · exact .inr ⟨g, cap, cur, rfl, Nat.le_trans hb hb', rest⟩
theorem sort_own {base : Nat} {w : World} {v : Value} {zs : List Int} (h : w.ownsRow base 3 1 v zs.length (zs.map (Value.int .i64))) (hz : zs.length ≤ 1000) :
    Calls Try.prog 24 #[v] w fun e w' => e = .returned (.tuple #[]) ∧ w'.ownsRow base 3 1 v zs.length ((zs.mergeSort fun x y => decide (x ≤ y)).map (Value.int .i64)) ∧ w.grownBy w' v.ownBlock := by
  rcases h.2 with ⟨rfl, h0⟩ | ⟨g, cap, cur, rfl, hg, hb, h1, h2, h3, ht⟩
  · have e : zs = [] := List.eq_nil_of_length_eq_zero h0
    subst e
    refine (Try.slices_Sort_int_none none 0 w).mono ?_
    rintro e w' ⟨rfl, rfl⟩
    exact ⟨rfl, by rw [List.mergeSort_nil]; exact World.ownsRow_nil _ _ _ _, rfl, rfl, rfl, Nat.le_refl _, fun _ _ _ => rfl⟩
  · rw [Nat.mul_one] at ht
    by_cases e0 : zs = []
    · subst e0
      refine (Try.slices_Sort_int_none (some ⟨g, 0, none⟩) cap w).mono ?_
      rintro e w' ⟨rfl, rfl⟩
      exact ⟨rfl, by rw [List.mergeSort_nil]; exact h, rfl, rfl, rfl, Nat.le_refl _, fun _ _ _ => rfl⟩
    · refine (Try.slices_Sort_int g 0 cap zs w (holds_of_blockI hb ht) (lt_of_heap hb) (by omega)).mono ?_
      rintro e w' ⟨rfl, n, os, rfl⟩
      exact ⟨rfl, ownsRow_sortedI (by simp) hg hb h1 h2 h3, grownBy_sortedI _⟩

set_option maxRecDepth 100000 in
set_option maxHeartbeats 4000000 in
theorem at_any (p : Nat → Prop) (gb n m k o1 o2 q1 q2 : Nat) (A : Nat → A5) (ls st : Nat → Nat) (w : World) (hg : Gr p w gb n m A ls st) (hk : k < n) (e1 : st (2 * k + 0) = o1) (e2 : st (2 * k + 0 + 1) = o2) (ho : o1 ≤ o2) (ho2 : o2 ≤ 2 * m)
    (f1 : st (2 * k + 1) = q1) (f2 : st (2 * k + 1 + 1) = q2) (hq : q1 ≤ q2) (hq2 : q2 ≤ 2 * m) (hl : ∀ j, j < 2 * m → ls j < m) :
    Calls Try.prog 12 #[.pointer (some ⟨gb, 0, none⟩), .int .i64 k] w fun e W' => ∃ v zs, e = .returned v ∧ W'.ownsRow w.heap.size 3 1 v zs.length (zs.map (Value.int .i64)) ∧
      zs = (upto (fun j => (ls (o1 + j) : Int)) (o2 - o1) ++ notFrom A k (upto (fun j => numOf m (ls (q1 + j))) (q2 - q1))).mergeSort (fun x y => decide (x ≤ y)) ∧ Below w.heap.size w W' := by
  have HGR := Lib.hid hg
  obtain ⟨⟨hn, hm⟩, hgood, _, a, c, lb, lc, sb, sc, hb, _, _, ⟨hlc, llb⟩, harcs, hls, hst⟩ := hg
  have hc0 := (cell_in _ _ 0 _ _ _ hb).trans rfl
  have hc1 := (cell_in _ _ 1 _ _ _ hb).trans rfl
  have hc2 := (cell_in _ _ 2 _ _ _ hb).trans rfl
  have hc3 := (cell_in _ _ 3 _ _ _ hb).trans rfl
  have hs1 := hst (2 * k + 1) (by omega)
  have hs2 := hst (2 * k + 1 + 1) (by omega)
  rw [f1] at hs1
  rw [f2] at hs2
  have lg := lt_of_heap hb
  have lsb := World.block_lt_of_cell? _ _ hs1
  have HS := Lib.hid hls
  have HA := Lib.hid harcs
  have HL := Lib.hid hl
  clear hb hst hls harcs hl hgood
  obtain ⟨i0, hi, hz0, hz1, hz2⟩ := info_parts info3
  have CO : Hid (∀ W, Only NoB w W → Calls Try.prog 7 #[.pointer (some ⟨gb, 0, none⟩), .int .i64 k] W fun e W' => ∃ v, e = .returned v ∧ W'.ownsRow W.heap.size 3 1 v (o2 - o1) ((upto (fun j => (ls (o1 + j) : Int)) (o2 - o1)).map (Value.int .i64)) ∧ Below W.heap.size W W') := fun W o => out_any p gb n m k o1 o2 A ls st W (HGR.out.kept o (fun _ _ f => f)) hk e1 e2 ho ho2
  clear HGR e1 e2 f1 f2
  refine (callsIn_wide (n := 5)).1 ?_
  refine callsIn_of_wp_marks Try.func12 rfl trivial ?_ rfl
  simp only [Try.ntmps12, List.size_toArray, List.length_cons, List.length_nil, Nat.reduceAdd, Nat.reduceSub, Array.replicate_succ, Array.replicate_zero, List.push_toArray, List.append_toArray, List.nil_append, List.cons_append]
  gi_wp2
  have bG := (Boxed.new w 28 (.pointer (some ⟨gb, 0, none⟩))).alloc (.cells #[.int .i64 k] 3)
  have bN := Boxed.new (w.alloc (.cells #[.pointer (some ⟨gb, 0, none⟩)] 28)) 3 (.int .i64 k)
  have z0 : (w.alloc (.cells #[.pointer (some ⟨gb, 0, none⟩)] 28)).heap.size = w.heap.size + 1 := by simp
  rw [z0] at bN
  have o0 : Only NoB w ((w.alloc (.cells #[.pointer (some ⟨gb, 0, none⟩)] 28)).alloc (.cells #[.int .i64 k] 3)) := ((Only.refl _ _).alloc _).alloc _
  have z2 : ((w.alloc (.cells #[.pointer (some ⟨gb, 0, none⟩)] 28)).alloc (.cells #[.int .i64 k] 3)).heap.size = w.heap.size + 2 := by simp
  generalize World.alloc (World.alloc w _) _ = Wb at *
  clear z0
  refine ⟨trivial, ?_⟩
  refine (callsIn_wide.2 (CO.out _ o0)).mono ?_
  rintro e w1 ⟨v, rfl, hrow, hbel⟩
  rw [z2] at hrow
  have o1' := o0.trans (Only.of_below hbel)
  have bG : Boxed w1 w.heap.size 28 (.pointer (some ⟨gb, 0, none⟩)) := (hbel.block w.heap.size (by omega)).trans bG
  have bN : Boxed w1 (w.heap.size + 1) 3 (.int .i64 k) := (hbel.block (w.heap.size + 1) (by omega)).trans bN
  have z3 := hbel.size
  rw [z2] at z3
  obtain ⟨va, vb, vc, rfl⟩ : ∃ a b c, v = .slice a b c := by
    rcases hrow.2 with ⟨rfl, _⟩ | ⟨g, cap, cur, rfl, _⟩
    · exact ⟨_, _, _, rfl⟩
    · exact ⟨_, _, _, rfl⟩
  have cG := bG.cell
  have cN := bN.cell
  have lt1 : w.heap.size < w1.heap.size := by omega
  have lt2 : w.heap.size + 1 < w1.heap.size := by omega
  clear hbel z2
  gi_wp2_with (refine ⟨trivial, ?_⟩; gi_at_call 20; refine (piece_in 4 _ _ _ _ ⟨_, rfl⟩ ⟨_, rfl⟩ ⟨_, rfl⟩).mono ?_; rintro e w' ⟨rfl, rfl⟩)
  have bO := Boxed.new w1 32 (.slice va vb vc)
  have z4 : (w1.alloc (.cells #[.slice va vb vc] 32)).heap.size = w1.heap.size + 1 := by simp
  have oA : Only NoB w1 (w1.alloc (.cells #[.slice va vb vc] 32)) := (Only.refl _ _).alloc _
  have hrow := hrow.alloc (.cells #[.slice va vb vc] 32)
  have bG := bG.alloc (.cells #[.slice va vb vc] 32)
  have bN := bN.alloc (.cells #[.slice va vb vc] 32)
  generalize hw2 : w1.alloc (.cells #[.slice va vb vc] 32) = w2 at *
  have b1 := (cell_in _ _ 0 _ _ _ (heap_alloc_new w2 (.cells #[.pointer (some ⟨gb, 0, none⟩)] 28))).trans rfl
  have b2 := (cell_in _ _ 0 _ _ _ (heap_alloc_new (w2.alloc (.cells #[.pointer (some ⟨gb, 0, none⟩)] 28)) (.cells #[.int .i64 k] 3))).trans rfl
  have b3 := (cell_in _ _ 0 _ _ _ (heap_alloc_new ((w2.alloc (.cells #[.pointer (some ⟨gb, 0, none⟩)] 28)).alloc (.cells #[.int .i64 k] 3)) (.cells #[.int .i64 1] 3))).trans rfl
  have s2 : (w2.alloc (.cells #[.pointer (some ⟨gb, 0, none⟩)] 28)).heap.size = w2.heap.size + 1 := by simp
  have s3 : ((w2.alloc (.cells #[.pointer (some ⟨gb, 0, none⟩)] 28)).alloc (.cells #[.int .i64 k] 3)).heap.size = w2.heap.size + 2 := by simp
  have s4 : (((w2.alloc (.cells #[.pointer (some ⟨gb, 0, none⟩)] 28)).alloc (.cells #[.int .i64 k] 3)).alloc (.cells #[.int .i64 1] 3)).heap.size = w2.heap.size + 3 := by simp
  rw [s2] at b2
  rw [s3] at b3
  have o2' : Only NoB (w2.alloc (.cells #[.pointer (some ⟨gb, 0, none⟩)] 28)) ((w2.alloc (.cells #[.pointer (some ⟨gb, 0, none⟩)] 28)).alloc (.cells #[.int .i64 k] 3)) := (Only.refl _ _).alloc _
  have o3' : Only NoB ((w2.alloc (.cells #[.pointer (some ⟨gb, 0, none⟩)] 28)).alloc (.cells #[.int .i64 k] 3)) (((w2.alloc (.cells #[.pointer (some ⟨gb, 0, none⟩)] 28)).alloc (.cells #[.int .i64 k] 3)).alloc (.cells #[.int .i64 1] 3)) := (Only.refl _ _).alloc _
  have b1 := (o2'.trans o3').cell b1 (fun f => f)
  have b2 := o3'.cell b2 (fun f => f)
  have oo : Only NoB w2 (((w2.alloc (.cells #[.pointer (some ⟨gb, 0, none⟩)] 28)).alloc (.cells #[.int .i64 k] 3)).alloc (.cells #[.int .i64 1] 3)) := (((Only.refl _ _).alloc _).alloc _).alloc _
  have bO := ((bO.alloc (.cells #[.pointer (some ⟨gb, 0, none⟩)] 28)).alloc (.cells #[.int .i64 k] 3)).alloc (.cells #[.int .i64 1] 3)
  have hrow := ((hrow.alloc (.cells #[.pointer (some ⟨gb, 0, none⟩)] 28)).alloc (.cells #[.int .i64 k] 3)).alloc (.cells #[.int .i64 1] 3)
  have bG := ((bG.alloc (.cells #[.pointer (some ⟨gb, 0, none⟩)] 28)).alloc (.cells #[.int .i64 k] 3)).alloc (.cells #[.int .i64 1] 3)
  have bN := ((bN.alloc (.cells #[.pointer (some ⟨gb, 0, none⟩)] 28)).alloc (.cells #[.int .i64 k] 3)).alloc (.cells #[.int .i64 1] 3)
  clear s2 s3 o2' o3'
  have oW : Only NoB w _ := (o1'.trans oA).trans oo
  rw [z4] at b1 b2 b3 s4
  generalize World.alloc (World.alloc (World.alloc w2 _) _) _ = W0 at *
  clear hw2 oA oo lt1 lt2 cG cN o1' o0
  generalize hX : w1.heap.size = X at *
  clear hX z4 CO
  generalize hh : w.heap.size = h at *
  have HH := Lib.hid hh
  refine wpIn_rangeFunc_ownG rfl (by omega) (gf := 29) (lb := #[.pointer (some ⟨X + 1, 0, none⟩), .pointer (some ⟨X + 1 + 1, 0, none⟩), .pointer (some ⟨X + 1 + 2, 0, none⟩)]) rfl trivial (enters_of Try.func29 (by kernel_rfl) rfl)
    (piece_stops (α := Num m) (fun x => x.1) (fun j => numOf m (ls (q1 + j))) 4 (by omega) (X + 1) (X + 1 + 1) (X + 1 + 2) (h + 2) gb n m k 1 lb lc sb sc q1 q2 ls (fun j hj => numOf_val m _ (HL.out _ (by omega))) W0 (by omega) (by omega) (by omega) (by omega) (by omega) (by omega) (by omega) b1 b2 b3 (by omega) hk hn (oW.cell hc0 (fun f => f)) (oW.cell hc2 (fun f => f)) (oW.cell hc3 (fun f => f)) (oW.cell hs1 (fun f => f)) (oW.cell hs2 (fun f => f)) hq hq2 hm hlc (fun j hj => oW.cell (HS.out j hj) (fun f => f)))
    belowK_t (belowK_b (by omega)) (Below.refl _ _) (fun _ => rfl)
    (fun pre W => (∃ v, Boxed W X 32 v ∧ W.ownsRow (h + 2) 3 1 v (upto (fun j => (ls (o1 + j) : Int)) (o2 - o1) ++ notFrom A k pre).length ((upto (fun j => (ls (o1 + j) : Int)) (o2 - o1) ++ notFrom A k pre).map (Value.int .i64)) ∧ True) ∧ Below (h + 2) W0 W)
    (fun _ _ _ => False)
    (OwnFrom.and (Own.from (holdsRow_own (h + 2) X 32 3 1 (fun pre => (upto (fun j => (ls (o1 + j) : Int)) (o2 - o1) ++ notFrom A k pre).length) (fun pre => (upto (fun j => (ls (o1 + j) : Int)) (o2 - o1) ++ notFrom A k pre).map (Value.int .i64)) (fun pre v => True)) _) (ownFrom_below (by omega) (by omega)))
    (fun _ _ _ _ _ hs _ _ => hs)
    ⟨⟨_, bO, by rw [show notFrom A k ([] : List (Num m)) = [] from rfl, List.append_nil, upto_length]; exact hrow, trivial⟩, Below.refl _ _⟩
    (fun x => { tmps := #[.pointer (some ⟨gb, 0, none⟩), .int .i64 k, .pointer (some ⟨h, 0, none⟩), .pointer (some ⟨h + 1, 0, none⟩), .slice none 0 0, .pointer (some ⟨X, 0, none⟩), .int .i64 x.1, .pointer (some ⟨gb, 0, none⟩), .int .i64 k, .slice va vb vc, .pointer (some ⟨gb, 0, none⟩), .int .i64 k, .func (.func 29) #[] #[.pointer (some ⟨X + 1, 0, none⟩), .pointer (some ⟨X + 1 + 1, 0, none⟩), .pointer (some ⟨X + 1 + 2, 0, none⟩)], .int .i64 x.1, undef, undef, undef, undef, undef, undef, undef, undef, undef, undef, undef, undef, undef, undef, undef, undef, undef], defers := [] }) ?assign ?body ?done ?stop
  case assign =>
    intro l x W K hK
    gi_wp2
    exact hK
  case body =>
    rintro l pre x W ⟨⟨v, hv, hrow, _⟩, hB⟩ hlt
    have hc := hv.cell
    have hz := hB.size
    have cG := (show Boxed W h 28 _ from (hB.block h (by omega)).trans bG).cell
    have cN := (show Boxed W (h + 1) 3 _ from (hB.block (h + 1) (by omega)).trans bN).cell
    have gc1 := (hB.cell (p := ⟨gb, 1, none⟩) (by show gb < _; omega)).trans (oW.cell hc1 (fun f => f))
    obtain ⟨j, hj, hjm⟩ : ∃ j : Nat, x.1 = j ∧ j < m := by
      rcases x.2 with e | ⟨e1, e2⟩
      · omega
      · exact ⟨x.1.toNat, by omega, by omega⟩
    obtain ⟨ab, ao, ea, _, hx⟩ := HA.out (by omega)
    have ej := oW.cell (hx j hjm).1 (fun f => f)
    have lab := World.block_lt_of_cell? _ _ (hx j hjm).1
    rw [HH.out] at lab
    have lab : ab < h := lab
    have ej := (hB.cell (p := ⟨ab, ao + j * 5, none⟩) (by show ab < _; omega)).trans ej
    have lj : (j : Int) < m := by omega
    rw [hj]
    subst ea
    clear hx
    gi_wp2
    refine wpIn_region_along (fun w' => w' = W.drew) [(0, true), (1, true), (2, true), (3, true), (4, true), (5, true), (6, true), (7, true), (8, true), (9, true)] (by kernel_rfl) (by kernel_rfl) (by kernel_rfl) rfl ?_
    have cG : W.drew.cell? ⟨h, 0, none⟩ = _ := cG
    have cN : W.drew.cell? ⟨h + 1, 0, none⟩ = _ := cN
    have gc1 : W.drew.cell? ⟨gb, 1, none⟩ = _ := gc1
    have ej : W.drew.cell? ⟨ab, ao + j * 5, none⟩ = _ := ej
    have hv : Boxed W.drew X 32 v := hv
    have hrow := hrow.drew
    have hKd : KeepsFrom W0.heap.size W W.drew := (KeepsOthers.drew W).from _
    have hBd : Below (h + 2) W W.drew := Below.drew (Below.refl _ _)
    generalize W.drew = Y at *
    repeat (first | (refine' along_take (by simp only [List.getElem?_cons_succ, List.getElem?_cons_zero]; rfl) (by rfl) ?_ ?_ ?_; rotate_left 2; (intro w' hS; subst hS; go_simp; try rfl); (simp only [Act.put, List.setIfInBounds_toArray, List.set_cons_zero, List.set_cons_succ]; try rfl)) | (refine' along_skip (by simp only [List.getElem?_cons_succ, List.getElem?_cons_zero]; rfl) (by rfl) ?_ ?_; rotate_left 1; (simp only [Act.put, List.setIfInBounds_toArray, List.set_cons_zero, List.set_cons_succ]; try rfl)))
    refine along_done ?_
    have hnl := notFrom_len A k pre
    have hul := upto_length (fun j => (ls (o1 + j) : Int)) (o2 - o1)
    have hll : (upto (fun j => (ls (o1 + j) : Int)) (o2 - o1) ++ notFrom A k pre).length ≤ 160 := by rw [List.length_append, hul]; omega
    have hc2 := hv.cell
    have hBY : Below (h + 2) W0 Y := hB.trans hBd
    have hzY := hBY.size
    have xj : x.1.toNat = j := by omega
    cases hb2 : ((A j).f != (k : Int))
    · have FN := notFrom_no A k pre x (by rw [xj]; exact hb2)
      gi_wp2
      exact ⟨hKd, hBd, ⟨v, hv, by rw [FN]; exact hrow, trivial⟩, hBY⟩
    · have FN := notFrom_yes A k pre x (by rw [xj]; exact hb2)
      have FN := Lib.hid FN
      clear hnl hul
      generalize hzz : upto (fun j => (ls (o1 + j) : Int)) (o2 - o1) ++ notFrom A k pre = zz at *
      have HZ := Lib.hid hzz
      clear hzz
      gi_wp2_with (gi_at_builtin; refine wpListIn_append_own _ rfl _ _ 32 rfl (h + 2) 3 i0 (.int .i64 0) 1 8 Try.underlying32 hi hz0 hz1 hz2 rfl (by decide) _ _ _ rfl (hrow.alloc _) ⟨Y.heap.size, 0, none⟩ 1 1 [.int .i64 j] rfl rfl (cell_one_new _ _ _) (by simp [Value.oneCell']) (by unfold maxLen; omega) (by omega) (by simp; omega) ?_; intro v' w1 hown' hgrow _; obtain ⟨g', cap', rfl⟩ := ownsRow_succ hown'; obtain ⟨hv1, hv2, hr2, hk2, hb2⟩ := hv.appended (by decide) hrow (by omega) (by omega) hown' hgrow; have hc1 := hv1.cell; have hf1 := hv1.frozen)
      have fit : (upto (fun j => (ls (o1 + j) : Int)) (o2 - o1) ++ notFrom A k (pre ++ [x])) = zz ++ [(j : Int)] := by rw [FN.out, hj, ← List.append_assoc, HZ.out]
      exact ⟨hKd.trans (hk2.from _), hBd.trans hb2, ⟨_, hv2, by rw [fit]; simpa using hr2, trivial⟩, hBY.trans hb2⟩
  case done =>
    rintro D ys W hD rfl ⟨⟨v, hv, hrow, _⟩, hB⟩ hK
    have hc := hv.cell
    have hz := hB.size
    have hnl := notFrom_len A k (upto (fun j => numOf m (ls (q1 + j))) (q2 - q1))
    have hul := upto_length (fun j => (ls (o1 + j) : Int)) (o2 - o1)
    have hql := upto_length (fun j => numOf m (ls (q1 + j))) (q2 - q1)
    have hll : (upto (fun j => (ls (o1 + j) : Int)) (o2 - o1) ++ notFrom A k (upto (fun j => numOf m (ls (q1 + j))) (q2 - q1))).length ≤ 160 := by rw [List.length_append, hul]; omega
    have SO := Lib.hid (sort_own hrow (by omega))
    obtain ⟨ua, ub, uc, rfl⟩ : ∃ a b c, v = .slice a b c := by
      rcases hrow.2 with ⟨rfl, _⟩ | ⟨g, cap, cur, rfl, _⟩
      · exact ⟨_, _, _, rfl⟩
      · exact ⟨_, _, _, rfl⟩
    have nX := hv.not_row (by decide : (32 : Nat) ≠ 3) hrow
    have nD : (Value.slice ua ub uc).ownBlock ≠ some D := by
      intro e
      have := hrow.lt D e
      rcases hrow.2 with ⟨e2, _⟩ | ⟨g, cap, cur, e2, _, hgb, _⟩
      · cases e2; cases e
      · rw [e2] at e
        cases e
        rw [hgb] at hK
        cases hK
    generalize hzs : upto (fun j => (ls (o1 + j) : Int)) (o2 - o1) ++ notFrom A k (upto (fun j => numOf m (ls (q1 + j))) (q2 - q1)) = zs at *
    have HZ := Lib.hid hzs
    clear hzs
    gi_wp2_with (refine ⟨trivial, ?_⟩; gi_at_call 24; refine (callsIn_wide.2 SO.out).mono ?_; rintro e w7 ⟨rfl, hr7, hg7⟩; have hv7 : Boxed w7 X 32 (.slice ua ub uc) := hv.kept hg7 nX; have hc7 := hv7.cell)
    have hK7 := (hg7.block D (lt_of_heap hK) (fun e => nD e.symm)).trans hK
    have hB7 : Below (h + 2) W w7 := (Below.refl _ _).grown hg7 (by omega) (fun q e => (hrow.lt q e).1)
    refine ⟨by simp, .inl ⟨_, _, rfl, run_takeDeferred hK7, ?_⟩⟩
    have hrf := own_mono (ownsRow_putObj hr7 (.deferred none) hK7 rfl) (Nat.le_add_right h 2)
    have hbf := ((oW.below.mono (Nat.le_of_eq HH.out.symm)).trans ((hB.trans hB7).mono (Nat.le_add_right h 2))).trans (belowK_b (w := W0) (n₀ := h) (by omega) w7 D _ (.deferred none) (by omega) hK7 rfl rfl)
    refine ⟨_, results_tmp rfl _ _ _, .slice ua ub uc, (zs.mergeSort fun x y => decide (x ≤ y)), rfl, ?_, by rw [HZ.out], ?_⟩
    · rw [List.length_mergeSort, HH.out]
      exact hrf
    · rw [HH.out]
      exact hbf
  case stop =>
    rintro D c pre W _ _ h _
    exact h.elim
end Go.Proofs.Ytgaekihcfcoaeaa
