/-
  THE WALK of quittancelaw04.AdjKeeps.
-/
import Derived.Test.YtgaekihcfcoaeaaSome
import Derived.Test.YtgaekihcfcoaeaaMore
set_option linter.unusedVariables false
set_option linter.unusedSimpArgs false
namespace Go.Proofs.Ytgaekihcfcoaeaa
open Go.RowKit

theorem Made.lt {p : Nat → Prop} {w : World} {gb n m : Nat} {A : Nat → A5} (h : Made p w gb n m A) : Made (fun b => p b ∧ b < w.heap.size) w gb n m A := by
  obtain ⟨h1, h2, h3, a, c, lb, lc, sb, sc, hb, pl, ps, hl, ha, hls, hst⟩ := h
  exact ⟨h1, h2, ⟨h3, lt_of_heap hb⟩, a, c, lb, lc, sb, sc, hb, ⟨pl, hl.2⟩, ⟨ps, World.block_lt_of_cell? _ _ (hst 0 (by omega))⟩, hl, ha.lt, hls, hst⟩
/-- arcs of a graph by number -/
theorem arc_told (p : Nat → Prop) (gb n m j : Nat) (A : Nat → A5) (w : World) (hg : Made p w gb n m A) (hj : j < m) :
    Calls Try.prog 8 #[.pointer (some ⟨gb, 0, none⟩), .int .i64 j] w fun e w' => e = .returned (.tuple #[(A j).val, .bool true]) ∧ Only NoB w w' := by
  obtain ⟨⟨hn, hm⟩, hgood, _, a, c, lb, lc, sb, sc, hb, _, _, _, ha, _, _⟩ := hg
  obtain ⟨g1, g2, g3, g4⟩ := hgood j hj
  exact arc_yes p gb n m j c a A w (lt_of_heap hb) ((cell_in _ _ 0 _ _ _ hb).trans rfl) ((cell_in _ _ 1 _ _ _ hb).trans rfl) ha hj hm g1 g2 g3 g4
/-- a block of cells, of whatever values -/
def RowX (w : World) (b len : Nat) (t : TypeId) : Prop := ∃ cur, w.heap[b]? = some (.cells cur t (0, 0)) ∧ len ≤ cur.size
theorem RowX.at {w : World} {b len : Nat} {t : TypeId} (h : RowX w b len t) (j : Nat) (hj : j < len) : ∃ z, w.cell? ⟨b, j, none⟩ = some z := by
  obtain ⟨cur, h1, h2⟩ := h
  exact ⟨cur[j], by rw [cell_in _ _ _ _ _ _ h1, Array.getElem?_eq_getElem (by omega)]⟩
theorem RowX.lt {w : World} {b len : Nat} {t : TypeId} (h : RowX w b len t) : b < w.heap.size := by
  obtain ⟨cur, h1, h2⟩ := h
  exact lt_of_heap h1
theorem RowX.fz {w : World} {b len : Nat} {t : TypeId} (h : RowX w b len t) (j : Nat) : w.frozen? ⟨b, j, none⟩ = false := by
  obtain ⟨cur, h1, h2⟩ := h
  exact frozen_in _ _ _ _ _ h1
theorem RowX.set {w : World} {b len : Nat} {t : TypeId} (h : RowX w b len t) (j : Nat) (v : Value) : RowX (w.setCell ⟨b, j, none⟩ v) b len t := by
  obtain ⟨cur, h1, h2⟩ := h
  exact ⟨_, heap_setCell_at _ _ _ _ _ _ _ h1, by simpa using h2⟩
theorem RowX.kept {S : Nat → Prop} {w w' : World} {b len : Nat} {t : TypeId} (h : RowX w b len t) (o : Only S w w') (hs : ¬ S b) : RowX w' b len t := by
  obtain ⟨cur, h1, h2⟩ := h
  exact ⟨cur, (o.block b (lt_of_heap h1) hs).trans h1, h2⟩

set_option maxRecDepth 100000 in
set_option maxHeartbeats 4000000 in
theorem keeps_walk (a a2 : Option Addr) (len cap len2 cap2 : Nat) (f f2 : Nat → Int) (x : Int) (hx : 0 ≤ x ∧ x ≤ 255) (w : World) (h : BytesIn w a len f) (h2 : BytesIn w a2 len2 f2) :
    Calls Try.prog 3 #[.slice a len cap, .slice a2 len2 cap2, .int .u8 x] w fun e w' => e = .returned (.bool true) ∧ Below w.heap.size w w' := by
  obtain ⟨n, hn⟩ : ∃ n, n = nNode len2 f2 := ⟨_, rfl⟩
  have n1 : 0 < n ∧ n ≤ 7 := by rw [hn]; unfold nNode; split <;> omega
  obtain ⟨m, hm⟩ : ∃ m, m = nArc len := ⟨_, rfl⟩
  have m1 : m ≤ 18 := by rw [hm]; exact Nat.min_le_right _ _
  obtain ⟨A, hA⟩ : ∃ A, A = arcB f n := ⟨_, rfl⟩
  have GOOD : Hid (∀ q, 0 ≤ (A q).f ∧ (A q).f < n ∧ 0 ≤ (A q).t ∧ (A q).t < n) := by rw [hA]; exact arcB_good f n n1.1 h.2.1
  have HI : Hid (∀ W, Only NoB w W → Calls Try.prog 5 #[.slice a len cap, .slice a2 len2 cap2] W fun e w' => (∃ sb ra rc, e = .returned (.agg #[.slice (some ⟨sb, 0, none⟩) n n, .slice ra m rc]) ∧ W.heap.size ≤ sb ∧ RowI w' sb n ∧ w'.ownsRow W.heap.size 31 5 (.slice ra m rc) m (arcCells A m)) ∧ Only NoB W w') := fun W o => by
    have q := inst_any a a2 len cap len2 cap2 f f2 W (h.kept o (fun _ _ f => f)) (h2.kept o (fun _ _ f => f))
    rw [← hn, ← hm, ← hA] at q
    exact q
  clear hn hm hA h h2
  obtain ⟨kk, hkk⟩ : ∃ kk : Nat, x % n = kk ∧ kk < n := by
    have e2 := Int.emod_nonneg x (show (n : Int) ≠ 0 by omega)
    have e3 := Int.emod_lt_of_pos x (show (0 : Int) < n by omega)
    exact ⟨(x % n).toNat, by omega, by omega⟩
  have KK := Lib.hid hkk.1
  have kk1 := hkk.2
  clear hkk
  go_enter Try.func3, Try.ntmps3
  go_wp2_with fail
  refine (HI.out w (Only.refl _ _)).mono ?_
  rintro e w1 ⟨⟨sb, ra, rc, rfl, sb0, hS, hR⟩, o1⟩
  go_upto_region 2 with fail
  have hM : Mi w (w1.alloc (.cells #[.slice (some ⟨sb, 0, none⟩) n n, .slice ra m rc] 26)) w1.heap.size sb n m ra rc A :=
    ⟨heap_alloc_new _ _, hS.kept (S := NoB) ((Only.refl _ _).alloc _) (fun f => f), own_only (S := NoB) hR ((Only.refl _ _).alloc _) (fun _ _ _ f => f), o1.alloc _⟩
  have z1 := o1.size
  clear hS hR o1
  generalize World.alloc w1 _ = w2 at *
  generalize hib : w1.heap.size = ib at *
  clear hib
  have ci0 := (cell_in _ _ 0 _ _ _ hM.hi).trans rfl
  have ci1 := (cell_in _ _ 1 _ _ _ hM.hi).trans rfl
  obtain ⟨fs, hsup⟩ := hM.hs.sup
  have hA1 : ArcsAt (fun k => w.heap.size ≤ k) w2 ra m A := by
    obtain ⟨_, _, e, q⟩ := arcs_of_row hM.ha
    cases e
    exact q
  go_wp2_with fail
  refine (new_any (fun _ => True) (some ⟨sb, 0, none⟩) ra n m n rc fs A (by omega) (by omega) (fun j _ => GOOD.out j) w2 (hsup.mono (fun _ _ => trivial)) (hA1.mono (q := fun _ => True) (fun _ _ => trivial))).mono ?_
  rintro e w3 ⟨⟨gb, rfl, hG⟩, o2⟩
  have hG : Made (fun k => w2.heap.size ≤ k ∧ k < w3.heap.size) w3 gb n m A := hG
  have zM : ∀ g, (Value.slice ra m rc).ownBlock = some g → g < w2.heap.size := fun g hg => (hM.ha.lt g hg).2
  have zi := lt_of_heap hM.hi
  have zs := hM.hs.lt
  have zsi : sb ≠ ib := fun e => by
    obtain ⟨cur, h1, _, _⟩ := hM.hs
    rw [e, hM.hi] at h1
    cases h1
  have hM := hM.kept o2
  clear ci0 ci1 hsup hA1
  go_upto_region 5 with fail
  obtain ⟨g, hg0, hg1, hg2, hg3⟩ : ∃ g, (0 < m → ra = some ⟨g, 0, none⟩ ∧ RowX w3 g (m * 5) 31) ∧ w.heap.size ≤ g ∧ g < w2.heap.size ∧ g ≠ ib := by
    rcases hM.ha.2 with ⟨e, h0⟩ | ⟨g, cap', cur, e, hg, hgh, hc1, hc2, hc3, hc4⟩
    · exact ⟨sb, fun h => by omega, sb0, zs, zsi⟩
    · cases e
      exact ⟨g, fun _ => ⟨rfl, cur, hgh, by rw [hc3]; omega⟩, hg, zM g rfl, fun e => by subst e; rw [hM.hi] at hgh; cases hgh⟩
  have hi := hM.hi
  have ow := hM.ow
  have HG0 := Lib.hid hg0
  clear zM hM hg0
  go_wp2_with fail
  go_loopw [9] (fun s wr => ∃ k : Nat, k ≤ m ∧ s = .int .i64 k ∧ (0 < m → RowX wr g (m * 5) 31) ∧ Only (B1 g) w3 wr) (fun s _ => m - (intOf s).toNat)
  case atStart => exact ⟨0, Nat.zero_le _, rfl, fun h => (HG0.out h).2, Only.refl _ _⟩
  case round =>
    obtain ⟨k, hk, rfl, hX, oo⟩ := hrel
    have hi4 := (oo.block ib (lt_of_heap hi) (fun e => by unfold B1 at e; omega)).trans hi
    have ci1 := (cell_in _ _ 1 _ _ _ hi4).trans rfl
    by_cases lt : k < m
    · have lti : (k : Int) < m := by omega
      have k0 : (0 : Int) ≤ k := by omega
      have hX := hX (by omega)
      obtain ⟨rfl, _⟩ := HG0.out (by omega)
      obtain ⟨z0, c0⟩ := hX.at (k * 5) (by omega)
      have f0 := hX.fz (k * 5)
      have lg := hX.lt
      go_upto_region 9 with fail
      have hX := hX.set (k * 5) (.int .i64 0)
      have oo := oo.trans (only1 wr g (k * 5) (.int .i64 0))
      have hi4 := ((only1 wr g (k * 5) (.int .i64 0)).block ib (lt_of_heap hi4) (fun e => by unfold B1 at e; omega)).trans hi4
      clear ci1 c0 f0 lg
      generalize World.setCell wr _ _ = wS at *
      have ci1 := (cell_in _ _ 1 _ _ _ hi4).trans rfl
      obtain ⟨z3, c0⟩ := hX.at (k * 5 + 3) (by omega)
      have f0 := hX.fz (k * 5 + 3)
      have lg := hX.lt
      go_wp2_with fail
      go_roundw
      case rel => exact ⟨k + 1, by omega, by go_num, fun _ => hX.set (k * 5 + 3) (.int .i64 1), oo.trans (only1 wS g (k * 5 + 3) (.int .i64 1))⟩
      case measure => simp [intOf]; omega
    · obtain rfl : m = k := by omega
      have hG := hG.kept oo (fun b hb e => by unfold B1 at e; omega)
      have ow := ow.then oo (fun i hi e => by unfold B1 at e; omega)
      clear hi4 hi HG0 hX
      go_upto_region 10 with fail
      clear ci1 oo
      have zr := Only.size ow
      obtain ⟨pg, hG, pgl⟩ : ∃ p : Nat → Prop, Made p wr gb n m A ∧ ∀ b, p b → b < wr.heap.size := ⟨_, hG.lt, fun b hb => hb.2⟩
      go_wp2_with fail
      refine (HI.out wr ow).mono ?_
      rintro e x1 ⟨⟨sb', ra', rc', rfl, sb0', hS, hR⟩, o1⟩
      clear HI
      have hG := hG.kept o1 (fun _ _ f => f)
      have m3 : IntKind.i64.wrap x = x := IntWalk.i64_in x (by omega)
      have nz : ¬ n = 0 := by omega
      go_upto_region 11 with fail
      have hM : Mi wr (x1.alloc (.cells #[.slice (some ⟨sb', 0, none⟩) n n, .slice ra' m rc'] 26)) x1.heap.size sb' n m ra' rc' A :=
        ⟨heap_alloc_new _ _, hS.kept (S := NoB) ((Only.refl _ _).alloc _) (fun f => f), own_only (S := NoB) hR ((Only.refl _ _).alloc _) (fun _ _ _ f => f), o1.alloc _⟩
      have hG := hG.kept ((Only.refl _ _).alloc (.cells #[.slice (some ⟨sb', 0, none⟩) n n, .slice ra' m rc'] 26)) (fun _ _ f => f)
      have zx1 := o1.size
      clear hS hR o1
      generalize World.alloc x1 _ = x2 at *
      generalize hjb : x1.heap.size = jb at *
      clear hjb
      have ci0 := (cell_in _ _ 0 _ _ _ hM.hi).trans rfl
      go_upto_region 12 with fail
      rw [KK.out]
      clear ci0 m3 nz
      have hpg : ∀ b, pg b → b < x2.heap.size := fun b hb => by have := pgl b hb; have := hM.ow.size; omega
      go_wp2_with fail
      have hi2 := hM.hi
      have zj := lt_of_heap hi2
      have hA2 : ArcsAt (fun k => k < x2.heap.size) x2 ra' m A := by
        obtain ⟨_, _, e, q⟩ := arcs_of_row hM.ha
        cases e
        exact q.lt.mono (fun b hb => hb.2)
      have ow := ow.trans hM.ow
      clear hM
      refine (out_told pg gb n m kk A x2 hG kk1).mono ?_
      rintro e x3 ⟨v, rfl, hv, o3⟩
      obtain ⟨la, lc, rfl⟩ := own_slice hv
      have hG := hG.kept o3 (fun _ _ f => f)
      have hi2 := (o3.block jb zj (fun f => f)).trans hi2
      have hA2 := hA2.kept o3 (fun _ _ f => f)
      have ow := ow.trans o3
      have ll := outs_len A m kk
      have zx3 := o3.size
      obtain ⟨g', hv0, hv1⟩ : ∃ g', (0 < (outs A m kk).length → la = some ⟨g', 0, none⟩ ∧ RowX x3 g' (outs A m kk).length 3) ∧ x2.heap.size ≤ g' := by
        rcases hv.2 with ⟨e, h0⟩ | ⟨g', cap', cur, e, hg', hgh, hc1, hc2, hc3, hc4⟩
        · exact ⟨x2.heap.size, fun h => by omega, Nat.le_refl _⟩
        · cases e
          exact ⟨g', fun _ => ⟨rfl, cur, hgh, by rw [hc3]; omega⟩, hg'⟩
      have HV0 := Lib.hid hv0
      clear hv hv0
      generalize (outs A m kk).length = L at *
      go_wp2_with fail
      go_loopw [13] (fun s wq => ∃ k : Nat, k ≤ L ∧ s = .int .i64 k ∧ (0 < L → RowX wq g' L 3) ∧ Only (B1 g') x3 wq) (fun s _ => L - (intOf s).toNat)
      case atStart => exact ⟨0, Nat.zero_le _, rfl, fun h => (HV0.out h).2, Only.refl _ _⟩
      case round =>
        obtain ⟨k, hk, rfl, hX, oo⟩ := hrel
        by_cases lt : k < L
        · have lti : (k : Int) < L := by omega
          have k0 : (0 : Int) ≤ k := by omega
          have hX := hX (by omega)
          obtain ⟨rfl, _⟩ := HV0.out (by omega)
          obtain ⟨z0, c0⟩ := hX.at k (by omega)
          have f0 := hX.fz k
          have lg := hX.lt
          go_wp2_with fail
          go_roundw
          case rel => exact ⟨k + 1, by omega, by go_num, fun _ => hX.set k (.int .i64 99), oo.trans (only1 wr g' k (.int .i64 99))⟩
          case measure => simp [intOf]; omega
        · obtain rfl : L = k := by omega
          have hG := hG.kept oo (fun b hb e => by unfold B1 at e; have := hpg b hb; omega)
          have hi2 := (oo.block jb (by omega) (fun e => by unfold B1 at e; omega)).trans hi2
          have hA2 := hA2.kept oo (fun b hb e => by unfold B1 at e; omega)
          have ow := ow.then oo (fun i hi e => by unfold B1 at e; have := ow.size; omega)
          clear oo hX HV0
          go_wp2_with fail
          go_loopw [14] (fun s wq => ∃ k : Nat, k ≤ m ∧ s = .int .i64 k ∧ Only NoB wr wq) (fun s _ => m - (intOf s).toNat)
          case atStart => exact ⟨0, Nat.zero_le _, rfl, Only.refl _ _⟩
          case round =>
            obtain ⟨k, hk, rfl, oo⟩ := hrel
            have hi2 := (oo.block jb (lt_of_heap hi2) (fun f => f)).trans hi2
            have hA2 := hA2.kept oo (fun _ _ f => f)
            have hG := hG.kept oo (fun _ _ f => f)
            have ci1 := (cell_in _ _ 1 _ _ _ hi2).trans rfl
            by_cases lt : k < m
            · have lti : (k : Int) < m := by omega
              have k0 : (0 : Int) ≤ k := by omega
              have HT := Lib.hid (arc_told pg gb n m k A wr hG lt)
              unfold A5.val at HT
              obtain ⟨b, o, rfl, _, hc⟩ := hA2 (by omega)
              obtain ⟨y0, y1, y2, y3, y4⟩ := hc k lt
              clear hc
              generalize (A k).f = xf at *
              generalize (A k).t = xt at *
              generalize (A k).l = xl at *
              generalize (A k).c = xc at *
              generalize (A k).k = xk at *
              go_wp2_with fail
              refine HT.out.mono ?_
              rintro e v1 ⟨rfl, o1⟩
              clear HT ci1
              have hi2 := (o1.block jb (lt_of_heap hi2) (fun f => f)).trans hi2
              have oo := oo.trans o1
              have y0 := o1.cell y0 (fun f => f)
              have y1 := o1.cell y1 (fun f => f)
              have y2 := o1.cell y2 (fun f => f)
              have y3 := o1.cell y3 (fun f => f)
              have y4 := o1.cell y4 (fun f => f)
              clear o1
              go_upto_region 21 with fail
              have oa : Only NoB v1 (v1.alloc (.cells #[.int .i64 xf, .int .i64 xt, .int .i64 xl, .int .i64 xc, .int .i64 xk] 31)) := (Only.refl _ _).alloc _
              have hq := heap_alloc_new v1 (.cells #[.int .i64 xf, .int .i64 xt, .int .i64 xl, .int .i64 xc, .int .i64 xk] 31)
              have hi2 := (oa.block jb (lt_of_heap hi2) (fun f => f)).trans hi2
              have y0 := oa.cell y0 (fun f => f)
              have y1 := oa.cell y1 (fun f => f)
              have y2 := oa.cell y2 (fun f => f)
              have y3 := oa.cell y3 (fun f => f)
              have y4 := oa.cell y4 (fun f => f)
              have oo := oo.trans oa
              clear oa
              generalize World.alloc v1 _ = v2 at *
              generalize v1.heap.size = Q at *
              have ci1 := (cell_in _ _ 1 _ _ _ hi2).trans rfl
              obtain ⟨d0, d1, d2, d3, d4⟩ := five5 _ _ _ _ _ _ _ _ hq
              have lq := lt_of_heap hq
              have lb := World.block_lt_of_cell? _ _ y0
              go_quiet (fail)
              go_wp2_with fail
              go_roundw
              case rel => exact ⟨k + 1, by omega, by go_num, oo.drewN _⟩
              case measure => simp [intOf]; omega
            · obtain rfl : m = k := by omega
              have ow := ow.trans oo
              clear oo
              have HO : Hid (∀ W, Only NoB wr W → Calls Try.prog 7 #[.pointer (some ⟨gb, 0, none⟩), .int .i64 kk] W fun e w' => ∃ v, e = .returned v ∧ w'.ownsRow W.heap.size 3 1 v (outs A m kk).length ((outs A m kk).map (Value.int .i64)) ∧ Only NoB W w') := fun W o => out_told pg gb n m kk A W (hG.kept o (fun _ _ f => f)) kk1
              have HT : Hid (∀ W, Only NoB wr W → Calls Try.prog 12 #[.pointer (some ⟨gb, 0, none⟩), .int .i64 kk] W fun e w' => ∃ v, e = .returned v ∧ w'.ownsRow W.heap.size 3 1 v (touch A m kk).length ((touch A m kk).map (Value.int .i64)) ∧ Only NoB W w') := fun W o => at_told pg gb n m kk A W (hG.kept o (fun _ _ f => f)) kk1
              have RO : Hid (∀ W, Only NoB wr W → Calls Try.prog 11 #[.agg #[.slice (some ⟨sb', 0, none⟩) n n, .slice ra' m rc'], .int .i64 kk] W fun e w' => (∃ v, e = .returned v ∧ w'.ownsRow W.heap.size 3 1 v (outs A m kk).length ((outs A m kk).map (Value.int .i64))) ∧ Only NoB W w') := fun W o => refout_any (fun k => k < x2.heap.size) (some ⟨sb', 0, none⟩) ra' n m kk n rc' A W (hA2.kept o (fun _ _ f => f)) (by omega) (fun j _ => GOOD.out j)
              have RT : Hid (∀ W, Only NoB wr W → Calls Try.prog 13 #[.agg #[.slice (some ⟨sb', 0, none⟩) n n, .slice ra' m rc'], .int .i64 kk] W fun e w' => (∃ v, e = .returned v ∧ w'.ownsRow W.heap.size 3 1 v (touch A m kk).length ((touch A m kk).map (Value.int .i64))) ∧ Only NoB W w') := fun W o => refat_any (fun k => k < x2.heap.size) (some ⟨sb', 0, none⟩) ra' n m kk n rc' A W (hA2.kept o (fun _ _ f => f)) (by omega) (fun j _ => GOOD.out j)
              have l1 := outs_len A m kk
              have l2 := touch_len A m kk
              generalize outs A m kk = lo at *
              generalize touch A m kk = la at *
              have ci0 := (cell_in _ _ 0 _ _ _ hi2).trans rfl
              go_upto_region 23 with fail
              have MK : Hid (∀ w', Only NoB wr w' → w'.cell? ⟨jb, 0, none⟩ = some (.slice (some ⟨sb', 0, none⟩) n n) ∧ w'.cell? ⟨jb, 1, none⟩ = some (.slice ra' m rc')) := fun w' o => ⟨o.cell ci0 (fun f => f), o.cell ci1 (fun f => f)⟩
              clear ci0 ci1 hi2
              refine wp_region_along (fun w' => w'.cell? ⟨jb, 0, none⟩ = some (.slice (some ⟨sb', 0, none⟩) n n) ∧ w'.cell? ⟨jb, 1, none⟩ = some (.slice ra' m rc')) [(0, false), (1, true), (2, true), (3, true), (5, true), (6, true), (4, false), (7, false), (8, false), (9, true), (10, true), (11, true), (12, true), (14, true), (15, true), (13, false), (16, false), (17, false), (18, true), (19, true)] (by kernel_rfl) (by kernel_rfl) (MK.out _ ((Only.refl _ _).drew)) ?_
              have oX : Only NoB wr wr.drew := (Only.refl _ _).drew
              generalize wr.drew = s0 at *
              (refine along_do (by simp only [List.getElem?_cons_succ, List.getElem?_cons_zero]; rfl) (by rfl) (fun K hK => ?_); go_simp)
              refine (known_any _).mono ?_
              rintro e s1 ⟨rfl, oq⟩
              have oX := oX.trans oq
              clear oq
              (refine hK _ _ (MK.out _ oX) ?_; clear hK K)
              repeat (first | (refine' along_take (by simp only [List.getElem?_cons_succ, List.getElem?_cons_zero]; rfl) (by rfl) ?_ ?_ ?_; rotate_left 2; (intro w' hS; go_simp; try rfl); (simp only [Act.put, List.setIfInBounds_toArray, List.set_cons_zero, List.set_cons_succ]; try rfl)) | (refine' along_skip (by simp only [List.getElem?_cons_succ, List.getElem?_cons_zero]; rfl) (by rfl) ?_ ?_; rotate_left 1; (simp only [Act.put, List.setIfInBounds_toArray, List.set_cons_zero, List.set_cons_succ]; try rfl)))
              (refine along_do (by simp only [List.getElem?_cons_succ, List.getElem?_cons_zero]; rfl) (by rfl) (fun K hK => ?_); go_simp)
              refine (HO.out _ oX).mono ?_
              rintro e s2 ⟨v1, rfl, h1, oq⟩
              have L1 := Ls.of_own h1
              clear h1
              have oX := oX.trans oq
              clear oq
              (refine hK _ _ (MK.out _ oX) ?_; clear hK K)
              repeat (first | (refine' along_take (by simp only [List.getElem?_cons_succ, List.getElem?_cons_zero]; rfl) (by rfl) ?_ ?_ ?_; rotate_left 2; (intro w' hS; go_simp; try rfl); (simp only [Act.put, List.setIfInBounds_toArray, List.set_cons_zero, List.set_cons_succ]; try rfl)) | (refine' along_skip (by simp only [List.getElem?_cons_succ, List.getElem?_cons_zero]; rfl) (by rfl) ?_ ?_; rotate_left 1; (simp only [Act.put, List.setIfInBounds_toArray, List.set_cons_zero, List.set_cons_succ]; try rfl)))
              (refine along_do (by simp only [List.getElem?_cons_succ, List.getElem?_cons_zero]; rfl) (by rfl) (fun K hK => ?_); go_simp)
              refine (RO.out _ oX).mono ?_
              rintro e s3 ⟨⟨v2, rfl, h2⟩, oq⟩
              have L1 := L1.kept oq (fun _ _ f => f)
              have L2 := Ls.of_own h2
              clear h2
              have oX := oX.trans oq
              clear oq
              (refine hK _ _ (MK.out _ oX) ?_; clear hK K)
              repeat (first | (refine' along_take (by simp only [List.getElem?_cons_succ, List.getElem?_cons_zero]; rfl) (by rfl) ?_ ?_ ?_; rotate_left 2; (intro w' hS; go_simp; try rfl); (simp only [Act.put, List.setIfInBounds_toArray, List.set_cons_zero, List.set_cons_succ]; try rfl)) | (refine' along_skip (by simp only [List.getElem?_cons_succ, List.getElem?_cons_zero]; rfl) (by rfl) ?_ ?_; rotate_left 1; (simp only [Act.put, List.setIfInBounds_toArray, List.set_cons_zero, List.set_cons_succ]; try rfl)))
              (refine along_do (by simp only [List.getElem?_cons_succ, List.getElem?_cons_zero]; rfl) (by rfl) (fun K hK => ?_); go_simp)
              refine (ints_same v1 v2 lo (by omega) _ L1 L2).mono ?_
              rintro e s4 ⟨rfl, oq⟩
              clear L1 L2
              have oX := oX.trans oq
              clear oq
              (refine hK _ _ (MK.out _ oX) ?_; clear hK K)
              repeat (first | (refine' along_take (by simp only [List.getElem?_cons_succ, List.getElem?_cons_zero]; rfl) (by rfl) ?_ ?_ ?_; rotate_left 2; (intro w' hS; go_simp; try rfl); (simp only [Act.put, List.setIfInBounds_toArray, List.set_cons_zero, List.set_cons_succ]; try rfl)) | (refine' along_skip (by simp only [List.getElem?_cons_succ, List.getElem?_cons_zero]; rfl) (by rfl) ?_ ?_; rotate_left 1; (simp only [Act.put, List.setIfInBounds_toArray, List.set_cons_zero, List.set_cons_succ]; try rfl)))
              (refine along_do (by simp only [List.getElem?_cons_succ, List.getElem?_cons_zero]; rfl) (by rfl) (fun K hK => ?_); go_simp)
              refine (HT.out _ oX).mono ?_
              rintro e s5 ⟨v3, rfl, h1, oq⟩
              have L1 := Ls.of_own h1
              clear h1
              have oX := oX.trans oq
              clear oq
              (refine hK _ _ (MK.out _ oX) ?_; clear hK K)
              repeat (first | (refine' along_take (by simp only [List.getElem?_cons_succ, List.getElem?_cons_zero]; rfl) (by rfl) ?_ ?_ ?_; rotate_left 2; (intro w' hS; go_simp; try rfl); (simp only [Act.put, List.setIfInBounds_toArray, List.set_cons_zero, List.set_cons_succ]; try rfl)) | (refine' along_skip (by simp only [List.getElem?_cons_succ, List.getElem?_cons_zero]; rfl) (by rfl) ?_ ?_; rotate_left 1; (simp only [Act.put, List.setIfInBounds_toArray, List.set_cons_zero, List.set_cons_succ]; try rfl)))
              (refine along_do (by simp only [List.getElem?_cons_succ, List.getElem?_cons_zero]; rfl) (by rfl) (fun K hK => ?_); go_simp)
              refine (RT.out _ oX).mono ?_
              rintro e s6 ⟨⟨v4, rfl, h2⟩, oq⟩
              have L1 := L1.kept oq (fun _ _ f => f)
              have L2 := Ls.of_own h2
              clear h2
              have oX := oX.trans oq
              clear oq
              (refine hK _ _ (MK.out _ oX) ?_; clear hK K)
              repeat (first | (refine' along_take (by simp only [List.getElem?_cons_succ, List.getElem?_cons_zero]; rfl) (by rfl) ?_ ?_ ?_; rotate_left 2; (intro w' hS; go_simp; try rfl); (simp only [Act.put, List.setIfInBounds_toArray, List.set_cons_zero, List.set_cons_succ]; try rfl)) | (refine' along_skip (by simp only [List.getElem?_cons_succ, List.getElem?_cons_zero]; rfl) (by rfl) ?_ ?_; rotate_left 1; (simp only [Act.put, List.setIfInBounds_toArray, List.set_cons_zero, List.set_cons_succ]; try rfl)))
              (refine along_do (by simp only [List.getElem?_cons_succ, List.getElem?_cons_zero]; rfl) (by rfl) (fun K hK => ?_); go_simp)
              refine (ints_same v3 v4 la (by omega) _ L1 L2).mono ?_
              rintro e s7 ⟨rfl, oq⟩
              clear L1 L2
              have oX := oX.trans oq
              clear oq
              (refine hK _ _ (MK.out _ oX) ?_; clear hK K)
              repeat (first | (refine' along_take (by simp only [List.getElem?_cons_succ, List.getElem?_cons_zero]; rfl) (by rfl) ?_ ?_ ?_; rotate_left 2; (intro w' hS; go_simp; try rfl); (simp only [Act.put, List.setIfInBounds_toArray, List.set_cons_zero, List.set_cons_succ]; try rfl)) | (refine' along_skip (by simp only [List.getElem?_cons_succ, List.getElem?_cons_zero]; rfl) (by rfl) ?_ ?_; rotate_left 1; (simp only [Act.put, List.setIfInBounds_toArray, List.set_cons_zero, List.set_cons_succ]; try rfl)))
              refine along_end ?_
              go_wp2_with fail
              go_ret
              exact ⟨rfl, (ow.trans oX).below⟩
end Go.Proofs.Ytgaekihcfcoaeaa
