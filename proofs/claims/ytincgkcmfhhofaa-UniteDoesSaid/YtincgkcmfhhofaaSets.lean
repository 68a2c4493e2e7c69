/-
  THE WALKS of package unite, told by what a Sets is: its numbers, and of each the least one of its group.
-/
import Derived.Test.YtincgkcmfhhofaaRoot
set_option linter.unusedVariables false
set_option linter.unusedSimpArgs false
namespace Go.Proofs.Ytincgkcmfhhofaa
open Go.RowKit

/-- At b lies a Sets of n numbers, its list at u, in groups whose least ones L tells. -/
def Is (w : World) (b u n : Nat) (L : Nat → Nat) : Prop := ∃ up, Rep n up L ∧ SetsAt w b u n up (many n L)

theorem Is.tidy {w : World} {b u n : Nat} {L : Nat → Nat} (h : Is w b u n L) : Tidy n L := by obtain ⟨up, hr, _⟩ := h; exact hr.tidy
theorem Is.small {w : World} {b u n : Nat} {L : Nat → Nat} (h : Is w b u n L) : n ≤ 1000 := by obtain ⟨up, _, hs⟩ := h; exact hs.len
theorem Is.c0 {w : World} {b u n : Nat} {L : Nat → Nat} (h : Is w b u n L) : w.cell? ⟨b, 0, none⟩ = some (.slice (some ⟨u, 0, none⟩) n n) := by obtain ⟨up, _, hs⟩ := h; exact hs.c0
theorem Is.c1 {w : World} {b u n : Nat} {L : Nat → Nat} (h : Is w b u n L) : w.cell? ⟨b, 1, none⟩ = some (.int .i64 (many n L)) := by obtain ⟨up, _, hs⟩ := h; exact hs.c1
theorem Is.ltb {w : World} {b u n : Nat} {L : Nat → Nat} (h : Is w b u n L) : b < w.heap.size := by obtain ⟨up, _, hs⟩ := h; exact lt_of_heap hs.box
theorem Is.ltu {w : World} {b u n : Nat} {L : Nat → Nat} (h : Is w b u n L) : u < w.heap.size := by obtain ⟨up, _, hs⟩ := h; exact lt_of_heap hs.row
theorem Is.kept {S : Nat → Prop} {w w' : World} {b u n : Nat} {L : Nat → Nat} (h : Is w b u n L) (o : Only S w w') (hb : ¬ S b) (hu : ¬ S u) : Is w' b u n L := by
  obtain ⟨up, hr, hs⟩ := h
  exact ⟨up, hr, by rw [o.block b (lt_of_heap hs.box) hb]; exact hs.box, by rw [o.block u (lt_of_heap hs.row) hu]; exact hs.row, hs.ne, hs.len⟩
theorem Is.drew {w : World} {b u n : Nat} {L : Nat → Nat} (h : Is w b u n L) : Is w.drew b u n L := by
  obtain ⟨up, hr, hs⟩ := h
  exact ⟨up, hr, hs.drew⟩

theorem inB_yes {n : Nat} {a : Int} (h : inB n a = true) : 0 ≤ a ∧ a < n := by simpa [inB] using h
theorem inB_no {n : Nat} {a : Int} (h : inB n a = false) : a < 0 ∨ (n : Int) ≤ a := by simp [inB] at h; omega

set_option maxHeartbeats 400000 in
theorem has_any (b u n : Nat) (L : Nat → Nat) (a : Int) (w : World) (h : Is w b u n L) :
    Calls Try.prog 18 #[.pointer (some ⟨b, 0, none⟩), .int .i64 a] w fun e w' => e = .returned (.bool (inB n a)) ∧ w = w' := by
  have hc := h.c0
  have hn := h.small
  by_cases h1 : 0 ≤ a
  · have h2 : inB n a = decide (a < n) := by simp [inB, h1]
    rw [h2]
    clear h2
    go_enter Try.func18, Try.ntmps18
    go_wp2
    go_ret
    exact ⟨rfl, rfl⟩
  · have h2 : inB n a = false := by simp [inB, h1]
    rw [h2]
    clear h2
    go_enter Try.func18, Try.ntmps18
    go_wp2
    go_ret
    exact ⟨rfl, rfl⟩

theorem root_is (b u n : Nat) (L : Nat → Nat) (a : Int) (w : World) (h : Is w b u n L) (ha : 0 ≤ a) (ha2 : a < n) :
    Calls Try.prog 19 #[.pointer (some ⟨b, 0, none⟩), .int .i64 a] w fun e w' => e = .returned (.int .i64 (L a.toNat)) ∧ Is w' b u n L ∧ Only (B1 u) w w' := by
  obtain ⟨up, hr, hs⟩ := h
  obtain ⟨k, rfl⟩ := Int.eq_ofNat_of_zero_le ha
  refine (root_any b u n up L _ k w hs hr (by omega)).mono ?_
  rintro e w' ⟨rfl, ⟨up', hr', hs'⟩, ho⟩
  exact ⟨rfl, ⟨up', hr', hs'⟩, ho⟩

set_option maxHeartbeats 400000 in
theorem many_any (b u n : Nat) (L : Nat → Nat) (w : World) (h : Is w b u n L) :
    Calls Try.prog 14 #[.pointer (some ⟨b, 0, none⟩)] w fun e w' => e = .returned (.int .i64 (many n L)) ∧ w = w' := by
  have hc := h.c1
  go_enter Try.func14, Try.ntmps14
  go_wp2
  go_ret
  exact ⟨rfl, rfl⟩

set_option maxHeartbeats 400000 in
theorem least_any (b u n : Nat) (L : Nat → Nat) (a : Int) (w : World) (h : Is w b u n L) :
    Calls Try.prog 15 #[.pointer (some ⟨b, 0, none⟩), .int .i64 a] w fun e w' => e = .returned (.int .i64 (leastI n L a)) ∧ Is w' b u n L ∧ Only (B1 u) w w' := by
  unfold leastI
  have hI := h
  cases q : inB n a
  · simp only [Bool.false_eq_true, ↓reduceIte]
    have H := Lib.hid (q ▸ has_any b u n L a w h)
    clear q
    go_enter Try.func15, Try.ntmps15
    go_wp2_with (go_at_call 18; refine H.out.mono ?_; rintro e w' ⟨rfl, rfl⟩)
    go_ret
    exact ⟨rfl, hI, Only.refl _ _⟩
  · simp only [↓reduceIte]
    have H := Lib.hid (q ▸ has_any b u n L a w h)
    obtain ⟨h1, h2⟩ := inB_yes q
    clear q
    go_enter Try.func15, Try.ntmps15
    go_wp2_with (first | (go_at_call 18; refine H.out.mono ?_; rintro e w' ⟨rfl, rfl⟩) | (go_at_call 19; refine (root_is b u n L a w h h1 h2).mono ?_; rintro e w1 ⟨rfl, hi, ho⟩))
    go_ret
    exact ⟨rfl, hi, ho⟩

set_option maxHeartbeats 400000 in
theorem same_any (b u n : Nat) (L : Nat → Nat) (x y : Int) (w : World) (h : Is w b u n L) :
    Calls Try.prog 17 #[.pointer (some ⟨b, 0, none⟩), .int .i64 x, .int .i64 y] w fun e w' => e = .returned (.bool (sameI n L x y)) ∧ Is w' b u n L ∧ Only (B1 u) w w' := by
  have hI := h
  unfold sameI
  cases q : inB n x
  · rw [Bool.false_and]
    have H := Lib.hid (q ▸ has_any b u n L x w h)
    clear q
    go_enter Try.func17, Try.ntmps17
    go_wp2_with (go_at_call 18; refine H.out.mono ?_; rintro e w' ⟨rfl, rfl⟩)
    go_ret
    exact ⟨rfl, hI, Only.refl _ _⟩
  · rw [Bool.true_and]
    cases q2 : inB n y
    · rw [Bool.false_and]
      have H := Lib.hid (q ▸ has_any b u n L x w h)
      have H2 := Lib.hid (q2 ▸ has_any b u n L y w h)
      clear q q2
      go_enter Try.func17, Try.ntmps17
      go_wp2_with fail
      refine H.out.mono ?_
      rintro e w' ⟨rfl, rfl⟩
      go_wp2_with fail
      refine H2.out.mono ?_
      rintro e w' ⟨rfl, rfl⟩
      go_wp2_with fail
      go_ret
      exact ⟨rfl, hI, Only.refl _ _⟩
    · rw [Bool.true_and]
      have H := Lib.hid (q ▸ has_any b u n L x w h)
      have H2 := Lib.hid (q2 ▸ has_any b u n L y w h)
      obtain ⟨h1, h2⟩ := inB_yes q
      obtain ⟨h3, h4⟩ := inB_yes q2
      clear q q2
      go_enter Try.func17, Try.ntmps17
      go_wp2_with fail
      refine H.out.mono ?_
      rintro e w' ⟨rfl, rfl⟩
      go_wp2_with fail
      refine H2.out.mono ?_
      rintro e w' ⟨rfl, rfl⟩
      go_wp2_with fail
      refine (root_is b u n L x w h h1 h2).mono ?_
      rintro e w1 ⟨rfl, hi, ho⟩
      go_wp2_with fail
      refine (root_is b u n L y w1 hi h3 h4).mono ?_
      rintro e w2 ⟨rfl, hi2, ho2⟩
      go_wp2_with fail
      go_ret
      exact ⟨ret_bool (by rw [Bool.eq_iff_iff]; simp; omega), hi2, ho.trans ho2⟩

theorem SetsAt.setMany {w : World} {b u n : Nat} {up : Nat → Nat} {m : Int} (h : SetsAt w b u n up m) (m' : Int) : SetsAt (w.setCell ⟨b, 1, none⟩ (.int .i64 m')) b u n up m' :=
  ⟨by rw [heap_setCell_at _ _ _ _ _ _ _ h.box]; rfl, by rw [Below.heap_setCell _ _ _ _ (fun e => h.ne e.symm)]; exact h.row, h.ne, h.len⟩
theorem SetsAt.fzb {w : World} {b u n : Nat} {up : Nat → Nat} {many : Int} (h : SetsAt w b u n up many) (i : Nat) : w.frozen? ⟨b, i, none⟩ = false := frozen_in _ _ _ _ _ h.box

theorem many_pos {n : Nat} {L : Nat → Nat} (h : Tidy n L) (x y : Nat) (hx : x < n) (hy : y < n) (ex : L x = x) (ey : L y = y) (hne : x ≠ y) : 1 ≤ many n L := by
  have := many_join h x y hx hy ex ey hne
  omega

/-- behind a join of two roots -/
theorem is_joined {w : World} {b u n : Nat} {up L : Nat → Nat} (hr : Rep n up L) (hs : SetsAt w b u n up (many n L)) (x y : Nat) (hx : x < n) (hy : y < n) (ex : L x = x) (ey : L y = y) (hne : x ≠ y) (p q : Nat) (m : Int) (hp : p = max x y) (hq : q = min x y) (hm : m = (many n L : Int) - 1) :
    Is ((w.setCell ⟨u, p, none⟩ (.int .i64 q)).setCell ⟨b, 1, none⟩ (.int .i64 m)) b u n (joinL L x y) := by
  subst hp hq
  refine ⟨upd up (max x y) (min x y), hr.join x y hx hy ex ey hne, ?_⟩
  have h1 := many_join hr.tidy x y hx hy ex ey hne
  have h2 := (hs.set (max x y) (min x y)).setMany m
  have h3 : m = (many n (joinL L x y) : Int) := by omega
  rw [← h3]
  exact h2

theorem joins_no1 {n : Nat} {L : Nat → Nat} {x y : Int} (h : inB n x = false) : joins n L x y = false := by simp [joins, h]
theorem joins_no2 {n : Nat} {L : Nat → Nat} {x y : Int} (h : inB n y = false) : joins n L x y = false := by simp [joins, h]
theorem joins_no3 {n : Nat} {L : Nat → Nat} {x y : Int} (h : L x.toNat = L y.toNat) : joins n L x y = false := by simp [joins, h]
theorem joins_yes {n : Nat} {L : Nat → Nat} {x y : Int} (hx : inB n x = true) (hy : inB n y = true) (h : L x.toNat ≠ L y.toNat) : joins n L x y = true := by simp [joins, hx, hy, h]
theorem joinI_no {n : Nat} {L : Nat → Nat} {x y : Int} (h : joins n L x y = false) : joinI n L x y = L := by simp [joinI, h]
theorem joinI_yes {n : Nat} {L : Nat → Nat} {x y : Int} (h : joins n L x y = true) : joinI n L x y = joinL L (L x.toNat) (L y.toNat) := by simp [joinI, h]

set_option maxHeartbeats 400000 in
theorem join_any (b u n : Nat) (L : Nat → Nat) (x y : Int) (w : World) (h : Is w b u n L) :
    Calls Try.prog 10 #[.pointer (some ⟨b, 0, none⟩), .int .i64 x, .int .i64 y] w fun e w' => e = .returned (.bool (joins n L x y)) ∧ Is w' b u n (joinI n L x y) ∧ Only (B2 b u) w w' := by
  have hI := h
  have hn := h.small
  cases q : inB n x
  · rw [joinI_no (joins_no1 q), joins_no1 q]
    have H := Lib.hid (q ▸ has_any b u n L x w h)
    clear q
    go_enter Try.func10, Try.ntmps10
    go_wp2_with (go_at_call 18; refine H.out.mono ?_; rintro e w' ⟨rfl, rfl⟩)
    go_ret
    exact ⟨rfl, hI, Only.refl _ _⟩
  cases q2 : inB n y
  · rw [joinI_no (joins_no2 q2), joins_no2 q2]
    have H := Lib.hid (q ▸ has_any b u n L x w h)
    have H2 := Lib.hid (q2 ▸ has_any b u n L y w h)
    clear q q2
    go_enter Try.func10, Try.ntmps10
    go_wp2_with fail
    refine H.out.mono ?_
    rintro e w' ⟨rfl, rfl⟩
    go_wp2_with fail
    refine H2.out.mono ?_
    rintro e w' ⟨rfl, rfl⟩
    go_wp2_with fail
    go_ret
    exact ⟨rfl, hI, Only.refl _ _⟩
  have H := Lib.hid (q ▸ has_any b u n L x w h)
  have H2 := Lib.hid (q2 ▸ has_any b u n L y w h)
  obtain ⟨h1, h2⟩ := inB_yes q
  obtain ⟨h3, h4⟩ := inB_yes q2
  by_cases e : L x.toNat = L y.toNat
  · rw [joinI_no (joins_no3 e), joins_no3 e]
    have e' : ((L x.toNat : Int) == (L y.toNat : Int)) = true := by simp [e]
    clear q q2 e
    go_enter Try.func10, Try.ntmps10
    go_wp2_with fail
    refine H.out.mono ?_
    rintro e w' ⟨rfl, rfl⟩
    go_wp2_with fail
    refine H2.out.mono ?_
    rintro e w' ⟨rfl, rfl⟩
    go_wp2_with fail
    refine (root_is b u n L x w h h1 h2).mono ?_
    rintro e w1 ⟨rfl, hi, ho⟩
    go_wp2_with fail
    refine (root_is b u n L y w1 hi h3 h4).mono ?_
    rintro e w2 ⟨rfl, hi2, ho2⟩
    go_wp2_with fail
    go_ret
    exact ⟨rfl, hi2, (ho.trans ho2).mono (fun k _ s => .inr s)⟩
  · have hL := h.tidy
    have j1 := hL.idem x.toNat (by omega)
    have j2 := hL.idem y.toNat (by omega)
    have l1 := hL.le x.toNat (by omega)
    have l2 := hL.le y.toNat (by omega)
    have e' : ((L x.toNat : Int) == (L y.toNat : Int)) = false := by simp; omega
    rw [joinI_yes (joins_yes q q2 e), joins_yes q q2 e]
    have mp := many_pos hL _ _ (by omega) (by omega) j1 j2 e
    have mn : many n L ≤ 1000 := Nat.le_trans (cnt_le _ n) hn
    have J1 := Lib.hid j1
    have J2 := Lib.hid j2
    have E := Lib.hid e
    clear q q2 e j1 j2
    rcases Nat.lt_or_gt_of_ne E.out with lt | lt
    · go_enter Try.func10, Try.ntmps10
      go_wp2_with fail
      refine H.out.mono ?_
      rintro e w' ⟨rfl, rfl⟩
      go_wp2_with fail
      refine H2.out.mono ?_
      rintro e w' ⟨rfl, rfl⟩
      go_wp2_with fail
      refine (root_is b u n L x w h h1 h2).mono ?_
      rintro e w1 ⟨rfl, hi, ho⟩
      go_wp2_with fail
      refine (root_is b u n L y w1 hi h3 h4).mono ?_
      rintro e w2 ⟨rfl, hi2, ho2⟩
      obtain ⟨up2, hr2, hs2⟩ := hi2
      have k0 := hs2.c0
      have k4 := hs2.at (L y.toNat) (by omega)
      have f0 := hs2.fz (L y.toNat)
      have hs3 := hs2.set (L y.toNat) (L x.toNat)
      have k1 := hs3.c1
      have k2 := hs3.c0
      have f1 := hs3.fzb 1
      go_wp2_with fail
      go_ret
      exact ⟨rfl, is_joined hr2 hs2 _ _ (by omega) (by omega) J1.out J2.out E.out _ _ _ (by omega) (by omega) rfl,
        (((ho.trans ho2).mono (fun k _ s => .inr s)).setCell (p := ⟨u, _, none⟩) (fun _ => .inr rfl) _).setCell (p := ⟨b, 1, none⟩) (fun _ => .inl rfl) _⟩
    · go_enter Try.func10, Try.ntmps10
      go_wp2_with fail
      refine H.out.mono ?_
      rintro e w' ⟨rfl, rfl⟩
      go_wp2_with fail
      refine H2.out.mono ?_
      rintro e w' ⟨rfl, rfl⟩
      go_wp2_with fail
      refine (root_is b u n L x w h h1 h2).mono ?_
      rintro e w1 ⟨rfl, hi, ho⟩
      go_wp2_with fail
      refine (root_is b u n L y w1 hi h3 h4).mono ?_
      rintro e w2 ⟨rfl, hi2, ho2⟩
      obtain ⟨up2, hr2, hs2⟩ := hi2
      have k0 := hs2.c0
      have k4 := hs2.at (L x.toNat) (by omega)
      have f0 := hs2.fz (L x.toNat)
      have hs3 := hs2.set (L x.toNat) (L y.toNat)
      have k1 := hs3.c1
      have k2 := hs3.c0
      have f1 := hs3.fzb 1
      go_wp2_with fail
      go_ret
      exact ⟨rfl, is_joined hr2 hs2 _ _ (by omega) (by omega) J1.out J2.out E.out _ _ _ (by omega) (by omega) rfl,
        (((ho.trans ho2).mono (fun k _ s => .inr s)).setCell (p := ⟨u, _, none⟩) (fun _ => .inr rfl) _).setCell (p := ⟨b, 1, none⟩) (fun _ => .inl rfl) _⟩

end Go.Proofs.Ytincgkcmfhhofaa
