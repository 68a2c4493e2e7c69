/-
  THE WALK of quittancelaw05.Pairs: pairs of numbers, as bytes say.
-/
import Derived.Test.YtincgkcmfhhofaaSets
import Derived.Test.YtincgkcmfhhofaaGrid
import Derived.Deep.RegionHeld3
import Derived.Deep.AppendLies
set_option linter.unusedVariables false
set_option linter.unusedSimpArgs false
namespace Go.Proofs.Ytincgkcmfhhofaa
open Go.RowKit

/-- the first t pairs -/
def prs (f : Nat → Int) (t : Nat) : List (List Int) := (List.range t).map fun i => [f (2 * i) % 20 - 1, f (2 * i + 1) % 20 - 1]
theorem prs_succ (f : Nat → Int) (t : Nat) : prs f (t + 1) = prs f t ++ [[f (2 * t) % 20 - 1, f (2 * t + 1) % 20 - 1]] := by simp [prs, List.range_succ]
theorem prs_len (f : Nat → Int) (t : Nat) : (prs f t).length = t := by simp [prs]
/-- how many pairs there are -/
def npairs (len : Nat) : Nat := min (len / 2) 30

theorem two_new (B : Nat) (w : World) (x y : Int) (row : Option Nat) (hr : ∀ k, row = some k → k < w.heap.size) (hB : B ≤ w.heap.size) :
    IntsIn (fun k => B ≤ k ∧ some k ≠ row ∧ k < (w.alloc (.cells #[.int .i64 x, .int .i64 y] 3)).heap.size) (w.alloc (.cells #[.int .i64 x, .int .i64 y] 3)) (.slice (some ⟨w.heap.size, 0, none⟩) 2 2) [x, y] := by
  refine ⟨_, 2, rfl, by unfold maxLen; simp, fun _ => ⟨_, 0, rfl, ⟨hB, fun e => absurd (hr _ e.symm) (Nat.lt_irrefl _), by simp⟩, fun j hj => ?_⟩⟩
  have hj' : j < 2 := hj
  rw [Nat.zero_add, cell_in _ _ _ _ _ _ (heap_alloc_new _ _)]
  match j, hj' with
  | 0, _ => rfl
  | 1, _ => rfl

theorem two_alloc (w : World) (X Y : Obj) : ((w.alloc X).alloc Y).drew.heap[w.heap.size + 1]? = some Y := by
  have h := heap_alloc_new (w.alloc X) Y
  have e : (w.alloc X).heap.size = w.heap.size + 1 := by simp
  rw [e] at h
  exact h

theorem pair_step {B gg cap : Nat} {wr w1 : World} {v : Value} {vals : List Value} {gs : List (List Int)} (x y : Int) (Y : Obj) (hg : GridOwn B wr v vals gs) (hB : B ≤ wr.heap.size)
    (hown1 : w1.ownsRow B 28 1 (.slice (some ⟨gg, 0, none⟩) (vals.length + 1) cap) (vals.length + 1) (vals ++ [.slice (some ⟨wr.heap.size, 0, none⟩) 2 2]))
    (hgrow : ((wr.alloc (.cells #[.int .i64 x, .int .i64 y] 3)).alloc Y).drew.grownBy w1 v.ownBlock) (hat : v.ownBlock = some gg ∨ gg = wr.heap.size + 2) :
    GridOwn B w1 (.slice (some ⟨gg, 0, none⟩) (vals.length + 1) cap) (vals ++ [.slice (some ⟨wr.heap.size, 0, none⟩) 2 2]) (gs ++ [[x, y]]) := by
  have o1 : Only NoB (wr.alloc (.cells #[.int .i64 x, .int .i64 y] 3)) ((wr.alloc (.cells #[.int .i64 x, .int .i64 y] 3)).alloc Y).drew := ((Only.refl _ _).alloc _).drew
  have o2 : Only NoB wr ((wr.alloc (.cells #[.int .i64 x, .int .i64 y] 3)).alloc Y).drew := (((Only.refl _ _).alloc _).alloc _).drew
  have h1 := (two_new B wr x y v.ownBlock (fun k e => (hg.1.lt k e).2) hB).kept o1 (fun _ _ f => f)
  refine (hg.kept o2 (fun _ _ _ f => f)).snoc (h1.mono fun b hb => ⟨hb.1, hb.2.1, Nat.lt_of_lt_of_le hb.2.2 o1.size⟩) hown1 hgrow ?_
  rcases hat with h | h
  · exact .inl h.symm
  · exact .inr ⟨gg, rfl, by rw [h]; simp [World.drew]⟩

theorem byte_wrap (y : Int) (h : 0 ≤ y ∧ y ≤ 255) : IntKind.i64.wrap (IntKind.i64.wrap (y.tmod 20) - 1) = y % 20 - 1 := by
  have e : y.tmod 20 = y % 20 := Int.tmod_eq_emod_of_nonneg h.1
  rw [e, IntWalk.i64_in (y % 20) (by omega), IntWalk.i64_in _ (by omega)]

set_option maxHeartbeats 1000000 in
theorem pairs_any (a : Option Addr) (len cap : Nat) (f : Nat → Int) (w : World) (h : BytesIn w a len f) :
    Calls Try.prog 8 #[.slice a len cap] w fun e w' => (∃ v, e = .returned v ∧ GridIn (fun k => w.heap.size ≤ k) w' v (prs f (npairs len))) ∧ Only NoB w w' := by
  obtain ⟨hm, hf, hc⟩ := h
  unfold maxLen at hm
  have HF := Lib.hid hf
  have HC := Lib.hid hc
  clear hf hc
  obtain ⟨j0, hj, hjz, hj1, hj2⟩ := info_parts Try.info28
  go_enter Try.func8, Try.ntmps8
  go_wp2_with fail
  go_loopw [3, 4] (fun v s wr => ∃ (t : Nat) (vals : List Value), t ≤ npairs len ∧ s = .int .i64 (2 * t : Nat) ∧ GridOwn w.heap.size wr v vals (prs f t) ∧ Only NoB w wr)
    (fun _ s _ => 64 - (intOf s).toNat)
  case atStart => exact ⟨0, [], Nat.zero_le _, rfl, GridOwn.nil _ _, Only.refl _ _⟩
  case round =>
    obtain ⟨t, vals, ht, rfl, hg, ho⟩ := hrel
    by_cases lt : t < npairs len
    · have hl1 : 2 * t + 1 < len := by unfold npairs at lt; omega
      have hl2 : t < 30 := by unfold npairs at lt; omega
      obtain ⟨b, o, rfl, hc⟩ := HC.out (by omega)
      have lbw := World.block_lt_of_cell? _ _ (hc (2 * t) (by omega))
      have c1 := ho.cell (hc (2 * t) (by omega)) (fun f => f)
      have c2 := ho.cell (hc (2 * t + 1) (by omega)) (fun f => f)
      have f1 := HF.out (2 * t)
      have f2 := HF.out (2 * t + 1)
      have i1 : ((2 * t : Nat) : Int) + 1 < len := by omega
      have i2 : ((2 * t : Nat) : Int) < 60 := by omega
      clear hc
      generalize hk : 2 * t = k at *
      generalize hy1 : f k = y1 at *
      generalize hy2 : f (k + 1) = y2 at *
      have HK := Lib.hid hk
      have HY1 := Lib.hid hy1
      have HY2 := Lib.hid hy2
      clear hk hy1 hy2
      have hown := hg.1
      have hz := ho.size
      have i0 : (0 : Int) ≤ (k : Int) := Int.natCast_nonneg _
      have i3 : (k : Int) < (len : Int) := by omega
      have hvl : vals.length = t := by rw [hg.2.1, prs_len]
      have lb := World.block_lt_of_cell? _ _ c1
      have nb : some b ≠ u3.ownBlock := fun e => absurd (hown.lt b e.symm).1 (Nat.not_le.2 lbw)
      have s0 : (0 : Int) ≤ (k : Int) + 1 := by omega
      have s1 : IntKind.i64.wrap ((k : Int) + 1) = (k : Int) + 1 := IntWalk.i64_in _ (by omega)
      have s2 : ((k : Int) + 1).toNat = k + 1 := by omega
      go_wp2_with fail
      go_region_held3 (fun w' => w'.cell? ⟨b, o + k, none⟩ = some (.int .u8 y1) ∧ w'.cell? ⟨b, o + (k + 1), none⟩ = some (.int .u8 y2))
        (first
          | go_keep
          | (go_split_ands
             refine ⟨?_, ?_⟩
             · (rw [hgrow.cell_far _ (by simp; omega) nb]; assumption)
             · (rw [hgrow.cell_far _ (by simp; omega) nb]; assumption)))
        ((refine step_append_lies _ (by rfl) _ _ _ (by rfl) w.heap.size 28 j0 _ 1 24 Try.underlying23 hj hjz hj1 hj2 rfl (by omega) u3 vals.length vals (by rfl) (((hown.alloc _).alloc _).drew) ⟨wr.heap.size + 1, 0, none⟩ 1 1 [.slice (some ⟨wr.heap.size, 0, none⟩) 2 2] (by rfl) (by rfl) (World.news_of_block (cs := #[.slice (some ⟨wr.heap.size, 0, none⟩) 2 2]) (t := 28) (fr := (0, 0)) (two_alloc wr _ _)) (by simp [Value.oneCell']) (by omega) (by unfold maxLen; omega) (by omega) (by simp; omega) (wr.heap.size + 2) (by simp) ?_; intro gg cap w1 hown1 hgrow hat hlt))
      have hgr := hgrow
      rw [byte_wrap y1 f1, byte_wrap y2 f2] at hgr
      have hst := pair_step (y1 % 20 - 1) (y2 % 20 - 1) _ hg hz hown1 hgr hat
      have hoo := (((ho.alloc _).alloc _).drew).grown hgrow (fun q hq e => absurd (hown.lt q e).1 (Nat.not_le.2 hq))
      clear hown1 hgrow hgr
      go_wp2_with fail
      go_roundw
      case rel =>
        have hk := HK.out
        refine ⟨t + 1, vals ++ [.slice (some ⟨wr.heap.size, 0, none⟩) 2 2], by omega, by rw [show ((2 * (t + 1) : Nat) : Int) = (k : Int) + 2 by omega], ?_, hoo⟩
        rw [prs_succ, HK.out, HY1.out, HY2.out]
        rw [hvl] at hst
        exact hst
      case measure => simp [intOf]; omega
    · obtain rfl : npairs len = t := by omega
      have HGG := Lib.hid hg.grid
      by_cases h1 : 2 * npairs len + 1 < len
      · have h2 : npairs len = 30 := by unfold npairs; unfold npairs at h1; omega
        rw [h2] at h1 ⊢
        have i1 : ((2 * 30 : Nat) : Int) + 1 < len := by omega
        clear hg h2
        go_wp2_with fail
        go_ret
        exact ⟨⟨_, rfl, HGG.out⟩, ho⟩
      · obtain ⟨k, hk⟩ : ∃ k, k = 2 * npairs len := ⟨_, rfl⟩
        rw [← hk] at h1 ⊢
        have i1 : ¬ ((k : Int) + 1 < len) := by omega
        have i2 : (k : Int) ≤ 60 := by unfold npairs at hk; omega
        clear hg hk h1
        go_wp2_with fail
        go_ret
        exact ⟨⟨_, rfl, HGG.out⟩, ho⟩
end Go.Proofs.Ytincgkcmfhhofaa
