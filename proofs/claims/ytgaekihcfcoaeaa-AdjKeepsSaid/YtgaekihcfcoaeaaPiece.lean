/-
  THE WALKS of adj.Graph.piece and of the iterator that it hands back.
-/
import Derived.RangeFuncBox
import Derived.RangeFuncLeaves
import Derived.Shelf.Abstract
import Derived.WalkKit
import Derived.OwnWalkIn
import Derived.TacticsInMore
import Derived.LoopNIn
import Derived.LoopIn
import Derived.Maps.AppendAt
import Derived.Test.YtgaekihcfcoaeaaGraph
set_option linter.unusedVariables false
set_option linter.unusedSimpArgs false
namespace Go.Proofs.Ytgaekihcfcoaeaa
open Go.RowKit Go.Shelf

attribute [local go_sem] Oper.semAt_some

/-- what has come when k rounds are over: f 0, .., f (k - 1) -/
def upto {α : Type} (f : Nat → α) (k : Nat) : List α := (List.range k).map f
theorem upto_succ {α : Type} (f : Nat → α) (k : Nat) : upto f (k + 1) = upto f k ++ [f k] := by simp [upto, List.range_succ]
theorem upto_length {α : Type} (f : Nat → α) (k : Nat) : (upto f k).length = k := by simp [upto]

set_option maxHeartbeats 1000000 in
theorem piece_in (n : Nat) (g k way : Value) (w : World) (hg : ∃ b, g = .pointer (some ⟨b, 0, none⟩)) (hk : ∃ x, k = .int .i64 x) (hw : ∃ x, way = .int .i64 x) :
    CallsIn Fence.wide n Try.prog 20 #[g, k, way] w fun e w' => e = .returned (.func (.func 29) #[] #[.pointer (some ⟨w.heap.size, 0, none⟩), .pointer (some ⟨w.heap.size + 1, 0, none⟩), .pointer (some ⟨w.heap.size + 2, 0, none⟩)]) ∧
      w' = ((w.alloc (.cells #[g] 28)).alloc (.cells #[k] 3)).alloc (.cells #[way] 3) := by
  obtain ⟨b, rfl⟩ := hg
  obtain ⟨x, rfl⟩ := hk
  obtain ⟨y, rfl⟩ := hw
  refine callsIn_of_wp Try.func20 rfl trivial ?_ rfl
  simp only [Try.ntmps20, List.size_toArray, List.length_cons, List.length_nil, Nat.reduceAdd, Nat.reduceSub, Array.replicate_succ, Array.replicate_zero, List.push_toArray, List.append_toArray, List.nil_append, List.cons_append]
  gi_wp2
  go_ret
  exact ⟨rfl, rfl⟩

set_option maxRecDepth 100000 in
set_option maxHeartbeats 2000000 in
/-- the iterator, for every body that keeps what lay below n₀ -/
theorem piece1_in {α : Type} (enc : α → Int) (gf : Nat → α) (N : Nat) (hN : 1 ≤ N) (l B1 B2 B3 n₀ : Nat) (gb n m k way lb lc sb sc o1 o2 : Nat) (ls : Nat → Nat) (he : ∀ j, j < o2 - o1 → enc (gf j) = ls (o1 + j)) (J Jx : List α → World → Prop) (hJ : ∀ s W W', J s W → W.grownBy W' none → J s W')
    (hY : ∀ pre x W, J pre W → pre.length < o2 - o1 → YieldAt Fence.wide (N - 1) Try.prog l #[.int .i64 (enc x)] W fun e W' =>
      (e = .returned (.bool true) ∧ J (pre ++ [x]) W' ∧ Below n₀ W W') ∨ (e = .returned (.bool false) ∧ Jx (pre ++ [x]) W'))
    (W : World) (h1 : W.cell? ⟨B1, 0, none⟩ = some (.pointer (some ⟨gb, 0, none⟩))) (h2 : W.cell? ⟨B2, 0, none⟩ = some (.int .i64 k)) (h3 : W.cell? ⟨B3, 0, none⟩ = some (.int .i64 way))
    (hw : way < 2) (hk : k < n) (hn : n ≤ 20) (hc0 : W.cell? ⟨gb, 0, none⟩ = some (.int .i64 n)) (hc2 : W.cell? ⟨gb, 2, none⟩ = some (.slice (some ⟨lb, 0, none⟩) (2 * m) lc)) (hc3 : W.cell? ⟨gb, 3, none⟩ = some (.slice (some ⟨sb, 0, none⟩) (2 * n + 1) sc))
    (hs1 : W.cell? ⟨sb, 2 * k + way, none⟩ = some (.int .i64 o1)) (hs2 : W.cell? ⟨sb, 2 * k + way + 1, none⟩ = some (.int .i64 o2)) (ho : o1 ≤ o2) (ho2 : o2 ≤ 2 * m) (hm : m ≤ 40) (hlc : 2 * m ≤ lc)
    (hlb : lb < n₀) (hls : ∀ j, j < 2 * m → W.cell? ⟨lb, j, none⟩ = some (.int .i64 (ls j))) (h0 : J [] W) :
    CallsIn Fence.wide N Try.prog 29 #[.func (.yield l) #[] #[], .pointer (some ⟨B1, 0, none⟩), .pointer (some ⟨B2, 0, none⟩), .pointer (some ⟨B3, 0, none⟩)] W fun e W' => (∃ v, e = .returned v) ∧
      ((∃ ys, ys = upto gf (o2 - o1) ∧ J ys W') ∨ (∃ pre, (∃ i, i ≤ o2 - o1 ∧ pre = upto gf i) ∧ Jx pre W')) := by
  have HS := Lib.hid (fun w h => has_yes gb n k w h (by omega) (by omega))
  by_cases heq : o2 = o1
  · subst heq
    clear hY ho he
    rw [Nat.sub_self]
    refine callsIn_of_wp Try.func29 rfl trivial ?_ rfl
    simp only [Try.ntmps29, List.size_toArray, List.length_cons, List.length_nil, Nat.reduceAdd, Nat.reduceSub, Array.replicate_succ, Array.replicate_zero, List.push_toArray, List.append_toArray, List.nil_append, List.cons_append]
    gi_wp2_with (refine ⟨trivial, ?_⟩; gi_at_call 21; refine (callsIn_wide.2 (HS.out _ hc0)).mono ?_; rintro e w' ⟨rfl, rfl⟩)
    refine wpIn_wide.2 ?_
    go_quiet (fail)
    gi_wp2
    gi_loopw [43] (fun i wr => i = .int .i64 0 ∧ J [] wr) (fun _ _ => 0)
    case atStart => exact ⟨rfl, hJ _ _ _ h0 ⟨rfl, rfl, rfl, Nat.le_refl _, fun _ _ _ => rfl⟩⟩
    case round =>
      obtain ⟨rfl, hJs⟩ := hrel
      gi_wp2
      go_end0
      exact ⟨⟨_, rfl⟩, .inl ⟨_, rfl, hJs⟩⟩
  · have hlt : o1 < o2 := by omega
    have YY := Lib.hid hY
    have HE := Lib.hid he
    clear he
    have LS := Lib.hid hls
    clear hY hls
    refine callsIn_of_wp Try.func29 rfl trivial ?_ rfl
    simp only [Try.ntmps29, List.size_toArray, List.length_cons, List.length_nil, Nat.reduceAdd, Nat.reduceSub, Array.replicate_succ, Array.replicate_zero, List.push_toArray, List.append_toArray, List.nil_append, List.cons_append]
    gi_wp2_with (refine ⟨trivial, ?_⟩; gi_at_call 21; refine (callsIn_wide.2 (HS.out _ hc0)).mono ?_; rintro e w' ⟨rfl, rfl⟩)
    refine wpIn_wide.2 ?_
    go_quiet (fail)
    gi_wp2
    have h0 := hJ [] w' (w'.drewN nq) h0 ⟨rfl, rfl, rfl, Nat.le_refl _, fun _ _ _ => rfl⟩
    have b0 : Below n₀ w' (w'.drewN nq) := below_drewN (Below.refl _ _) _
    generalize w'.drewN nq = Y at *
    gi_loopw [43] (fun i wr => ∃ q : Nat, q ≤ o2 - o1 ∧ i = .int .i64 q ∧ J (upto gf q) wr ∧ Below n₀ w' wr)
      (fun i _ => (o2 - o1) - (intOf i).toNat)
    case atStart => exact ⟨0, Nat.zero_le _, rfl, h0, b0⟩
    case round =>
      obtain ⟨q, hq, rfl, hJs, bb⟩ := hrel
      by_cases lt : q < o2 - o1
      · have lti : (q : Int) < ((o2 - o1 : Nat) : Int) := by omega
        have hyy := YY.out _ (gf q) wr hJs (by rw [upto_length]; exact lt)
        rw [HE.out q lt] at hyy
        obtain ⟨fn, tmps, assign, body, hy, hR⟩ := hyy
        have ce := (bb.cell (p := ⟨lb, o1 + q, none⟩) hlb).trans (LS.out (o1 + q) (by omega))
        generalize hz : o2 - o1 = z at *
        gi_wp2
        refine hR.mono ?_
        rintro e W3 (⟨rfl, hJ3, hk3⟩ | ⟨rfl, hJx3⟩)
        · gi_wp2
          go_roundw
          case rel => exact ⟨q + 1, by omega, by simp, by rw [upto_succ]; exact hJ3, bb.trans hk3⟩
          case measure => simp [intOf]; omega
        · gi_wp2
          refine bodyPost_ret (results_none rfl _ _ _) rfl ?_
          exact ⟨⟨_, rfl⟩, .inr ⟨_, ⟨q + 1, by omega, (upto_succ _ _).symm⟩, hJx3⟩⟩
      · obtain rfl : q = o2 - o1 := by omega
        gi_wp2
        go_end0
        exact ⟨⟨_, rfl⟩, .inl ⟨_, rfl, hJs⟩⟩

/-- what piece hands back tells the arcs of a node's piece, in their order -/
theorem piece_stops {α : Type} (enc : α → Int) (gf : Nat → α) (N : Nat) (hN : 1 ≤ N) (B1 B2 B3 n₀ gb n m k way lb lc sb sc o1 o2 : Nat) (ls : Nat → Nat) (he : ∀ j, j < o2 - o1 → enc (gf j) = ls (o1 + j)) (w : World) (l1 : B1 < w.heap.size) (l2 : B2 < w.heap.size) (l3 : B3 < w.heap.size) (l4 : gb < n₀) (l5 : sb < n₀) (l6 : lb < n₀) (hn₀ : n₀ ≤ w.heap.size)
    (h1 : w.cell? ⟨B1, 0, none⟩ = some (.pointer (some ⟨gb, 0, none⟩))) (h2 : w.cell? ⟨B2, 0, none⟩ = some (.int .i64 k)) (h3 : w.cell? ⟨B3, 0, none⟩ = some (.int .i64 way))
    (hw : way < 2) (hk : k < n) (hn : n ≤ 20) (hc0 : w.cell? ⟨gb, 0, none⟩ = some (.int .i64 n)) (hc2 : w.cell? ⟨gb, 2, none⟩ = some (.slice (some ⟨lb, 0, none⟩) (2 * m) lc)) (hc3 : w.cell? ⟨gb, 3, none⟩ = some (.slice (some ⟨sb, 0, none⟩) (2 * n + 1) sc))
    (hs1 : w.cell? ⟨sb, 2 * k + way, none⟩ = some (.int .i64 o1)) (hs2 : w.cell? ⟨sb, 2 * k + way + 1, none⟩ = some (.int .i64 o2)) (ho : o1 ≤ o2) (ho2 : o2 ≤ 2 * m) (hm : m ≤ 40) (hlc : 2 * m ≤ lc)
    (hls : ∀ j, j < 2 * m → w.cell? ⟨lb, j, none⟩ = some (.int .i64 (ls j))) :
    SeqStopsK Fence.wide N Try.prog 29 #[.pointer (some ⟨B1, 0, none⟩), .pointer (some ⟨B2, 0, none⟩), .pointer (some ⟨B3, 0, none⟩)] (fun x : α => #[Value.int .i64 (enc x)]) (Below n₀)
      (fun ys => ys = upto gf (o2 - o1)) (fun pre => ∃ i, i ≤ o2 - o1 ∧ pre = upto gf i) (o2 - o1) w := fun l J Jx W hW hJ _ hY h0 =>
  piece1_in enc gf N hN l B1 B2 B3 n₀ gb n m k way lb lc sb sc o1 o2 ls he J Jx (fun s A B h g => hJ s A B none h g (fun r e => by cases e)) hY W
    ((hW.cell (p := ⟨B1, 0, none⟩) l1).trans h1) ((hW.cell (p := ⟨B2, 0, none⟩) l2).trans h2) ((hW.cell (p := ⟨B3, 0, none⟩) l3).trans h3) hw hk hn
    ((hW.cell (p := ⟨gb, 0, none⟩) (by show gb < _; omega)).trans hc0) ((hW.cell (p := ⟨gb, 2, none⟩) (by show gb < _; omega)).trans hc2) ((hW.cell (p := ⟨gb, 3, none⟩) (by show gb < _; omega)).trans hc3)
    ((hW.cell (p := ⟨sb, 2 * k + way, none⟩) (by show sb < _; omega)).trans hs1) ((hW.cell (p := ⟨sb, 2 * k + way + 1, none⟩) (by show sb < _; omega)).trans hs2) ho ho2 hm hlc l6
    (fun j hj => (hW.cell (p := ⟨lb, j, none⟩) (by show lb < _; omega)).trans (hls j hj)) h0
end Go.Proofs.Ytgaekihcfcoaeaa
