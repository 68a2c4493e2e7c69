/-
  A graph, as memory holds it; THE WALKS of adj.Graph.has, Nodes, Arc.
-/
import Derived.Test.YtgaekihcfcoaeaaGrid
import Derived.Test.YtgaekihcfcoaeaaSched
import Derived.Test.YtgaekihcfcoaeaaTree
import Derived.Test.YtgaekihcfcoaeaaRows
import Derived.Lib.Hide
import Derived.Deep.QuietTactic
import Derived.BigQuiet
import Derived.Deep.LoopGhost
set_option linter.unusedVariables false
set_option linter.unusedSimpArgs false
namespace Go.Proofs.Ytgaekihcfcoaeaa
open Go.RowKit

/-- an arc's five numbers -/
structure A5 where
  f : Int
  t : Int
  l : Int
  c : Int
  k : Int
def A5.val (x : A5) : Value := .agg #[.int .i64 x.f, .int .i64 x.t, .int .i64 x.l, .int .i64 x.c, .int .i64 x.k]
/-- an arc's five cells -/
def ArcAt (w : World) (b o : Nat) (x : A5) : Prop :=
  w.cell? ⟨b, o, none⟩ = some (.int .i64 x.f) ∧ w.cell? ⟨b, o + 1, none⟩ = some (.int .i64 x.t) ∧ w.cell? ⟨b, o + 2, none⟩ = some (.int .i64 x.l) ∧ w.cell? ⟨b, o + 3, none⟩ = some (.int .i64 x.c) ∧ w.cell? ⟨b, o + 4, none⟩ = some (.int .i64 x.k)
theorem ArcAt.kept {S : Nat → Prop} {w w' : World} {b o : Nat} {x : A5} (h : ArcAt w b o x) (k : Only S w w') (hs : ¬ S b) : ArcAt w' b o x :=
  ⟨k.cell h.1 hs, k.cell h.2.1 hs, k.cell h.2.2.1 hs, k.cell h.2.2.2.1 hs, k.cell h.2.2.2.2 hs⟩
/-- m arcs behind an address, in blocks of p -/
def ArcsAt (p : Nat → Prop) (w : World) (a : Option Addr) (m : Nat) (A : Nat → A5) : Prop :=
  0 < m → ∃ b o, a = some ⟨b, o, none⟩ ∧ p b ∧ ∀ j, j < m → ArcAt w b (o + j * 5) (A j)
theorem ArcsAt.kept {p S : Nat → Prop} {w w' : World} {a : Option Addr} {m : Nat} {A : Nat → A5} (h : ArcsAt p w a m A) (k : Only S w w') (hs : ∀ b, p b → ¬ S b) : ArcsAt p w' a m A := fun h0 => by
  obtain ⟨b, o, e, hp, hc⟩ := h h0
  exact ⟨b, o, e, hp, fun j hj => (hc j hj).kept k (hs b hp)⟩
theorem ArcsAt.mono {p q : Nat → Prop} {w : World} {a : Option Addr} {m : Nat} {A : Nat → A5} (h : ArcsAt p w a m A) (hs : ∀ b, p b → q b) : ArcsAt q w a m A := fun h0 => by
  obtain ⟨b, o, e, hp, hc⟩ := h h0
  exact ⟨b, o, e, hs b hp, hc⟩

/-- a graph of n nodes and m arcs A; its list ls and where its pieces start st -/
structure Gr (p : Nat → Prop) (w : World) (gb n m : Nat) (A : Nat → A5) (ls st : Nat → Nat) : Prop where
  small : n ≤ 20 ∧ m ≤ 40
  good : ∀ j, j < m → 0 ≤ (A j).f ∧ (A j).f < n ∧ 0 ≤ (A j).t ∧ (A j).t < n
  pg : p gb
  mem : ∃ a c lb lc sb sc, w.heap[gb]? = some (.cells #[.int .i64 n, .slice a m c, .slice (some ⟨lb, 0, none⟩) (2 * m) lc, .slice (some ⟨sb, 0, none⟩) (2 * n + 1) sc] 45 (0, 0)) ∧ p lb ∧ p sb ∧ (2 * m ≤ lc ∧ lb < w.heap.size) ∧ ArcsAt p w a m A ∧ (∀ j, j < 2 * m → w.cell? ⟨lb, j, none⟩ = some (.int .i64 (ls j : Nat))) ∧ (∀ j, j < 2 * n + 1 → w.cell? ⟨sb, j, none⟩ = some (.int .i64 (st j : Nat)))
theorem Gr.kept {p S : Nat → Prop} {w w' : World} {gb n m : Nat} {A : Nat → A5} {ls st : Nat → Nat} (h : Gr p w gb n m A ls st) (k : Only S w w') (hs : ∀ b, p b → ¬ S b) : Gr p w' gb n m A ls st := by
  obtain ⟨h1, h2, h3, a, c, lb, lc, sb, sc, hb, pl, ps, hl, ha, hls, hst⟩ := h
  exact ⟨h1, h2, h3, a, c, lb, lc, sb, sc, (k.block gb (lt_of_heap hb) (hs gb h3)).trans hb, pl, ps, ⟨hl.1, Nat.lt_of_lt_of_le hl.2 k.size⟩, ha.kept k hs, fun j hj => k.cell (hls j hj) (hs lb pl), fun j hj => k.cell (hst j hj) (hs sb ps)⟩
theorem Gr.mono {p q : Nat → Prop} {w : World} {gb n m : Nat} {A : Nat → A5} {ls st : Nat → Nat} (h : Gr p w gb n m A ls st) (hs : ∀ b, p b → q b) : Gr q w gb n m A ls st := by
  obtain ⟨h1, h2, h3, a, c, lb, lc, sb, sc, hb, pl, ps, hl, ha, hls, hst⟩ := h
  exact ⟨h1, h2, hs _ h3, a, c, lb, lc, sb, sc, hb, hs _ pl, hs _ ps, hl, ha.mono hs, hls, hst⟩

set_option maxHeartbeats 800000 in
/-- .. of what has its nodes' number in place -/
theorem has_yes (gb n : Nat) (k : Int) (w : World) (hc : w.cell? ⟨gb, 0, none⟩ = some (.int .i64 n)) (h0 : 0 ≤ k) (h1 : k < n) :
    Calls Try.prog 21 #[.pointer (some ⟨gb, 0, none⟩), .int .i64 k] w fun e w' => e = .returned (.bool true) ∧ w' = w := by
  go_enter Try.func21, Try.ntmps21
  go_wp2_with fail
  go_ret
  exact ⟨rfl, rfl⟩
set_option maxHeartbeats 800000 in
theorem nodes_any (gb n : Nat) (w : World) (hc : w.cell? ⟨gb, 0, none⟩ = some (.int .i64 n)) :
    Calls Try.prog 22 #[.pointer (some ⟨gb, 0, none⟩)] w fun e w' => e = .returned (.int .i64 n) ∧ w' = w := by
  go_enter Try.func22, Try.ntmps22
  go_wp2_with fail
  go_ret
  exact ⟨rfl, rfl⟩

set_option maxRecDepth 20000 in
set_option maxHeartbeats 800000 in
theorem arc_yes (p : Nat → Prop) (gb n m j c : Nat) (a : Option Addr) (A : Nat → A5) (w : World) (hg : gb < w.heap.size) (hc0 : w.cell? ⟨gb, 0, none⟩ = some (.int .i64 n)) (hc1 : w.cell? ⟨gb, 1, none⟩ = some (.slice a m c))
    (ha : ArcsAt p w a m A) (hj : j < m) (hm : m ≤ 40) (g1 : 0 ≤ (A j).f) (g2 : (A j).f < n) (g3 : 0 ≤ (A j).t) (g4 : (A j).t < n) :
    Calls Try.prog 8 #[.pointer (some ⟨gb, 0, none⟩), .int .i64 j] w fun e w' => e = .returned (.tuple #[(A j).val, .bool true]) ∧ Only NoB w w' := by
  obtain ⟨b, o, rfl, _, hx⟩ := ha (by omega)
  obtain ⟨x0, x1, x2, x3, x4⟩ := hx j hj
  have H1 := Lib.hid (fun w h => has_yes gb n (A j).f w h g1 g2)
  have H2 := Lib.hid (fun w h => has_yes gb n (A j).t w h g3 g4)
  unfold A5.val
  generalize (A j).f = xf at *
  generalize (A j).t = xt at *
  generalize (A j).l = xl at *
  generalize (A j).c = xc at *
  generalize (A j).k = xk at *
  clear hx
  have K0 : Hid (∀ w', Only NoB w w' → w'.cell? ⟨gb, 0, none⟩ = some (.int .i64 n)) := fun w' o => o.cell hc0 (fun f => f)
  have lb := World.block_lt_of_cell? _ _ x0
  have lti : (j : Int) < m := by omega
  have j0 : (0 : Int) ≤ j := Int.natCast_nonneg _
  go_enter Try.func8, Try.ntmps8
  go_wp2_with fail
  refine (H1.out _ (K0.out _ (((Only.refl _ _).alloc _).alloc _))).mono ?_
  rintro e w1 ⟨rfl, rfl⟩
  go_wp2_with fail
  refine (H2.out _ (K0.out _ (((Only.refl _ _).alloc _).alloc _))).mono ?_
  rintro e w1 ⟨rfl, rfl⟩
  go_wp2_with fail
  exact bodyPost_ret (v := .tuple #[.agg #[.int .i64 xf, .int .i64 xt, .int .i64 xl, .int .i64 xc, .int .i64 xk], .bool true]) (by simp [results, Try.results8, go_sem]) rfl ⟨rfl, ((Only.refl _ _).alloc _).alloc _⟩
end Go.Proofs.Ytgaekihcfcoaeaa
