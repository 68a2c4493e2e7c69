import Derived.Test.YtajihhmohokngaaDeeds
import Derived.Test.YtajihhmohokngaaSumsLaw
set_option linter.unusedVariables false
set_option linter.unusedSimpArgs false
namespace Go.Proofs.Ytajihhmohokngaa
open Go.RowKit

set_option maxHeartbeats 4000000 in
theorem asks_long (a b x y : Int) (l : Option Addr) (n cap : Nat) (vc vd : Value) (w : World) (hn : 200 < n) (hn2 : n ≤ maxLen) :
    Calls Try.prog 10 #[.int .i64 a, .int .i64 b, .agg #[.int .i64 (hi64 x), .int .u64 (lo64 x)], .agg #[.int .i64 (hi64 y), .int .u64 (lo64 y)], .slice l n cap, vc, vd] w fun e w' => e = .returned (.bool true) ∧ Below w.heap.size w w' := by
  have KK := Lib.hid (fun w => known_any w)
  have bb := Below.refl w.heap.size w
  have lti : (200 : Int) < n := by omega
  clear hn2
  go_enter Try.func10, Try.ntmps10
  go_wp2_with fail
  have L0 := (lay_ok w x).1
  have L1 := (lay_ok (lay w x) y).1
  have bb := bb.trans (L0.mono bb.size)
  have bb := bb.trans (L1.mono bb.size)
  change Calls _ _ _ (lay (lay w x) y) _
  generalize lay (lay w x) y = W at *
  refine (KK.out _).mono ?_
  rintro e w1 ⟨rfl, bq⟩
  have bb := bb.trans (bq.mono bb.size)
  go_wp2_with fail
  go_ret
  exact ⟨rfl, bb⟩

set_option maxRecDepth 100000 in
set_option maxHeartbeats 4000000 in
theorem asks_short (a b x y : Int) (l c d : Option Addr) (n cap nc cc nd cd : Nat) (f kc ac bc kd ad bd : Nat → Int) (w : World) (ha : In64 a) (hb : In64 b) (hx : In128 x) (hy : In128 y)
    (hn : n ≤ 200) (hl : IntsAt w l n f) (hc : DeedsAt w c nc kc ac bc) (hd : DeedsAt w d nd kd ad bd) :
    Calls Try.prog 10 #[.int .i64 a, .int .i64 b, .agg #[.int .i64 (hi64 x), .int .u64 (lo64 x)], .agg #[.int .i64 (hi64 y), .int .u64 (lo64 y)], .slice l n cap, .slice c nc cc, .slice d nd cd] w fun e w' => e = .returned (.bool true) ∧ Below w.heap.size w w' := by
  have KK := Lib.hid (fun w => known_any w)
  have SH := Lib.hid (fun w => short_walk a b w ha hb)
  have XY := Lib.hid (fun w => wides_walk x y w hx hy)
  have OF := Lib.hid (fun w => of_any a w ha)
  have RO := Lib.hid (fun w => rof_any a w ha)
  have TI := Lib.hid (fun w => times_any a b w ha hb)
  have RT := Lib.hid (fun w => rtimes_any a b w ha hb)
  have bb := Below.refl w.heap.size w
  have lti : ¬ (200 : Int) < n := by omega
  have mk : ∀ w', Below w.heap.size w w' → IntsAt w' l n f ∧ DeedsAt w' c nc kc ac bc ∧ DeedsAt w' d nd kd ad bd := fun w' h => ⟨hl.below h, hc.below h, hd.below h⟩
  have MK := Lib.hid mk
  have HX := Lib.hid hx
  clear hl hc hd mk hx hy ha hb hn
  generalize a * b = p at *
  go_enter Try.func10, Try.ntmps10
  go_wp2_with fail
  have L0 := (lay_ok w x).1
  have L1 := (lay_ok (lay w x) y).1
  have e1 : (lay w x).heap.size = w.heap.size + 1 := by simp [lay]
  have i1 := (WideIn.new w x).kept (B := 0) L1
  have i2 := WideIn.new (lay w x) y
  rw [e1] at i2
  have bb := bb.trans (L0.mono bb.size)
  have bb := bb.trans (L1.mono bb.size)
  change Calls _ _ _ (lay (lay w x) y) _
  generalize lay (lay w x) y = W at *
  clear L0 L1 e1
  refine (KK.out _).mono ?_
  rintro e w1 ⟨rfl, bq⟩
  have bb := bb.trans (bq.mono bb.size)
  have i1 := i1.kept (B := 0) bq
  have i2 := i2.kept (B := 0) bq
  clear bq
  go_wp2_with fail
  refine (deeds_any c nc cc kc ac bc w1 (MK.out _ bb).2.1).mono ?_
  rintro e w2 ⟨⟨v, hv, rfl⟩, bq⟩
  have bb := bb.trans (bq.mono bb.size)
  have i1 := i1.kept (B := 0) bq
  have i2 := i2.kept (B := 0) bq
  clear bq
  go_wp2_with fail
  have L0 := (lay_ok w2 v).1
  have i3 := WideIn.new w2 v
  have i1 := i1.kept (B := 0) L0
  have i2 := i2.kept (B := 0) L0
  have bb := bb.trans (L0.mono bb.size)
  change Calls _ _ _ (lay w2 v) _
  generalize hq : w2.heap.size = q3 at *
  generalize lay w2 v = w3 at *
  clear L0 hq
  refine (deeds_any d nd cd kd ad bd w3 (MK.out _ bb).2.2).mono ?_
  rintro e w4 ⟨⟨u, hu, rfl⟩, bq⟩
  have bb := bb.trans (bq.mono bb.size)
  have i1 := i1.kept (B := 0) bq
  have i2 := i2.kept (B := 0) bq
  have i3 := i3.kept (B := 0) bq
  clear bq
  go_wp2_with fail
  have L0 := (lay_ok w4 u).1
  have i4 := WideIn.new w4 u
  have i1 := i1.kept (B := 0) L0
  have i2 := i2.kept (B := 0) L0
  have i3 := i3.kept (B := 0) L0
  have bb := bb.trans (L0.mono bb.size)
  change Calls _ _ _ (lay w4 u) _
  generalize hq : w4.heap.size = q4 at *
  generalize lay w4 u = w5 at *
  clear L0 hq
  have UV := Lib.hid (fun w => wides_walk v u w hv hu)
  have VX := Lib.hid (fun w => wides_walk v x w hv HX.out)
  clear hu hv HX
  refine (SH.out _).mono ?_
  rintro e w6 ⟨rfl, bq⟩
  have bb := bb.trans (bq.mono bb.size)
  have i1 := i1.kept (B := 0) bq
  have i2 := i2.kept (B := 0) bq
  have i3 := i3.kept (B := 0) bq
  have i4 := i4.kept (B := 0) bq
  clear bq
  have c1 := i1.c0
  have d1 := i1.c1
  have c2 := i2.c0
  have d2 := i2.c1
  go_wp2_with fail
  clear c1 d1
  clear c2 d2
  refine (XY.out _).mono ?_
  rintro e w6 ⟨rfl, bq⟩
  have bb := bb.trans (bq.mono bb.size)
  have i1 := i1.kept (B := 0) bq
  have i2 := i2.kept (B := 0) bq
  have i3 := i3.kept (B := 0) bq
  have i4 := i4.kept (B := 0) bq
  clear bq
  have c3 := i3.c0
  have d3 := i3.c1
  have c4 := i4.c0
  have d4 := i4.c1
  go_wp2_with fail
  clear c3 d3
  clear c4 d4
  refine (UV.out _).mono ?_
  rintro e w6 ⟨rfl, bq⟩
  have bb := bb.trans (bq.mono bb.size)
  have i1 := i1.kept (B := 0) bq
  have i2 := i2.kept (B := 0) bq
  have i3 := i3.kept (B := 0) bq
  have i4 := i4.kept (B := 0) bq
  clear bq
  have c1 := i1.c0
  have d1 := i1.c1
  have c3 := i3.c0
  have d3 := i3.c1
  go_wp2_with fail
  clear c1 d1
  clear c3 d3
  refine (VX.out _).mono ?_
  rintro e w6 ⟨rfl, bq⟩
  have bb := bb.trans (bq.mono bb.size)
  have i1 := i1.kept (B := 0) bq
  have i2 := i2.kept (B := 0) bq
  have i3 := i3.kept (B := 0) bq
  have i4 := i4.kept (B := 0) bq
  clear bq
  go_wp2_with fail
  refine (sum_any l n cap f _ (MK.out _ bb).1).mono ?_
  rintro e w6 ⟨rfl, bq⟩
  have bb := bb.trans (bq.mono bb.size)
  have i1 := i1.kept (B := 0) bq
  have i2 := i2.kept (B := 0) bq
  have i3 := i3.kept (B := 0) bq
  have i4 := i4.kept (B := 0) bq
  clear bq
  go_wp2_with fail
  refine (rsum_any l n cap f _ (MK.out _ bb).1).mono ?_
  rintro e w6 ⟨rfl, bq⟩
  have bb := bb.trans (bq.mono bb.size)
  have i1 := i1.kept (B := 0) bq
  have i2 := i2.kept (B := 0) bq
  have i3 := i3.kept (B := 0) bq
  have i4 := i4.kept (B := 0) bq
  clear bq
  go_wp2_with fail
  refine (OF.out _).mono ?_
  rintro e w6 ⟨rfl, bq⟩
  have bb := bb.trans (bq.mono bb.size)
  have i1 := i1.kept (B := 0) bq
  have i2 := i2.kept (B := 0) bq
  have i3 := i3.kept (B := 0) bq
  have i4 := i4.kept (B := 0) bq
  clear bq
  go_wp2_with fail
  refine (RO.out _).mono ?_
  rintro e w6 ⟨rfl, bq⟩
  have bb := bb.trans (bq.mono bb.size)
  have i1 := i1.kept (B := 0) bq
  have i2 := i2.kept (B := 0) bq
  have i3 := i3.kept (B := 0) bq
  have i4 := i4.kept (B := 0) bq
  clear bq
  go_wp2_with fail
  refine (TI.out _).mono ?_
  rintro e w6 ⟨rfl, bq⟩
  have bb := bb.trans (bq.mono bb.size)
  have i1 := i1.kept (B := 0) bq
  have i2 := i2.kept (B := 0) bq
  have i3 := i3.kept (B := 0) bq
  have i4 := i4.kept (B := 0) bq
  clear bq
  go_wp2_with fail
  refine (RT.out _).mono ?_
  rintro e w6 ⟨rfl, bq⟩
  have bb := bb.trans (bq.mono bb.size)
  have i1 := i1.kept (B := 0) bq
  have i2 := i2.kept (B := 0) bq
  have i3 := i3.kept (B := 0) bq
  have i4 := i4.kept (B := 0) bq
  clear bq
  go_wp2_with fail
  go_ret
  exact ⟨rfl, bb⟩
theorem asks_walk (a b x y : Int) (l c d : Option Addr) (n cap nc cc nd cd : Nat) (kc ac bc kd ad bd : Nat → Int) (zs : List Int) (w : World) (ha : In64 a) (hb : In64 b) (hx : In128 x) (hy : In128 y)
    (hl : IsRow .i64 w l n cap zs) (hc : DeedsAt w c nc kc ac bc) (hd : DeedsAt w d nd kd ad bd) :
    Calls Try.prog 10 #[.int .i64 a, .int .i64 b, .agg #[.int .i64 (hi64 x), .int .u64 (lo64 x)], .agg #[.int .i64 (hi64 y), .int .u64 (lo64 y)], .slice l n cap, .slice c nc cc, .slice d nd cd] w fun e w' => e = .returned (.bool true) ∧ Below w.heap.size w w' := by
  obtain ⟨h1, h2, h3⟩ := ints_of_row hl
  by_cases hn : n ≤ 200
  · obtain ⟨f, hf⟩ := h3 (by omega)
    exact asks_short a b x y l c d n cap nc cc nd cd f kc ac bc kd ad bd w ha hb hx hy hn hf hc hd
  · exact asks_long a b x y l n cap _ _ w (by omega) (Nat.le_trans h1 h2)
end Go.Proofs.Ytajihhmohokngaa
