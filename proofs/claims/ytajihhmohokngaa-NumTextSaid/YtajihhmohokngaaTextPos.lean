import Derived.Test.YtajihhmohokngaaSumsLaw
import Derived.Test.YtajihhmohokngaaTree
import Derived.Lib.Bytes
set_option linter.unusedVariables false
set_option linter.unusedSimpArgs false
namespace Go.Proofs.Ytajihhmohokngaa
open Go.RowKit

theorem w128_add (a b : Int) : w128 (w128 a + w128 b) = w128 (a + b) := by unfold w128; omega
theorem w128_negabs (x : Int) (hx : In128 x) (h0 : x < 0) : w128 (0 - w128 ((x.natAbs : Nat) : Int)) = x := by
  rw [Int.ofNat_natAbs_of_nonpos (Int.le_of_lt h0)]
  unfold In128 at hx
  unfold w128
  omega
theorem w128_sum (a b : Int) : w128 (w128 a + b) = w128 (a + b) := by unfold w128; omega
theorem str_size (l : List UInt8) : (⟨l.toArray⟩ : ByteArray).size = l.length := by simp [ByteArray.size]
theorem str_at (l : List UInt8) (i : Nat) (h : i < (⟨l.toArray⟩ : ByteArray).size) : (⟨l.toArray⟩ : ByteArray)[i]'h = l[i]'(by rw [str_size] at h; exact h) := by
  show l.toArray[i]'_ = _
  simp
theorem digs_at (m n j : Nat) (h : j < n) : ((digs m n)[j]'(by rw [digs_len]; exact h)).toNat = 48 + dig m (n - 1 - j) := by
  have := dig_lt m (n - 1 - j)
  simp only [digs, List.getElem_map, List.getElem_range]
  rw [UInt8.toNat_ofNat']
  omega
theorem len_39 {m n : Nat} (h : Len m n) (hm : m < 340282366920938463463374607431768211456) : n ≤ 39 := by
  by_cases e : n = 1
  · omega
  · have := len_top hm (h.2.2 (n - 1) (by have := h.1; omega) (by have := h.1; omega))
    omega
theorem first_dig {m n : Nat} (h : Len m n) : dig m (n - 1) ≠ 0 ∨ n = 1 := by
  by_cases e : n = 1
  · exact .inr e
  · left
    have h1 := h.1
    have a := h.2.2 (n - 1) (by omega) (by omega)
    have b := h.2.1
    have q := quo_step m (n - 1)
    rw [show n - 1 + 1 = n by omega, b] at q
    unfold dig
    omega


set_option maxRecDepth 20000 in
set_option maxHeartbeats 4000000 in
theorem ntext_pos (x : Int) (w : World) (hx : In128 x) (h0 : 0 ≤ x) :
    Calls Try.prog 6 #[.agg #[.int .i64 (hi64 x), .int .u64 (lo64 x)]] w fun e w' => e = .returned (.bool true) ∧ Below w.heap.size w w' := by
  have KK := Lib.hid (fun w => known_any w)
  have T := Lib.hid (fun w => text_any x w hx)
  go_enter Try.func6, Try.ntmps6
  go_wp2_with fail
  have LL := (lay_ok w x).1
  have r1 := WideOf.new w x
  change Calls _ _ _ (lay w x) _
  generalize lay w x = X1 at *
  refine (T.out _).mono ?_
  rintro e w1 ⟨⟨n, hn, rfl⟩, b1⟩
  have bb := LL.trans (b1.mono LL.size)
  have r1 := r1.kept (B := 0) b1
  clear b1 LL T
  have hmx : x.natAbs < 340282366920938463463374607431768211456 := by unfold In128 at hx; omega
  have hn39 := len_39 hn hmx
  have hn1 := hn.1
  have htx : textL x n = digs x.natAbs n := by unfold textL; rw [if_neg (by omega)]; rfl
  obtain ⟨L, hL⟩ : ∃ L, L = 0 + n := ⟨_, rfl⟩
  obtain ⟨s, hs⟩ : ∃ s : ByteArray, ⟨(textL x n).toArray⟩ = s := ⟨_, rfl⟩
  have hsz : s.size = L := by rw [← hs, str_size, htx]; rw [digs_len]; omega
  have h00 : 0 < s.size := by omega
  have hne : s.toList.isEmpty = false := by rw [← hs, Lib.toList_data, htx]; exact (by have := digs_len x.natAbs n; cases h : digs x.natAbs n with | nil => (rw [h] at this; simp at this; omega) | cons a b => rfl)
  have hby : ∀ k (h : k < s.size), 0 ≤ k → (s[k]'h).toNat = 48 + dig x.natAbs (L - 1 - k) := by
    intro k h hk
    have hq : k - 0 < n := by omega
    have q := digs_at x.natAbs n (k - 0) hq
    rw [show n - 1 - (k - 0) = L - 1 - k by omega] at q
    rw [← q]
    subst hs
    rw [str_at]
    congr 1
    simp only [htx]
    rfl
  obtain ⟨d0, hd0⟩ : ∃ d0, (s[0]'h00).toNat = d0 := ⟨_, rfl⟩
  have hd2 := hby 0 (by omega) (by omega)
  rw [hd0, show L - 1 - 0 = n - 1 by omega] at hd2
  have hd1 : ((d0 : Int) == 45) = false := by simp; omega
  have hl : d0 ≠ 48 ∨ s.toList = [48] := by
    rcases first_dig hn with z | z
    · left; omega
    · by_cases e : d0 = 48
      · right
        subst z
        have q : d0 = 48 + dig x.natAbs 0 := hd2
        have z0 : dig x.natAbs 0 = 0 := by omega
        rw [← hs, Lib.toList_data, htx]
        simp [digs, z0]
      · exact .inl e
  have HLL := Lib.hid hl
  clear hl hd2
  rw [hs]
  have HBY := Lib.hid hby
  have HNN := Lib.hid hn
  have hsi : (s.size : Int) = L := by omega
  have HNL := Lib.hid hL
  have HN39 := Lib.hid hn39
  have HN1 := Lib.hid hn1
  clear hby hn hs htx hL hn39 hn1 hmx
  go_wp2_with fail
  have L2 := (lay_ok w1 0).1
  have n12 : w.heap.size ≠ w1.heap.size := Nat.ne_of_lt r1.lt
  have q12 : w.heap.size ≤ w1.heap.size := Nat.le_of_lt r1.lt
  have bb := bb.trans (L2.mono (Nat.le_of_lt r1.lt))
  have r1 := r1.kept (B := 0) L2
  have r2 := WideOf.new w1 0
  refine at_world ?_
  intro W hW
  change W = lay w1 0 at hW
  subst hW
  generalize lay w1 0 = W at *
  generalize hq1 : w.heap.size = q1 at *
  generalize hq2 : w1.heap.size = q2 at *
  have HQ1 := Lib.hid hq1
  clear L2 hq2
  go_loopw [6] (fun v wr => ∃ k : Nat, 0 ≤ k ∧ k ≤ L ∧ v = .int .i64 k ∧ WideOf wr q1 x ∧ WideOf wr q2 (w128 ((x.natAbs / 10 ^ (L - k) : Nat) : Int)) ∧ Below q1 w wr) (fun v _ => 50 - (intOf v).toNat)
  case atStart =>
    have z := HNN.out.2.1
    have e := HNL.out
    refine ⟨0, by omega, by have := HN1.out; omega, rfl, r1, ?_, bb⟩
    rw [show L - 0 = n by omega, z]
    exact r2
  case round =>
    clear r1 r2 bb
    obtain ⟨k, hfk, hkl, rfl, r1, r2, bb⟩ := hrel
    have hk41 : k ≤ 40 := by have := HN39.out; have := HNL.out; omega
    by_cases lt : k < L
    · have hk : k < s.size := by omega
      have hby := HBY.out k hk hfk
      have hdl := dig_lt x.natAbs (L - 1 - k)
      obtain ⟨d, hd⟩ : ∃ d, dig x.natAbs (L - 1 - k) = d := ⟨_, rfl⟩
      rw [hd] at hby hdl
      have hki : (k : Int) < s.size := by omega
      generalize hA : ((x.natAbs / 10 ^ (L - k) : Nat) : Int) = A at *
      have e0 := r2.c0
      have e1 := r2.c1
      have hdz : In64 (d : Int) := by unfold In64; omega
      have P1a := fun w => plus_any (w128 A) (w128 A) w (w128_in _) (w128_in _)
      have P2a := fun w => plus_any (w128 (A + A)) (w128 (A + A)) w (w128_in _) (w128_in _)
      have P3a := fun w => plus_any (w128 (A + A + (A + A))) (w128 A) w (w128_in _) (w128_in _)
      have P4a := fun w => plus_any (w128 (A + A + (A + A) + A)) (w128 (A + A + (A + A) + A)) w (w128_in _) (w128_in _)
      have P5a := fun w => plus_any (w128 (A + A + (A + A) + A + (A + A + (A + A) + A))) d w (w128_in _) hdz.wide
      have HWD := Lib.hid (show IntKind.i64.wrap (IntKind.u8.wrap (48 + (d : Int) - 48)) = d by rw [show (48 : Int) + (d : Int) - 48 = d by omega]; rw [show IntKind.u8.wrap (d : Int) = d by (simp [IntKind.wrap, IntKind.bits, IntKind.signed]; omega)]; simp [IntKind.wrap, IntKind.bits, IntKind.signed]; omega)
      have OF := Lib.hid (fun w => of_any (d : Int) w hdz)
      rw [w128_add] at P1a P2a P3a P4a
      rw [w128_sum] at P5a
      have hnext : ((x.natAbs / 10 ^ (L - (k + 1)) : Nat) : Int) = A + A + (A + A) + A + (A + A + (A + A) + A) + d := by
        rw [← hA, ← hd]
        have e : L - k = (L - (k + 1)) + 1 := by omega
        rw [e, quo_step]
        unfold dig
        rw [show L - 1 - k = L - (k + 1) by omega]
        generalize x.natAbs / 10 ^ (L - (k + 1)) = q
        omega
      obtain ⟨AN, hAN⟩ : ∃ AN, w128 (A + A + (A + A) + A + (A + A + (A + A) + A) + d) = AN := ⟨_, rfl⟩
      have HNX := Lib.hid hnext
      have HAN := Lib.hid hAN
      rw [hAN] at P5a
      have P1 := Lib.hid P1a
      clear P1a
      have P2 := Lib.hid P2a
      clear P2a
      have P3 := Lib.hid P3a
      clear P3a
      have P4 := Lib.hid P4a
      clear P4a
      have P5 := Lib.hid P5a
      clear P5a
      clear hd hA hAN hnext hdz
      generalize w128 (A + A + (A + A) + A + (A + A + (A + A) + A)) = A10 at *
      generalize w128 (A + A + (A + A) + A) = A5 at *
      generalize w128 (A + A + (A + A)) = A4 at *
      generalize w128 (A + A) = A2 at *
      generalize w128 A = A1 at *
      go_wp2_with fail
      refine wp_region_tree (fun w' => w'.cell? ⟨q2, 0, none⟩ = some (.int .i64 (hi64 A1)) ∧ w'.cell? ⟨q2, 1, none⟩ = some (.int .u64 (lo64 A1))) (.take 0 (.take 1 (.take 3 (.take 4 (.take 7 (.two 2 (.two 5 (.two 6 (.two 8 (.one 9 (.one 10 .done)) 9 (.one 8 (.one 10 .done))) 9 (.one 6 (.one 8 (.one 10 .done)))) 9 (.one 5 (.one 6 (.one 8 (.one 10 .done))))) 9 (.one 2 (.one 5 (.one 6 (.one 8 (.one 10 .done))))))))))) (by kernel_rfl) (by kernel_rfl) ⟨r2.c0, r2.c1⟩ ?_
      have bb := Below.drew bb
      have r1 : WideOf wr.drew q1 x := r1
      have r2 : WideOf wr.drew q2 A1 := r2
      clear e0 e1
      generalize wr.drew = v0 at *
      repeat (refine' tree_take (by simp only [List.getElem?_cons_succ, List.getElem?_cons_zero]; rfl) (by rfl) ?_ ?_ ?_; rotate_left 2; (intro w' hS; go_simp; try rfl); (simp only [Act.put, List.setIfInBounds_toArray, List.set_cons_zero, List.set_cons_succ]; try rfl))
      refine tree_two ?_ ?_
      · skip
        (refine tree_op (by simp only [List.getElem?_cons_succ, List.getElem?_cons_zero]; rfl) (by rfl) (fun K hK => ?_); go_simp)
        refine (P1.out _).mono ?_
        rintro e v49 ⟨rfl, bq⟩
        have bb := bb.trans (bq.mono (Nat.le_of_lt r1.lt))
        have r1 := r1.kept (B := 0) bq
        have r2 := r2.kept (B := 0) bq
        clear bq
        refine hK _ _ ⟨r2.c0, r2.c1⟩ ?_
        clear hK K
        refine tree_two ?_ ?_
        · skip
          (refine tree_op (by simp only [List.getElem?_cons_succ, List.getElem?_cons_zero]; rfl) (by rfl) (fun K hK => ?_); go_simp)
          refine (P1.out _).mono ?_
          rintro e v50 ⟨rfl, bq⟩
          have bb := bb.trans (bq.mono (Nat.le_of_lt r1.lt))
          have r1 := r1.kept (B := 0) bq
          have r2 := r2.kept (B := 0) bq
          clear bq
          refine hK _ _ ⟨r2.c0, r2.c1⟩ ?_
          clear hK K
          refine tree_two ?_ ?_
          · skip
            (refine tree_op (by simp only [List.getElem?_cons_succ, List.getElem?_cons_zero]; rfl) (by rfl) (fun K hK => ?_); go_simp)
            refine (P2.out _).mono ?_
            rintro e v51 ⟨rfl, bq⟩
            have bb := bb.trans (bq.mono (Nat.le_of_lt r1.lt))
            have r1 := r1.kept (B := 0) bq
            have r2 := r2.kept (B := 0) bq
            clear bq
            refine hK _ _ ⟨r2.c0, r2.c1⟩ ?_
            clear hK K
            refine tree_two ?_ ?_
            · skip
              (refine tree_op (by simp only [List.getElem?_cons_succ, List.getElem?_cons_zero]; rfl) (by rfl) (fun K hK => ?_); go_simp)
              refine (P3.out _).mono ?_
              rintro e v52 ⟨rfl, bq⟩
              have bb := bb.trans (bq.mono (Nat.le_of_lt r1.lt))
              have r1 := r1.kept (B := 0) bq
              have r2 := r2.kept (B := 0) bq
              clear bq
              refine hK _ _ ⟨r2.c0, r2.c1⟩ ?_
              clear hK K
              (refine tree_do (by simp only [List.getElem?_cons_succ, List.getElem?_cons_zero]; rfl) (by rfl) (fun K hK => ?_); go_simp)
              have L := (lay_ok v52 0).1
              have r3 := WideOf.new v52 0
              have lt2 := r2.lt
              have lt1 := r1.lt
              have r1 := r1.kept (B := 0) L
              have r2 := r2.kept (B := 0) L
              have bb := bb.trans (L.mono (Nat.le_of_lt lt1))
              change K _ (lay v52 0)
              generalize lay v52 0 = v53 at *
              generalize v52.heap.size = c at *
              have n2c : q2 ≠ c := by omega
              have nc2 : c ≠ q2 := by omega
              have n1c : q1 ≠ c := by omega
              have q1c : q1 ≤ c := by omega
              clear L lt1 lt2
              refine hK _ _ ⟨r2.c0, r2.c1⟩ ?_
              clear hK K
              have f0 := r3.f0 0
              have f1 := r3.f0 1
              have d0' := r3.c0
              have d1' := r3.c1
              have lt3 := r3.lt
              (refine tree_do (by simp only [List.getElem?_cons_succ, List.getElem?_cons_zero]; rfl) (by rfl) (fun K hK => ?_); go_simp)
              clear f0 f1 d0' d1' lt3
              change K _ (putW v53 c A5)
              have r1 := r1.far A5 n1c
              have r2 := r2.far A5 n2c
              have r3 := r3.set A5
              have bb := putW_below bb A5 q1c
              generalize putW v53 c A5 = v54 at *
              refine hK _ _ ⟨r2.c0, r2.c1⟩ ?_
              clear hK K
              refine tree_end ?_
              go_wp2_with fail
              refine wp_region_along (fun w' => w'.cell? ⟨c, 0, none⟩ = some (.int .i64 (hi64 A5)) ∧ w'.cell? ⟨c, 1, none⟩ = some (.int .u64 (lo64 A5))) [(0, true), (1, true), (3, true), (4, true), (5, true), (6, true), (7, true), (2, false), (8, false), (9, false), (10, false)] (by kernel_rfl) (by kernel_rfl) ⟨r3.c0, r3.c1⟩ ?_
              have bb := Below.drew bb
              have r1 : WideOf v54.drew q1 x := r1
              have r2 : WideOf v54.drew q2 A1 := r2
              have r3 : WideOf v54.drew c A5 := r3
              generalize v54.drew = Y at *
              repeat (first | (refine' along_take (by simp only [List.getElem?_cons_succ, List.getElem?_cons_zero]; rfl) (by rfl) ?_ ?_ ?_; rotate_left 2; (intro w' hS; go_simp; try rfl); (simp only [Act.put, List.setIfInBounds_toArray, List.set_cons_zero, List.set_cons_succ]; try rfl)) | (refine' along_skip (by simp only [List.getElem?_cons_succ, List.getElem?_cons_zero]; rfl) (by rfl) ?_ ?_; rotate_left 1; (simp only [Act.put, List.setIfInBounds_toArray, List.set_cons_zero, List.set_cons_succ]; try rfl)))
              (refine along_do (by simp only [List.getElem?_cons_succ, List.getElem?_cons_zero]; rfl) (by rfl) (fun K hK => ?_); go_simp)
              refine (P4.out _).mono ?_
              rintro e y1 ⟨rfl, bq⟩
              have bb := bb.trans (bq.mono (Nat.le_of_lt r1.lt))
              have r1 := r1.kept (B := 0) bq
              have r2 := r2.kept (B := 0) bq
              have r3 := r3.kept (B := 0) bq
              clear bq
              refine hK _ _ ⟨r3.c0, r3.c1⟩ ?_
              clear hK K
              repeat (first | (refine' along_take (by simp only [List.getElem?_cons_succ, List.getElem?_cons_zero]; rfl) (by rfl) ?_ ?_ ?_; rotate_left 2; (intro w' hS; go_simp; try rfl); (simp only [Act.put, List.setIfInBounds_toArray, List.set_cons_zero, List.set_cons_succ]; try rfl)) | (refine' along_skip (by simp only [List.getElem?_cons_succ, List.getElem?_cons_zero]; rfl) (by rfl) ?_ ?_; rotate_left 1; (simp only [Act.put, List.setIfInBounds_toArray, List.set_cons_zero, List.set_cons_succ]; try rfl)))
              (refine along_do (by simp only [List.getElem?_cons_succ, List.getElem?_cons_zero]; rfl) (by rfl) (fun K hK => ?_); go_simp)
              rw [HWD.out]
              refine (OF.out _).mono ?_
              rintro e y2 ⟨rfl, bq⟩
              have bb := bb.trans (bq.mono (Nat.le_of_lt r1.lt))
              have r1 := r1.kept (B := 0) bq
              have r2 := r2.kept (B := 0) bq
              have r3 := r3.kept (B := 0) bq
              clear bq
              refine hK _ _ ⟨r3.c0, r3.c1⟩ ?_
              clear hK K
              repeat (first | (refine' along_take (by simp only [List.getElem?_cons_succ, List.getElem?_cons_zero]; rfl) (by rfl) ?_ ?_ ?_; rotate_left 2; (intro w' hS; go_simp; try rfl); (simp only [Act.put, List.setIfInBounds_toArray, List.set_cons_zero, List.set_cons_succ]; try rfl)) | (refine' along_skip (by simp only [List.getElem?_cons_succ, List.getElem?_cons_zero]; rfl) (by rfl) ?_ ?_; rotate_left 1; (simp only [Act.put, List.setIfInBounds_toArray, List.set_cons_zero, List.set_cons_succ]; try rfl)))
              (refine along_do (by simp only [List.getElem?_cons_succ, List.getElem?_cons_zero]; rfl) (by rfl) (fun K hK => ?_); go_simp)
              refine (P5.out _).mono ?_
              rintro e y3 ⟨rfl, bq⟩
              have bb := bb.trans (bq.mono (Nat.le_of_lt r1.lt))
              have r1 := r1.kept (B := 0) bq
              have r2 := r2.kept (B := 0) bq
              have r3 := r3.kept (B := 0) bq
              clear bq
              refine hK _ _ ⟨r3.c0, r3.c1⟩ ?_
              clear hK K
              repeat (first | (refine' along_take (by simp only [List.getElem?_cons_succ, List.getElem?_cons_zero]; rfl) (by rfl) ?_ ?_ ?_; rotate_left 2; (intro w' hS; go_simp; try rfl); (simp only [Act.put, List.setIfInBounds_toArray, List.set_cons_zero, List.set_cons_succ]; try rfl)) | (refine' along_skip (by simp only [List.getElem?_cons_succ, List.getElem?_cons_zero]; rfl) (by rfl) ?_ ?_; rotate_left 1; (simp only [Act.put, List.setIfInBounds_toArray, List.set_cons_zero, List.set_cons_succ]; try rfl)))
              have f0 := r2.f0 0
              have f1 := r2.f0 1
              have d0' := r2.c0
              have d1' := r2.c1
              have lt3 := r2.lt
              (refine along_do (by simp only [List.getElem?_cons_succ, List.getElem?_cons_zero]; rfl) (by rfl) (fun K hK => ?_); go_simp)
              clear f0 f1 d0' d1' lt3
              change K _ (putW y3 q2 AN)
              have r1 := r1.far AN n12
              have r3 := r3.far AN nc2
              have r2 := r2.set AN
              have bb := putW_below bb AN q12
              generalize putW y3 q2 AN = y4 at *
              refine hK _ _ ⟨r3.c0, r3.c1⟩ ?_
              clear hK K
              refine along_end ?_
              go_wp2_with fail
              go_roundw
              case rel =>
                refine ⟨k + 1, by omega, by omega, by go_num, r1, ?_, bb⟩
                rw [HNX.out, HAN.out]
                exact r2
              case measure => first | (simp [intOf]; done) | (simp [intOf]; omega)
            · skip
              (refine tree_op (by simp only [List.getElem?_cons_succ, List.getElem?_cons_zero]; rfl) (by rfl) (fun K hK => ?_); go_simp)
              have L := (lay_ok v51 0).1
              have r3 := WideOf.new v51 0
              have lt2 := r2.lt
              have lt1 := r1.lt
              have r1 := r1.kept (B := 0) L
              have r2 := r2.kept (B := 0) L
              have bb := bb.trans (L.mono (Nat.le_of_lt lt1))
              change K _ (lay v51 0)
              generalize lay v51 0 = v55 at *
              generalize v51.heap.size = c at *
              have n2c : q2 ≠ c := by omega
              have nc2 : c ≠ q2 := by omega
              have n1c : q1 ≠ c := by omega
              have q1c : q1 ≤ c := by omega
              clear L lt1 lt2
              refine hK _ _ ⟨r2.c0, r2.c1⟩ ?_
              clear hK K
              (refine tree_do (by simp only [List.getElem?_cons_succ, List.getElem?_cons_zero]; rfl) (by rfl) (fun K hK => ?_); go_simp)
              refine (P3.out _).mono ?_
              rintro e v56 ⟨rfl, bq⟩
              have bb := bb.trans (bq.mono (Nat.le_of_lt r1.lt))
              have r1 := r1.kept (B := 0) bq
              have r2 := r2.kept (B := 0) bq
              have r3 := r3.kept (B := 0) bq
              clear bq
              refine hK _ _ ⟨r2.c0, r2.c1⟩ ?_
              clear hK K
              have f0 := r3.f0 0
              have f1 := r3.f0 1
              have d0' := r3.c0
              have d1' := r3.c1
              have lt3 := r3.lt
              (refine tree_do (by simp only [List.getElem?_cons_succ, List.getElem?_cons_zero]; rfl) (by rfl) (fun K hK => ?_); go_simp)
              clear f0 f1 d0' d1' lt3
              change K _ (putW v56 c A5)
              have r1 := r1.far A5 n1c
              have r2 := r2.far A5 n2c
              have r3 := r3.set A5
              have bb := putW_below bb A5 q1c
              generalize putW v56 c A5 = v57 at *
              refine hK _ _ ⟨r2.c0, r2.c1⟩ ?_
              clear hK K
              refine tree_end ?_
              go_wp2_with fail
              refine wp_region_along (fun w' => w'.cell? ⟨c, 0, none⟩ = some (.int .i64 (hi64 A5)) ∧ w'.cell? ⟨c, 1, none⟩ = some (.int .u64 (lo64 A5))) [(0, true), (1, true), (3, true), (4, true), (5, true), (6, true), (7, true), (2, false), (8, false), (9, false), (10, false)] (by kernel_rfl) (by kernel_rfl) ⟨r3.c0, r3.c1⟩ ?_
              have bb := Below.drew bb
              have r1 : WideOf v57.drew q1 x := r1
              have r2 : WideOf v57.drew q2 A1 := r2
              have r3 : WideOf v57.drew c A5 := r3
              generalize v57.drew = Y at *
              repeat (first | (refine' along_take (by simp only [List.getElem?_cons_succ, List.getElem?_cons_zero]; rfl) (by rfl) ?_ ?_ ?_; rotate_left 2; (intro w' hS; go_simp; try rfl); (simp only [Act.put, List.setIfInBounds_toArray, List.set_cons_zero, List.set_cons_succ]; try rfl)) | (refine' along_skip (by simp only [List.getElem?_cons_succ, List.getElem?_cons_zero]; rfl) (by rfl) ?_ ?_; rotate_left 1; (simp only [Act.put, List.setIfInBounds_toArray, List.set_cons_zero, List.set_cons_succ]; try rfl)))
              (refine along_do (by simp only [List.getElem?_cons_succ, List.getElem?_cons_zero]; rfl) (by rfl) (fun K hK => ?_); go_simp)
              refine (P4.out _).mono ?_
              rintro e y1 ⟨rfl, bq⟩
              have bb := bb.trans (bq.mono (Nat.le_of_lt r1.lt))
              have r1 := r1.kept (B := 0) bq
              have r2 := r2.kept (B := 0) bq
              have r3 := r3.kept (B := 0) bq
              clear bq
              refine hK _ _ ⟨r3.c0, r3.c1⟩ ?_
              clear hK K
              repeat (first | (refine' along_take (by simp only [List.getElem?_cons_succ, List.getElem?_cons_zero]; rfl) (by rfl) ?_ ?_ ?_; rotate_left 2; (intro w' hS; go_simp; try rfl); (simp only [Act.put, List.setIfInBounds_toArray, List.set_cons_zero, List.set_cons_succ]; try rfl)) | (refine' along_skip (by simp only [List.getElem?_cons_succ, List.getElem?_cons_zero]; rfl) (by rfl) ?_ ?_; rotate_left 1; (simp only [Act.put, List.setIfInBounds_toArray, List.set_cons_zero, List.set_cons_succ]; try rfl)))
              (refine along_do (by simp only [List.getElem?_cons_succ, List.getElem?_cons_zero]; rfl) (by rfl) (fun K hK => ?_); go_simp)
              rw [HWD.out]
              refine (OF.out _).mono ?_
              rintro e y2 ⟨rfl, bq⟩
              have bb := bb.trans (bq.mono (Nat.le_of_lt r1.lt))
              have r1 := r1.kept (B := 0) bq
              have r2 := r2.kept (B := 0) bq
              have r3 := r3.kept (B := 0) bq
              clear bq
              refine hK _ _ ⟨r3.c0, r3.c1⟩ ?_
              clear hK K
              repeat (first | (refine' along_take (by simp only [List.getElem?_cons_succ, List.getElem?_cons_zero]; rfl) (by rfl) ?_ ?_ ?_; rotate_left 2; (intro w' hS; go_simp; try rfl); (simp only [Act.put, List.setIfInBounds_toArray, List.set_cons_zero, List.set_cons_succ]; try rfl)) | (refine' along_skip (by simp only [List.getElem?_cons_succ, List.getElem?_cons_zero]; rfl) (by rfl) ?_ ?_; rotate_left 1; (simp only [Act.put, List.setIfInBounds_toArray, List.set_cons_zero, List.set_cons_succ]; try rfl)))
              (refine along_do (by simp only [List.getElem?_cons_succ, List.getElem?_cons_zero]; rfl) (by rfl) (fun K hK => ?_); go_simp)
              refine (P5.out _).mono ?_
              rintro e y3 ⟨rfl, bq⟩
              have bb := bb.trans (bq.mono (Nat.le_of_lt r1.lt))
              have r1 := r1.kept (B := 0) bq
              have r2 := r2.kept (B := 0) bq
              have r3 := r3.kept (B := 0) bq
              clear bq
              refine hK _ _ ⟨r3.c0, r3.c1⟩ ?_
              clear hK K
              repeat (first | (refine' along_take (by simp only [List.getElem?_cons_succ, List.getElem?_cons_zero]; rfl) (by rfl) ?_ ?_ ?_; rotate_left 2; (intro w' hS; go_simp; try rfl); (simp only [Act.put, List.setIfInBounds_toArray, List.set_cons_zero, List.set_cons_succ]; try rfl)) | (refine' along_skip (by simp only [List.getElem?_cons_succ, List.getElem?_cons_zero]; rfl) (by rfl) ?_ ?_; rotate_left 1; (simp only [Act.put, List.setIfInBounds_toArray, List.set_cons_zero, List.set_cons_succ]; try rfl)))
              have f0 := r2.f0 0
              have f1 := r2.f0 1
              have d0' := r2.c0
              have d1' := r2.c1
              have lt3 := r2.lt
              (refine along_do (by simp only [List.getElem?_cons_succ, List.getElem?_cons_zero]; rfl) (by rfl) (fun K hK => ?_); go_simp)
              clear f0 f1 d0' d1' lt3
              change K _ (putW y3 q2 AN)
              have r1 := r1.far AN n12
              have r3 := r3.far AN nc2
              have r2 := r2.set AN
              have bb := putW_below bb AN q12
              generalize putW y3 q2 AN = y4 at *
              refine hK _ _ ⟨r3.c0, r3.c1⟩ ?_
              clear hK K
              refine along_end ?_
              go_wp2_with fail
              go_roundw
              case rel =>
                refine ⟨k + 1, by omega, by omega, by go_num, r1, ?_, bb⟩
                rw [HNX.out, HAN.out]
                exact r2
              case measure => first | (simp [intOf]; done) | (simp [intOf]; omega)
          · skip
            (refine tree_op (by simp only [List.getElem?_cons_succ, List.getElem?_cons_zero]; rfl) (by rfl) (fun K hK => ?_); go_simp)
            have L := (lay_ok v50 0).1
            have r3 := WideOf.new v50 0
            have lt2 := r2.lt
            have lt1 := r1.lt
            have r1 := r1.kept (B := 0) L
            have r2 := r2.kept (B := 0) L
            have bb := bb.trans (L.mono (Nat.le_of_lt lt1))
            change K _ (lay v50 0)
            generalize lay v50 0 = v58 at *
            generalize v50.heap.size = c at *
            have n2c : q2 ≠ c := by omega
            have nc2 : c ≠ q2 := by omega
            have n1c : q1 ≠ c := by omega
            have q1c : q1 ≤ c := by omega
            clear L lt1 lt2
            refine hK _ _ ⟨r2.c0, r2.c1⟩ ?_
            clear hK K
            (refine tree_do (by simp only [List.getElem?_cons_succ, List.getElem?_cons_zero]; rfl) (by rfl) (fun K hK => ?_); go_simp)
            refine (P2.out _).mono ?_
            rintro e v59 ⟨rfl, bq⟩
            have bb := bb.trans (bq.mono (Nat.le_of_lt r1.lt))
            have r1 := r1.kept (B := 0) bq
            have r2 := r2.kept (B := 0) bq
            have r3 := r3.kept (B := 0) bq
            clear bq
            refine hK _ _ ⟨r2.c0, r2.c1⟩ ?_
            clear hK K
            (refine tree_do (by simp only [List.getElem?_cons_succ, List.getElem?_cons_zero]; rfl) (by rfl) (fun K hK => ?_); go_simp)
            refine (P3.out _).mono ?_
            rintro e v60 ⟨rfl, bq⟩
            have bb := bb.trans (bq.mono (Nat.le_of_lt r1.lt))
            have r1 := r1.kept (B := 0) bq
            have r2 := r2.kept (B := 0) bq
            have r3 := r3.kept (B := 0) bq
            clear bq
            refine hK _ _ ⟨r2.c0, r2.c1⟩ ?_
            clear hK K
            have f0 := r3.f0 0
            have f1 := r3.f0 1
            have d0' := r3.c0
            have d1' := r3.c1
            have lt3 := r3.lt
            (refine tree_do (by simp only [List.getElem?_cons_succ, List.getElem?_cons_zero]; rfl) (by rfl) (fun K hK => ?_); go_simp)
            clear f0 f1 d0' d1' lt3
            change K _ (putW v60 c A5)
            have r1 := r1.far A5 n1c
            have r2 := r2.far A5 n2c
            have r3 := r3.set A5
            have bb := putW_below bb A5 q1c
            generalize putW v60 c A5 = v61 at *
            refine hK _ _ ⟨r2.c0, r2.c1⟩ ?_
            clear hK K
            refine tree_end ?_
            go_wp2_with fail
            refine wp_region_along (fun w' => w'.cell? ⟨c, 0, none⟩ = some (.int .i64 (hi64 A5)) ∧ w'.cell? ⟨c, 1, none⟩ = some (.int .u64 (lo64 A5))) [(0, true), (1, true), (3, true), (4, true), (5, true), (6, true), (7, true), (2, false), (8, false), (9, false), (10, false)] (by kernel_rfl) (by kernel_rfl) ⟨r3.c0, r3.c1⟩ ?_
            have bb := Below.drew bb
            have r1 : WideOf v61.drew q1 x := r1
            have r2 : WideOf v61.drew q2 A1 := r2
            have r3 : WideOf v61.drew c A5 := r3
            generalize v61.drew = Y at *
            repeat (first | (refine' along_take (by simp only [List.getElem?_cons_succ, List.getElem?_cons_zero]; rfl) (by rfl) ?_ ?_ ?_; rotate_left 2; (intro w' hS; go_simp; try rfl); (simp only [Act.put, List.setIfInBounds_toArray, List.set_cons_zero, List.set_cons_succ]; try rfl)) | (refine' along_skip (by simp only [List.getElem?_cons_succ, List.getElem?_cons_zero]; rfl) (by rfl) ?_ ?_; rotate_left 1; (simp only [Act.put, List.setIfInBounds_toArray, List.set_cons_zero, List.set_cons_succ]; try rfl)))
            (refine along_do (by simp only [List.getElem?_cons_succ, List.getElem?_cons_zero]; rfl) (by rfl) (fun K hK => ?_); go_simp)
            refine (P4.out _).mono ?_
            rintro e y1 ⟨rfl, bq⟩
            have bb := bb.trans (bq.mono (Nat.le_of_lt r1.lt))
            have r1 := r1.kept (B := 0) bq
            have r2 := r2.kept (B := 0) bq
            have r3 := r3.kept (B := 0) bq
            clear bq
            refine hK _ _ ⟨r3.c0, r3.c1⟩ ?_
            clear hK K
            repeat (first | (refine' along_take (by simp only [List.getElem?_cons_succ, List.getElem?_cons_zero]; rfl) (by rfl) ?_ ?_ ?_; rotate_left 2; (intro w' hS; go_simp; try rfl); (simp only [Act.put, List.setIfInBounds_toArray, List.set_cons_zero, List.set_cons_succ]; try rfl)) | (refine' along_skip (by simp only [List.getElem?_cons_succ, List.getElem?_cons_zero]; rfl) (by rfl) ?_ ?_; rotate_left 1; (simp only [Act.put, List.setIfInBounds_toArray, List.set_cons_zero, List.set_cons_succ]; try rfl)))
            (refine along_do (by simp only [List.getElem?_cons_succ, List.getElem?_cons_zero]; rfl) (by rfl) (fun K hK => ?_); go_simp)
            rw [HWD.out]
            refine (OF.out _).mono ?_
            rintro e y2 ⟨rfl, bq⟩
            have bb := bb.trans (bq.mono (Nat.le_of_lt r1.lt))
            have r1 := r1.kept (B := 0) bq
            have r2 := r2.kept (B := 0) bq
            have r3 := r3.kept (B := 0) bq
            clear bq
            refine hK _ _ ⟨r3.c0, r3.c1⟩ ?_
            clear hK K
            repeat (first | (refine' along_take (by simp only [List.getElem?_cons_succ, List.getElem?_cons_zero]; rfl) (by rfl) ?_ ?_ ?_; rotate_left 2; (intro w' hS; go_simp; try rfl); (simp only [Act.put, List.setIfInBounds_toArray, List.set_cons_zero, List.set_cons_succ]; try rfl)) | (refine' along_skip (by simp only [List.getElem?_cons_succ, List.getElem?_cons_zero]; rfl) (by rfl) ?_ ?_; rotate_left 1; (simp only [Act.put, List.setIfInBounds_toArray, List.set_cons_zero, List.set_cons_succ]; try rfl)))
            (refine along_do (by simp only [List.getElem?_cons_succ, List.getElem?_cons_zero]; rfl) (by rfl) (fun K hK => ?_); go_simp)
            refine (P5.out _).mono ?_
            rintro e y3 ⟨rfl, bq⟩
            have bb := bb.trans (bq.mono (Nat.le_of_lt r1.lt))
            have r1 := r1.kept (B := 0) bq
            have r2 := r2.kept (B := 0) bq
            have r3 := r3.kept (B := 0) bq
            clear bq
            refine hK _ _ ⟨r3.c0, r3.c1⟩ ?_
            clear hK K
            repeat (first | (refine' along_take (by simp only [List.getElem?_cons_succ, List.getElem?_cons_zero]; rfl) (by rfl) ?_ ?_ ?_; rotate_left 2; (intro w' hS; go_simp; try rfl); (simp only [Act.put, List.setIfInBounds_toArray, List.set_cons_zero, List.set_cons_succ]; try rfl)) | (refine' along_skip (by simp only [List.getElem?_cons_succ, List.getElem?_cons_zero]; rfl) (by rfl) ?_ ?_; rotate_left 1; (simp only [Act.put, List.setIfInBounds_toArray, List.set_cons_zero, List.set_cons_succ]; try rfl)))
            have f0 := r2.f0 0
            have f1 := r2.f0 1
            have d0' := r2.c0
            have d1' := r2.c1
            have lt3 := r2.lt
            (refine along_do (by simp only [List.getElem?_cons_succ, List.getElem?_cons_zero]; rfl) (by rfl) (fun K hK => ?_); go_simp)
            clear f0 f1 d0' d1' lt3
            change K _ (putW y3 q2 AN)
            have r1 := r1.far AN n12
            have r3 := r3.far AN nc2
            have r2 := r2.set AN
            have bb := putW_below bb AN q12
            generalize putW y3 q2 AN = y4 at *
            refine hK _ _ ⟨r3.c0, r3.c1⟩ ?_
            clear hK K
            refine along_end ?_
            go_wp2_with fail
            go_roundw
            case rel =>
              refine ⟨k + 1, by omega, by omega, by go_num, r1, ?_, bb⟩
              rw [HNX.out, HAN.out]
              exact r2
            case measure => first | (simp [intOf]; done) | (simp [intOf]; omega)
        · skip
          (refine tree_op (by simp only [List.getElem?_cons_succ, List.getElem?_cons_zero]; rfl) (by rfl) (fun K hK => ?_); go_simp)
          have L := (lay_ok v49 0).1
          have r3 := WideOf.new v49 0
          have lt2 := r2.lt
          have lt1 := r1.lt
          have r1 := r1.kept (B := 0) L
          have r2 := r2.kept (B := 0) L
          have bb := bb.trans (L.mono (Nat.le_of_lt lt1))
          change K _ (lay v49 0)
          generalize lay v49 0 = v62 at *
          generalize v49.heap.size = c at *
          have n2c : q2 ≠ c := by omega
          have nc2 : c ≠ q2 := by omega
          have n1c : q1 ≠ c := by omega
          have q1c : q1 ≤ c := by omega
          clear L lt1 lt2
          refine hK _ _ ⟨r2.c0, r2.c1⟩ ?_
          clear hK K
          (refine tree_do (by simp only [List.getElem?_cons_succ, List.getElem?_cons_zero]; rfl) (by rfl) (fun K hK => ?_); go_simp)
          refine (P1.out _).mono ?_
          rintro e v63 ⟨rfl, bq⟩
          have bb := bb.trans (bq.mono (Nat.le_of_lt r1.lt))
          have r1 := r1.kept (B := 0) bq
          have r2 := r2.kept (B := 0) bq
          have r3 := r3.kept (B := 0) bq
          clear bq
          refine hK _ _ ⟨r2.c0, r2.c1⟩ ?_
          clear hK K
          (refine tree_do (by simp only [List.getElem?_cons_succ, List.getElem?_cons_zero]; rfl) (by rfl) (fun K hK => ?_); go_simp)
          refine (P2.out _).mono ?_
          rintro e v64 ⟨rfl, bq⟩
          have bb := bb.trans (bq.mono (Nat.le_of_lt r1.lt))
          have r1 := r1.kept (B := 0) bq
          have r2 := r2.kept (B := 0) bq
          have r3 := r3.kept (B := 0) bq
          clear bq
          refine hK _ _ ⟨r2.c0, r2.c1⟩ ?_
          clear hK K
          (refine tree_do (by simp only [List.getElem?_cons_succ, List.getElem?_cons_zero]; rfl) (by rfl) (fun K hK => ?_); go_simp)
          refine (P3.out _).mono ?_
          rintro e v65 ⟨rfl, bq⟩
          have bb := bb.trans (bq.mono (Nat.le_of_lt r1.lt))
          have r1 := r1.kept (B := 0) bq
          have r2 := r2.kept (B := 0) bq
          have r3 := r3.kept (B := 0) bq
          clear bq
          refine hK _ _ ⟨r2.c0, r2.c1⟩ ?_
          clear hK K
          have f0 := r3.f0 0
          have f1 := r3.f0 1
          have d0' := r3.c0
          have d1' := r3.c1
          have lt3 := r3.lt
          (refine tree_do (by simp only [List.getElem?_cons_succ, List.getElem?_cons_zero]; rfl) (by rfl) (fun K hK => ?_); go_simp)
          clear f0 f1 d0' d1' lt3
          change K _ (putW v65 c A5)
          have r1 := r1.far A5 n1c
          have r2 := r2.far A5 n2c
          have r3 := r3.set A5
          have bb := putW_below bb A5 q1c
          generalize putW v65 c A5 = v66 at *
          refine hK _ _ ⟨r2.c0, r2.c1⟩ ?_
          clear hK K
          refine tree_end ?_
          go_wp2_with fail
          refine wp_region_along (fun w' => w'.cell? ⟨c, 0, none⟩ = some (.int .i64 (hi64 A5)) ∧ w'.cell? ⟨c, 1, none⟩ = some (.int .u64 (lo64 A5))) [(0, true), (1, true), (3, true), (4, true), (5, true), (6, true), (7, true), (2, false), (8, false), (9, false), (10, false)] (by kernel_rfl) (by kernel_rfl) ⟨r3.c0, r3.c1⟩ ?_
          have bb := Below.drew bb
          have r1 : WideOf v66.drew q1 x := r1
          have r2 : WideOf v66.drew q2 A1 := r2
          have r3 : WideOf v66.drew c A5 := r3
          generalize v66.drew = Y at *
          repeat (first | (refine' along_take (by simp only [List.getElem?_cons_succ, List.getElem?_cons_zero]; rfl) (by rfl) ?_ ?_ ?_; rotate_left 2; (intro w' hS; go_simp; try rfl); (simp only [Act.put, List.setIfInBounds_toArray, List.set_cons_zero, List.set_cons_succ]; try rfl)) | (refine' along_skip (by simp only [List.getElem?_cons_succ, List.getElem?_cons_zero]; rfl) (by rfl) ?_ ?_; rotate_left 1; (simp only [Act.put, List.setIfInBounds_toArray, List.set_cons_zero, List.set_cons_succ]; try rfl)))
          (refine along_do (by simp only [List.getElem?_cons_succ, List.getElem?_cons_zero]; rfl) (by rfl) (fun K hK => ?_); go_simp)
          refine (P4.out _).mono ?_
          rintro e y1 ⟨rfl, bq⟩
          have bb := bb.trans (bq.mono (Nat.le_of_lt r1.lt))
          have r1 := r1.kept (B := 0) bq
          have r2 := r2.kept (B := 0) bq
          have r3 := r3.kept (B := 0) bq
          clear bq
          refine hK _ _ ⟨r3.c0, r3.c1⟩ ?_
          clear hK K
          repeat (first | (refine' along_take (by simp only [List.getElem?_cons_succ, List.getElem?_cons_zero]; rfl) (by rfl) ?_ ?_ ?_; rotate_left 2; (intro w' hS; go_simp; try rfl); (simp only [Act.put, List.setIfInBounds_toArray, List.set_cons_zero, List.set_cons_succ]; try rfl)) | (refine' along_skip (by simp only [List.getElem?_cons_succ, List.getElem?_cons_zero]; rfl) (by rfl) ?_ ?_; rotate_left 1; (simp only [Act.put, List.setIfInBounds_toArray, List.set_cons_zero, List.set_cons_succ]; try rfl)))
          (refine along_do (by simp only [List.getElem?_cons_succ, List.getElem?_cons_zero]; rfl) (by rfl) (fun K hK => ?_); go_simp)
          rw [HWD.out]
          refine (OF.out _).mono ?_
          rintro e y2 ⟨rfl, bq⟩
          have bb := bb.trans (bq.mono (Nat.le_of_lt r1.lt))
          have r1 := r1.kept (B := 0) bq
          have r2 := r2.kept (B := 0) bq
          have r3 := r3.kept (B := 0) bq
          clear bq
          refine hK _ _ ⟨r3.c0, r3.c1⟩ ?_
          clear hK K
          repeat (first | (refine' along_take (by simp only [List.getElem?_cons_succ, List.getElem?_cons_zero]; rfl) (by rfl) ?_ ?_ ?_; rotate_left 2; (intro w' hS; go_simp; try rfl); (simp only [Act.put, List.setIfInBounds_toArray, List.set_cons_zero, List.set_cons_succ]; try rfl)) | (refine' along_skip (by simp only [List.getElem?_cons_succ, List.getElem?_cons_zero]; rfl) (by rfl) ?_ ?_; rotate_left 1; (simp only [Act.put, List.setIfInBounds_toArray, List.set_cons_zero, List.set_cons_succ]; try rfl)))
          (refine along_do (by simp only [List.getElem?_cons_succ, List.getElem?_cons_zero]; rfl) (by rfl) (fun K hK => ?_); go_simp)
          refine (P5.out _).mono ?_
          rintro e y3 ⟨rfl, bq⟩
          have bb := bb.trans (bq.mono (Nat.le_of_lt r1.lt))
          have r1 := r1.kept (B := 0) bq
          have r2 := r2.kept (B := 0) bq
          have r3 := r3.kept (B := 0) bq
          clear bq
          refine hK _ _ ⟨r3.c0, r3.c1⟩ ?_
          clear hK K
          repeat (first | (refine' along_take (by simp only [List.getElem?_cons_succ, List.getElem?_cons_zero]; rfl) (by rfl) ?_ ?_ ?_; rotate_left 2; (intro w' hS; go_simp; try rfl); (simp only [Act.put, List.setIfInBounds_toArray, List.set_cons_zero, List.set_cons_succ]; try rfl)) | (refine' along_skip (by simp only [List.getElem?_cons_succ, List.getElem?_cons_zero]; rfl) (by rfl) ?_ ?_; rotate_left 1; (simp only [Act.put, List.setIfInBounds_toArray, List.set_cons_zero, List.set_cons_succ]; try rfl)))
          have f0 := r2.f0 0
          have f1 := r2.f0 1
          have d0' := r2.c0
          have d1' := r2.c1
          have lt3 := r2.lt
          (refine along_do (by simp only [List.getElem?_cons_succ, List.getElem?_cons_zero]; rfl) (by rfl) (fun K hK => ?_); go_simp)
          clear f0 f1 d0' d1' lt3
          change K _ (putW y3 q2 AN)
          have r1 := r1.far AN n12
          have r3 := r3.far AN nc2
          have r2 := r2.set AN
          have bb := putW_below bb AN q12
          generalize putW y3 q2 AN = y4 at *
          refine hK _ _ ⟨r3.c0, r3.c1⟩ ?_
          clear hK K
          refine along_end ?_
          go_wp2_with fail
          go_roundw
          case rel =>
            refine ⟨k + 1, by omega, by omega, by go_num, r1, ?_, bb⟩
            rw [HNX.out, HAN.out]
            exact r2
          case measure => first | (simp [intOf]; done) | (simp [intOf]; omega)
      · skip
        (refine tree_op (by simp only [List.getElem?_cons_succ, List.getElem?_cons_zero]; rfl) (by rfl) (fun K hK => ?_); go_simp)
        have L := (lay_ok v0 0).1
        have r3 := WideOf.new v0 0
        have lt2 := r2.lt
        have lt1 := r1.lt
        have r1 := r1.kept (B := 0) L
        have r2 := r2.kept (B := 0) L
        have bb := bb.trans (L.mono (Nat.le_of_lt lt1))
        change K _ (lay v0 0)
        generalize lay v0 0 = v67 at *
        generalize v0.heap.size = c at *
        have n2c : q2 ≠ c := by omega
        have nc2 : c ≠ q2 := by omega
        have n1c : q1 ≠ c := by omega
        have q1c : q1 ≤ c := by omega
        clear L lt1 lt2
        refine hK _ _ ⟨r2.c0, r2.c1⟩ ?_
        clear hK K
        (refine tree_do (by simp only [List.getElem?_cons_succ, List.getElem?_cons_zero]; rfl) (by rfl) (fun K hK => ?_); go_simp)
        refine (P1.out _).mono ?_
        rintro e v68 ⟨rfl, bq⟩
        have bb := bb.trans (bq.mono (Nat.le_of_lt r1.lt))
        have r1 := r1.kept (B := 0) bq
        have r2 := r2.kept (B := 0) bq
        have r3 := r3.kept (B := 0) bq
        clear bq
        refine hK _ _ ⟨r2.c0, r2.c1⟩ ?_
        clear hK K
        (refine tree_do (by simp only [List.getElem?_cons_succ, List.getElem?_cons_zero]; rfl) (by rfl) (fun K hK => ?_); go_simp)
        refine (P1.out _).mono ?_
        rintro e v69 ⟨rfl, bq⟩
        have bb := bb.trans (bq.mono (Nat.le_of_lt r1.lt))
        have r1 := r1.kept (B := 0) bq
        have r2 := r2.kept (B := 0) bq
        have r3 := r3.kept (B := 0) bq
        clear bq
        refine hK _ _ ⟨r2.c0, r2.c1⟩ ?_
        clear hK K
        (refine tree_do (by simp only [List.getElem?_cons_succ, List.getElem?_cons_zero]; rfl) (by rfl) (fun K hK => ?_); go_simp)
        refine (P2.out _).mono ?_
        rintro e v70 ⟨rfl, bq⟩
        have bb := bb.trans (bq.mono (Nat.le_of_lt r1.lt))
        have r1 := r1.kept (B := 0) bq
        have r2 := r2.kept (B := 0) bq
        have r3 := r3.kept (B := 0) bq
        clear bq
        refine hK _ _ ⟨r2.c0, r2.c1⟩ ?_
        clear hK K
        (refine tree_do (by simp only [List.getElem?_cons_succ, List.getElem?_cons_zero]; rfl) (by rfl) (fun K hK => ?_); go_simp)
        refine (P3.out _).mono ?_
        rintro e v71 ⟨rfl, bq⟩
        have bb := bb.trans (bq.mono (Nat.le_of_lt r1.lt))
        have r1 := r1.kept (B := 0) bq
        have r2 := r2.kept (B := 0) bq
        have r3 := r3.kept (B := 0) bq
        clear bq
        refine hK _ _ ⟨r2.c0, r2.c1⟩ ?_
        clear hK K
        have f0 := r3.f0 0
        have f1 := r3.f0 1
        have d0' := r3.c0
        have d1' := r3.c1
        have lt3 := r3.lt
        (refine tree_do (by simp only [List.getElem?_cons_succ, List.getElem?_cons_zero]; rfl) (by rfl) (fun K hK => ?_); go_simp)
        clear f0 f1 d0' d1' lt3
        change K _ (putW v71 c A5)
        have r1 := r1.far A5 n1c
        have r2 := r2.far A5 n2c
        have r3 := r3.set A5
        have bb := putW_below bb A5 q1c
        generalize putW v71 c A5 = v72 at *
        refine hK _ _ ⟨r2.c0, r2.c1⟩ ?_
        clear hK K
        refine tree_end ?_
        go_wp2_with fail
        refine wp_region_along (fun w' => w'.cell? ⟨c, 0, none⟩ = some (.int .i64 (hi64 A5)) ∧ w'.cell? ⟨c, 1, none⟩ = some (.int .u64 (lo64 A5))) [(0, true), (1, true), (3, true), (4, true), (5, true), (6, true), (7, true), (2, false), (8, false), (9, false), (10, false)] (by kernel_rfl) (by kernel_rfl) ⟨r3.c0, r3.c1⟩ ?_
        have bb := Below.drew bb
        have r1 : WideOf v72.drew q1 x := r1
        have r2 : WideOf v72.drew q2 A1 := r2
        have r3 : WideOf v72.drew c A5 := r3
        generalize v72.drew = Y at *
        repeat (first | (refine' along_take (by simp only [List.getElem?_cons_succ, List.getElem?_cons_zero]; rfl) (by rfl) ?_ ?_ ?_; rotate_left 2; (intro w' hS; go_simp; try rfl); (simp only [Act.put, List.setIfInBounds_toArray, List.set_cons_zero, List.set_cons_succ]; try rfl)) | (refine' along_skip (by simp only [List.getElem?_cons_succ, List.getElem?_cons_zero]; rfl) (by rfl) ?_ ?_; rotate_left 1; (simp only [Act.put, List.setIfInBounds_toArray, List.set_cons_zero, List.set_cons_succ]; try rfl)))
        (refine along_do (by simp only [List.getElem?_cons_succ, List.getElem?_cons_zero]; rfl) (by rfl) (fun K hK => ?_); go_simp)
        refine (P4.out _).mono ?_
        rintro e y1 ⟨rfl, bq⟩
        have bb := bb.trans (bq.mono (Nat.le_of_lt r1.lt))
        have r1 := r1.kept (B := 0) bq
        have r2 := r2.kept (B := 0) bq
        have r3 := r3.kept (B := 0) bq
        clear bq
        refine hK _ _ ⟨r3.c0, r3.c1⟩ ?_
        clear hK K
        repeat (first | (refine' along_take (by simp only [List.getElem?_cons_succ, List.getElem?_cons_zero]; rfl) (by rfl) ?_ ?_ ?_; rotate_left 2; (intro w' hS; go_simp; try rfl); (simp only [Act.put, List.setIfInBounds_toArray, List.set_cons_zero, List.set_cons_succ]; try rfl)) | (refine' along_skip (by simp only [List.getElem?_cons_succ, List.getElem?_cons_zero]; rfl) (by rfl) ?_ ?_; rotate_left 1; (simp only [Act.put, List.setIfInBounds_toArray, List.set_cons_zero, List.set_cons_succ]; try rfl)))
        (refine along_do (by simp only [List.getElem?_cons_succ, List.getElem?_cons_zero]; rfl) (by rfl) (fun K hK => ?_); go_simp)
        rw [HWD.out]
        refine (OF.out _).mono ?_
        rintro e y2 ⟨rfl, bq⟩
        have bb := bb.trans (bq.mono (Nat.le_of_lt r1.lt))
        have r1 := r1.kept (B := 0) bq
        have r2 := r2.kept (B := 0) bq
        have r3 := r3.kept (B := 0) bq
        clear bq
        refine hK _ _ ⟨r3.c0, r3.c1⟩ ?_
        clear hK K
        repeat (first | (refine' along_take (by simp only [List.getElem?_cons_succ, List.getElem?_cons_zero]; rfl) (by rfl) ?_ ?_ ?_; rotate_left 2; (intro w' hS; go_simp; try rfl); (simp only [Act.put, List.setIfInBounds_toArray, List.set_cons_zero, List.set_cons_succ]; try rfl)) | (refine' along_skip (by simp only [List.getElem?_cons_succ, List.getElem?_cons_zero]; rfl) (by rfl) ?_ ?_; rotate_left 1; (simp only [Act.put, List.setIfInBounds_toArray, List.set_cons_zero, List.set_cons_succ]; try rfl)))
        (refine along_do (by simp only [List.getElem?_cons_succ, List.getElem?_cons_zero]; rfl) (by rfl) (fun K hK => ?_); go_simp)
        refine (P5.out _).mono ?_
        rintro e y3 ⟨rfl, bq⟩
        have bb := bb.trans (bq.mono (Nat.le_of_lt r1.lt))
        have r1 := r1.kept (B := 0) bq
        have r2 := r2.kept (B := 0) bq
        have r3 := r3.kept (B := 0) bq
        clear bq
        refine hK _ _ ⟨r3.c0, r3.c1⟩ ?_
        clear hK K
        repeat (first | (refine' along_take (by simp only [List.getElem?_cons_succ, List.getElem?_cons_zero]; rfl) (by rfl) ?_ ?_ ?_; rotate_left 2; (intro w' hS; go_simp; try rfl); (simp only [Act.put, List.setIfInBounds_toArray, List.set_cons_zero, List.set_cons_succ]; try rfl)) | (refine' along_skip (by simp only [List.getElem?_cons_succ, List.getElem?_cons_zero]; rfl) (by rfl) ?_ ?_; rotate_left 1; (simp only [Act.put, List.setIfInBounds_toArray, List.set_cons_zero, List.set_cons_succ]; try rfl)))
        have f0 := r2.f0 0
        have f1 := r2.f0 1
        have d0' := r2.c0
        have d1' := r2.c1
        have lt3 := r2.lt
        (refine along_do (by simp only [List.getElem?_cons_succ, List.getElem?_cons_zero]; rfl) (by rfl) (fun K hK => ?_); go_simp)
        clear f0 f1 d0' d1' lt3
        change K _ (putW y3 q2 AN)
        have r1 := r1.far AN n12
        have r3 := r3.far AN nc2
        have r2 := r2.set AN
        have bb := putW_below bb AN q12
        generalize putW y3 q2 AN = y4 at *
        refine hK _ _ ⟨r3.c0, r3.c1⟩ ?_
        clear hK K
        refine along_end ?_
        go_wp2_with fail
        go_roundw
        case rel =>
          refine ⟨k + 1, by omega, by omega, by go_num, r1, ?_, bb⟩
          rw [HNX.out, HAN.out]
          exact r2
        case measure => first | (simp [intOf]; done) | (simp [intOf]; omega)
    · have e : k = L := by omega
      subst e
      have g0 : decide (hi64 x < 0) = false := by simp; unfold hi64; omega
      rw [Nat.sub_self] at r2
      simp only [Nat.pow_zero, Nat.div_one] at r2
      have hm : w128 ((x.natAbs : Nat) : Int) = x := by rw [Int.natAbs_of_nonneg h0]; exact w128_of hx
      rw [hm] at r2
      have e0 := r2.c0
      have e1 := r2.c1
      have hk40 : (k : Int) ≤ 40 := by omega
      have hk1 : (0 : Int) < k := by have := HN1.out; have := HNL.out; omega
      clear hm
      go_wp2_with fail
      refine (KK.out _).mono ?_
      rintro e u1 ⟨rfl, bq⟩
      have bb := bb.trans (bq.mono (Nat.le_of_lt r1.lt))
      have r1 := r1.kept (B := 0) bq
      have r2 := r2.kept (B := 0) bq
      have e0 := r2.c0
      have e1 := r2.c1
      have e2 := r1.c0
      have e3 := r1.c1
      go_wp2_with fail
      all_goals first
        | (exfalso; rcases HLL.out with q | q; omega; contradiction)
        | (go_ret; exact ⟨rfl, by rw [HQ1.out]; exact bb⟩)
end Go.Proofs.Ytajihhmohokngaa
