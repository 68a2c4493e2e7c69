import Derived.Test.YtajihhmohokngaaDiv
import Derived.Test.YtajihhmohokngaaTimes
import Derived.Laws.IdiomStrings
import Derived.Laws.OwnMore
import Derived.OwnWalk
import Derived.RowKit
set_option linter.unusedVariables false
set_option linter.unusedSimpArgs false
namespace Go.Proofs.Ytajihhmohokngaa
open Go.RowKit

theorem div_any (r x : Int) (w : World) (h0 : 0 ≤ x) (h1 : x < 18446744073709551616) (r0 : 0 ≤ r) (r1 : r < 10) :
    Calls Try.prog 35 #[.int .u64 r, .int .u64 x, .int .u64 10] w fun e w' => e = .returned (.tuple #[.int .u64 ((r * 18446744073709551616 + x) / 10), .int .u64 ((r * 18446744073709551616 + x) % 10)]) ∧ Below w.heap.size w w' := by
  by_cases h : r = 0
  · subst h
    have J := div_low x w h0 h1
    simp only [Int.zero_mul, Int.zero_add]
    exact J
  · refine (div_high r x w h0 h1 (by omega) r1).mono ?_
    rintro e w' ⟨rfl, rfl⟩
    exact ⟨rfl, Below.refl _ _⟩

/-- how many digits -/
def Len (m n : Nat) : Prop := 1 ≤ n ∧ m / 10 ^ n = 0 ∧ ∀ k, 1 ≤ k → k < n → m / 10 ^ k ≠ 0
theorem len_one {m n k : Nat} (h : Len m n) (g : Len m k) : n = k := by
  obtain ⟨h1, h2, h3⟩ := h
  obtain ⟨g1, g2, g3⟩ := g
  by_cases a : n < k
  · exact absurd h2 (g3 n h1 a)
  · by_cases b : k < n
    · exact absurd g2 (h3 k g1 b)
    · omega
def dig (m j : Nat) : Nat := m / 10 ^ j % 10
theorem dig_lt (m j : Nat) : dig m j < 10 := Nat.mod_lt _ (by omega)
/-- the cells of the digits, k of them laid -/
def digC (m k : Nat) : Array Value := ((List.range 39).map fun j => Value.int .u8 (if j < k then 48 + (dig m j : Int) else 0)).toArray
theorem digC_zero (m : Nat) : digC m 0 = (List.replicate 39 (Value.int .u8 0)).toArray := by
  rfl
theorem digC_get (m k j : Nat) (h : j < 39) : (digC m k)[j]? = some (Value.int .u8 (if j < k then 48 + (dig m j : Int) else 0)) := by
  unfold digC
  simp [h]
theorem digC_set (m k : Nat) (h : k < 39) : (digC m k).setIfInBounds k (.int .u8 (48 + (dig m k : Int))) = digC m (k + 1) := by
  apply Array.ext_getElem?
  intro j
  by_cases hj : j < 39
  · rw [digC_get m (k+1) j hj]
    simp only [Array.getElem?_setIfInBounds]
    by_cases e : k = j
    · subst e
      have : k < (digC m k).size := by unfold digC; simp [h]
      simp [this]
    · rw [if_neg e, digC_get m k j hj]
      have : j < k ↔ j < k + 1 := by omega
      simp only [this]
  · have a : (digC m (k+1)).size = 39 := by unfold digC; simp
    have b : (digC m k).size = 39 := by unfold digC; simp
    rw [Array.getElem?_eq_none (by simp [b]; omega), Array.getElem?_eq_none (by omega)]
theorem own_keep {w w' : World} {base : Nat} {e : TypeId} {size : Nat} {v : Value} {n : Nat} {xs : List Value} (h : w.ownsRow base e size v n xs) (hk : ∀ g, v.ownBlock = some g → w'.heap[g]? = w.heap[g]?) : w'.ownsRow base e size v n xs := by
  refine ⟨h.1, ?_⟩
  rcases h.2 with hn | ⟨g, cap, cur, rfl, hb, hgg, rest⟩
  · exact .inl hn
  · exact .inr ⟨g, cap, cur, rfl, hb, by rw [hk g (by simp [Value.ownBlock])]; exact hgg, rest⟩
/-- the digits, the first one first -/
def digs (m n : Nat) : List UInt8 := (List.range n).map fun j => UInt8.ofNat (48 + dig m (n - 1 - j))
/-- a number's text -/
def textL (x : Int) (n : Nat) : List UInt8 := (if x < 0 then [45] else []) ++ digs x.natAbs n
def byteC (l : List UInt8) : List Value := l.map fun b => Value.int .u8 (b.toNat : Int)
theorem len_top {m k : Nat} (hm : m < 340282366920938463463374607431768211456) (h : m / 10 ^ k ≠ 0) : k < 39 := by
  by_cases g : k < 39
  · exact g
  · have : 10 ^ 39 ≤ 10 ^ k := Nat.pow_le_pow_right (by omega) (by omega)
    exact absurd (Nat.div_eq_of_lt (by omega)) h
def hiQ (m k : Nat) : Int := ((m / 10 ^ k / 18446744073709551616 : Nat) : Int)
def loQ (m k : Nat) : Int := ((m / 10 ^ k % 18446744073709551616 : Nat) : Int)
theorem quo_step (m k : Nat) : m / 10 ^ (k + 1) = m / 10 ^ k / 10 := by rw [Nat.pow_succ, Nat.div_div_eq_div_mul]
theorem hiQ_step (m k : Nat) : hiQ m k / 10 = hiQ m (k + 1) := by unfold hiQ; rw [quo_step]; omega
theorem loQ_step (m k : Nat) : (hiQ m k % 10 * 18446744073709551616 + loQ m k) / 10 = loQ m (k + 1) := by unfold hiQ loQ; rw [quo_step]; omega
theorem dig_step (m k : Nat) : (hiQ m k % 10 * 18446744073709551616 + loQ m k) % 10 = (dig m k : Int) := by unfold hiQ loQ dig; omega
theorem hiQ_in (m k : Nat) (h : m < 340282366920938463463374607431768211456) : 0 ≤ hiQ m k ∧ hiQ m k < 18446744073709551616 := by
  unfold hiQ
  have := Nat.div_le_self m (10 ^ k)
  generalize m / 10 ^ k = q at *
  omega
theorem loQ_in (m k : Nat) : 0 ≤ loQ m k ∧ loQ m k < 18446744073709551616 := by unfold loQ; omega
theorem quo_zero (m k : Nat) : m / 10 ^ k = 0 ↔ hiQ m k = 0 ∧ loQ m k = 0 := by unfold hiQ loQ; omega
theorem heap_new (w : World) (o : Obj) : (w.alloc o).heap[w.heap.size]? = some o := by
  show (w.heap.push o)[w.heap.size]? = _
  simp
theorem cell_in (w : World) (u a : Nat) (c : Array Value) (t : TypeId) (fz : Nat × Nat) (h : w.heap[u]? = some (.cells c t fz)) : w.cell? ⟨u, a, none⟩ = c[a]? := by
  simp [World.cell?, h]
theorem frozen_in (w : World) (u a : Nat) (c : Array Value) (t : TypeId) (h : w.heap[u]? = some (.cells c t (0, 0))) : w.frozen? ⟨u, a, none⟩ = false := by
  simp [World.frozen?, h]
theorem heap_setCell_at (w : World) (u a : Nat) (v : Value) (c : Array Value) (t : TypeId) (fz : Nat × Nat) (h : w.heap[u]? = some (.cells c t fz)) :
    (w.setCell ⟨u, a, none⟩ v).heap[u]? = some (.cells (c.setIfInBounds a v) t fz) := by
  simp [World.setCell, Array.getElem?_modify, h]

theorem cell_one_new (w : World) (v : Value) (t : TypeId) : ∀ j u, [v][j]? = some u → (w.alloc (.cells #[v] t)).cell? ((⟨w.heap.size, 0, none⟩ : Addr).add j) = some u := by
  intro j u h
  cases j with
  | zero => simp at h; subst h; rw [Addr.add]; simp
  | succ j => simp at h
theorem own_mono {w : World} {base base' : Nat} {e : TypeId} {size : Nat} {v : Value} {n : Nat} {xs : List Value} (h : w.ownsRow base e size v n xs) (hb : base' ≤ base) : w.ownsRow base' e size v n xs := by
  refine ⟨h.1, ?_⟩
  rcases h.2 with hn | ⟨g, cap, cur, rfl, hb', rest⟩
  · exact .inl hn
  · exact .inr ⟨g, cap, cur, rfl, Nat.le_trans hb hb', rest⟩
theorem own_ne {w : World} {base : Nat} {size : Nat} {v : Value} {n : Nat} {xs : List Value} {B : Nat} {c : Array Value} (h : w.ownsRow base 5 size v n xs) (hd : w.heap[B]? = some (.cells c 58 (0, 0))) : v.ownBlock ≠ some B := by
  rcases h.2 with ⟨rfl, _⟩ | ⟨g, cap, cur, rfl, hb, hgg, rest⟩
  · simp [Value.ownBlock]
  · intro e
    simp [Value.ownBlock] at e
    subst e
    rw [hd] at hgg
    cases hgg
theorem byteC_snoc (l : List UInt8) (b : UInt8) : byteC (l ++ [b]) = byteC l ++ [.int .u8 (b.toNat : Int)] := by simp [byteC]
theorem byteC_len (l : List UInt8) : (byteC l).length = l.length := by simp [byteC]
theorem digs_len (m n : Nat) : (digs m n).length = n := by simp [digs]
theorem digs_take (m n i : Nat) (h : i < n) : (digs m n).take (i + 1) = (digs m n).take i ++ [UInt8.ofNat (48 + dig m (n - 1 - i))] := by
  rw [List.take_add_one]
  congr 1
  simp [digs, h]
theorem dig_byte (m j : Nat) : ((UInt8.ofNat (48 + dig m j)).toNat : Int) = 48 + (dig m j : Int) := by
  have := dig_lt m j
  rw [UInt8.toNat_ofNat']
  omega
theorem ret_str {a b : Array UInt8} (h : a = b) : Ending.returned (.string ⟨a⟩) = .returned (.string ⟨b⟩) := by rw [h]

theorem Try.info5 : (Try.prog.info? 5).map (fun i => (i.zero, i.size, i.bytes)) = some (some (.int .u8 0), 1, 1) := by kernel_rfl

set_option maxRecDepth 100000 in
set_option maxHeartbeats 2000000 in
theorem text_pos (x : Int) (w : World) (hx : In128 x) (h0 : 0 ≤ x) :
    Calls Try.prog 21 #[.agg #[.int .i64 (hi64 x), .int .u64 (lo64 x)]] w fun e w' => (∃ n, Len x.natAbs n ∧ e = .returned (.string ⟨(textL x n).toArray⟩)) ∧ Below w.heap.size w w' := by
  have g0 : ¬ hi64 x < 0 := by unfold hi64; omega
  have u1 : IntKind.u64.wrap (hi64 x) = hiQ x.natAbs 0 := by rw [u64_eq]; unfold In128 at hx; unfold hi64 lo64 hiQ; omega
  have u2 : lo64 x = loQ x.natAbs 0 := by unfold lo64 loQ; omega
  have hm : x.natAbs < 340282366920938463463374607431768211456 := by unfold In128 at hx; omega
  obtain ⟨pre, hpre⟩ : ∃ pre : List UInt8, pre = [] := ⟨_, rfl⟩
  have ht : ∀ n, textL x n = pre ++ digs x.natAbs n := by intro n; unfold textL; rw [if_neg (by omega), hpre]
  simp only [ht]
  rw [u2]
  clear ht h0 hx u2
  generalize x.natAbs = m at *
  generalize hi64 x = hx at *
  go_enter Try.func21, Try.ntmps21
  go_wp2_with fail
  go_quiet (fail)
  go_wp2_with fail
  have hpl : pre.length ≤ 1 := by rw [hpre]; simp
  have ho : ∀ w' : World, w'.ownsRow w.heap.size 5 1 (.slice none 0 0) (byteC pre).length (byteC pre) := fun w' => by rw [hpre]; exact World.ownsRow_nil _ _ _ _
  have hb := Below.alloc (below_drewN (Below.alloc (Below.refl w.heap.size w) (Nat.le_refl _) (Obj.cells #[Value.int IntKind.i64 hx, Value.int IntKind.u64 (loQ m 0)] 27)) nq) (by simp) (.cells (digC m 0) 58)
  have hd := heap_new ((w.alloc (Obj.cells #[Value.int IntKind.i64 hx, Value.int IntKind.u64 (loQ m 0)] 27)).drewN nq) (.cells (digC m 0) 58)
  have hsz : ((w.alloc (Obj.cells #[Value.int IntKind.i64 hx, Value.int IntKind.u64 (loQ m 0)] 27)).drewN nq).heap.size = w.heap.size + 1 := by
    change (w.alloc _).heap.size = _
    simp
  rw [hsz] at hd
  clear hsz
  have hdz := digC_zero m
  simp only [List.replicate] at hdz
  generalize hdc : digC m 0 = dc at *
  subst hdz
  clear hpre
  generalize (World.alloc (World.drewN (World.alloc w _) nq) _) = wd at *
  have ho := ho wd
  have hvb : (Value.slice none 0 0).ownBlock ≠ some (w.heap.size + 1) := by simp [Value.ownBlock]
  clear hdc
  have hk1 : w.heap.size ≤ w.heap.size + 1 := by omega
  go_loopw [4, 5, 7] (fun h l s wr => ∃ k : Nat, k ≤ 39 ∧ h = .int .u64 (hiQ m k) ∧ l = .int .u64 (loQ m k) ∧ s = .int .i64 k ∧ wr.heap[w.heap.size + 1]? = some (.cells (digC m k) 58 (0, 0)) ∧ wr.ownsRow w.heap.size 5 1 (.slice none 0 0) (byteC pre).length (byteC pre) ∧ Below w.heap.size w wr ∧ (∀ j, 1 ≤ j → j < k → m / 10 ^ j ≠ 0)) (fun _ _ s _ => 40 - (intOf s).toNat)
  case atStart => exact ⟨0, by omega, rfl, rfl, rfl, hd, ho, hb, fun j a b => absurd b (by omega)⟩
  case round =>
    clear hd ho hb
    obtain ⟨k, hk, rfl, rfl, rfl, hd, ho, hb, hz⟩ := hrel
    obtain ⟨q0, q1⟩ := hiQ_in m k hm
    obtain ⟨l0, l1⟩ := loQ_in m k
    have HZ := Lib.hid hz
    clear hz
    by_cases hgo : k = 0 ∨ m / 10 ^ k ≠ 0
    · have hk39 : k < 39 := by
        rcases hgo with h | h
        · omega
        · exact len_top hm h
      have C1 := fun w => div_any 0 (hiQ m k) w q0 q1 (by omega) (by omega)
      simp only [Int.zero_mul, Int.zero_add, hiQ_step] at C1
      have C1 := Lib.hid C1
      have C2 := Lib.hid (fun w => div_any (hiQ m k % 10) (loQ m k) w l0 l1 (by omega) (by omega))
      have S2 := Lib.hid (loQ_step m k)
      have S3 := Lib.hid (dig_step m k)
      have ck := cell_in wr (w.heap.size + 1) k _ _ _ hd
      rw [digC_get m k k hk39, if_neg (by omega)] at ck
      have fz := frozen_in wr (w.heap.size + 1) k _ _ hd
      have lb : w.heap.size + 1 < wr.heap.size := (Array.getElem?_eq_some_iff.1 hd).1
      have HGO := Lib.hid hgo
      have hsplit : ((k : Int) == 0) = true ∨ (((k : Int) == 0) = false ∧ (hiQ m k == 0) = false) ∨ (((k : Int) == 0) = false ∧ (hiQ m k == 0) = true ∧ (loQ m k == 0) = false) := by
        have z := quo_zero m k
        by_cases k0 : k = 0
        · exact .inl (by simp [k0])
        · have kk : ((k : Int) == 0) = false := by simp; omega
          have nz : m / 10 ^ k ≠ 0 := by rcases hgo with h | h; exact absurd h k0; exact h
          by_cases hh : hiQ m k = 0
          · refine .inr (.inr ⟨kk, by simp [hh], ?_⟩)
            simp
            exact fun l => nz (z.2 ⟨hh, l⟩)
          · exact .inr (.inl ⟨kk, by simp [hh]⟩)
      have dl := dig_lt m k
      clear hgo
      generalize hiQ m k = hh at *
      generalize loQ m k = ll at *
      rcases hsplit with c1 | ⟨c1, c2⟩ | ⟨c1, c2, c3⟩
      · skip
        skip
        skip
        go_wp2_with fail
        refine (C1.out _).mono ?_
        rintro e w1 ⟨rfl, b1⟩
        go_wp2_with fail
        refine (C2.out _).mono ?_
        rintro e w2 ⟨rfl, b2⟩
        have b12 := b1.trans (b2.mono b1.size)
        rw [S2.out, S3.out]
        have ck2 := (b12.cell (p := ⟨w.heap.size + 1, k, none⟩) lb).trans ck
        have fz2 := (b12.frozen (p := ⟨w.heap.size + 1, k, none⟩) lb).trans fz
        have hd2 := (b12.block (w.heap.size + 1) lb).trans hd
        have ho2 := own_keep ho (w' := w2) (fun g hg => b12.block g (ho.lt g hg).2)
        have hb2 := hb.trans (b12.mono hb.size)
        go_wp2_with fail
        go_roundw
        case rel =>
          refine ⟨k + 1, by omega, rfl, rfl, by go_num, ?_, ?_, ?_, ?_⟩
          · rw [← digC_set m k hk39]
            refine (heap_setCell_at _ _ _ _ _ _ _ hd2).trans ?_
            first | rfl | simp
          · exact own_keep ho2 (fun g hg => Below.heap_setCell _ _ _ _ (fun e => own_ne ho2 hd2 (by rw [hg]; exact congrArg some e)))
          · exact Below.setCell hb2 (by first | (simp; done) | (simp; omega)) _
          · intro j j1 j2
            by_cases e : j = k
            · subst e
              rcases HGO.out with h | h
              · omega
              · exact h
            · exact HZ.out j j1 (by omega)
        case measure => simp [intOf]; try omega
      · skip
        go_wp2_with fail
        refine (C1.out _).mono ?_
        rintro e w1 ⟨rfl, b1⟩
        go_wp2_with fail
        refine (C2.out _).mono ?_
        rintro e w2 ⟨rfl, b2⟩
        have b12 := b1.trans (b2.mono b1.size)
        rw [S2.out, S3.out]
        have ck2 := (b12.cell (p := ⟨w.heap.size + 1, k, none⟩) lb).trans ck
        have fz2 := (b12.frozen (p := ⟨w.heap.size + 1, k, none⟩) lb).trans fz
        have hd2 := (b12.block (w.heap.size + 1) lb).trans hd
        have ho2 := own_keep ho (w' := w2) (fun g hg => b12.block g (ho.lt g hg).2)
        have hb2 := hb.trans (b12.mono hb.size)
        go_wp2_with fail
        go_roundw
        case rel =>
          refine ⟨k + 1, by omega, rfl, rfl, by go_num, ?_, ?_, ?_, ?_⟩
          · rw [← digC_set m k hk39]
            refine (heap_setCell_at _ _ _ _ _ _ _ hd2).trans ?_
            first | rfl | simp
          · exact own_keep ho2 (fun g hg => Below.heap_setCell _ _ _ _ (fun e => own_ne ho2 hd2 (by rw [hg]; exact congrArg some e)))
          · exact Below.setCell hb2 (by first | (simp; done) | (simp; omega)) _
          · intro j j1 j2
            by_cases e : j = k
            · subst e
              rcases HGO.out with h | h
              · omega
              · exact h
            · exact HZ.out j j1 (by omega)
        case measure => simp [intOf]; try omega
      · have h0 : hh = 0 := by simpa using c2
        subst h0
        clear c2
        skip
        go_wp2_with fail
        refine (C1.out _).mono ?_
        rintro e w1 ⟨rfl, b1⟩
        go_wp2_with fail
        refine (C2.out _).mono ?_
        rintro e w2 ⟨rfl, b2⟩
        have b12 := b1.trans (b2.mono b1.size)
        rw [S2.out, S3.out]
        have ck2 := (b12.cell (p := ⟨w.heap.size + 1, k, none⟩) lb).trans ck
        have fz2 := (b12.frozen (p := ⟨w.heap.size + 1, k, none⟩) lb).trans fz
        have hd2 := (b12.block (w.heap.size + 1) lb).trans hd
        have ho2 := own_keep ho (w' := w2) (fun g hg => b12.block g (ho.lt g hg).2)
        have hb2 := hb.trans (b12.mono hb.size)
        go_wp2_with fail
        go_roundw
        case rel =>
          refine ⟨k + 1, by omega, rfl, rfl, by go_num, ?_, ?_, ?_, ?_⟩
          · rw [← digC_set m k hk39]
            refine (heap_setCell_at _ _ _ _ _ _ _ hd2).trans ?_
            first | rfl | simp
          · exact own_keep ho2 (fun g hg => Below.heap_setCell _ _ _ _ (fun e => own_ne ho2 hd2 (by rw [hg]; exact congrArg some e)))
          · exact Below.setCell hb2 (by first | (simp; done) | (simp; omega)) _
          · intro j j1 j2
            by_cases e : j = k
            · subst e
              rcases HGO.out with h | h
              · omega
              · exact h
            · exact HZ.out j j1 (by omega)
        case measure => simp [intOf]; try omega
    · have k0 : k ≠ 0 := fun e => hgo (.inl e)
      have qz : m / 10 ^ k = 0 := by
        by_cases e : m / 10 ^ k = 0
        · exact e
        · exact absurd (.inr e) hgo
      obtain ⟨e1, e2⟩ := (quo_zero m k).1 qz
      have HL : Hid (Len m k) := ⟨by omega, qz, HZ.out⟩
      have kk : ((k : Int) == 0) = false := by simp; omega
      have lb : w.heap.size + 1 < wr.heap.size := (Array.getElem?_eq_some_iff.1 hd).1
      rw [e1, e2]
      clear q0 q1 l0 l1 hgo k0 qz e1 e2 HZ
      have ki := hk
      go_wp2_with fail
      obtain ⟨wz, rfl⟩ : ∃ wz : World, wz = wr := ⟨_, rfl⟩
      obtain ⟨j0, hj, hjz, hj1, hj2⟩ := info_parts Try.info5
      go_loopw [3, 53] (fun v s wr => ∃ i : Nat, i ≤ k ∧ s = .int .i64 i ∧ wr.heap[w.heap.size + 1]? = some (.cells (digC m k) 58 (0, 0)) ∧ wr.ownsRow w.heap.size 5 1 v (byteC (pre ++ (digs m k).take i)).length (byteC (pre ++ (digs m k).take i)) ∧ Below w.heap.size w wr) (fun _ s _ => 40 - (intOf s).toNat)
      case atStart => exact ⟨0, by omega, rfl, hd, by simpa using ho, hb⟩
      case round =>
        clear hd ho hb lb
        obtain ⟨i, hi, rfl, hd, ho, hb⟩ := hrel
        by_cases lt : i < k
        · have lti : (i : Int) < k := by omega
          obtain ⟨p, hp⟩ : ∃ p, p = k - 1 - i := ⟨_, rfl⟩
          have hpi : (k : Int) - 1 - i = p := by omega
          have hpl : p < 39 := by omega
          have cp := cell_in wr (w.heap.size + 1) p _ _ _ hd
          rw [digC_get m k p hpl, if_pos (by omega)] at cp
          have dl := dig_lt m p
          have lb : w.heap.size + 1 < wr.heap.size := (Array.getElem?_eq_some_iff.1 hd).1
          have HP := Lib.hid hp
          have hpre2 : (byteC (pre ++ (digs m k).take i)).length ≤ 60 := by rw [byteC_len]; simp [digs_len]; omega
          clear hp
          go_wp2_with (at_builtin; refine wpList_append_own _ rfl _ _ 57 rfl w.heap.size 5 j0 (.int .u8 0) 1 1 Try.underlying57 hj hjz hj1 hj2 rfl (by decide) _ _ _ rfl (ho.alloc _) ⟨wr.heap.size, 0, none⟩ 1 1 [.int .u8 (48 + (dig m p : Int))] rfl rfl (cell_one_new _ _ _) (by simp [Value.oneCell']) (by unfold maxLen; omega) (by omega) (by have := hb.size; first | (simp; done) | (simp; omega)) ?_; intro v' w2 hown' hgrow _)
          go_roundw
          case rel =>
            have nb := own_ne ho hd
            have zb := hb.size
            refine ⟨i + 1, by omega, by go_num, ?_, ?_, ?_⟩
            · rw [hgrow.block (w.heap.size + 1) (by simp; omega) (fun e => nb e.symm)]
              exact (Below.heap_alloc _ _ _ lb).trans hd
            · rw [digs_take m k i lt, ← HP.out, ← List.append_assoc, byteC_snoc, dig_byte, List.length_append]
              exact hown'
            · exact (Below.alloc hb zb _).grown hgrow (by simp; omega) (fun q e => (ho.lt q e).1)
          case measure => simp [intOf]; omega
        · have ik : i = k := by omega
          subst ik
          have tk : (digs m i).take i = digs m i := List.take_of_length_le (by rw [digs_len]; omega)
          rw [tk] at ho
          have hlen : (pre ++ digs m i).length ≠ 0 := by have := HL.out.1; simp only [List.length_append, digs_len]; omega
          rcases ho.2 with ⟨_, hn⟩ | ⟨g, cap, cur, rfl, _, _, _, _, _, _⟩
          · exact absurd (by rw [← byteC_len, hn]) hlen
          · have hcv := run_convert_bytes_back (P := Try.prog) wr 57 9 5 ⟨g, 0, none⟩ cap (pre ++ digs m i) Try.underlying57 Try.underlying5 Try.underlying9 (fun j hj => by
              exact ho.cells (g := g) rfl j (.int .u8 ((pre ++ digs m i)[j].toNat : Int)) (by unfold byteC; rw [List.getElem?_map, List.getElem?_eq_getElem hj]; rfl))
            rw [← byteC_len] at hcv
            generalize (byteC (pre ++ digs m i)).length = nl at *
            clear ho hd
            have HC := hcv
            go_wp2_with fail
            go_ret
            exact ⟨⟨i, HL.out, rfl⟩, hb⟩

set_option maxRecDepth 100000 in
set_option maxHeartbeats 2000000 in
theorem text_neg (x : Int) (w : World) (hx : In128 x) (h0 : x < 0) :
    Calls Try.prog 21 #[.agg #[.int .i64 (hi64 x), .int .u64 (lo64 x)]] w fun e w' => (∃ n, Len x.natAbs n ∧ e = .returned (.string ⟨(textL x n).toArray⟩)) ∧ Below w.heap.size w w' := by
  have g0 : hi64 x < 0 := by unfold hi64; omega
  have u1 : IntKind.u64.wrap (hi64 (w128 (0 - x))) = hiQ x.natAbs 0 := by rw [u64_eq]; unfold In128 at hx; unfold hi64 lo64 hiQ w128; omega
  have u2 : lo64 (w128 (0 - x)) = loQ x.natAbs 0 := by unfold lo64 loQ w128; omega
  have hm : x.natAbs < 340282366920938463463374607431768211456 := by unfold In128 at hx; omega
  obtain ⟨pre, hpre⟩ : ∃ pre : List UInt8, pre = [45] := ⟨_, rfl⟩
  have ht : ∀ n, textL x n = pre ++ digs x.natAbs n := by intro n; unfold textL; rw [if_pos h0, hpre]
  have hpl : pre.length ≤ 1 := by rw [hpre]; simp
  have hbp : [Value.int .u8 45] = byteC pre := by rw [hpre]; rfl
  have MN := fun w => minus_any 0 x w (by unfold In128; omega) hx
  simp only [ht]
  simp only [hi64_zero, lo64_zero] at MN
  rw [u2] at MN
  clear ht h0 hx u2 hpre
  generalize x.natAbs = m at *
  generalize hi64 (w128 (0 - x)) = hy at *
  generalize hi64 x = hx at *
  generalize lo64 x = lx at *
  have MN := Lib.hid MN
  obtain ⟨j0, hj, hjz, hj1, hj2⟩ := info_parts Try.info5
  have HBP := Lib.hid hbp
  clear hbp
  go_enter Try.func21, Try.ntmps21
  go_wp2_with (at_builtin; go_loud (refine wpList_append_own _ rfl _ _ 57 rfl (w.heap.size + 1) 5 j0 (.int .u8 0) 1 1 Try.underlying57 hj hjz hj1 hj2 rfl (by decide) (.slice none 0 0) 0 [] rfl (World.ownsRow_nil _ _ _ _) ⟨w.heap.size + 1, 0, none⟩ 1 1 [.int .u8 45] rfl rfl (by first | exact cell_one_new _ _ _ | (have q := cell_one_new (w.alloc (.cells #[.int .i64 hx, .int .u64 lx] 27)) (.int .u8 45) 5; rw [World.size_alloc] at q; exact q)) (by simp [Value.oneCell']) (by unfold maxLen; omega) (by omega) (by first | (simp; done) | (simp; omega)) ?_; intro v' w2 hown' hgrow _; have z2 : w.heap.size + 2 ≤ w2.heap.size := (by have z := hgrow.size; simpa using z); have hbox := (hgrow.block w.heap.size (by first | (simp; done) | (simp; omega)) (by simp [Value.ownBlock])).trans ((Below.heap_alloc _ _ _ (by first | (simp; done) | (simp; omega))).trans (heap_new w (.cells #[.int .i64 hx, .int .u64 lx] 27))); have q1 : w2.cell? ⟨w.heap.size, 0, none⟩ = some (.int .i64 hx) := (cell_in _ _ _ _ _ _ hbox).trans rfl; have q2 : w2.cell? ⟨w.heap.size, 1, none⟩ = some (.int .u64 lx) := (cell_in _ _ _ _ _ _ hbox).trans rfl))
  have MN := MN.out w2
  refine MN.mono ?_
  rintro e w3 ⟨rfl, b3⟩
  have hbox3 := (b3.block w.heap.size (by omega)).trans hbox
  have z3 := b3.size
  have r1 : w3.cell? ⟨w.heap.size, 0, none⟩ = some (.int .i64 hx) := (cell_in _ _ _ _ _ _ hbox3).trans rfl
  have r2 : w3.cell? ⟨w.heap.size, 1, none⟩ = some (.int .u64 lx) := (cell_in _ _ _ _ _ _ hbox3).trans rfl
  have r3 : w3.frozen? ⟨w.heap.size, 0, none⟩ = false := frozen_in _ _ _ _ _ hbox3
  have r4 : w3.frozen? ⟨w.heap.size, 1, none⟩ = false := frozen_in _ _ _ _ _ hbox3
  have HB3 := Lib.hid hbox3
  clear hbox3
  have ho3 := own_keep hown' (w' := w3) (fun g hg => b3.block g (hown'.lt g hg).2)
  have hb3 : Below w.heap.size w w3 := by
    refine Below.trans (Below.grown (row := none) (Below.alloc (Below.alloc (Below.refl _ _) (Nat.le_refl _) _) ?_ _) hgrow ?_ ?_) (b3.mono (by omega))
    · first | (simp; done) | (simp; omega)
    · first | (simp; done) | (simp; omega)
    · intro k e; cases e
  have z4 : w.heap.size < w3.heap.size := by omega
  clear q1 q2 MN b3 hbox hgrow hown' z2
  rw [List.nil_append, HBP.out] at ho3
  have hl1 : (0 + 1 : Nat) = (byteC pre).length := by rw [← HBP.out]; rfl
  rw [hl1] at ho3
  clear hl1
  go_wp2_with fail
  go_quiet (fail)
  go_wp2_with fail
  go_goals
  have ho4 := own_keep ho3 (w' := (w3.setCell ⟨w.heap.size, 0, none⟩ (.int .i64 hy)).setCell ⟨w.heap.size, 1, none⟩ (.int .u64 (loQ m 0))) (fun g hg => by
    have gl := (ho3.lt g hg).1
    rw [Below.heap_setCell _ _ _ _ (by show g ≠ w.heap.size; omega), Below.heap_setCell _ _ _ _ (by show g ≠ w.heap.size; omega)])
  have hb4 := Below.setCell (Below.setCell hb3 (p := ⟨w.heap.size, 0, none⟩) (Nat.le_refl _) (.int .i64 hy)) (p := ⟨w.heap.size, 1, none⟩) (Nat.le_refl _) (.int .u64 (loQ m 0))
  have hsz : (((w3.setCell ⟨w.heap.size, 0, none⟩ (.int .i64 hy)).setCell ⟨w.heap.size, 1, none⟩ (.int .u64 (loQ m 0))).drewN nq).heap.size = w3.heap.size := by
    change ((w3.setCell _ _).setCell _ _).heap.size = _
    simp
  have hb5 := Below.alloc (below_drewN hb4 nq) (by rw [hsz]; omega) (.cells (digC m 0) 58)
  have hd := heap_new (((w3.setCell ⟨w.heap.size, 0, none⟩ (.int .i64 hy)).setCell ⟨w.heap.size, 1, none⟩ (.int .u64 (loQ m 0))).drewN nq) (.cells (digC m 0) 58)
  have ho5 := own_mono (own_keep (w' := ((((w3.setCell ⟨w.heap.size, 0, none⟩ (.int .i64 hy)).setCell ⟨w.heap.size, 1, none⟩ (.int .u64 (loQ m 0))).drewN nq).alloc (.cells (digC m 0) 58))) ho4 (fun g hg => Below.heap_alloc _ _ _ (ho4.lt g hg).2)) (show w.heap.size ≤ w.heap.size + 1 by omega)
  rw [hsz] at hd
  clear hsz ho4 hb4
  have hdz := digC_zero m
  simp only [List.replicate] at hdz
  generalize hdc : digC m 0 = dc at *
  subst hdz
  generalize (World.alloc (World.drewN _ nq) _) = wd at *
  clear hdc r1 r2 r3 r4 HB3 hb3 ho3
  have ho := ho5
  have hb := hb5
  clear ho5 hb5
  have hk1 : w.heap.size ≤ w3.heap.size := by omega
  go_loopw [4, 5, 7] (fun h l s wr => ∃ k : Nat, k ≤ 39 ∧ h = .int .u64 (hiQ m k) ∧ l = .int .u64 (loQ m k) ∧ s = .int .i64 k ∧ wr.heap[w3.heap.size]? = some (.cells (digC m k) 58 (0, 0)) ∧ wr.ownsRow w.heap.size 5 1 v' (byteC pre).length (byteC pre) ∧ Below w.heap.size w wr ∧ (∀ j, 1 ≤ j → j < k → m / 10 ^ j ≠ 0)) (fun _ _ s _ => 40 - (intOf s).toNat)
  case atStart => exact ⟨0, by omega, rfl, rfl, rfl, hd, ho, hb, fun j a b => absurd b (by omega)⟩
  case round =>
    clear hd ho hb
    obtain ⟨k, hk, rfl, rfl, rfl, hd, ho, hb, hz⟩ := hrel
    obtain ⟨q0, q1⟩ := hiQ_in m k hm
    obtain ⟨l0, l1⟩ := loQ_in m k
    have HZ := Lib.hid hz
    clear hz
    by_cases hgo : k = 0 ∨ m / 10 ^ k ≠ 0
    · have hk39 : k < 39 := by
        rcases hgo with h | h
        · omega
        · exact len_top hm h
      have C1 := fun w => div_any 0 (hiQ m k) w q0 q1 (by omega) (by omega)
      simp only [Int.zero_mul, Int.zero_add, hiQ_step] at C1
      have C1 := Lib.hid C1
      have C2 := Lib.hid (fun w => div_any (hiQ m k % 10) (loQ m k) w l0 l1 (by omega) (by omega))
      have S2 := Lib.hid (loQ_step m k)
      have S3 := Lib.hid (dig_step m k)
      have ck := cell_in wr (w3.heap.size) k _ _ _ hd
      rw [digC_get m k k hk39, if_neg (by omega)] at ck
      have fz := frozen_in wr (w3.heap.size) k _ _ hd
      have lb : w3.heap.size < wr.heap.size := (Array.getElem?_eq_some_iff.1 hd).1
      have HGO := Lib.hid hgo
      have hsplit : ((k : Int) == 0) = true ∨ (((k : Int) == 0) = false ∧ (hiQ m k == 0) = false) ∨ (((k : Int) == 0) = false ∧ (hiQ m k == 0) = true ∧ (loQ m k == 0) = false) := by
        have z := quo_zero m k
        by_cases k0 : k = 0
        · exact .inl (by simp [k0])
        · have kk : ((k : Int) == 0) = false := by simp; omega
          have nz : m / 10 ^ k ≠ 0 := by rcases hgo with h | h; exact absurd h k0; exact h
          by_cases hh : hiQ m k = 0
          · refine .inr (.inr ⟨kk, by simp [hh], ?_⟩)
            simp
            exact fun l => nz (z.2 ⟨hh, l⟩)
          · exact .inr (.inl ⟨kk, by simp [hh]⟩)
      have dl := dig_lt m k
      clear hgo
      generalize hiQ m k = hh at *
      generalize loQ m k = ll at *
      rcases hsplit with c1 | ⟨c1, c2⟩ | ⟨c1, c2, c3⟩
      · skip
        skip
        skip
        go_wp2_with fail
        refine (C1.out _).mono ?_
        rintro e w1 ⟨rfl, b1⟩
        go_wp2_with fail
        refine (C2.out _).mono ?_
        rintro e w2 ⟨rfl, b2⟩
        have b12 := b1.trans (b2.mono b1.size)
        rw [S2.out, S3.out]
        have ck2 := (b12.cell (p := ⟨w3.heap.size, k, none⟩) lb).trans ck
        have fz2 := (b12.frozen (p := ⟨w3.heap.size, k, none⟩) lb).trans fz
        have hd2 := (b12.block (w3.heap.size) lb).trans hd
        have ho2 := own_keep ho (w' := w2) (fun g hg => b12.block g (ho.lt g hg).2)
        have hb2 := hb.trans (b12.mono hb.size)
        go_wp2_with fail
        go_roundw
        case rel =>
          refine ⟨k + 1, by omega, rfl, rfl, by go_num, ?_, ?_, ?_, ?_⟩
          · rw [← digC_set m k hk39]
            refine (heap_setCell_at _ _ _ _ _ _ _ hd2).trans ?_
            first | rfl | simp
          · exact own_keep ho2 (fun g hg => Below.heap_setCell _ _ _ _ (fun e => own_ne ho2 hd2 (by rw [hg]; exact congrArg some e)))
          · exact Below.setCell hb2 (by first | (simp; done) | (simp; omega)) _
          · intro j j1 j2
            by_cases e : j = k
            · subst e
              rcases HGO.out with h | h
              · omega
              · exact h
            · exact HZ.out j j1 (by omega)
        case measure => simp [intOf]; try omega
      · skip
        go_wp2_with fail
        refine (C1.out _).mono ?_
        rintro e w1 ⟨rfl, b1⟩
        go_wp2_with fail
        refine (C2.out _).mono ?_
        rintro e w2 ⟨rfl, b2⟩
        have b12 := b1.trans (b2.mono b1.size)
        rw [S2.out, S3.out]
        have ck2 := (b12.cell (p := ⟨w3.heap.size, k, none⟩) lb).trans ck
        have fz2 := (b12.frozen (p := ⟨w3.heap.size, k, none⟩) lb).trans fz
        have hd2 := (b12.block (w3.heap.size) lb).trans hd
        have ho2 := own_keep ho (w' := w2) (fun g hg => b12.block g (ho.lt g hg).2)
        have hb2 := hb.trans (b12.mono hb.size)
        go_wp2_with fail
        go_roundw
        case rel =>
          refine ⟨k + 1, by omega, rfl, rfl, by go_num, ?_, ?_, ?_, ?_⟩
          · rw [← digC_set m k hk39]
            refine (heap_setCell_at _ _ _ _ _ _ _ hd2).trans ?_
            first | rfl | simp
          · exact own_keep ho2 (fun g hg => Below.heap_setCell _ _ _ _ (fun e => own_ne ho2 hd2 (by rw [hg]; exact congrArg some e)))
          · exact Below.setCell hb2 (by first | (simp; done) | (simp; omega)) _
          · intro j j1 j2
            by_cases e : j = k
            · subst e
              rcases HGO.out with h | h
              · omega
              · exact h
            · exact HZ.out j j1 (by omega)
        case measure => simp [intOf]; try omega
      · have h0 : hh = 0 := by simpa using c2
        subst h0
        clear c2
        skip
        go_wp2_with fail
        refine (C1.out _).mono ?_
        rintro e w1 ⟨rfl, b1⟩
        go_wp2_with fail
        refine (C2.out _).mono ?_
        rintro e w2 ⟨rfl, b2⟩
        have b12 := b1.trans (b2.mono b1.size)
        rw [S2.out, S3.out]
        have ck2 := (b12.cell (p := ⟨w3.heap.size, k, none⟩) lb).trans ck
        have fz2 := (b12.frozen (p := ⟨w3.heap.size, k, none⟩) lb).trans fz
        have hd2 := (b12.block (w3.heap.size) lb).trans hd
        have ho2 := own_keep ho (w' := w2) (fun g hg => b12.block g (ho.lt g hg).2)
        have hb2 := hb.trans (b12.mono hb.size)
        go_wp2_with fail
        go_roundw
        case rel =>
          refine ⟨k + 1, by omega, rfl, rfl, by go_num, ?_, ?_, ?_, ?_⟩
          · rw [← digC_set m k hk39]
            refine (heap_setCell_at _ _ _ _ _ _ _ hd2).trans ?_
            first | rfl | simp
          · exact own_keep ho2 (fun g hg => Below.heap_setCell _ _ _ _ (fun e => own_ne ho2 hd2 (by rw [hg]; exact congrArg some e)))
          · exact Below.setCell hb2 (by first | (simp; done) | (simp; omega)) _
          · intro j j1 j2
            by_cases e : j = k
            · subst e
              rcases HGO.out with h | h
              · omega
              · exact h
            · exact HZ.out j j1 (by omega)
        case measure => simp [intOf]; try omega
    · have k0 : k ≠ 0 := fun e => hgo (.inl e)
      have qz : m / 10 ^ k = 0 := by
        by_cases e : m / 10 ^ k = 0
        · exact e
        · exact absurd (.inr e) hgo
      obtain ⟨e1, e2⟩ := (quo_zero m k).1 qz
      have HL : Hid (Len m k) := ⟨by omega, qz, HZ.out⟩
      have kk : ((k : Int) == 0) = false := by simp; omega
      have lb : w3.heap.size < wr.heap.size := (Array.getElem?_eq_some_iff.1 hd).1
      rw [e1, e2]
      clear q0 q1 l0 l1 hgo k0 qz e1 e2 HZ
      have ki := hk
      go_wp2_with fail
      obtain ⟨wz, rfl⟩ : ∃ wz : World, wz = wr := ⟨_, rfl⟩
      obtain ⟨j0, hj, hjz, hj1, hj2⟩ := info_parts Try.info5
      go_loopw [3, 53] (fun v s wr => ∃ i : Nat, i ≤ k ∧ s = .int .i64 i ∧ wr.heap[w3.heap.size]? = some (.cells (digC m k) 58 (0, 0)) ∧ wr.ownsRow w.heap.size 5 1 v (byteC (pre ++ (digs m k).take i)).length (byteC (pre ++ (digs m k).take i)) ∧ Below w.heap.size w wr) (fun _ s _ => 40 - (intOf s).toNat)
      case atStart => exact ⟨0, by omega, rfl, hd, by simpa using ho, hb⟩
      case round =>
        clear hd ho hb lb
        obtain ⟨i, hi, rfl, hd, ho, hb⟩ := hrel
        by_cases lt : i < k
        · have lti : (i : Int) < k := by omega
          obtain ⟨p, hp⟩ : ∃ p, p = k - 1 - i := ⟨_, rfl⟩
          have hpi : (k : Int) - 1 - i = p := by omega
          have hpl : p < 39 := by omega
          have cp := cell_in wr (w3.heap.size) p _ _ _ hd
          rw [digC_get m k p hpl, if_pos (by omega)] at cp
          have dl := dig_lt m p
          have lb : w3.heap.size < wr.heap.size := (Array.getElem?_eq_some_iff.1 hd).1
          have HP := Lib.hid hp
          have hpre2 : (byteC (pre ++ (digs m k).take i)).length ≤ 60 := by rw [byteC_len]; simp [digs_len]; omega
          clear hp
          go_wp2_with (at_builtin; refine wpList_append_own _ rfl _ _ 57 rfl w.heap.size 5 j0 (.int .u8 0) 1 1 Try.underlying57 hj hjz hj1 hj2 rfl (by decide) _ _ _ rfl (ho.alloc _) ⟨wr.heap.size, 0, none⟩ 1 1 [.int .u8 (48 + (dig m p : Int))] rfl rfl (cell_one_new _ _ _) (by simp [Value.oneCell']) (by unfold maxLen; omega) (by omega) (by have := hb.size; first | (simp; done) | (simp; omega)) ?_; intro v' w2 hown' hgrow _)
          go_roundw
          case rel =>
            have nb := own_ne ho hd
            have zb := hb.size
            refine ⟨i + 1, by omega, by go_num, ?_, ?_, ?_⟩
            · rw [hgrow.block (w3.heap.size) (by simp; omega) (fun e => nb e.symm)]
              exact (Below.heap_alloc _ _ _ lb).trans hd
            · rw [digs_take m k i lt, ← HP.out, ← List.append_assoc, byteC_snoc, dig_byte, List.length_append]
              exact hown'
            · exact (Below.alloc hb zb _).grown hgrow (by simp; omega) (fun q e => (ho.lt q e).1)
          case measure => simp [intOf]; omega
        · have ik : i = k := by omega
          subst ik
          have tk : (digs m i).take i = digs m i := List.take_of_length_le (by rw [digs_len]; omega)
          rw [tk] at ho
          have hlen : (pre ++ digs m i).length ≠ 0 := by have := HL.out.1; simp only [List.length_append, digs_len]; omega
          rcases ho.2 with ⟨_, hn⟩ | ⟨g, cap, cur, rfl, _, _, _, _, _, _⟩
          · exact absurd (by rw [← byteC_len, hn]) hlen
          · have hcv := run_convert_bytes_back (P := Try.prog) wr 57 9 5 ⟨g, 0, none⟩ cap (pre ++ digs m i) Try.underlying57 Try.underlying5 Try.underlying9 (fun j hj => by
              exact ho.cells (g := g) rfl j (.int .u8 ((pre ++ digs m i)[j].toNat : Int)) (by unfold byteC; rw [List.getElem?_map, List.getElem?_eq_getElem hj]; rfl))
            rw [← byteC_len] at hcv
            generalize (byteC (pre ++ digs m i)).length = nl at *
            clear ho hd
            have HC := hcv
            go_wp2_with fail
            go_ret
            exact ⟨⟨i, HL.out, rfl⟩, hb⟩

theorem text_any (x : Int) (w : World) (hx : In128 x) :
    Calls Try.prog 21 #[.agg #[.int .i64 (hi64 x), .int .u64 (lo64 x)]] w fun e w' => (∃ n, Len x.natAbs n ∧ e = .returned (.string ⟨(textL x n).toArray⟩)) ∧ Below w.heap.size w w' := by
  by_cases h : x < 0
  · exact text_neg x w hx h
  · exact text_pos x w hx (by omega)
end Go.Proofs.Ytajihhmohokngaa
