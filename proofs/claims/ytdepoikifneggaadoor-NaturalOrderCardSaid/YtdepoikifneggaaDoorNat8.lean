/-
  The reference's Int, bit, up and down: what they hand back.
  Conditions: each theorem's own.
-/
import Derived.Test.YtdepoikifneggaaDoorNat7
namespace Go.Proofs.YtdepoikifneggaaDoor
open Go.RowKit Go.ChangeShapes Go.WideShapes

set_option maxRecDepth 100000 in
set_option maxHeartbeats 800000 in
theorem rint_yes (va : Value) (a : List Nat) (w : World) (ha : Num w va a) (hla : a.length ≤ 1000000) (hv : val a < 9223372036854775808) :
    Calls Tryd.prog 23 #[va] w (RetS w (.tuple #[.int .i64 (val a : Nat), .bool true])) := by
  have hb := rbits_any va a w ha hla
  have hbl : blen (val a) ≤ 63 := blen_le hv
  obtain ⟨y, hy⟩ : ∃ y, y = blen (val a) := ⟨_, rfl⟩
  rw [← hy] at hb hbl
  have hw0 := rword_any va a 0 w ha (by omega) (by omega)
  have hw1 := rword_any va a 1 w ha (by omega) (by omega)
  have h2 := val_two ha.lt (by omega)
  have hx0 := ha.lt 0
  have hx1 := ha.lt 1
  obtain ⟨p, hp⟩ : ∃ p, p = gd a 0 := ⟨_, rfl⟩
  obtain ⟨q, hq⟩ : ∃ q, q = gd a 1 := ⟨_, rfl⟩
  rw [show (0 : Int).toNat = 0 from rfl, ← hp] at hw0
  rw [show (1 : Int).toNat = 1 from rfl, ← hq] at hw1
  rw [← hp, ← hq] at h2
  rw [← hp] at hx0
  rw [← hq] at hx1
  have hor := or_words p q hx0 hx1
  rw [h2] at hv ⊢
  have HB := Lib.hid hb; have HW0 := Lib.hid hw0; have HW1 := Lib.hid hw1
  obtain ⟨n, hn⟩ : ∃ n, n = p + q * 4294967296 := ⟨_, rfl⟩
  rw [← hn] at hv hor ⊢
  clear hb hw0 hw1 hy hp hq h2 ha hn
  go_enter Tryd.func23, Tryd.ntmps23
  go_wp2_with fail
  (with_reducible refine HB.out.mono ?_); rintro e w1 ⟨rfl, rfl⟩
  go_wp2_with fail
  (with_reducible refine HW0.out.mono ?_); rintro e w1 ⟨rfl, rfl⟩
  go_wp2_with fail
  (with_reducible refine HW1.out.mono ?_); rintro e w1 ⟨rfl, rfl⟩
  go_wp2_with fail
  go_ret2
  exact ⟨rfl, rfl⟩
set_option maxRecDepth 100000 in
set_option maxHeartbeats 800000 in
theorem rint_no (va : Value) (a : List Nat) (w : World) (ha : Num w va a) (hla : a.length ≤ 1000000) (hv : 9223372036854775808 ≤ val a) :
    Calls Tryd.prog 23 #[va] w (RetS w (.tuple #[.int .i64 0, .bool false])) := by
  have hb := rbits_any va a w ha hla
  have hbl : 63 < blen (val a) := by
    rcases Nat.lt_or_ge 63 (blen (val a)) with h | h
    · exact h
    · have := lt_of_blen h; omega
  have hbu : blen (val a) ≤ 32000000 := Nat.le_trans (blen_le_len ha.lt) (by omega)
  obtain ⟨y, hy⟩ : ∃ y, y = blen (val a) := ⟨_, rfl⟩
  rw [← hy] at hb hbl hbu
  have HB := Lib.hid hb
  clear hb hy ha hv
  go_enter Tryd.func23, Tryd.ntmps23
  go_wp2_with fail
  (with_reducible refine HB.out.mono ?_); rintro e w1 ⟨rfl, rfl⟩
  go_wp2_with fail
  go_ret2
  exact ⟨rfl, rfl⟩


set_option maxRecDepth 100000 in
set_option maxHeartbeats 1600000 in
theorem rup_any (va : Value) (a : List Nat) (n : Nat) (w : World) (ha : Num w va a) (hla : a.length ≤ 900000) (hn : n < 32) :
    Calls Tryd.prog 56 #[va, .int .i64 n] w (RetNum w fun r => r = wd (val a * 2 ^ n)) := by
  obtain ⟨ao, ca, rfl, hca, hca2, _⟩ := ha.shape
  have HA := Lib.hid ha; clear ha
  go_enter Tryd.func56, Tryd.ntmps56
  go_wp2_with fail
  go_loopw [5, 6, 11] (fun ov cv iv wr => ∃ (i c : Nat) (l : List Nat), i ≤ a.length ∧ iv = .int .i64 i ∧ cv = .int .u64 c ∧ c < 2 ^ n ∧ OwnW 38 wr w.heap.size ov l ∧ Hid (l.length = i) ∧ Below w.heap.size w wr ∧
      Hid (val l + 4294967296 ^ i * c = val (a.take i) * 2 ^ n)) (fun _ _ i _ => a.length - (intOf i).toNat)
  case atStart => exact ⟨0, 0, [], Nat.zero_le _, rfl, rfl, Nat.two_pow_pos n, OwnW.nil _ _ _, Lib.hid rfl, Below.refl _ _, Lib.hid (by simp [val])⟩
  case round =>
    obtain ⟨i, c, l, hi, rfl, rfl, hc, hOr, hll, hBr, hinv⟩ := hrel
    have hszr := hBr.size
    by_cases hin : i < a.length
    · have har := HA.out.below hBr
      obtain ⟨ba, oa, rfl, _, hca⟩ := har.at (by omega)
      have hx := hca i hin
      have hxl := HA.out.lt i
      obtain ⟨x, hxe⟩ : ∃ x, x = gd a i := ⟨_, rfl⟩
      rw [← hxe] at hx hxl
      obtain ⟨hw, _, _, _⟩ := shl_wrap x n hxl hn
      obtain ⟨hor, h1, h2⟩ := or_low64 x n c hxl hn hc
      obtain ⟨y, hy⟩ : ∃ y, y = x * 2 ^ n := ⟨_, rfl⟩
      rw [← hy] at hw hor h1 h2
      obtain ⟨s, hs⟩ : ∃ s, s = c + y := ⟨_, rfl⟩
      rw [← hs] at hor h1 h2
      have hsd : s / 4294967296 < 2 ^ n := by rw [Nat.div_lt_iff_lt_mul (by decide), Nat.mul_comm (2 ^ n)]; exact h1
      have hone := num_one wr 38 (s % 4294967296) (Nat.mod_lt _ (by decide))
      have HX := Lib.hid hxe; have HO := Lib.hid hOr; have HY := Lib.hid hy; have HS := Lib.hid hs; have HSD := Lib.hid hsd; have HONE := Lib.hid hone
      clear har hca hOr hxe hy hs h1 hsd hone
      go_wp2_with (at_builtin; refine wpList_appendN Tryd.wordsTy rfl (.tmp 21) (.tmp 24) rfl w.heap.size _ _ l [s % 4294967296] rfl rfl (HO.out.alloc _) HONE.out ?c1 ?c2 ?_)
      case c1 => rw [hll.out]; simp; omega
      case c2 => simp; omega
      intro v' w1 g1 g2 g3
      have g4 := g2 w (hBr.alloc hszr _)
      go_wp2_with fail
      go_roundw
      case rel =>
        refine ⟨i + 1, s / 4294967296, l ++ [s % 4294967296], by omega, by go_num, rfl, HSD.out, g1, Lib.hid (by rw [List.length_append, hll.out]; rfl), g4, Lib.hid ?_⟩
        rw [val_snoc, hll.out, Nat.pow_succ, val_take_succ, Nat.add_mul, ← hinv.out, ← HX.out, Nat.mul_assoc _ x, ← HY.out, Nat.mul_assoc _ 4294967296, Nat.add_assoc, ← Nat.mul_add, Nat.mod_add_div, HS.out, Nat.mul_add, Nat.add_assoc]
      case measure => simp [intOf]; omega
    · obtain rfl : i = a.length := by omega
      have hp : 2 ^ n ≤ 2 ^ 31 := Nat.pow_le_pow_right (by decide) (by omega)
      have hcl : c < 4294967296 := by omega
      have hcm : c % 4294967296 = c := Nat.mod_eq_of_lt hcl
      have hci : (c : Int) % 4294967296 = (c : Int) := by omega
      have hone := num_one wr 38 c hcl
      have hv : val (l ++ [c]) = val a * 2 ^ n := by
        rw [val_snoc, hll.out, hinv.out, List.take_of_length_le (Nat.le_refl _)]
      have hl : (l ++ [c]).length = a.length + 1 := by rw [List.length_append, hll.out]; rfl
      have HO := Lib.hid hOr; have HONE := Lib.hid hone; have HV := Lib.hid hv; have HL := Lib.hid hl
      clear hp hcm hone hv hl hOr
      go_wp2_with (at_builtin; refine wpList_appendN Tryd.wordsTy rfl (.tmp 29) (.tmp 32) rfl w.heap.size _ _ l [c] rfl rfl (HO.out.alloc _) HONE.out ?d1 ?d2 ?_)
      case d1 => rw [hll.out]; simp; omega
      case d2 => simp; omega
      intro v' w1 g1 g2 g3
      have g4 := g2 w (hBr.alloc hszr _)
      have htr := rtrim_any _ _ _ g1.num (by rw [HL.out]; omega)
      rw [HV.out] at htr
      have HT := Lib.hid htr; clear htr
      go_wp2_with fail
      (with_reducible refine HT.out.mono ?_); rintro e w' ⟨v'', l'', rfl, hB', hN', hl'⟩
      go_wp2_with fail
      go_ret
      exact ⟨_, _, rfl, g4.trans (hB'.mono g4.size), hN', hl'⟩

set_option maxRecDepth 100000 in
set_option maxHeartbeats 1600000 in
theorem rdown_any (va : Value) (a : List Nat) (n : Nat) (w : World) (ha : Num w va a) (hla : a.length ≤ 900000) (hn : n < 32) :
    Calls Tryd.prog 58 #[va, .int .i64 n] w (RetNum w fun r => r = wd (val a / 2 ^ n)) := by
  obtain ⟨ao, ca, rfl, hca, hca2, _⟩ := ha.shape
  have HA := Lib.hid ha; clear ha
  go_enter Tryd.func58, Tryd.ntmps58
  go_wp2_with fail
  go_loopw [5, 9] (fun ov iv wr => ∃ (i : Nat) (l : List Nat), i ≤ a.length ∧ iv = .int .i64 i ∧ OwnW 38 wr w.heap.size ov l ∧ Hid (l.length = i) ∧ Below w.heap.size w wr ∧
      Hid (∀ j, j < i → gd l j = val a / 2 ^ n / 4294967296 ^ j % 4294967296)) (fun _ i _ => a.length - (intOf i).toNat)
  case atStart => exact ⟨0, [], Nat.zero_le _, rfl, OwnW.nil _ _ _, Lib.hid rfl, Below.refl _ _, Lib.hid (fun j hj => by omega)⟩
  case round =>
    obtain ⟨i, l, hi, rfl, hOr, hll, hBr, hinv⟩ := hrel
    have hszr := hBr.size
    by_cases hin : i < a.length
    · have har := Lib.hid (HA.out.below hBr)
      have hwa := rword_any _ a i wr har.out (by omega) (by omega)
      have hwb := rword_any _ a ((i : Int) + 1) wr har.out (by omega) (by omega)
      have hxl := HA.out.lt i
      have hyl := HA.out.lt (i + 1)
      have hd := word_down HA.out.lt i n hn
      obtain ⟨x, hx⟩ : ∃ x, x = gd a i := ⟨_, rfl⟩
      obtain ⟨y, hy⟩ : ∃ y, y = gd a (i + 1) := ⟨_, rfl⟩
      rw [Int.toNat_natCast, ← hx] at hwa
      rw [show ((i : Int) + 1).toNat = i + 1 from by omega, ← hy] at hwb
      rw [← hx] at hxl
      rw [← hy] at hyl
      rw [← hx, ← hy] at hd
      have hor := or_words x y hxl hyl
      have hzl : x + y * 4294967296 < 18446744073709551616 := by omega
      obtain ⟨z, hz⟩ : ∃ z, z = x + y * 4294967296 := ⟨_, rfl⟩
      rw [← hz] at hor hzl hd
      have hsh : (z : Int) / 2 ^ n % 4294967296 = ((z / 2 ^ n % 4294967296 : Nat) : Int) := by rw [Int.natCast_emod, Int.natCast_ediv]; simp
      obtain ⟨t, ht⟩ : ∃ t, t = z / 2 ^ n % 4294967296 := ⟨_, rfl⟩
      have htl : t < 4294967296 := by rw [ht]; exact Nat.mod_lt _ (by decide)
      rw [← ht] at hsh hd
      have hone := num_one wr 38 t htl
      have HWA := Lib.hid hwa; have HWB := Lib.hid hwb; have HO := Lib.hid hOr; have HD := Lib.hid hd; have HONE := Lib.hid hone
      clear hwa hwb hx hy hz ht hd hOr hone
      go_wp2_with fail
      (with_reducible refine HWA.out.mono ?_); rintro e w' ⟨rfl, rfl⟩
      go_wp2_with fail
      (with_reducible refine HWB.out.mono ?_); rintro e w' ⟨rfl, rfl⟩
      go_wp2_with (at_builtin; refine wpList_appendN Tryd.wordsTy rfl (.tmp 12) (.tmp 25) rfl w.heap.size _ _ l [t] rfl rfl (HO.out.alloc _) HONE.out ?c1 ?c2 ?_)
      case c1 => rw [hll.out]; simp; omega
      case c2 => simp; omega
      intro v' w1 g1 g2 g3
      have g4 := g2 w (hBr.alloc hszr _)
      go_wp2_with fail
      go_roundw
      case rel =>
        refine ⟨i + 1, l ++ [t], by omega, by go_num, g1, Lib.hid (by rw [List.length_append, hll.out]; rfl), g4, Lib.hid fun j hj => ?_⟩
        rw [gd_append, hll.out]
        by_cases hji : j = i
        · subst hji
          rw [if_neg (by omega), Nat.sub_self]; exact HD.out
        · rw [if_pos (by omega)]; exact hinv.out j (by omega)
      case measure => simp [intOf]; omega
    · obtain rfl : i = a.length := by omega
      have hl := hll.out
      have hv : val l = val a / 2 ^ n := by
        apply val_of_digits
        · intro j hj; exact hinv.out j (by omega)
        · rw [hl]; exact Nat.lt_of_le_of_lt (Nat.div_le_self _ _) (val_lt HA.out.lt)
      have htr := rtrim_any _ _ _ hOr.num (by rw [hl]; omega)
      rw [hv] at htr
      have HT := Lib.hid htr; clear htr hv hl
      go_wp2_with fail
      (with_reducible refine HT.out.mono ?_); rintro e w' ⟨v'', l'', rfl, hB', hN', hl'⟩
      go_wp2_with fail
      go_ret
      exact ⟨_, _, rfl, hBr.trans (hB'.mono hBr.size), hN', hl'⟩

set_option maxRecDepth 100000 in
set_option maxHeartbeats 800000 in
theorem rbit_any (va : Value) (a : List Nat) (i : Nat) (w : World) (ha : Num w va a) (hi : i < 1000000000) :
    Calls Tryd.prog 61 #[va, .int .i64 i] w (RetS w (.int .u32 (val a / 2 ^ i % 2 : Nat))) := by
  have hb := bit_of ha.lt i
  obtain ⟨q, hq⟩ : ∃ q, q = i / 32 := ⟨_, rfl⟩
  obtain ⟨r, hr⟩ : ∃ r, r = i % 32 := ⟨_, rfl⟩
  have hrl : r < 32 := by omega
  have hqi : (i : Int) / 32 = (q : Int) := by omega
  have hri : (i : Int) % 32 = (r : Int) := by omega
  rw [← hq, ← hr] at hb
  have hw := rword_any va a q w ha (by omega) (by omega)
  have hxl := ha.lt q
  obtain ⟨x, hx⟩ : ∃ x, x = gd a q := ⟨_, rfl⟩
  rw [Int.toNat_natCast, ← hx] at hw
  rw [← hx] at hb hxl
  have hbt := bit_test x r hxl
  obtain ⟨y, hy⟩ : ∃ y, y = x / 2 ^ r % 2 := ⟨_, rfl⟩
  rw [← hy] at hbt hb
  rw [← hb]
  have hxm : (x : Int) % 4294967296 = (x : Int) := by omega
  have HW := Lib.hid hw
  clear hw hx hy hb hq hr ha
  go_enter Tryd.func61, Tryd.ntmps61
  go_wp2_with fail
  (with_reducible refine HW.out.mono ?_); rintro e w1 ⟨rfl, rfl⟩
  go_wp2_with fail
  go_ret
  exact ⟨rfl, rfl⟩
end Go.Proofs.YtdepoikifneggaaDoor
