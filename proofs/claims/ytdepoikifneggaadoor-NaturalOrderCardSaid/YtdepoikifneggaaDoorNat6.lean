/-
  natural.Bits, natural.Int and the reference's: what they hand back.
  Conditions: each theorem's own.
-/
import Derived.Test.YtdepoikifneggaaDoorNat5
import Derived.Test.YtdepoikifneggaaDoorNatMath5
import Derived.Test.YtdepoikifneggaaDoorShelfN
namespace Go.Proofs.YtdepoikifneggaaDoor
open Go.RowKit Go.ChangeShapes Go.WideShapes

set_option maxRecDepth 100000 in
set_option maxHeartbeats 800000 in
theorem bits_any (va : Value) (a : List Nat) (w : World) (ha : Num w va a) (hla : a.length ≤ 1000000) :
    Calls Tryd.prog 28 #[va] w (RetS w (.int .i64 (blen (val a) : Nat))) := by
  obtain ⟨ao, ca, rfl, hca, hca2, _⟩ := ha.shape
  have HA := Lib.hid ha; clear ha
  obtain ⟨r, hr⟩ : ∃ r, r = blen (val a) := ⟨_, rfl⟩
  rw [← hr]
  have HR := Lib.hid hr; clear hr
  go_enter Tryd.func28, Tryd.ntmps28
  go_wp2_with fail
  go_loop [3] (fun i => ∃ k : Nat, k ≤ a.length ∧ i = .int .i64 ((k : Int) - 1) ∧ Hid (∀ j, k ≤ j → gd a j = 0)) (fun i => (intOf i + 1).toNat)
  case atStart => exact ⟨a.length, Nat.le_refl _, rfl, Lib.hid fun j hj => gd_over _ _ hj⟩
  case round =>
    obtain ⟨k, hk, rfl, hz⟩ := hrel
    by_cases hk0 : k = 0
    · subst hk0
      have hv : r = 0 := by rw [HR.out, ← val_take_zeros 0 hz.out]; rfl
      have HV := Lib.hid hv; clear hv
      go_wp2_with fail
      go_ret
      exact ⟨by rw [HV.out]; rfl, rfl⟩
    · obtain ⟨m, rfl⟩ : ∃ m, k = m + 1 := ⟨k - 1, by omega⟩
      have hm1 : ((m + 1 : Nat) : Int) - 1 = (m : Int) := by omega
      rw [hm1]
      clear hm1
      have hu := HA.out.lt
      obtain ⟨b, off, rfl, hbs, hcell⟩ := HA.out.at (by omega)
      have hx := hcell m (by omega)
      have hxl := hu m
      obtain ⟨x, hxe⟩ : ∃ x, x = gd a m := ⟨_, rfl⟩
      rw [← hxe] at hx hxl
      have HX := Lib.hid hxe; have HU := Lib.hid hu; clear hxe hcell hu
      by_cases hx0 : x = 0
      · subst hx0
        go_wp2_with fail
        go_round
        case rel =>
          refine ⟨m, by omega, rfl, Lib.hid fun j hj => ?_⟩
          by_cases hjm : j = m
          · rw [hjm, ← HX.out]
          · exact hz.out j (by omega)
        case measure => simp [intOf]
      · have hd : (bne (x : Int) 0) = true := by simp; omega
        have hv : r = 32 * m + blen x := by
          rw [HR.out, ← val_take_zeros (m + 1) hz.out, val_take_succ, ← HX.out]
          exact blen_top (val_take_lt HU.out m) hx0
        have hl := Tryd.bits_Len32 x w (by omega) (by omega)
        rw [Int.toNat_natCast, bitLen_eq x hxl] at hl
        have hbl : blen x ≤ 32 := blen_le hxl
        obtain ⟨y, hy⟩ : ∃ y, y = blen x := ⟨_, rfl⟩
        rw [← hy] at hl hv hbl
        have HL := Lib.hid hl; have HV := Lib.hid hv
        clear hl hv hy hx0
        go_wp2_with (go_at_call 60; (with_reducible refine HL.out.mono ?_); rintro e w' ⟨rfl, rfl⟩)
        go_ret
        exact ⟨ret_int (by rw [HV.out]; omega), rfl⟩

/-- the bit of a word, as the walk tests it -/
theorem bit_test (x k : Nat) (hx : x < 4294967296) : bits .and .u32 ((x : Int) / 2 ^ k) 1 = ((x / 2 ^ k % 2 : Nat) : Int) := by
  have e : ((x : Int) / 2 ^ k) = ((x / 2 ^ k : Nat) : Int) := by rw [Int.natCast_ediv]; simp
  have h : x / 2 ^ k ≤ x := Nat.div_le_self _ _
  rw [e, show (1 : Int) = ((1 : Nat) : Int) from rfl, (bits_nat .u32 32 (by decide) wraps_u32 (x / 2 ^ k) 1 (by omega) (by omega)).1]
  congr 1
  rw [Nat.and_one_is_mod]

set_option maxRecDepth 100000 in
set_option maxHeartbeats 800000 in
theorem int_yes (va : Value) (a : List Nat) (w : World) (ha : Num w va a) (hla : a.length ≤ 1000000) (hv : val a < 9223372036854775808) :
    Calls Tryd.prog 22 #[va] w (RetS w (.tuple #[.int .i64 (val a : Nat), .bool true])) := by
  have hb := bits_any va a w ha hla
  have hbl : blen (val a) ≤ 63 := blen_le hv
  obtain ⟨y, hy⟩ : ∃ y, y = blen (val a) := ⟨_, rfl⟩
  rw [← hy] at hb hbl
  have hw0 := word_any va a 0 w ha (by omega) (by omega)
  have hw1 := word_any va a 1 w ha (by omega) (by omega)
  have h2 := val_two ha.lt (by omega)
  have hx0 := ha.lt 0
  have hx1 := ha.lt 1
  obtain ⟨p, hp⟩ : ∃ p, p = gd a 0 := ⟨_, rfl⟩
  obtain ⟨q, hq⟩ : ∃ q, q = gd a 1 := ⟨_, rfl⟩
  rw [show (0 : Int).toNat = 0 from rfl, ← hp] at hw0
  rw [show (1 : Int).toNat = 1 from rfl, ← hq] at hw1
  rw [← hp, ← hq] at h2
  rw [← hp] at hx0
  rw [← hq] at hx1
  have hor := or_words p q hx0 hx1
  rw [h2] at hv ⊢
  have HB := Lib.hid hb; have HW0 := Lib.hid hw0; have HW1 := Lib.hid hw1
  obtain ⟨n, hn⟩ : ∃ n, n = p + q * 4294967296 := ⟨_, rfl⟩
  rw [← hn] at hv hor ⊢
  clear hb hw0 hw1 hy hp hq h2 ha hn
  go_enter Tryd.func22, Tryd.ntmps22
  go_wp2_with fail
  (with_reducible refine HB.out.mono ?_); rintro e w1 ⟨rfl, rfl⟩
  go_wp2_with fail
  (with_reducible refine HW0.out.mono ?_); rintro e w1 ⟨rfl, rfl⟩
  go_wp2_with fail
  (with_reducible refine HW1.out.mono ?_); rintro e w1 ⟨rfl, rfl⟩
  go_wp2_with fail
  go_ret2
  exact ⟨rfl, rfl⟩
set_option maxRecDepth 100000 in
set_option maxHeartbeats 800000 in
theorem int_no (va : Value) (a : List Nat) (w : World) (ha : Num w va a) (hla : a.length ≤ 1000000) (hv : 9223372036854775808 ≤ val a) :
    Calls Tryd.prog 22 #[va] w (RetS w (.tuple #[.int .i64 0, .bool false])) := by
  have hb := bits_any va a w ha hla
  have hbl : 63 < blen (val a) := by
    rcases Nat.lt_or_ge 63 (blen (val a)) with h | h
    · exact h
    · have := lt_of_blen h; omega
  have hbu : blen (val a) ≤ 32000000 := Nat.le_trans (blen_le_len ha.lt) (by omega)
  obtain ⟨y, hy⟩ : ∃ y, y = blen (val a) := ⟨_, rfl⟩
  rw [← hy] at hb hbl hbu
  have HB := Lib.hid hb
  clear hb hy ha hv
  go_enter Tryd.func22, Tryd.ntmps22
  go_wp2_with fail
  (with_reducible refine HB.out.mono ?_); rintro e w1 ⟨rfl, rfl⟩
  go_wp2_with fail
  go_ret2
  exact ⟨rfl, rfl⟩

set_option maxRecDepth 100000 in
set_option maxHeartbeats 1600000 in
theorem rbits_any (va : Value) (a : List Nat) (w : World) (ha : Num w va a) (hla : a.length ≤ 1000000) :
    Calls Tryd.prog 29 #[va] w (RetS w (.int .i64 (blen (val a) : Nat))) := by
  obtain ⟨ao, ca, rfl, hca, hca2, _⟩ := ha.shape
  have HA := Lib.hid ha; clear ha
  go_enter Tryd.func29, Tryd.ntmps29
  go_wp2_with fail
  go_loop [3, 9] (fun n i => ∃ k : Nat, k ≤ a.length ∧ i = .int .i64 k ∧ n = .int .i64 (blen (val (a.take k)) : Nat)) (fun _ i => a.length - (intOf i).toNat)
  case atStart => exact ⟨0, Nat.zero_le _, rfl, by simp [val, blen_zero]⟩
  case round =>
    obtain ⟨k, hk, rfl, rfl⟩ := hrel
    by_cases hkn : k < a.length
    · have hu := HA.out.lt
      obtain ⟨b, off, rfl, hbs, hcell⟩ := HA.out.at (by omega)
      have hx := hcell k (by omega)
      have hxl := hu k
      obtain ⟨x, hxe⟩ : ∃ x, x = gd a k := ⟨_, rfl⟩
      rw [← hxe] at hx hxl
      have HX := Lib.hid hxe; have HU := Lib.hid hu; clear hxe hcell hu
      go_wp2_with fail
      go_loop [3, 14] (fun n i => ∃ m : Nat, m ≤ 32 ∧ i = .int .i64 m ∧ n = .int .i64 (blen (val (a.take k) + 4294967296 ^ k * (x % 2 ^ m)) : Nat)) (fun _ i => 32 - (intOf i).toNat)
      case atStart => exact ⟨0, Nat.zero_le _, rfl, by simp [Nat.mod_one]⟩
      case round =>
        obtain ⟨m, hm, rfl, rfl⟩ := hrel
        by_cases hmn : m < 32
        · have hbt := bit_test x m hxl
          obtain ⟨y, hy⟩ : ∃ y, y = x / 2 ^ m % 2 := ⟨_, rfl⟩
          rw [← hy] at hbt
          have hyl : y < 2 := by omega
          have HY := Lib.hid hy; clear hy
          by_cases hy1 : y = 1
          · subst hy1
            have hB := blen_bit (k := m) (val_take_lt HU.out k) HY.out.symm
            have HB := Lib.hid hB; clear hB
            go_wp2_with fail
            go_round
            case rel => exact ⟨m + 1, by omega, by go_num, by rw [HB.out]; go_num⟩
            case measure => simp [intOf]; omega
          · obtain rfl : y = 0 := by omega
            have hB : x % 2 ^ (m + 1) = x % 2 ^ m := by rw [mod_two_pow_succ, ← HY.out, Nat.mul_zero, Nat.add_zero]
            have HB := Lib.hid hB; clear hB
            go_wp2_with fail
            go_round
            case rel => exact ⟨m + 1, by omega, by go_num, by rw [HB.out]⟩
            case measure => simp [intOf]; omega
        · obtain rfl : m = 32 := by omega
          have hB : val (a.take k) + 4294967296 ^ k * (x % 2 ^ 32) = val (a.take (k + 1)) := by
            rw [val_take_succ, ← HX.out, Nat.mod_eq_of_lt hxl]
          have HB := Lib.hid hB; clear hB
          go_wp2_with fail
          go_round
          case rel => exact ⟨k + 1, by omega, by go_num, by rw [HB.out]⟩
          case measure => simp [intOf]; omega
    · obtain rfl : k = a.length := by omega
      have hB : val (a.take a.length) = val a := by rw [List.take_of_length_le (Nat.le_refl _)]
      have HB := Lib.hid hB; clear hB
      go_wp2_with fail
      go_ret
      exact ⟨rfl, rfl⟩
end Go.Proofs.YtdepoikifneggaaDoor
