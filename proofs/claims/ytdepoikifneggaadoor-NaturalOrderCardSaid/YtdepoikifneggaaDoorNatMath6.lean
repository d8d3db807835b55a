/-
  Plain numbers: division by a word, shifts by fewer bits than a word has.
  Conditions: each theorem's own.
-/
import Derived.Test.YtdepoikifneggaaDoorNatMath5
namespace Go.Proofs.YtdepoikifneggaaDoor
open Go.RowKit

theorem val_drop_at (l : List Nat) (m : Nat) : val (l.drop m) = gd l m + 4294967296 * val (l.drop (m + 1)) := by
  by_cases h : m < l.length
  · rw [List.drop_eq_getElem_cons h, gd_lt _ _ h]; rfl
  · rw [List.drop_of_length_le (by omega), List.drop_of_length_le (by omega), gd_over _ _ (by omega)]; rfl
theorem drop_set_lt (l : List Nat) (k j x : Nat) (h : j < k) : (l.set j x).drop k = l.drop k := by
  apply List.ext_getElem?
  intro i
  rw [List.getElem?_drop, List.getElem?_drop, List.getElem?_set, if_neg (by omega)]
theorem val_drop_set (l : List Nat) (m x : Nat) (h : m < l.length) : val ((l.set m x).drop m) = x + 4294967296 * val (l.drop (m + 1)) := by
  rw [val_drop_at, gd_set, if_pos ⟨rfl, h⟩, drop_set_lt _ _ _ _ (Nat.lt_succ_self m)]
/-- one word of a division by a word -/
theorem small_step {V W b r x : Nat} (h : W = V * b + r) : x + 4294967296 * W = ((r * 4294967296 + x) / b + 4294967296 * V) * b + (r * 4294967296 + x) % b := by
  have e := Nat.div_add_mod (r * 4294967296 + x) b
  rw [h, Nat.add_mul, Nat.mul_add, Nat.mul_assoc, Nat.mul_comm ((r * 4294967296 + x) / b) b]
  omega
theorem small_lt {b r x : Nat} (hb : b ≤ 4294967296) (hr : r < b) (hx : x < 4294967296) : (r * 4294967296 + x) / b < 4294967296 := by
  rw [Nat.div_lt_iff_lt_mul (by omega)]
  have : (r + 1) * 4294967296 ≤ b * 4294967296 := Nat.mul_le_mul_right _ hr
  rw [Nat.mul_comm 4294967296 b]
  omega
theorem div_of_eq {a q b r : Nat} (h : a = q * b + r) (hr : r < b) : q = a / b ∧ r = a % b := by
  have e : a = r + b * q := by rw [Nat.mul_comm b q]; omega
  constructor
  · rw [e, Nat.add_mul_div_left _ _ (by omega), Nat.div_eq_of_lt hr, Nat.zero_add]
  · rw [e, Nat.add_mul_mod_self_left, Nat.mod_eq_of_lt hr]
theorem val_of_digits {l : List Nat} (N : Nat) (h : ∀ j, j < l.length → gd l j = N / 4294967296 ^ j % 4294967296) (hN : N < 4294967296 ^ l.length) : val l = N := by
  rw [← val_wd N]
  apply val_ext
  intro j
  rw [val_gd (u32_wd N) j, val_wd]
  by_cases hj : j < l.length
  · exact h j hj
  · rw [gd_over _ _ (by omega), Nat.div_eq_of_lt (Nat.lt_of_lt_of_le hN (Nat.pow_le_pow_right (by decide) (by omega)))]
/-- bits of a word moved up -/
theorem shl_wrap (x n : Nat) (hx : x < 4294967296) (hn : n < 32) : IntKind.u64.wrap ((x : Int) * 2 ^ n) = ((x * 2 ^ n : Nat) : Int) ∧ x * 2 ^ n < 9223372036854775808 ∧ x * 2 ^ n / 4294967296 < 2 ^ n ∧ 2 ^ n ≤ 2147483648 := by
  have hp : 2 ^ n ≤ 2 ^ 31 := Nat.pow_le_pow_right (by decide) (by omega)
  have hp0 := Nat.two_pow_pos n
  have h1 : x * 2 ^ n < 4294967296 * 2 ^ n := Nat.mul_lt_mul_of_pos_right hx hp0
  have e : (x : Int) * 2 ^ n = ((x * 2 ^ n : Nat) : Int) := by simp
  refine ⟨?_, by omega, ?_, hp⟩
  · rw [e]; exact wraps_u64 _ (by omega) (by omega)
  · rw [Nat.div_lt_iff_lt_mul (by decide), Nat.mul_comm (2 ^ n)]; exact h1
/-- low bits beside bits moved up, within a word -/
theorem or_low (x n o : Nat) (hn : n < 32) (ho : o < 2 ^ n) : bits .or .u32 (o : Int) (((x * 2 ^ n : Nat) : Int) % 4294967296) = ((o + x * 2 ^ n % 4294967296 : Nat) : Int) ∧ o + x * 2 ^ n % 4294967296 < 4294967296 := by
  have hB : (4294967296 : Nat) = 2 ^ n * 2 ^ (32 - n) := by rw [← Nat.pow_add, show n + (32 - n) = 32 from by omega]
  have hq : x * 2 ^ n % 4294967296 = 2 ^ n * (x % 2 ^ (32 - n)) := by
    rw [hB, Nat.mul_comm x, Nat.mul_mod_mul_left]
  have hp0 := Nat.two_pow_pos n
  have hx : x % 2 ^ (32 - n) + 1 ≤ 2 ^ (32 - n) := Nat.mod_lt _ (Nat.two_pow_pos _)
  have h1 : 2 ^ n * (x % 2 ^ (32 - n) + 1) ≤ 2 ^ n * 2 ^ (32 - n) := Nat.mul_le_mul_left _ hx
  rw [← hB, Nat.mul_add] at h1
  have hlt : o + x * 2 ^ n % 4294967296 < 4294967296 := by rw [hq]; omega
  refine ⟨?_, hlt⟩
  have e : (((x * 2 ^ n : Nat) : Int) % 4294967296) = ((x * 2 ^ n % 4294967296 : Nat) : Int) := rfl
  rw [e, (bits_nat .u32 32 (by decide) wraps_u32 o (x * 2 ^ n % 4294967296) (by omega) (by omega)).2]
  congr 1
  rw [Nat.or_comm, hq, ← Nat.two_pow_add_eq_or_of_lt ho]; omega
/-- low bits beside bits moved up, in two words -/
theorem or_low64 (x n o : Nat) (hx : x < 4294967296) (hn : n < 32) (ho : o < 2 ^ n) : bits .or .u64 (o : Int) ((x * 2 ^ n : Nat) : Int) = ((o + x * 2 ^ n : Nat) : Int) ∧ o + x * 2 ^ n < 4294967296 * 2 ^ n ∧ o + x * 2 ^ n < 9223372036854775808 := by
  obtain ⟨_, h1, _, h3⟩ := shl_wrap x n hx hn
  have h4 : (x + 1) * 2 ^ n ≤ 4294967296 * 2 ^ n := Nat.mul_le_mul_right _ hx
  rw [Nat.add_mul] at h4
  refine ⟨?_, by omega, by omega⟩
  rw [(bits_nat .u64 64 (by decide) wraps_u64 o (x * 2 ^ n) (by omega) (by omega)).2]
  congr 1
  rw [Nat.or_comm, Nat.mul_comm x, ← Nat.two_pow_add_eq_or_of_lt ho]; omega
/-- two words cut by bits: a word of the number moved down -/
theorem word_down {l : List Nat} (h : U32 l) (i n : Nat) (hn : n < 32) : (gd l i + gd l (i + 1) * 4294967296) / 2 ^ n % 4294967296 = val l / 2 ^ n / 4294967296 ^ i % 4294967296 := by
  rw [Nat.div_div_eq_div_mul (val l), Nat.mul_comm (2 ^ n), ← Nat.div_div_eq_div_mul]
  have e : val l / 4294967296 ^ i = (gd l i + gd l (i + 1) * 4294967296) + 4294967296 * 4294967296 * (val l / 4294967296 ^ (i + 1 + 1)) := by
    rw [val_digit h i, val_digit h (i + 1)]; omega
  rw [e]
  have hB : (4294967296 * 4294967296 : Nat) = 2 ^ n * (2 ^ (32 - n) * 4294967296) := by
    rw [← Nat.mul_assoc, ← Nat.pow_add, show n + (32 - n) = 32 from by omega]
  rw [hB, Nat.mul_assoc (2 ^ n), Nat.add_mul_div_left _ _ (Nat.two_pow_pos n), Nat.mul_comm (2 ^ (32 - n)), Nat.mul_assoc, Nat.add_mul_mod_self_left]
/-- a bit of a number -/
theorem bit_of {l : List Nat} (h : U32 l) (i : Nat) : gd l (i / 32) / 2 ^ (i % 32) % 2 = val l / 2 ^ i % 2 := by
  have hi : i = 32 * (i / 32) + i % 32 := (Nat.div_add_mod i 32).symm
  have e : val l / 2 ^ i = val l / 4294967296 ^ (i / 32) / 2 ^ (i % 32) := by
    rw [Nat.div_div_eq_div_mul, pow32, ← Nat.pow_add, ← hi]
  rw [e, val_digit h (i / 32)]
  have hr : i % 32 < 32 := Nat.mod_lt _ (by decide)
  generalize i % 32 = r at hr
  generalize gd l (i / 32) = x
  generalize val l / 4294967296 ^ (i / 32 + 1) = y
  have hB : (4294967296 : Nat) = 2 ^ r * (2 * 2 ^ (31 - r)) := by
    rw [← Nat.mul_assoc, ← Nat.pow_succ, ← Nat.pow_add, show r + 1 + (31 - r) = 32 from by omega]
  rw [hB, Nat.mul_assoc (2 ^ r), Nat.add_mul_div_left _ _ (Nat.two_pow_pos r), Nat.mul_assoc, Nat.add_mul_mod_self_left]
end Go.Proofs.YtdepoikifneggaaDoor
