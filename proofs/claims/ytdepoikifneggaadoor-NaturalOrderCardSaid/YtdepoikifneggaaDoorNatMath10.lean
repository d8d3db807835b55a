/-
  Plain numbers: the reference's long division.
  Conditions: each theorem's own.
-/
import Derived.Test.YtdepoikifneggaaDoorNatMath9
namespace Go.Proofs.YtdepoikifneggaaDoor
open Go.RowKit

/-- the highest bit of a word, as the reference asks for it -/
theorem top_bit (y : Nat) (h : y < 4294967296) : bits .and .u32 (y : Int) 2147483648 = (if y < 2147483648 then 0 else 2147483648 : Nat) := by
  rw [show (2147483648 : Int) = ((2147483648 : Nat) : Int) from rfl, (bits_nat .u32 32 (by decide) wraps_u32 y 2147483648 h (by decide)).1]
  congr 1
  rw [show (2147483648 : Nat) = 2 ^ 31 from rfl]
  apply Nat.eq_of_testBit_eq
  intro i
  rw [Nat.testBit_and, Nat.testBit_two_pow]
  by_cases h1 : y < 2 ^ 31
  · rw [if_pos h1, Nat.zero_testBit]
    by_cases hi : 31 = i
    · subst hi; rw [Nat.testBit_lt_two_pow h1]; rfl
    · rw [decide_eq_false hi, Bool.and_false]
  · rw [if_neg h1, Nat.testBit_two_pow]
    by_cases hi : 31 = i
    · subst hi
      have e : y.testBit 31 = true := by
        rw [Nat.testBit_eq_decide_div_mod_eq]
        simp only [decide_eq_true_eq]
        omega
      rw [e]; rfl
    · rw [decide_eq_false hi, Bool.and_false]
theorem shl32 (x s : Nat) (h : x * 2 ^ s < 4294967296) : IntKind.u32.wrap ((x : Int) * 2 ^ s) = ((x * 2 ^ s : Nat) : Int) := by
  have e : (x : Int) * 2 ^ s = ((x * 2 ^ s : Nat) : Int) := by simp
  rw [e]; exact wraps_u32 _ (by omega) (by omega)
/-- the divisor's words, moved up till the highest bit is set -/
theorem norm_len {Bv x s n : Nat} (hn : n = (wd Bv).length) (h0 : Bv ≠ 0) (hx : x = gd (wd Bv) (n - 1)) (h1 : x * 2 ^ s < 4294967296) (h2 : 2147483648 ≤ x * 2 ^ s) :
    Bv * 2 ^ s < 4294967296 ^ n ∧ 2147483648 * 4294967296 ^ (n - 1) ≤ Bv * 2 ^ s ∧ (wd (Bv * 2 ^ s)).length = n ∧ 0 < n := by
  have hpos : 0 < n := by rw [hn]; exact (wd_top h0).1
  have e := val_take_succ (wd Bv) (n - 1)
  rw [show n - 1 + 1 = n from by omega, List.take_of_length_le (by omega), val_wd, ← hx] at e
  have hlo := val_take_lt (u32_wd Bv) (n - 1)
  have hp : 4294967296 ^ n = 4294967296 ^ (n - 1) * 4294967296 := by rw [← Nat.pow_succ]; congr 1; omega
  have h3 : 2147483648 * 4294967296 ^ (n - 1) ≤ Bv * 2 ^ s := by
    rw [e, Nat.add_mul, Nat.mul_assoc, Nat.mul_comm 2147483648]
    exact Nat.le_trans (Nat.mul_le_mul_left _ h2) (Nat.le_add_left _ _)
  have h4 : Bv * 2 ^ s < 4294967296 ^ n := by
    rw [e]
    have h5 : val ((wd Bv).take (n - 1)) + 4294967296 ^ (n - 1) * x < 4294967296 ^ (n - 1) * (x + 1) := by rw [Nat.mul_add]; omega
    have h6 := Nat.mul_lt_mul_of_pos_right h5 (Nat.two_pow_pos s)
    refine Nat.lt_of_lt_of_le h6 ?_
    rw [Nat.mul_assoc, hp]
    refine Nat.mul_le_mul_left _ ?_
    have h7 : 2 ^ s ∣ 4294967296 := by
      have hs : s ≤ 32 := by
        rcases Nat.lt_or_ge 32 s with g | g
        · exfalso
          have h8 : 2 ^ 33 ≤ 2 ^ s := Nat.pow_le_pow_right (by decide) g
          have h9 : 0 < x := by
            rcases Nat.eq_zero_or_pos x with q | q
            · rw [q] at h2; omega
            · exact q
          have h10 := Nat.mul_le_mul h9 h8
          omega
        · exact g
      exact ⟨2 ^ (32 - s), by rw [← Nat.pow_add, show s + (32 - s) = 32 from by omega]⟩
    obtain ⟨c, hc⟩ := h7
    rw [hc, Nat.mul_comm]
    refine Nat.mul_le_mul_left _ ?_
    rw [hc, Nat.mul_comm] at h1
    have := Nat.lt_of_mul_lt_mul_left h1
    omega
  refine ⟨h4, h3, ?_, hpos⟩
  apply Nat.le_antisymm (wd_length_of_lt h4)
  rcases Nat.lt_or_ge (wd (Bv * 2 ^ s)).length n with g | g
  · exfalso
    have h5 := val_lt (u32_wd (Bv * 2 ^ s))
    rw [val_wd] at h5
    have h6 : 4294967296 ^ (wd (Bv * 2 ^ s)).length ≤ 4294967296 ^ (n - 1) := Nat.pow_le_pow_right (by decide) (by omega)
    have h7 : 0 < 4294967296 ^ (n - 1) := Nat.pow_pos (by decide)
    omega
  · exact g
/-- the estimate is not too low -/
theorem guess_ge {R V P H top : Nat} (hP : 0 < P) (hH : H = R / P) (ht : top = V / P) (h0 : 0 < top) (hlt : R < 4294967296 * V) : R / V ≤ min (H / top) 4294967295 := by
  have hV : 0 < V := by
    rcases Nat.eq_zero_or_pos V with h | h
    · rw [h, Nat.zero_div] at ht; omega
    · exact h
  obtain ⟨q, hq⟩ : ∃ q, q = R / V := ⟨_, rfl⟩
  have h1 : q * V ≤ R := by rw [hq]; exact Nat.div_mul_le_self _ _
  have h2 : q < 4294967296 := by rw [hq, Nat.div_lt_iff_lt_mul hV]; exact hlt
  rw [← hq]
  refine Nat.le_min.2 ⟨?_, by omega⟩
  rw [Nat.le_div_iff_mul_le h0, hH, Nat.le_div_iff_mul_le hP]
  refine Nat.le_trans ?_ h1
  rw [Nat.mul_assoc]
  refine Nat.mul_le_mul_left _ ?_
  rw [ht]; exact Nat.div_mul_le_self _ _
theorem rdiv_step {Y V Q r x R : Nat} (h : Y = Q * V + r) (hR : R = x + 4294967296 * r) : x + 4294967296 * Y = (R / V + 4294967296 * Q) * V + R % V := by
  have e := Nat.div_add_mod R V
  rw [h, Nat.add_mul, Nat.mul_add, Nat.mul_assoc 4294967296 Q V, Nat.mul_comm (R / V) V]
  omega
/-- a list's words two by two at the top of what is below a power -/
theorem head_two {R n : Nat} (h : R < 4294967296 ^ (n + 1)) (hn : 0 < n) : gd (wd R) n * 4294967296 + gd (wd R) (n - 1) = R / 4294967296 ^ (n - 1) := by
  have e1 := val_digit (u32_wd R) (n - 1)
  have e2 := val_digit (u32_wd R) n
  rw [val_wd, show n - 1 + 1 = n from by omega] at e1
  rw [val_wd] at e2
  have e3 : R / 4294967296 ^ (n + 1) = 0 := Nat.div_eq_of_lt h
  rw [e3] at e2
  omega
theorem top_one {V n : Nat} (h : V < 4294967296 ^ n) (hn : 0 < n) : gd (wd V) (n - 1) = V / 4294967296 ^ (n - 1) := by
  have e1 := val_digit (u32_wd V) (n - 1)
  rw [val_wd, show n - 1 + 1 = n from by omega, Nat.div_eq_of_lt h] at e1
  omega
theorem first_rest {AS V n na : Nat} (hA : AS < 4294967296 ^ na) (hn : 0 < n) (hlo : 2147483648 * 4294967296 ^ (n - 1) ≤ V) : AS / 4294967296 ^ (na + 1 - n) < V := by
  refine Nat.lt_of_lt_of_le ?_ hlo
  rw [Nat.div_lt_iff_lt_mul (Nat.pow_pos (by decide)), Nat.mul_assoc, ← Nat.pow_add]
  refine Nat.lt_of_lt_of_le hA (Nat.le_trans (Nat.pow_le_pow_right (by decide) (show na ≤ n - 1 + (na + 1 - n) by omega)) ?_)
  exact Nat.le_mul_of_pos_left _ (by decide)
end Go.Proofs.YtdepoikifneggaaDoor
