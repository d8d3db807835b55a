/-
  Plain numbers: square roots by Newton's steps.
  Conditions: each theorem's own.
-/
import Derived.Test.YtdepoikifneggaaDoorNatMath8
namespace Go.Proofs.YtdepoikifneggaaDoor
open Go.RowKit

/-- s is the square root of n, rounded down -/
def IsRoot (n s : Nat) : Prop := s * s ≤ n ∧ n < (s + 1) * (s + 1)
theorem IsRoot.unique {n s t : Nat} (h : IsRoot n s) (k : IsRoot n t) : s = t := by
  rcases Nat.lt_trichotomy s t with g | g | g
  · have g' : s + 1 ≤ t := g
    have := Nat.mul_le_mul g' g'
    have h1 := h.2; have h2 := k.1; omega
  · exact g
  · have g' : t + 1 ≤ s := g
    have := Nat.mul_le_mul g' g'
    have h1 := k.2; have h2 := h.1; omega
theorem four_mul_le (u v : Nat) : 4 * (u * v) ≤ (u + v) * (u + v) := by
  rcases Nat.le_total u v with h | h
  · obtain ⟨d, rfl⟩ := Nat.exists_eq_add_of_le h
    have : (u + (u + d)) * (u + (u + d)) = 4 * (u * (u + d)) + d * d := by
      simp only [Nat.mul_add, Nat.add_mul]
      rw [Nat.mul_comm d u]; omega
    omega
  · obtain ⟨d, rfl⟩ := Nat.exists_eq_add_of_le h
    have : (v + d + v) * (v + d + v) = 4 * ((v + d) * v) + d * d := by
      simp only [Nat.mul_add, Nat.add_mul]
      rw [Nat.mul_comm d v]; omega
    omega
/-- a Newton step does not fall below the root -/
theorem newton_ge {a x : Nat} (hx : 0 < x) : a < ((x + a / x) / 2 + 1) * ((x + a / x) / 2 + 1) := by
  have h1 : a < x * (a / x + 1) := Nat.lt_mul_div_succ a hx
  obtain ⟨q, hq⟩ : ∃ q, q = a / x := ⟨_, rfl⟩
  rw [← hq] at h1 ⊢
  obtain ⟨y, hy⟩ : ∃ y, y = (x + q) / 2 + 1 := ⟨_, rfl⟩
  rw [← hy]
  have h2 : x + (q + 1) ≤ 2 * y := by omega
  have h3 := Nat.mul_le_mul h2 h2
  have h4 := four_mul_le x (q + 1)
  have h5 : 2 * y * (2 * y) = 4 * (y * y) := by rw [Nat.mul_mul_mul_comm]
  omega
theorem newton_pos {a x : Nat} (ha : 0 < a) (hx : 0 < x) : 0 < (x + a / x) / 2 := by
  have h := newton_ge (a := a) hx
  rcases Nat.eq_zero_or_pos ((x + a / x) / 2) with h0 | h0
  · rw [h0] at h; omega
  · exact h0
/-- where a Newton step does not go down, the root is found -/
theorem newton_end {a x : Nat} (h : x ≤ (x + a / x) / 2) (hu : a < (x + 1) * (x + 1)) : IsRoot a x := by
  refine ⟨?_, hu⟩
  have h1 : x ≤ a / x := by omega
  exact Nat.le_trans (Nat.mul_le_mul_left x h1) (Nat.mul_div_le a x)
/-- the first guess of the root -/
theorem newton_start {a m : Nat} (h : a < 2 ^ (m + m)) : a < (2 ^ m + 1) * (2 ^ m + 1) := by
  rw [Nat.pow_add] at h
  exact Nat.lt_of_lt_of_le h (Nat.mul_le_mul (by omega) (by omega))
theorem half_up (n : Nat) : n ≤ (n + 1) / 2 + (n + 1) / 2 := by omega
theorem wd_add_len (m n : Nat) : (wd (m + n)).length ≤ max (wd m).length (wd n).length + 1 := by
  apply wd_length_of_lt
  have h1 := val_lt (u32_wd m)
  have h2 := val_lt (u32_wd n)
  rw [val_wd] at h1 h2
  obtain ⟨k, hk⟩ : ∃ k, k = max (wd m).length (wd n).length := ⟨_, rfl⟩
  have e1 : 4294967296 ^ (wd m).length ≤ 4294967296 ^ k := Nat.pow_le_pow_right (by decide) (by omega)
  have e2 : 4294967296 ^ (wd n).length ≤ 4294967296 ^ k := Nat.pow_le_pow_right (by decide) (by omega)
  rw [← hk, Nat.pow_succ]
  omega
theorem wd_mul_len (m n : Nat) : (wd (m * n)).length ≤ (wd m).length + (wd n).length := by
  apply wd_length_of_lt
  have h1 := val_lt (u32_wd m)
  have h2 := val_lt (u32_wd n)
  rw [val_wd] at h1 h2
  rw [Nat.pow_add]
  exact Nat.mul_lt_mul_of_lt_of_le h1 (Nat.le_of_lt h2) (Nat.pow_pos (by decide))
theorem wd_one {n : Nat} (h : n < 4294967296) (h0 : n ≠ 0) : wd n = [n] := by rw [wd_pos h0, Nat.mod_eq_of_lt h, Nat.div_eq_of_lt h, wd_zero]
end Go.Proofs.YtdepoikifneggaaDoor
