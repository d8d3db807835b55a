/-
  A shift, bit by bit.
  Conditions: none.
-/
import Derived.Test.YtdepoikifneggaaDoorNatMath10
namespace Go.Proofs.YtdepoikifneggaaDoor

theorem put_small {l : List Nat} {k : Nat} (hU : U32 l) (hv : val l < 2 ^ k) : gd l (k / 32) < 2 ^ (k % 32) := by
  rw [val_gd hU, pow32]
  refine Nat.lt_of_le_of_lt (Nat.mod_le _ _) ?_
  apply Nat.div_lt_of_lt_mul
  rw [← Nat.pow_add, Nat.div_add_mod]; exact hv
theorem put_bit {l : List Nat} {k b : Nat} (hk : k / 32 < l.length) :
    val (l.set (k / 32) (gd l (k / 32) + b * 2 ^ (k % 32))) = val l + b * 2 ^ k := by
  have h := val_set l (k / 32) (gd l (k / 32) + b * 2 ^ (k % 32)) hk
  have e : 4294967296 ^ (k / 32) * (b * 2 ^ (k % 32)) = b * 2 ^ k := by
    rw [Nat.mul_left_comm, pow32, ← Nat.pow_add, Nat.div_add_mod]
  rw [Nat.mul_add, e] at h
  generalize 4294967296 ^ (k / 32) * gd l (k / 32) = t at h
  generalize val (l.set (k / 32) (gd l (k / 32) + b * 2 ^ (k % 32))) = s at h ⊢
  generalize b * 2 ^ k = u at h ⊢
  omega
/-- the shift of the lowest i bits -/
def partS (A : Nat) (n : Int) (i : Nat) : Nat := if 0 ≤ n then A % 2 ^ i * 2 ^ n.toNat else A % 2 ^ i / 2 ^ (-n).toNat
theorem partS_zero (A : Nat) (n : Int) : partS A n 0 = 0 := by unfold partS; simp [Nat.mod_one]
theorem partS_low {A : Nat} {n : Int} {i : Nat} (h : (i : Int) + n < 0) : partS A n (i + 1) = partS A n i := by
  unfold partS
  rw [if_neg (by omega), if_neg (by omega)]
  have h1 : ∀ j, j ≤ i + 1 → A % 2 ^ j / 2 ^ (-n).toNat = 0 := fun j hj => by
    apply Nat.div_eq_of_lt
    exact Nat.lt_of_lt_of_le (Nat.mod_lt _ (Nat.pow_pos (by decide))) (Nat.pow_le_pow_right (by decide) (by omega))
  rw [h1 _ (Nat.le_refl _), h1 _ (Nat.le_succ _)]
theorem partS_lt {A : Nat} {n : Int} {i k : Nat} (h : (i : Int) + n = k) : partS A n i < 2 ^ k := by
  unfold partS
  have hm : A % 2 ^ i < 2 ^ i := Nat.mod_lt _ (Nat.pow_pos (by decide))
  split
  · have e : 2 ^ k = 2 ^ i * 2 ^ n.toNat := by rw [← Nat.pow_add]; congr 1; omega
    rw [e]; exact (Nat.mul_lt_mul_right (Nat.pow_pos (by decide))).2 hm
  · apply Nat.div_lt_of_lt_mul
    rw [← Nat.pow_add, show (-n).toNat + k = i from by omega]; exact hm
theorem partS_succ {A : Nat} {n : Int} {i k : Nat} (h : (i : Int) + n = k) : partS A n (i + 1) = partS A n i + A / 2 ^ i % 2 * 2 ^ k := by
  unfold partS
  rw [Nat.mod_pow_succ]
  split
  · have e : 2 ^ k = 2 ^ i * 2 ^ n.toNat := by rw [← Nat.pow_add]; congr 1; omega
    rw [Nat.add_mul, e]; congr 1
    rw [Nat.mul_comm (2 ^ i), Nat.mul_assoc]
  · have e : 2 ^ i * (A / 2 ^ i % 2) = 2 ^ (-n).toNat * (A / 2 ^ i % 2 * 2 ^ k) := by
      rw [Nat.mul_comm (A / 2 ^ i % 2), ← Nat.mul_assoc, ← Nat.pow_add, show (-n).toNat + k = i from by omega]
    rw [e, Nat.add_mul_div_left _ _ (Nat.pow_pos (by decide))]
theorem partS_end {A : Nat} {n : Int} {i : Nat} (h : A < 2 ^ i) : partS A n i = if 0 ≤ n then A * 2 ^ n.toNat else A / 2 ^ (-n).toNat := by
  unfold partS; rw [Nat.mod_eq_of_lt h]
end Go.Proofs.YtdepoikifneggaaDoor
