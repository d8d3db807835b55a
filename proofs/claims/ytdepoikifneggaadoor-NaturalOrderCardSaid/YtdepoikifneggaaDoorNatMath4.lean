/-
  Plain numbers: the estimate of a word of a quotient out of three words of the dividend and two of the divisor.
  Conditions: each theorem's own.
-/
import Derived.Test.YtdepoikifneggaaDoorNatMath3
namespace Go.Proofs.YtdepoikifneggaaDoor
open Go.RowKit

/-- the greatest fit that a word can hold -/
def fit (U3 V2 : Nat) : Nat := min 4294967295 (U3 / V2)
theorem fit_aux {g L x H V : Nat} (k : L < x ↔ H / V < g) : (4294967296 ≤ g ∨ L < x) ↔ fit H V < g := by
  rw [k]; unfold fit; generalize H / V = t; rw [Nat.min_def]; split <;> constructor <;> intro h <;> omega
theorem fit_le_of {H V t : Nat} (h : H / V ≤ t) : fit H V ≤ t := by unfold fit; exact Nat.le_trans (Nat.min_le_right _ _) h
/-- the loop's test, of a guess with its rest: it is too great exactly if it is above the fit -/
theorem fit_test {g top next rest head low : Nat} (ht : 0 < top) (h : g * top + rest = head) :
    (4294967296 ≤ g ∨ rest * 4294967296 + low < g * next) ↔ fit (head * 4294967296 + low) (top * 4294967296 + next) < g := by
  have hV : 0 < top * 4294967296 + next := by omega
  have e : g * (top * 4294967296 + next) = (head - rest) * 4294967296 + g * next := by
    have e0 : g * top = head - rest := by omega
    rw [Nat.mul_add, ← Nat.mul_assoc, e0]
  have k : rest * 4294967296 + low < g * next ↔ (head * 4294967296 + low) / (top * 4294967296 + next) < g := by
    rw [Nat.div_lt_iff_lt_mul hV, e]
    have : rest ≤ head := by omega
    generalize g * next = x
    omega
  exact fit_aux k
/-- a rest that does not fit a word: the guess is low enough -/
theorem fit_rest {g top next rest head low : Nat} (ht : 0 < top) (h : g * top + rest = head) (hn : next < 4294967296) (hg : g < 4294967296) (hr : 4294967296 ≤ rest) :
    ¬ fit (head * 4294967296 + low) (top * 4294967296 + next) < g := by
  rw [← fit_test ht h]
  have h1 : g * next ≤ 4294967295 * 4294967295 := Nat.mul_le_mul (by omega) (by omega)
  omega
/-- the first guess is not too low -/
theorem fit_first {top next head low : Nat} (ht : 0 < top) (hl : low < 4294967296) : fit (head * 4294967296 + low) (top * 4294967296 + next) ≤ head / top := by
  have h1 : (head * 4294967296 + low) / (top * 4294967296 + next) ≤ (head * 4294967296 + low) / (top * 4294967296) := Nat.div_le_div_left (by omega) (by omega)
  have h2 : (head * 4294967296 + low) / (top * 4294967296) = head / top := by
    rw [Nat.mul_comm top, ← Nat.div_div_eq_div_mul]; congr 1; omega
  exact fit_le_of (Nat.le_trans h1 (Nat.le_of_eq h2))
/-- the first guess is at most a little too great for a word -/
theorem guess_le {top u1 u0 : Nat} (ht : 2147483648 ≤ top) (h1 : u1 ≤ top) (h0 : u0 < 4294967296) : (u1 * 4294967296 + u0) / top ≤ 4294967297 := by
  have : u1 * 4294967296 ≤ top * 4294967296 := Nat.mul_le_mul_right _ h1
  rw [← Nat.lt_succ_iff, Nat.div_lt_iff_lt_mul (by omega)]
  omega
/-- the fit is the quotient, or one more -/
theorem fit_near {u v D U3 V2 ul vl : Nat} (hD : 0 < D) (hu : u = U3 * D + ul) (hul : ul < D) (hv : v = V2 * D + vl) (hvl : vl < D) (hV : 4294967296 ≤ V2) (hlt : u < 4294967296 * v) :
    u / v ≤ fit U3 V2 ∧ fit U3 V2 ≤ u / v + 1 := by
  have hv0 : 0 < v := by
    have : 0 < V2 * D := Nat.mul_pos (by omega) hD
    omega
  obtain ⟨q, hq⟩ : ∃ q, q = u / v := ⟨_, rfl⟩
  have hqb : q < 4294967296 := by rw [hq, Nat.div_lt_iff_lt_mul hv0]; exact hlt
  have h1 : q * v ≤ u := by rw [hq]; exact Nat.div_mul_le_self u v
  have h2 : u < (q + 1) * v := by
    have := Nat.lt_mul_div_succ u hv0
    rw [hq, Nat.mul_comm]; exact this
  rw [← hq]
  have hV0 : 0 < V2 := by omega
  constructor
  · unfold fit
    have : q ≤ U3 / V2 := by
      rw [Nat.le_div_iff_mul_le hV0]
      have e : q * V2 * D ≤ q * v := by rw [Nat.mul_assoc]; exact Nat.mul_le_mul_left _ (by omega)
      have : q * V2 * D < (U3 + 1) * D := by rw [Nat.add_mul]; omega
      have := Nat.lt_of_mul_lt_mul_right this
      omega
    exact Nat.le_min.2 ⟨by omega, this⟩
  · unfold fit
    have : U3 / V2 < q + 2 := by
      rw [Nat.div_lt_iff_lt_mul hV0]
      have e1 : U3 * D < (q + 1) * ((V2 + 1) * D) := by
        have : (q + 1) * v ≤ (q + 1) * ((V2 + 1) * D) := Nat.mul_le_mul_left _ (by rw [Nat.add_mul]; omega)
        omega
      rw [← Nat.mul_assoc] at e1
      have e2 := Nat.lt_of_mul_lt_mul_right e1
      have e3 : (q + 1) * (V2 + 1) = q * V2 + q + V2 + 1 := by rw [Nat.add_mul, Nat.mul_add]; omega
      have e4 : (q + 2) * V2 = q * V2 + 2 * V2 := by rw [Nat.add_mul]
      omega
    exact Nat.le_trans (Nat.min_le_right _ _) (Nat.le_of_lt_succ this)
end Go.Proofs.YtdepoikifneggaaDoor
