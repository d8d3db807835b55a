/-
  Plain numbers: windows of lists of words; a multiple taken from a window, a number given back.
  Conditions: each theorem's own.
-/
import Derived.Test.YtdepoikifneggaaDoorNatMath6
namespace Go.Proofs.YtdepoikifneggaaDoor
open Go.RowKit

/-- what m words from place j on are worth -/
def winv (l : List Nat) (j m : Nat) : Nat := val ((l.drop j).take m)
theorem winv_zero (l : List Nat) (j : Nat) : winv l j 0 = 0 := by simp [winv, val]
theorem winv_succ (l : List Nat) (j i : Nat) : winv l j (i + 1) = winv l j i + 4294967296 ^ i * gd l (j + i) := by
  unfold winv; rw [val_take_succ, gd_drop]
theorem winv_set (l : List Nat) (j i x : Nat) (h : j + i < l.length) : winv (l.set (j + i) x) j (i + 1) = winv l j i + 4294967296 ^ i * x := by
  have e : (l.set (j + i) x).drop j = (l.drop j).set i x := by
    apply List.ext_getElem?
    intro k
    rw [List.getElem?_drop, List.getElem?_set, List.getElem?_set, List.getElem?_drop]
    by_cases hk : i = k
    · subst hk; rw [if_pos rfl, if_pos rfl, if_pos h, if_pos (by rw [List.length_drop]; omega)]
    · rw [if_neg (by omega), if_neg hk]
  unfold winv; rw [e, val_take_set _ _ _ (by rw [List.length_drop]; omega)]
theorem winv_lt {l : List Nat} (h : U32 l) (j m : Nat) : winv l j m < 4294967296 ^ m := val_take_lt (h.drop j) m
theorem winv_congr {l l' : List Nat} (j m : Nat) (h : ∀ i, j ≤ i → i < j + m → gd l i = gd l' i) : winv l j m = winv l' j m := by
  unfold winv
  apply val_ext
  intro i
  rw [gd_take, gd_take]
  split
  · rw [gd_drop, gd_drop]; exact h _ (by omega) (by omega)
  · rfl
/-- a list's worth, parted at a window -/
theorem val_window (l : List Nat) (j m : Nat) : val l = winv l 0 j + 4294967296 ^ j * (winv l j m + 4294967296 ^ m * val (l.drop (j + m))) := by
  have e1 : ∀ (a : List Nat) (k : Nat), val a = val (a.take k) + 4294967296 ^ k * val (a.drop k) := by
    intro a k
    rcases Nat.lt_or_ge a.length k with h | h
    · rw [List.take_of_length_le (by omega), List.drop_of_length_le (by omega)]; simp [val]
    · have := val_append (a.take k) (a.drop k)
      rwa [List.take_append_drop, List.length_take, Nat.min_eq_left h] at this
  unfold winv
  rw [List.drop_zero, e1 l j, e1 (l.drop j) m, List.drop_drop]
/-- one word of a multiple taken off: s what is to be taken, d what is left -/
theorem take_step {P W W0 T c r q y x d c' r' : Nat} (h : W + T = W0 + P * (r + c)) (hd : d + (c + q * y) % 4294967296 + r = x + 4294967296 * r') (hc' : c' = (c + q * y) / 4294967296) :
    (W + P * d) + (T + P * (q * y)) = (W0 + P * x) + P * 4294967296 * (r' + c') := by
  have e := Nat.mod_add_div (c + q * y) 4294967296
  have : P * (d + q * y + r + c) = P * x + P * 4294967296 * (r' + c') := by
    rw [Nat.mul_assoc P, ← Nat.mul_add]
    congr 1
    rw [hc', Nat.mul_add]; omega
  simp only [Nat.mul_add] at this h ⊢
  omega
theorem take_carry {P c T q y c' : Nat} (h : P * c ≤ T) (hc' : c' = (c + q * y) / 4294967296) : P * 4294967296 * c' ≤ T + P * (q * y) := by
  have e := Nat.mod_add_div (c + q * y) 4294967296
  rw [Nat.mul_assoc]
  have : P * (4294967296 * c') ≤ P * (c + q * y) := Nat.mul_le_mul_left _ (by rw [hc']; omega)
  rw [Nat.mul_add] at this; omega
theorem take_end {P c T : Nat} (h : P * c ≤ T) (hT : T < P) : c = 0 := by
  cases c with
  | zero => rfl
  | succ c =>
    have := Nat.le_mul_of_pos_right P (show 0 < c + 1 by omega)
    omega
end Go.Proofs.YtdepoikifneggaaDoor
