/-
  Plain numbers: order of lists of words.
  Conditions: each theorem's own.
-/
import Derived.Test.YtdepoikifneggaaDoorNatMath
namespace Go.Proofs.YtdepoikifneggaaDoor
open Go.RowKit

theorem val_ext {a b : List Nat} (h : ∀ j, gd a j = gd b j) : val a = val b := by
  induction a generalizing b with
  | nil =>
    have := val_take_zeros (l := b) 0 (fun j _ => by rw [← h j]; simp [gd])
    rw [← this]; rfl
  | cons x a ih =>
    cases b with
    | nil =>
      have := val_take_zeros (l := x :: a) 0 (fun j _ => by rw [h j]; simp [gd])
      rw [← this]; rfl
    | cons y b =>
      have h0 := h 0
      rw [gd_cons_zero, gd_cons_zero] at h0
      simp only [val]
      rw [h0, ih (b := b) (fun j => h (j + 1))]
theorem val_digit {l : List Nat} (h : U32 l) (k : Nat) : val l / 4294967296 ^ k = gd l k + 4294967296 * (val l / 4294967296 ^ (k + 1)) := by
  rw [val_gd h, Nat.pow_succ, ← Nat.div_div_eq_div_mul]
  omega
/-- the first word from the top that differs decides -/
theorem val_lt_of_digit {a b : List Nat} (ha : U32 a) (hb : U32 b) (k : Nat) (h : ∀ j, k < j → gd a j = gd b j) (hk : gd a k < gd b k) : val a < val b := by
  have e : val a / 4294967296 ^ (k + 1) = val b / 4294967296 ^ (k + 1) := by
    rw [← val_drop ha, ← val_drop hb]
    exact val_ext fun j => by rw [gd_drop, gd_drop, h _ (by omega)]
  have e1 := val_digit ha k
  have e2 := val_digit hb k
  have : val a / 4294967296 ^ k < val b / 4294967296 ^ k := by rw [e1, e2, e]; omega
  rcases Nat.lt_or_ge (val a) (val b) with h1 | h1
  · exact h1
  · have := Nat.div_le_div_right (c := 4294967296 ^ k) h1; omega
theorem wd_length_mono {m n : Nat} (h : m ≤ n) : (wd m).length ≤ (wd n).length := by
  apply wd_length_of_lt
  have := val_lt (u32_wd n)
  rw [val_wd] at this; omega
/-- how two numbers compare -/
def cmpN (m n : Nat) : Int := if m < n then -1 else if n < m then 1 else 0
theorem cmpN_lt {m n : Nat} (h : m < n) : cmpN m n = -1 := by unfold cmpN; rw [if_pos h]
theorem cmpN_gt {m n : Nat} (h : n < m) : cmpN m n = 1 := by unfold cmpN; rw [if_neg (by omega), if_pos h]
theorem cmpN_eq {m n : Nat} (h : m = n) : cmpN m n = 0 := by unfold cmpN; rw [if_neg (by omega), if_neg (by omega)]
end Go.Proofs.YtdepoikifneggaaDoor
