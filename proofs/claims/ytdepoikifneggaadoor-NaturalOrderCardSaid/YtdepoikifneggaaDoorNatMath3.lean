/-
  Plain numbers: sums, differences, products of lists of words, word by word.
  Conditions: each theorem's own.
-/
import Derived.Test.YtdepoikifneggaaDoorNatMath2
namespace Go.Proofs.YtdepoikifneggaaDoor
open Go.RowKit

/-- one word more -/
theorem val_take_succ (l : List Nat) (k : Nat) : val (l.take (k + 1)) = val (l.take k) + 4294967296 ^ k * gd l k := by
  induction l generalizing k with
  | nil => simp [val, gd]
  | cons x l ih =>
    cases k with
    | zero => simp [val, gd_cons_zero]
    | succ k =>
      rw [List.take_succ_cons, List.take_succ_cons, gd_cons_succ]
      simp only [val]
      rw [ih k, Nat.pow_succ, Nat.mul_add, ← Nat.mul_assoc, Nat.mul_comm 4294967296 (4294967296 ^ k)]; omega
theorem val_take_full (l : List Nat) {k : Nat} (h : l.length ≤ k) : val (l.take k) = val l := by rw [List.take_of_length_le h]
/-- a word is stored -/
theorem val_set (l : List Nat) (k x : Nat) (h : k < l.length) : val (l.set k x) + 4294967296 ^ k * gd l k = val l + 4294967296 ^ k * x := by
  induction l generalizing k with
  | nil => simp at h
  | cons y l ih =>
    cases k with
    | zero => simp [val, gd_cons_zero]; omega
    | succ k =>
      have := ih k (by simpa using h)
      simp only [List.set_cons_succ, val, gd_cons_succ]
      rw [Nat.pow_succ, Nat.mul_comm _ 4294967296, Nat.mul_assoc, Nat.mul_assoc]; omega
theorem take_set_le (l : List Nat) (k j x : Nat) (h : k ≤ j) : (l.set j x).take k = l.take k := by
  apply List.ext_getElem?
  intro i
  rw [List.getElem?_take, List.getElem?_take, List.getElem?_set]
  split
  · rw [if_neg (by omega)]
  · rfl
theorem val_take_set (l : List Nat) (k x : Nat) (h : k < l.length) : val ((l.set k x).take (k + 1)) = val (l.take k) + 4294967296 ^ k * x := by
  rw [val_take_succ, take_set_le _ _ _ _ (Nat.le_refl _), gd_set, if_pos ⟨rfl, h⟩]
theorem val_snoc (l : List Nat) (x : Nat) : val (l ++ [x]) = val l + 4294967296 ^ l.length * x := by rw [val_append]; simp [val]
theorem U32.snoc {l : List Nat} {x : Nat} (h : U32 l) (hx : x < 4294967296) : U32 (l ++ [x]) := h.append (U32.cons hx U32.nil)

/-- how sums go on: O what stands, c the carry, a and b what was added so far -/
theorem add_step {P O c a b x y : Nat} (h : O + P * c = a + b) :
    (O + P * ((c + (x + y)) % 4294967296)) + P * 4294967296 * ((c + (x + y)) / 4294967296) = (a + P * x) + (b + P * y) := by
  have e : (c + (x + y)) % 4294967296 + 4294967296 * ((c + (x + y)) / 4294967296) = c + (x + y) := Nat.mod_add_div _ _
  have : P * ((c + (x + y)) % 4294967296) + P * 4294967296 * ((c + (x + y)) / 4294967296) = P * c + P * x + P * y := by
    rw [Nat.mul_assoc, ← Nat.mul_add, e, Nat.mul_add, Nat.mul_add]; omega
  omega
/-- the carry is spent at the end -/
theorem add_end {a b : List Nat} {n O c : Nat} (ha : U32 a) (hb : U32 b) (hn : max a.length b.length < n) (h : O + 4294967296 ^ n * c = val a + val b) : O = val a + val b := by
  have h1 := val_lt ha
  have h2 := val_lt hb
  have e1 : 4294967296 ^ a.length ≤ 4294967296 ^ (n - 1) := Nat.pow_le_pow_right (by decide) (by omega)
  have e2 : 4294967296 ^ b.length ≤ 4294967296 ^ (n - 1) := Nat.pow_le_pow_right (by decide) (by omega)
  have e3 : 4294967296 ^ n = 4294967296 ^ (n - 1) * 4294967296 := by rw [← Nat.pow_succ]; congr 1; omega
  cases c with
  | zero => simpa using h
  | succ c =>
    have : 4294967296 ^ n ≤ 4294967296 ^ n * (c + 1) := Nat.le_mul_of_pos_right _ (by omega)
    omega

/-- how differences go on: r the borrow -/
theorem sub_step {P O r a b x y d r' : Nat} (h : O + b = a + P * r) (hd : d + y + r = x + 4294967296 * r') :
    (O + P * d) + (b + P * y) = (a + P * x) + P * 4294967296 * r' := by
  have : P * (d + y + r) = P * (x + 4294967296 * r') := by rw [hd]
  rw [Nat.mul_add, Nat.mul_add, Nat.mul_add, ← Nat.mul_assoc] at this
  omega
theorem sub_end {O a b P r : Nat} (hO : O < P) (h : O + b = a + P * r) (hab : b ≤ a) (hr : r ≤ 1) : O = a - b := by
  rcases Nat.le_one_iff_eq_zero_or_eq_one.mp hr with rfl | rfl
  · omega
  · omega
/-- one row of a product goes on -/
theorem mul_step {P O O' c o p s R : Nat} (h : O + P * c = R) (hs : s = c + (p + o)) (h2 : O' + P * o = O + P * (s % 4294967296)) :
    O' + P * 4294967296 * (s / 4294967296) = R + P * p := by
  have e : s % 4294967296 + 4294967296 * (s / 4294967296) = s := Nat.mod_add_div _ _
  have : P * (s % 4294967296) + P * 4294967296 * (s / 4294967296) = P * c + P * p + P * o := by
    rw [Nat.mul_assoc, ← Nat.mul_add, e, hs, Nat.mul_add, Nat.mul_add]; omega
  omega
theorem word_mul {x y : Nat} (hx : x < 4294967296) (hy : y < 4294967296) : x * y ≤ 18446744065119617025 :=
  Nat.le_trans (Nat.mul_le_mul (Nat.le_pred_of_lt hx) (Nat.le_pred_of_lt hy)) (by decide)
theorem mul_bounds {c p o : Nat} (hc : c < 4294967296) (hp : p ≤ 18446744065119617025) (ho : o < 4294967296) : (c + (p + o)) / 4294967296 < 4294967296 ∧ (c + (p + o)) % 4294967296 < 4294967296 := by omega
/-- a row of a product, its next word -/
theorem mul_row (T A x : Nat) (b : List Nat) (k y : Nat) (hy : y = gd b k) :
    T + A * (x * val (b.take k)) + A * 4294967296 ^ k * (x * y) = T + A * (x * val (b.take (k + 1))) := by
  have e : A * 4294967296 ^ k * (x * y) = A * (x * (4294967296 ^ k * y)) := by
    rw [Nat.mul_assoc]; congr 1; rw [Nat.mul_left_comm]
  rw [val_take_succ, ← hy, e, Nat.mul_add x, Nat.mul_add A]; omega
/-- a row of a product is done -/
theorem mul_rows (a b : List Nat) (i x : Nat) (hx : x = gd a i) : val (a.take i) * val b + 4294967296 ^ i * (x * val b) = val (a.take (i + 1)) * val b := by
  rw [val_take_succ, ← hx, Nat.add_mul, Nat.mul_assoc]
theorem gd_zero_of_lt {l : List Nat} (h : U32 l) {n : Nat} (hv : val l < 4294967296 ^ n) (j : Nat) (hj : n ≤ j) : gd l j = 0 := by
  rw [val_gd h, Nat.div_eq_of_lt]
  exact Nat.lt_of_lt_of_le hv (Nat.pow_le_pow_right (by decide) hj)
theorem mul_lt {a b : List Nat} (ha : U32 a) (hb : U32 b) (i : Nat) : val (a.take i) * val b < 4294967296 ^ (i + b.length) := by
  have h1 : val (a.take i) < 4294967296 ^ i := by rw [val_take ha]; exact Nat.mod_lt _ (Nat.pow_pos (by decide))
  rw [Nat.pow_add]
  exact Nat.mul_lt_mul_of_lt_of_le h1 (Nat.le_of_lt (val_lt hb)) (Nat.pow_pos (by decide))
/-- a carry above all words is 0 -/
theorem mul_spent {O P c t : Nat} (h : O + P * c = t) (ht : t < P) : O = t := by
  cases c with
  | zero => simpa using h
  | succ c =>
    have := Nat.le_mul_of_pos_right P (show 0 < c + 1 by omega)
    omega
end Go.Proofs.YtdepoikifneggaaDoor
