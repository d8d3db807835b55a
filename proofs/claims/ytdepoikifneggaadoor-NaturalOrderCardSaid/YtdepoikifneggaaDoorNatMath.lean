/-
  Plain numbers: what a list of words is worth, the words of a number. No program is in sight here.
  Conditions: each theorem's own.
-/
import Derived.Test.YtdepoikifneggaaDoorLib
namespace Go.Proofs.YtdepoikifneggaaDoor
open Go.RowKit

/-- what a list of words is worth, the lowest word first -/
def val : List Nat → Nat
  | [] => 0
  | x :: l => x + 4294967296 * val l
/-- the words of a number, no zero at the end -/
def wd (n : Nat) : List Nat := if h : n = 0 then [] else n % 4294967296 :: wd (n / 4294967296)
termination_by n
decreasing_by exact Nat.div_lt_self (by omega) (by decide)
theorem wd_zero : wd 0 = [] := by unfold wd; simp
theorem wd_pos {n : Nat} (h : n ≠ 0) : wd n = n % 4294967296 :: wd (n / 4294967296) := by rw [wd]; rw [dif_neg h]
theorem val_wd (n : Nat) : val (wd n) = n := by
  induction n using Nat.strongRecOn with
  | _ n ih =>
    by_cases h : n = 0
    · subst h; rw [wd_zero]; rfl
    · rw [wd_pos h]
      simp only [val]
      rw [ih _ (Nat.div_lt_self (by omega) (by decide))]
      exact Nat.mod_add_div n 4294967296
theorem U32.nil : U32 [] := fun j => by simp [gd]
theorem U32.cons {x : Nat} {l : List Nat} (h1 : x < 4294967296) (h2 : U32 l) : U32 (x :: l) := by
  intro j
  cases j with
  | zero => exact h1
  | succ j => exact h2 j
theorem U32.head {x : Nat} {l : List Nat} (h : U32 (x :: l)) : x < 4294967296 := h 0
theorem U32.tail {x : Nat} {l : List Nat} (h : U32 (x :: l)) : U32 l := fun j => h (j + 1)
theorem U32.append {a b : List Nat} (h1 : U32 a) (h2 : U32 b) : U32 (a ++ b) := by
  intro j; rw [gd_append]; split
  · exact h1 j
  · exact h2 _
theorem U32.take {a : List Nat} (h : U32 a) (n : Nat) : U32 (a.take n) := by
  intro j; rw [gd_take]; split
  · exact h j
  · decide
theorem U32.drop {a : List Nat} (h : U32 a) (n : Nat) : U32 (a.drop n) := by intro j; rw [gd_drop]; exact h _
theorem U32.set {a : List Nat} (h : U32 a) (k : Nat) {x : Nat} (hx : x < 4294967296) : U32 (a.set k x) := by
  intro j; rw [gd_set]; split
  · exact hx
  · exact h j
theorem U32.replicate (n : Nat) {x : Nat} (hx : x < 4294967296) : U32 (List.replicate n x) := by
  intro j; rw [gd_replicate]; split
  · exact hx
  · decide
theorem u32_wd (n : Nat) : U32 (wd n) := by
  induction n using Nat.strongRecOn with
  | _ n ih =>
    by_cases h : n = 0
    · subst h; rw [wd_zero]; exact U32.nil
    · rw [wd_pos h]
      exact U32.cons (Nat.mod_lt _ (by decide)) (ih _ (Nat.div_lt_self (by omega) (by decide)))
theorem val_append (a b : List Nat) : val (a ++ b) = val a + 4294967296 ^ a.length * val b := by
  induction a with
  | nil => simp [val]
  | cons x a ih =>
    have e : 4294967296 * (4294967296 ^ a.length * val b) = 4294967296 ^ a.length * 4294967296 * val b := by rw [← Nat.mul_assoc, Nat.mul_comm 4294967296]
    simp only [List.cons_append, val, ih, List.length_cons]
    rw [Nat.pow_succ, Nat.mul_add, e]; omega
theorem val_lt {l : List Nat} (h : U32 l) : val l < 4294967296 ^ l.length := by
  induction l with
  | nil => simp [val]
  | cons x l ih =>
    have := ih h.tail
    have := h.head
    simp only [val, List.length_cons]; rw [Nat.pow_succ]; omega
theorem val_zeros (n : Nat) : val (List.replicate n 0) = 0 := by
  induction n with
  | zero => rfl
  | succ n ih => rw [List.replicate_succ]; simp only [val, ih]
theorem val_drop {l : List Nat} (h : U32 l) (n : Nat) : val (l.drop n) = val l / 4294967296 ^ n := by
  induction n generalizing l with
  | zero => simp
  | succ n ih =>
    cases l with
    | nil => simp [val]
    | cons x l =>
      rw [List.drop_succ_cons, ih h.tail, Nat.pow_succ, Nat.mul_comm, ← Nat.div_div_eq_div_mul]
      congr 1
      have := h.head
      simp only [val]; omega
theorem val_take {l : List Nat} (h : U32 l) (n : Nat) : val (l.take n) = val l % 4294967296 ^ n := by
  have e : val l = val (l.take n) + 4294967296 ^ (l.take n).length * val (l.drop n) := by rw [← val_append, List.take_append_drop]
  by_cases hn : n ≤ l.length
  · have hl : (l.take n).length = n := by rw [List.length_take]; omega
    have hlt := val_lt (h.take n)
    rw [hl] at e hlt
    rw [e, Nat.add_mul_mod_self_left, Nat.mod_eq_of_lt hlt]
  · rw [List.take_of_length_le (by omega), Nat.mod_eq_of_lt]
    exact Nat.lt_of_lt_of_le (val_lt h) (Nat.pow_le_pow_right (by decide) (by omega))
theorem val_gd {l : List Nat} (h : U32 l) (j : Nat) : gd l j = val l / 4294967296 ^ j % 4294967296 := by
  rw [← val_drop h j]
  have e : gd l j = gd (l.drop j) 0 := by rw [gd_drop]; rfl
  rw [e]
  cases hd : l.drop j with
  | nil => simp [val, gd]
  | cons x r =>
    have hx := h.drop j
    rw [hd] at hx
    have := hx.head
    show x = _
    simp only [val]; omega
/-- two lists of one length that are worth the same are the same -/
theorem val_inj {a b : List Nat} (ha : U32 a) (hb : U32 b) (hl : a.length = b.length) (h : val a = val b) : a = b :=
  gd_ext hl fun j _ => by rw [val_gd ha, val_gd hb, h]
/-- a list of words without a zero at its end is that of its number -/
def Clean (l : List Nat) : Prop := l = [] ∨ gd l (l.length - 1) ≠ 0
theorem clean_wd (n : Nat) : Clean (wd n) := by
  induction n using Nat.strongRecOn with
  | _ n ih =>
    by_cases h : n = 0
    · subst h; rw [wd_zero]; exact .inl rfl
    · rw [wd_pos h]
      right
      by_cases h2 : n / 4294967296 = 0
      · rw [h2, wd_zero]; show n % 4294967296 ≠ 0; omega
      · rcases ih (n / 4294967296) (Nat.div_lt_self (by omega) (by decide)) with hn | hn
        · rw [wd_pos h2] at hn; cases hn
        · rw [wd_pos h2] at hn ⊢
          simp only [List.length_cons] at hn ⊢
          exact hn
theorem clean_eq {l : List Nat} (hu : U32 l) (hc : Clean l) : l = wd (val l) := by
  induction l with
  | nil => rw [show val [] = 0 from rfl, wd_zero]
  | cons x l ih =>
    have hx := hu.head
    have hne : val (x :: l) ≠ 0 := by
      intro h0
      rcases hc with hc | hc
      · cases hc
      · apply hc
        rw [val_gd hu, h0]; simp
    rw [wd_pos hne]
    have e1 : val (x :: l) % 4294967296 = x := by simp only [val]; omega
    have e2 : val (x :: l) / 4294967296 = val l := by simp only [val]; omega
    rw [e1, e2, ← ih hu.tail]
    rcases hc with hc | hc
    · cases hc
    · cases l with
      | nil => exact .inl rfl
      | cons y l => right; exact hc
/-- zeros at the end change nothing -/
theorem val_take_zeros {l : List Nat} (n : Nat) (h : ∀ j, n ≤ j → gd l j = 0) : val (l.take n) = val l := by
  have e : val l = val (l.take n) + 4294967296 ^ (l.take n).length * val (l.drop n) := by rw [← val_append, List.take_append_drop]
  have hz : l.drop n = List.replicate (l.drop n).length 0 := by
    apply gd_ext (by simp)
    intro j _
    rw [gd_drop, h _ (by omega), gd_replicate]; split <;> rfl
  have : val (l.drop n) = 0 := by rw [hz]; exact val_zeros _
  rw [this] at e; omega
theorem wd_length_le {l : List Nat} (hu : U32 l) : (wd (val l)).length ≤ l.length := by
  obtain ⟨n, hn⟩ : ∃ n, n = val l := ⟨_, rfl⟩
  rw [← hn]
  induction l generalizing n with
  | nil => simp only [val] at hn; subst hn; rw [wd_zero]; exact Nat.le_refl _
  | cons x l ih =>
    by_cases h : n = 0
    · subst h; rw [wd_zero]; exact Nat.zero_le _
    · rw [wd_pos h, List.length_cons, List.length_cons]
      have hx := hu.head
      have := ih hu.tail (n / 4294967296) (by rw [hn]; simp only [val]; omega)
      omega
/-- how long the words of a number are -/
theorem wd_length_of_lt {n k : Nat} (h : n < 4294967296 ^ k) : (wd n).length ≤ k := by
  induction k generalizing n with
  | zero => have : n = 0 := by simpa using h
            subst this; rw [wd_zero]; exact Nat.le_refl _
  | succ k ih =>
    by_cases h0 : n = 0
    · subst h0; rw [wd_zero]; exact Nat.zero_le _
    · rw [wd_pos h0, List.length_cons]
      have := ih (n := n / 4294967296) (Nat.div_lt_of_lt_mul (by rw [Nat.pow_succ, Nat.mul_comm] at h; exact h))
      omega
end Go.Proofs.YtdepoikifneggaaDoor
