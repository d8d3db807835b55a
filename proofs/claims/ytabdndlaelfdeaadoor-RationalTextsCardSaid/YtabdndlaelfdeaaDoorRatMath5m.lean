/-
  The number of a text: how long it is, where there is none.
  Conditions: none.
-/
import Derived.Test.YtabdndlaelfdeaaDoorM7
namespace Go.Proofs.YtabdndlaelfdeaaDoor

theorem sg_zero : sg 0 = 0 := by unfold sg; decide
theorem prQ_bad {l : List UInt8} (h : prC l ≠ 0) : prQ l = 0 := by
  unfold prC at h; unfold prQ
  by_cases h1 : 65536 < l.length
  · rw [if_pos h1]
  · rw [if_neg h1] at h ⊢
    cases hp : prV l with
    | none => rfl
    | some q => rw [hp] at h; exact absurd rfl h
theorem prQ_good {l : List UInt8} (h : prC l = 0) : prV l = some (prQ l) := by
  unfold prC at h; unfold prQ
  by_cases h1 : 65536 < l.length
  · rw [if_pos h1] at h; cases h
  · rw [if_neg h1] at h ⊢
    cases hp : prV l with
    | none => rw [hp] at h; cases h
    | some q => rfl
theorem rl_prV {l : List UInt8} {q : Rat} (hl : l.length ≤ 300) (h : prV l = some q) : rl q ≤ 1000 := by
  have hp := preL_len 45 l
  have h10 : ∀ n : Nat, n ≤ 64 → (wd (10 ^ n)).length ≤ 65 := fun n hn => wd_length_of_lt (Nat.lt_of_le_of_lt (Nat.pow_le_pow_right (by decide) hn) (by decide))
  have hfr : ∀ a b, frV l (preL 45 l).2 a b = some q → a.length ≤ 300 → (∀ c, b = some c → c.length ≤ 300) → rl q ≤ 1000 := by
    intro a b hf ha hb
    unfold frV at hf
    cases b with
    | none =>
      by_cases hc : parC a = 0 ∧ rtx (qm (preL 45 l).2 (parV a) 1) = l
      · have h' : (if parC a = 0 ∧ rtx (qm (preL 45 l).2 (parV a) 1) = l then some (qm (preL 45 l).2 (parV a) 1) else none) = some q := hf
        rw [if_pos hc] at h'; cases h'
        exact Nat.le_trans (rl_qm (L := 300) (by decide) (parV_len ha) (by rw [wd_one_len]; decide)) (by decide)
      · have h' : (if parC a = 0 ∧ rtx (qm (preL 45 l).2 (parV a) 1) = l then some (qm (preL 45 l).2 (parV a) 1) else none) = some q := hf
        rw [if_neg hc] at h'; cases h'
    | some b =>
      have h' : (if parC a = 0 ∧ parC b = 0 ∧ parV b ≠ 0 ∧ rtx (qm (preL 45 l).2 (parV a) (parV b)) = l then some (qm (preL 45 l).2 (parV a) (parV b)) else none) = some q := hf
      by_cases hc : parC a = 0 ∧ parC b = 0 ∧ parV b ≠ 0 ∧ rtx (qm (preL 45 l).2 (parV a) (parV b)) = l
      · rw [if_pos hc] at h'; cases h'
        exact Nat.le_trans (rl_qm (L := 300) hc.2.2.1 (parV_len ha) (parV_len (hb b rfl))) (by decide)
      · rw [if_neg hc] at h'; cases h'
  cases h1 : cutL 46 (preL 45 l).1 with
  | some p =>
    unfold prV at h
    rw [h1] at h
    have h2 := congrArg List.length (cutL_mem h1).2
    rw [List.length_append, List.length_cons] at h2
    by_cases h6 : l.length ≤ 64
    · have h' : (if l.length ≤ 64 then dmV (preL 45 l).2 p.1 p.2 else none) = some q := h
      rw [if_pos h6] at h'
      unfold dmV at h'
      by_cases hc : p.2 ≠ [] ∧ p.2.all isDig = true ∧ parC p.1 = 0
      · rw [if_pos hc] at h'; cases h'
        have a1 := parV_len (l := p.1) (K := 300) (by omega)
        have a2 := h10 p.2.length (by omega)
        have a3 := wd_mul_len (parV p.1) (10 ^ p.2.length)
        have a4 := decN_words' (l := p.2) (k := p.2.length) (K := 300) (by omega) (by rw [List.take_length]; exact hc.2.1)
        rw [List.take_length] at a4
        have a5 := wd_add_len (parV p.1 * 10 ^ p.2.length) (decN p.2)
        exact rl_qm (Nat.ne_of_gt (Nat.pow_pos (by decide))) (by omega) (by omega)
      · rw [if_neg hc] at h'; cases h'
    · have h' : (if l.length ≤ 64 then dmV (preL 45 l).2 p.1 p.2 else none) = some q := h
      rw [if_neg h6] at h'; cases h'
  | none =>
    unfold prV at h
    rw [h1] at h
    cases h2 : cutL 47 (preL 45 l).1 with
    | some p =>
      rw [h2] at h
      have h3 := congrArg List.length (cutL_mem h2).2
      rw [List.length_append, List.length_cons] at h3
      exact hfr _ _ h (by omega) (fun c hc => by cases hc; omega)
    | none => rw [h2] at h; exact hfr _ _ h (by omega) (fun c hc => by cases hc)
theorem rl_prQ {l : List UInt8} (hl : l.length ≤ 300) : rl (prQ l) ≤ 1000 := by
  by_cases h : prC l = 0
  · exact rl_prV hl (prQ_good h)
  · rw [prQ_bad h, rl_zero]; decide
end Go.Proofs.YtabdndlaelfdeaaDoor
