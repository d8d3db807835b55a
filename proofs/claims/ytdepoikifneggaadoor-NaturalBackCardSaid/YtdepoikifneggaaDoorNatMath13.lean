/-
  Decimal texts there and back.
  Conditions: none.
-/
import Derived.Test.YtdepoikifneggaaDoorNatMath12
namespace Go.Proofs.YtdepoikifneggaaDoor

/-- the decimal text of a number, as a list -/
def decL (n : Nat) : List UInt8 := if n = 0 then [48] else (digD n).reverse
theorem decB_decL (n : Nat) : decB n = ⟨(decL n).toArray⟩ := by
  unfold decB decL; split <;> rfl
theorem decN_decL (n : Nat) : decN (decL n) = n := by
  unfold decL; split
  · rename_i h; rw [h]; rfl
  · exact decN_digD n
theorem isDig_digB (n : Nat) : isDig (digB n) = true := by
  unfold isDig
  rw [digB_toNat, Bool.and_eq_true]
  exact ⟨decide_eq_true (by omega), decide_eq_true (by omega)⟩
theorem all_digD (n : Nat) : (digD n).all isDig = true := by
  induction n using Nat.strongRecOn with
  | _ n ih =>
    by_cases h : n = 0
    · subst h; rw [digD_zero]; rfl
    · rw [digD_pos h, List.all_cons, isDig_digB, ih _ (Nat.div_lt_self (by omega) (by decide))]; rfl
theorem all_decL (n : Nat) : (decL n).all isDig = true := by
  unfold decL; split
  · rfl
  · rw [List.all_reverse]; exact all_digD n
theorem decL_head (n : Nat) : ¬ (decL n = [] ∨ ((decL n).head? = some 48 ∧ 1 < (decL n).length)) := by
  unfold decL; split
  · rintro (h | ⟨_, h⟩)
    · cases h
    · simp at h
  · rename_i h0
    obtain ⟨l, x, h1, h2⟩ := digD_last n h0
    rw [h1, List.reverse_append]
    rintro (h | ⟨h, _⟩)
    · simp at h
    · simp at h; exact h2 h
theorem parC_decL {n : Nat} (h : (decL n).length ≤ 65536) : parC (decL n) = 0 ∧ parV (decL n) = n := by
  have h1 : parC (decL n) = 0 := by
    unfold parC; rw [if_neg (by omega), if_neg (decL_head n), if_pos (all_decL n)]
  exact ⟨h1, by unfold parV; rw [if_pos h1, decN_decL]⟩
theorem decL_parV {l : List UInt8} (h : parC l = 0) : decL (parV l) = l := by
  have hv : parV l = decN l := by unfold parV; rw [if_pos h]
  rw [hv]
  unfold parC at h
  split at h
  · cases h
  · split at h
    · cases h
    · rename_i h1 h2
      split at h
      · rename_i h3
        have key : ∀ m : List UInt8, m.reverse = l → (∀ x, m.getLast? = some x → x ≠ 48) → decL (decN l) = l := by
          intro m hm hx
          subst hm
          have h4 := digD_rev m (by rwa [List.all_reverse] at h3) hx
          unfold decL
          by_cases h5 : decN m.reverse = 0
          · rw [h5, digD_zero] at h4
            subst h4
            exact absurd (.inl rfl) h2
          · rw [if_neg h5, h4]
        by_cases h6 : l = [48]
        · subst h6; rfl
        · refine key l.reverse (List.reverse_reverse l) ?_
          intro x hx
          rw [List.getLast?_reverse] at hx
          intro e
          subst e
          refine h2 (.inr ⟨hx, ?_⟩)
          cases l with
          | nil => cases hx
          | cons y l =>
            cases l with
            | nil => simp at hx; subst hx; exact absurd rfl h6
            | cons z l => simp
      · cases h
theorem parV_zero {l : List UInt8} (h : parC l ≠ 0) : parV l = 0 := by unfold parV; rw [if_neg h]
theorem decL_len {n k : Nat} (h : n < 10 ^ k) (hk : 0 < k) : (decL n).length ≤ k := by
  unfold decL; split
  · exact hk
  · rw [List.length_reverse]; exact digD_len h
/-- the length of the text of a number of few words -/
theorem decL_words {n k : Nat} (h : (wd n).length ≤ k) (hk : 0 < k) : (decL n).length ≤ 10 * k := by
  refine decL_len (Nat.lt_of_lt_of_le (m := 4294967296 ^ k) ?_ (pow_ten k)) (by omega)
  have h1 := val_lt (u32_wd n)
  rw [val_wd] at h1
  exact Nat.lt_of_lt_of_le h1 (Nat.pow_le_pow_right (by decide) h)
end Go.Proofs.YtdepoikifneggaaDoor
