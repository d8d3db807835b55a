/-
  The end of a number, in package token and in its reference; kinds of errors.
  Conditions: each theorem's own (a place lies in the text).
-/
import Derived.Test.YtfmkpaegpiipoaaTok1
namespace Go.Proofs.Ytfmkpaegpiipoaa
open Go.RowKit Go.ChangeShapes Go.WideShapes

theorem numEnd_cases (l : List Nat) (k : Nat) :
    (¬ run isDigit l k + 1 < l.length ∧ numEnd l k = run isDigit l k) ∨
    (run isDigit l k + 1 < l.length ∧
      ((((gd l (run isDigit l k) : Int) == 46) = false ∧ ((gd l (run isDigit l k) : Int) == 47) = false ∧ numEnd l k = run isDigit l k) ∨
       ((((gd l (run isDigit l k) : Int) == 46) = true ∨ (((gd l (run isDigit l k) : Int) == 46) = false ∧ ((gd l (run isDigit l k) : Int) == 47) = true)) ∧
         ((isDigit (gd l (run isDigit l k + 1)) = true ∧ numEnd l k = run isDigit l (run isDigit l k + 1)) ∨ (isDigit (gd l (run isDigit l k + 1)) = false ∧ numEnd l k = run isDigit l k))))) := by
  unfold numEnd
  by_cases h1 : run isDigit l k + 1 < l.length
  · right; refine ⟨h1, ?_⟩
    by_cases h2 : gd l (run isDigit l k) = 46
    · right
      refine ⟨Or.inl (by simp [h2]), ?_⟩
      cases h3 : isDigit (gd l (run isDigit l k + 1)) <;> simp [h1, h2]
    · by_cases h3 : gd l (run isDigit l k) = 47
      · right
        refine ⟨Or.inr ⟨by simp [h3], by simp [h3]⟩, ?_⟩
        cases h4 : isDigit (gd l (run isDigit l k + 1)) <;> simp [h1, h3]
      · left
        refine ⟨by simp; omega, by simp; omega, by rw [if_neg (by omega)]⟩
  · left; exact ⟨h1, by rw [if_neg (by omega)]⟩

set_option maxRecDepth 100000 in
set_option maxHeartbeats 800000 in
theorem numberEnd_any (s : ByteArray) (k : Nat) (w : World) (hs : s.size ≤ 9223372036854775806) (hk : k ≤ s.size) :
    Calls Try.prog 28 #[.string s, .int .i64 k] w (RetS w (.int .i64 (numEnd (bs s) k : Nat))) := by
  have hle := run_le (p := isDigit) (l := bs s) (k := k) (by rw [bs_length]; exact hk)
  rcases numEnd_cases (bs s) k with ⟨h1, h2⟩ | ⟨h1, hc⟩
  · rw [bs_length] at hle h1
    have H2 := Lib.hid h2; clear h2
    go_enter Try.func28, Try.ntmps28
    go_wp2_with (go_at_call 51; (with_reducible refine (digits_any s k _ hs hk).mono ?_); rintro e w' ⟨rfl, rfl⟩)
    go_ret
    exact ⟨ret_int (by rw [H2.out]), rfl⟩
  · rw [bs_length] at hle h1
    have hix := run_index_gb (P := Try.prog) s 9 Try.underlying9 (run isDigit (bs s) k) (by omega)
    have hix1 := run_index_gb (P := Try.prog) s 9 Try.underlying9 (run isDigit (bs s) k + 1) (by omega)
    rw [show ((run isDigit (bs s) k + 1 : Nat) : Int) = (run isDigit (bs s) k : Int) + 1 from by omega] at hix1
    rcases hc with ⟨h2, h3, h4⟩ | ⟨h2, h3⟩
    · have H4 := Lib.hid h4; clear h4
      go_enter Try.func28, Try.ntmps28
      go_wp2_with (go_at_call 51; (with_reducible refine (digits_any s k _ hs hk).mono ?_); rintro e w' ⟨rfl, rfl⟩)
      go_ret
      exact ⟨ret_int (by rw [H4.out]), rfl⟩
    · have hd1 : Calls Try.prog 51 #[.string s, .int .i64 ((run isDigit (bs s) k : Int) + 1)] w (RetS w (.int .i64 (run isDigit (bs s) (run isDigit (bs s) k + 1) : Nat))) := digits_any s (run isDigit (bs s) k + 1) w hs (by omega)
      have HD := Lib.hid hd1; clear hd1
      rcases h3 with ⟨h3, h4⟩ | ⟨h3, h4⟩
      all_goals
        have H4 := Lib.hid h4; clear h4
        rcases h2 with h2 | ⟨h2, h5⟩
        all_goals
          go_enter Try.func28, Try.ntmps28
          go_wp2_with (first | (go_at_call 51; (with_reducible refine (digits_any s k _ hs hk).mono ?_); rintro e w' ⟨rfl, rfl⟩) | (go_at_call 51; (with_reducible refine HD.out.mono ?_); rintro e w' ⟨rfl, rfl⟩) | (go_at_call 27; (with_reducible refine (digit_any _ _ (bs_lt _ _)).mono ?_); rintro e w' ⟨rfl, rfl⟩))
          go_ret
          exact ⟨ret_int (by rw [H4.out]), rfl⟩

set_option maxRecDepth 100000 in
set_option maxHeartbeats 800000 in
theorem rnumber_any (s : ByteArray) (k : Nat) (w : World) (hs : s.size ≤ 9223372036854775806) (hk : k ≤ s.size) :
    Calls Try.prog 35 #[.string s, .int .i64 k] w (RetS w (.int .i64 (numEnd (bs s) k : Nat))) := by
  have hle := run_le (p := isDigit) (l := bs s) (k := k) (by rw [bs_length]; exact hk)
  rcases numEnd_cases (bs s) k with ⟨h1, h2⟩ | ⟨h1, hc⟩
  · rw [bs_length] at hle h1
    have H2 := Lib.hid h2; clear h2
    go_enter Try.func35, Try.ntmps35
    go_wp2_with (go_at_call 44; (with_reducible refine (rdigits_any s k _ hs hk).mono ?_); rintro e w' ⟨rfl, rfl⟩)
    go_ret
    exact ⟨ret_int (by rw [H2.out]), rfl⟩
  · rw [bs_length] at hle h1
    have hix := run_index_gb (P := Try.prog) s 9 Try.underlying9 (run isDigit (bs s) k) (by omega)
    have hix1 := run_index_gb (P := Try.prog) s 9 Try.underlying9 (run isDigit (bs s) k + 1) (by omega)
    rw [show ((run isDigit (bs s) k + 1 : Nat) : Int) = (run isDigit (bs s) k : Int) + 1 from by omega] at hix1
    rcases hc with ⟨h2, h3, h4⟩ | ⟨h2, h3⟩
    · have H4 := Lib.hid h4; clear h4
      go_enter Try.func35, Try.ntmps35
      go_wp2_with (go_at_call 44; (with_reducible refine (rdigits_any s k _ hs hk).mono ?_); rintro e w' ⟨rfl, rfl⟩)
      go_ret
      exact ⟨ret_int (by rw [H4.out]), rfl⟩
    · have hd1 : Calls Try.prog 44 #[.string s, .int .i64 ((run isDigit (bs s) k : Int) + 1)] w (RetS w (.int .i64 (run isDigit (bs s) (run isDigit (bs s) k + 1) : Nat))) := rdigits_any s (run isDigit (bs s) k + 1) w hs (by omega)
      have HD := Lib.hid hd1; clear hd1
      rcases h3 with ⟨h3, h4⟩ | ⟨h3, h4⟩
      all_goals
        have H4 := Lib.hid h4; clear h4
        rcases h2 with h2 | ⟨h2, h5⟩
        all_goals
          go_enter Try.func35, Try.ntmps35
          go_wp2_with (first | (go_at_call 44; (with_reducible refine (rdigits_any s k _ hs hk).mono ?_); rintro e w' ⟨rfl, rfl⟩) | (go_at_call 44; (with_reducible refine HD.out.mono ?_); rintro e w' ⟨rfl, rfl⟩) | (go_at_call 34; (with_reducible refine (rdigit_any _ _ (bs_lt _ _)).mono ?_); rintro e w' ⟨rfl, rfl⟩))
          go_ret
          exact ⟨ret_int (by rw [H4.out]), rfl⟩
end Go.Proofs.Ytfmkpaegpiipoaa
