/-
  The small functions of package token and of its reference: kinds of bytes, ends of words and numbers.
  Conditions: each theorem's own (a byte is below 256, a place lies in the text).
-/
import Derived.Test.YtfmkpaegpiipoaaProg
import Derived.Test.YtfmkpaegpiipoaaTokMath
import Derived.Test.YtfmkpaegpiipoaaShelf
namespace Go.Proofs.Ytfmkpaegpiipoaa
open Go.RowKit Go.ChangeShapes Go.WideShapes

theorem bs_len_int (s : ByteArray) : ((bs s).length : Int) = s.size := by rw [bs_length]
theorem run_index_gb {P : Program} (s : ByteArray) (t : TypeId) (ht : P.underlying t = some .string) (k : Nat) (h : k < s.size) (w : World) :
    (Instr.index t (.string s) (.int .i64 k)).run P w = .ok (.int .u8 (gd (bs s) k : Nat)) w := by
  rw [run_index_string w t s _ _ ht, dif_pos (by omega)]
  congr 2
  simp only [Int.toNat_natCast]
  rw [bs_getElem s k h]

theorem blank_index : ∀ b : Nat, b < 256 → decide (0 ≤ Lib.indexByte [32, 9, 10, 13] (UInt8.ofNat b)) = isBlank b := by decide +kernel
theorem sign_index : ∀ b : Nat, b < 256 → decide (0 ≤ Lib.indexByte [123, 125, 59, 58, 64] (UInt8.ofNat b)) = isSign b := by decide +kernel

set_option maxRecDepth 100000 in
theorem letter_any (b : Nat) (w : World) (hb : b < 256) : Calls Try.prog 25 #[.int .u8 b] w (RetS w (.bool (isLetter b))) := by
  obtain ⟨r, hr⟩ : ∃ r, r = isLetter b := ⟨_, rfl⟩
  rw [← hr]
  have HR := Lib.hid hr; clear hr
  go_enter Try.func25, Try.ntmps25
  go_wp2
  all_goals go_ret
  all_goals (refine ⟨ret_bool ?_, rfl⟩; rw [HR.out, Bool.eq_iff_iff]; simp [isLetter]; try omega)

set_option maxRecDepth 100000 in
theorem digit_any (b : Nat) (w : World) (hb : b < 256) : Calls Try.prog 27 #[.int .u8 b] w (RetS w (.bool (isDigit b))) := by
  obtain ⟨r, hr⟩ : ∃ r, r = isDigit b := ⟨_, rfl⟩
  rw [← hr]
  have HR := Lib.hid hr; clear hr
  go_enter Try.func27, Try.ntmps27
  go_wp2
  all_goals go_ret
  all_goals (refine ⟨ret_bool ?_, rfl⟩; rw [HR.out, Bool.eq_iff_iff]; simp [isDigit]; try omega)

set_option maxRecDepth 100000 in
theorem rletter_any (b : Nat) (w : World) (hb : b < 256) : Calls Try.prog 31 #[.int .u8 b] w (RetS w (.bool (isLetter b))) := by
  obtain ⟨r, hr⟩ : ∃ r, r = isLetter b := ⟨_, rfl⟩
  rw [← hr]
  have HR := Lib.hid hr; clear hr
  go_enter Try.func31, Try.ntmps31
  go_wp2
  all_goals go_ret
  all_goals (refine ⟨ret_bool ?_, rfl⟩; rw [HR.out, Bool.eq_iff_iff]; simp [isLetter]; try omega)

set_option maxRecDepth 100000 in
theorem rdigit_any (b : Nat) (w : World) (hb : b < 256) : Calls Try.prog 34 #[.int .u8 b] w (RetS w (.bool (isDigit b))) := by
  obtain ⟨r, hr⟩ : ∃ r, r = isDigit b := ⟨_, rfl⟩
  rw [← hr]
  have HR := Lib.hid hr; clear hr
  go_enter Try.func34, Try.ntmps34
  go_wp2
  all_goals go_ret
  all_goals (refine ⟨ret_bool ?_, rfl⟩; rw [HR.out, Bool.eq_iff_iff]; simp [isDigit]; try omega)

set_option maxRecDepth 100000 in
theorem rblank_any (b : Nat) (w : World) (hb : b < 256) : Calls Try.prog 30 #[.int .u8 b] w (RetS w (.bool (isBlank b))) := by
  obtain ⟨r, hr⟩ : ∃ r, r = isBlank b := ⟨_, rfl⟩
  rw [← hr]
  have HR := Lib.hid hr; clear hr
  go_enter Try.func30, Try.ntmps30
  go_wp2
  all_goals go_ret
  all_goals (refine ⟨ret_bool ?_, rfl⟩; rw [HR.out, Bool.eq_iff_iff]; simp [isBlank]; try omega)

set_option maxRecDepth 100000 in
theorem blank_any (b : Nat) (w : World) (hb : b < 256) : Calls Try.prog 24 #[.int .u8 b] w (RetS w (.bool (isBlank b))) := by
  have HR := Lib.hid (blank_index b hb)
  go_enter Try.func24, Try.ntmps24
  go_wp2_with (go_at_call 50; (with_reducible refine (Try.strings_IndexByte _ _ _).mono ?_); rintro e w' ⟨rfl, rfl⟩)
  all_goals go_ret
  all_goals (refine ⟨ret_bool ?_, rfl⟩; rw [← HR.out])

set_option maxRecDepth 100000 in
theorem sign_any (b : Nat) (w : World) (hb : b < 256) : Calls Try.prog 29 #[.int .u8 b] w (RetS w (.bool (isSign b))) := by
  have HR := Lib.hid (sign_index b hb)
  go_enter Try.func29, Try.ntmps29
  go_wp2_with (go_at_call 50; (with_reducible refine (Try.strings_IndexByte _ _ _).mono ?_); rintro e w' ⟨rfl, rfl⟩)
  all_goals go_ret
  all_goals (refine ⟨ret_bool ?_, rfl⟩; rw [← HR.out])

set_option maxRecDepth 100000 in
set_option maxHeartbeats 400000 in
theorem digits_any (s : ByteArray) (k : Nat) (w : World) (hs : s.size ≤ 9223372036854775806) (hk : k ≤ s.size) :
    Calls Try.prog 51 #[.string s, .int .i64 k] w (RetS w (.int .i64 (run isDigit (bs s) k : Nat))) := by
  go_enter Try.func51, Try.ntmps51
  go_wp2_with fail
  go_loop [1] (fun i => ∃ j : Nat, j ≤ s.size ∧ i = .int .i64 j ∧ run isDigit (bs s) j = run isDigit (bs s) k) (fun i => s.size - (intOf i).toNat)
  case atStart => exact ⟨k, hk, rfl, rfl⟩
  case round =>
    obtain ⟨j, hj, rfl, hd⟩ := hrel
    have HD := Lib.hid hd; clear hd
    by_cases hlt : j < s.size
    · have hix := run_index_gb (P := Try.prog) s 9 Try.underlying9 j hlt
      go_wp2_with (go_at_call 27; (with_reducible refine (digit_any _ _ (bs_lt _ _)).mono ?_); rintro e w' ⟨rfl, rfl⟩)
      · have hp : isDigit (gd (bs s) j) = true := by assumption
        go_round
        case rel => exact ⟨j + 1, by omega, by go_num, by rw [run_yes (by rw [bs_length]; exact hlt) hp]; exact HD.out⟩
        case measure => simp [intOf]; omega
      · have hp : isDigit (gd (bs s) j) = false := by assumption
        go_ret
        exact ⟨ret_int (by rw [← HD.out, run_no hp]), rfl⟩
    · go_wp2_with fail
      go_ret
      exact ⟨ret_int (by rw [← HD.out, run_end (by rw [bs_length]; omega)]), rfl⟩

set_option maxRecDepth 100000 in
set_option maxHeartbeats 400000 in
theorem rdigits_any (s : ByteArray) (k : Nat) (w : World) (hs : s.size ≤ 9223372036854775806) (hk : k ≤ s.size) :
    Calls Try.prog 44 #[.string s, .int .i64 k] w (RetS w (.int .i64 (run isDigit (bs s) k : Nat))) := by
  go_enter Try.func44, Try.ntmps44
  go_wp2_with fail
  go_loop [1] (fun i => ∃ j : Nat, j ≤ s.size ∧ i = .int .i64 j ∧ run isDigit (bs s) j = run isDigit (bs s) k) (fun i => s.size - (intOf i).toNat)
  case atStart => exact ⟨k, hk, rfl, rfl⟩
  case round =>
    obtain ⟨j, hj, rfl, hd⟩ := hrel
    have HD := Lib.hid hd; clear hd
    by_cases hlt : j < s.size
    · have hix := run_index_gb (P := Try.prog) s 9 Try.underlying9 j hlt
      go_wp2_with (go_at_call 34; (with_reducible refine (rdigit_any _ _ (bs_lt _ _)).mono ?_); rintro e w' ⟨rfl, rfl⟩)
      · have hp : isDigit (gd (bs s) j) = true := by assumption
        go_round
        case rel => exact ⟨j + 1, by omega, by go_num, by rw [run_yes (by rw [bs_length]; exact hlt) hp]; exact HD.out⟩
        case measure => simp [intOf]; omega
      · have hp : isDigit (gd (bs s) j) = false := by assumption
        go_ret
        exact ⟨ret_int (by rw [← HD.out, run_no hp]), rfl⟩
    · go_wp2_with fail
      go_ret
      exact ⟨ret_int (by rw [← HD.out, run_end (by rw [bs_length]; omega)]), rfl⟩

theorem isIn_yes {b : Nat} (h : isLetter b = true ∨ isDigit b = true ∨ b = 95 ∨ b = 46) : isIn b = true := by
  unfold isIn
  rcases h with h | h | h | h <;> simp [h]
theorem isIn_cases (b : Nat) : (isIn b = true ∧ (isLetter b = true ∨ (isLetter b = false ∧ isDigit b = true) ∨ (isLetter b = false ∧ isDigit b = false ∧ ((b : Int) == 95) = true) ∨
    (isLetter b = false ∧ isDigit b = false ∧ ((b : Int) == 95) = false ∧ ((b : Int) == 46) = true))) ∨ (isIn b = false ∧ isLetter b = false ∧ isDigit b = false ∧ ((b : Int) == 95) = false ∧ ((b : Int) == 46) = false) := by
  unfold isIn
  cases h1 : isLetter b
  · cases h2 : isDigit b
    · by_cases h3 : b = 95
      · subst h3; left; simp
      · by_cases h4 : b = 46
        · subst h4; left; simp
        · right; simp [h3, h4]; omega
    · left; simp
  · left; simp
theorem isIn_no' {b : Nat} (h1 : isLetter b = false) (h2 : isDigit b = false) (h : ((b : Int) == 95) = false ∧ ((b : Int) == 46) = false) : isIn b = false := by
  have h3 : ¬ (b : Int) = 95 := by simpa using h.1
  have h4 : ¬ (b : Int) = 46 := by simpa using h.2
  unfold isIn
  simp [h1, h2, show b ≠ 95 by omega, show b ≠ 46 by omega]
theorem isIn_no {b : Nat} (h1 : isLetter b = false) (h2 : isDigit b = false) (h3 : b ≠ 95) (h4 : b ≠ 46) : isIn b = false := by
  unfold isIn
  simp [h1, h2, h3, h4]

set_option maxRecDepth 100000 in
set_option maxHeartbeats 400000 in
theorem inside_any (b : Nat) (w : World) (hb : b < 256) : Calls Try.prog 32 #[.int .u8 b] w (RetS w (.bool (isIn b))) := by
  obtain ⟨r, hr⟩ : ∃ r, r = isIn b := ⟨_, rfl⟩
  rw [← hr]
  have HR := Lib.hid hr; clear hr
  go_enter Try.func32, Try.ntmps32
  go_wp2_with (first | (go_at_call 31; (with_reducible refine (rletter_any _ _ hb).mono ?_); rintro e w' ⟨rfl, rfl⟩) | (go_at_call 34; (with_reducible refine (rdigit_any _ _ hb).mono ?_); rintro e w' ⟨rfl, rfl⟩))
  all_goals go_ret
  all_goals (refine ⟨ret_bool ?_, rfl⟩; rw [HR.out]; unfold isIn; simp [*]; first | done | omega | (rw [Bool.eq_iff_iff]; simp; omega))

set_option maxRecDepth 100000 in
set_option maxHeartbeats 800000 in
theorem wordEnd_any (s : ByteArray) (k : Nat) (w : World) (hs : s.size ≤ 9223372036854775806) (hk : k ≤ s.size) :
    Calls Try.prog 26 #[.string s, .int .i64 k] w (RetS w (.int .i64 (run isIn (bs s) k : Nat))) := by
  go_enter Try.func26, Try.ntmps26
  go_wp2_with fail
  go_loop [1] (fun i => ∃ j : Nat, j ≤ s.size ∧ i = .int .i64 j ∧ run isIn (bs s) j = run isIn (bs s) k) (fun i => s.size - (intOf i).toNat)
  case atStart => exact ⟨k, hk, rfl, rfl⟩
  case round =>
    obtain ⟨j, hj, rfl, hd⟩ := hrel
    have HD := Lib.hid hd; clear hd
    by_cases hlt : j < s.size
    · have hix := run_index_gb (P := Try.prog) s 9 Try.underlying9 j hlt
      rcases isIn_cases (gd (bs s) j) with ⟨hp, hc⟩ | ⟨hp, h1, h2, h3, h4⟩
      · have HP := Lib.hid hp; clear hp
        rcases hc with h1 | ⟨h1, h2⟩ | ⟨h1, h2, h3⟩ | ⟨h1, h2, h3, h4⟩
        all_goals
          go_wp2_with (first | (go_at_call 25; (with_reducible refine (letter_any _ _ (bs_lt _ _)).mono ?_); rintro e w' ⟨rfl, rfl⟩) | (go_at_call 27; (with_reducible refine (digit_any _ _ (bs_lt _ _)).mono ?_); rintro e w' ⟨rfl, rfl⟩))
          go_round
          case rel => exact ⟨j + 1, by omega, by go_num, by rw [run_yes (by rw [bs_length]; exact hlt) HP.out]; exact HD.out⟩
          case measure => simp [intOf]; omega
      · have HP := Lib.hid hp; clear hp
        go_wp2_with (first | (go_at_call 25; (with_reducible refine (letter_any _ _ (bs_lt _ _)).mono ?_); rintro e w' ⟨rfl, rfl⟩) | (go_at_call 27; (with_reducible refine (digit_any _ _ (bs_lt _ _)).mono ?_); rintro e w' ⟨rfl, rfl⟩))
        go_ret
        exact ⟨ret_int (by rw [← HD.out, run_no HP.out]), rfl⟩
    · go_wp2_with fail
      go_ret
      exact ⟨ret_int (by rw [← HD.out, run_end (by rw [bs_length]; omega)]), rfl⟩
end Go.Proofs.Ytfmkpaegpiipoaa
