/-
  Plain lists: what one step of the scanner does, as the walks of both Split functions ask for it.
  Conditions: each theorem's own.
-/
import Derived.Test.YtfmkpaegpiipoaaTokMath
namespace Go.Proofs.Ytfmkpaegpiipoaa
open Go.RowKit

/-- tokens in hand, and what the rest gives -/
def joinScan (ts : List Tk) (r : List Tk × Nat) : List Tk × Nat := if r.2 ≠ 0 then ([], r.2) else (ts ++ r.1, 0)
/-- the tokens of a text, or the number of the error -/
def splitL (l : List Nat) : List Tk × Nat := if 65536 < l.length then ([], 4) else scanAt l 0
theorem scan_clean (l : List Nat) (n : Nat) : ∀ i, (scan l n i).2 ≠ 0 → (scan l n i).1 = [] := by
  induction n with
  | zero => intro i h; simp [scan] at h
  | succ n ih =>
    intro i h
    simp only [scan] at h ⊢
    split at h
    · rename_i h1; rw [if_pos h1]
      split at h
      · rename_i h2; rw [if_pos h2]
      · rename_i h2; rw [if_neg h2]
        split at h
        · rename_i h3; rw [if_pos h3]
        · simp at h
    · simp at h
theorem joinScan_nil (l : List Nat) : joinScan [] (scanAt l 0) = scanAt l 0 := by
  unfold joinScan scanAt
  have h := scan_clean l (l.length - 0) 0
  generalize scan l (l.length - 0) 0 = r at h
  obtain ⟨a, b⟩ := r
  by_cases hb : b = 0
  · subst hb; simp
  · simp only [ne_eq, hb, not_false_eq_true, if_true]
    obtain rfl : a = [] := h hb
    rfl
theorem join_end {l : List Nat} {i : Nat} (ts : List Tk) (h : l.length ≤ i) : joinScan ts (scanAt l i) = (ts, 0) := by
  rw [scanAt_end h]; simp [joinScan]
theorem join_err {l : List Nat} {i : Nat} (ts : List Tk) (h : i < l.length) (he : (stepAt l i).err ≠ 0) : joinScan ts (scanAt l i) = ([], (stepAt l i).err) := by
  rw [scanAt_err h he]; simp [joinScan, he]
theorem join_skip {l : List Nat} {i : Nat} (ts : List Tk) (h : i < l.length) (he : (stepAt l i).err = 0) (hk : (stepAt l i).kind = 3) :
    joinScan ts (scanAt l i) = joinScan ts (scanAt l (stepAt l i).fin) := by
  rw [scanAt_step h he]
  by_cases h2 : (scanAt l (stepAt l i).fin).2 = 0
  · simp [joinScan, h2, hk]
  · simp [joinScan, h2]
theorem join_tok {l : List Nat} {i : Nat} (ts : List Tk) (h : i < l.length) (he : (stepAt l i).err = 0) (hk : (stepAt l i).kind ≠ 3) :
    joinScan ts (scanAt l i) = joinScan (ts ++ [⟨(stepAt l i).kind, i, (stepAt l i).fin⟩]) (scanAt l (stepAt l i).fin) := by
  rw [scanAt_step h he]
  by_cases h2 : (scanAt l (stepAt l i).fin).2 = 0
  · simp [joinScan, h2, hk]
  · simp [joinScan, h2]

theorem join_err' {l : List Nat} {i c k e : Nat} (ts : List Tk) (h : i < l.length) (hs : stepAt l i = ⟨c, k, e⟩) (hc : c ≠ 0) : joinScan ts (scanAt l i) = ([], c) := by
  rw [join_err ts h (by rw [hs]; exact hc), hs]
theorem join_skip' {l : List Nat} {i e : Nat} (ts : List Tk) (h : i < l.length) (hs : stepAt l i = ⟨0, 3, e⟩) : joinScan ts (scanAt l i) = joinScan ts (scanAt l e) := by
  rw [join_skip ts h (by rw [hs]) (by rw [hs]), hs]
theorem join_tok' {l : List Nat} {i k e : Nat} (ts : List Tk) (h : i < l.length) (hs : stepAt l i = ⟨0, k, e⟩) (hk : k ≠ 3) : joinScan ts (scanAt l i) = joinScan (ts ++ [⟨k, i, e⟩]) (scanAt l e) := by
  rw [join_tok ts h (by rw [hs]) (by rw [hs]; exact hk), hs]

/-- the kinds of bytes at a place, and what the step gives; tests in the form in which the walk asks them -/
theorem step_cases (l : List Nat) (i : Nat) (b : Nat) (hb : b = gd l i) :
    (isBlank b = true ∧ ((b : Int) == 10) = true ∧ b = 10 ∧ stepAt l i = ⟨0, 3, i + 1⟩) ∨
    (isBlank b = true ∧ ((b : Int) == 10) = false ∧ b ≠ 10 ∧ stepAt l i = ⟨0, 3, i + 1⟩) ∨
    (isBlank b = false ∧ ((b : Int) == 35) = true ∧ b = 35 ∧ stepAt l i = ⟨0, 3, run notLF l i⟩) ∨
    (isBlank b = false ∧ ((b : Int) == 35) = false ∧ isLetter b = true ∧ 24 < run isIn l i - i ∧ stepAt l i = ⟨5, 0, 0⟩) ∨
    (isBlank b = false ∧ ((b : Int) == 35) = false ∧ isLetter b = true ∧ run isIn l i - i ≤ 24 ∧ stepAt l i = ⟨0, 0, run isIn l i⟩) ∨
    (isBlank b = false ∧ ((b : Int) == 35) = false ∧ isLetter b = false ∧ isDigit b = true ∧ (numEnd l i < l.length ∧ badAfter (gd l (numEnd l i)) = true) ∧ stepAt l i = ⟨2, 0, 0⟩) ∨
    (isBlank b = false ∧ ((b : Int) == 35) = false ∧ isLetter b = false ∧ isDigit b = true ∧ (numEnd l i < l.length → badAfter (gd l (numEnd l i)) = false) ∧ stepAt l i = ⟨0, 1, numEnd l i⟩) ∨
    (isBlank b = false ∧ ((b : Int) == 35) = false ∧ isLetter b = false ∧ isDigit b = false ∧ isSign b = true ∧ stepAt l i = ⟨0, 2, i + 1⟩) ∨
    (isBlank b = false ∧ ((b : Int) == 35) = false ∧ isLetter b = false ∧ isDigit b = false ∧ isSign b = false ∧ stepAt l i = ⟨2, 0, 0⟩) := by
  subst hb
  unfold stepAt
  cases h1 : isBlank (gd l i)
  · by_cases h2 : gd l i = 35
    · right; right; left; simp [h2]
    · have h2' : ((gd l i : Int) == 35) = false := by simp; omega
      cases h3 : isLetter (gd l i)
      · cases h4 : isDigit (gd l i)
        · cases h5 : isSign (gd l i)
          · iterate 8 right
            simp [h2]; omega
          · iterate 7 right
            left; simp [h2]; omega
        · by_cases h5 : numEnd l i < l.length ∧ badAfter (gd l (numEnd l i)) = true
          · iterate 5 right
            left; refine ⟨rfl, h2', rfl, rfl, h5, ?_⟩; simp [h2, h5]
          · iterate 6 right
            left; refine ⟨rfl, h2', rfl, rfl, fun h => by cases hq : badAfter (gd l (numEnd l i)) <;> simp_all, ?_⟩
            rw [if_neg (by simp), if_neg h2, if_neg (by simp), if_pos rfl, if_neg h5]
      · by_cases h4 : 24 < run isIn l i - i
        · iterate 3 right
          left; refine ⟨rfl, h2', rfl, h4, ?_⟩
          rw [if_neg (by simp), if_neg h2, if_pos rfl, if_pos h4]
        · iterate 4 right
          left; refine ⟨rfl, h2', rfl, by omega, ?_⟩
          rw [if_neg (by simp), if_neg h2, if_pos rfl, if_neg h4]
  · by_cases h2 : gd l i = 10
    · left; simp [h2]
    · right; left; simp [h2]; omega

/-- what may follow a number: the tests as the two walks ask them -/
theorem bad_cases (l : List Nat) (e : Nat) (b : Nat) (_hb : b = gd l e) (hd : isDigit b = false) :
    (badAfter b = true ∧ (isLetter b = true ∨ (isLetter b = false ∧ ((b : Int) == 95) = true) ∨ (isLetter b = false ∧ ((b : Int) == 95) = false ∧ ((b : Int) == 46) = true) ∨
      (isLetter b = false ∧ ((b : Int) == 95) = false ∧ ((b : Int) == 46) = false ∧ ((b : Int) == 47) = true))) ∨
    (badAfter b = false ∧ isLetter b = false ∧ ((b : Int) == 95) = false ∧ ((b : Int) == 46) = false ∧ ((b : Int) == 47) = false) := by
  unfold badAfter isIn
  cases h1 : isLetter b
  · by_cases h2 : b = 95
    · left; simp [h2]
    · by_cases h3 : b = 46
      · left; simp [h3]
      · by_cases h4 : b = 47
        · left; simp [h4]
        · right; simp [h2, h3, h4, hd]; omega
  · left; simp
theorem bad_cases' (b : Nat) :
    (badAfter b = true ∧ (isIn b = true ∨ (isIn b = false ∧ ((b : Int) == 47) = true))) ∨ (badAfter b = false ∧ isIn b = false ∧ ((b : Int) == 47) = false) := by
  unfold badAfter
  cases h1 : isIn b
  · by_cases h2 : b = 47
    · left; simp [h2]
    · right; simp [h2]; omega
  · left; simp
/-- the tests of the five signs, one behind the other -/
theorem sign_cases (b : Nat) :
    (isSign b = true ∧ (((b : Int) == 123) = true ∨ (((b : Int) == 123) = false ∧ ((b : Int) == 125) = true) ∨ (((b : Int) == 123) = false ∧ ((b : Int) == 125) = false ∧ ((b : Int) == 59) = true) ∨
      (((b : Int) == 123) = false ∧ ((b : Int) == 125) = false ∧ ((b : Int) == 59) = false ∧ ((b : Int) == 58) = true) ∨
      (((b : Int) == 123) = false ∧ ((b : Int) == 125) = false ∧ ((b : Int) == 59) = false ∧ ((b : Int) == 58) = false ∧ ((b : Int) == 64) = true))) ∨
    (isSign b = false ∧ ((b : Int) == 123) = false ∧ ((b : Int) == 125) = false ∧ ((b : Int) == 59) = false ∧ ((b : Int) == 58) = false ∧ ((b : Int) == 64) = false) := by
  unfold isSign
  by_cases h1 : b = 123
  · left; simp [h1]
  · by_cases h2 : b = 125
    · left; simp [h2]
    · by_cases h3 : b = 59
      · left; simp [h3]
      · by_cases h4 : b = 58
        · left; simp [h4]
        · by_cases h5 : b = 64
          · left; simp [h5]
          · right; simp [h1, h2, h3, h4, h5]; omega
/-- no letter, digit or sign is a line feed; nor is what stands in a word or a number -/
theorem isIn_ne {b : Nat} (h : isIn b = true) : b ≠ 10 := by rintro rfl; revert h; decide
theorem isDigit_ne {b : Nat} (h : isDigit b = true) : b ≠ 10 := by rintro rfl; revert h; decide
theorem isSign_ne {b : Nat} (h : isSign b = true) : b ≠ 10 := by rintro rfl; revert h; decide
theorem numEnd_ne {l : List Nat} {i j : Nat} (h1 : i ≤ j) (h2 : j < numEnd l i) : gd l j ≠ 10 := by
  unfold numEnd at h2
  split at h2
  · rename_i hc
    obtain ⟨c1, c2, c3⟩ := hc
    by_cases h3 : j < run isDigit l i
    · exact isDigit_ne (run_all _ _ (Nat.le_refl _) j h1 h3)
    · by_cases h4 : j = run isDigit l i
      · rw [h4]; omega
      · exact isDigit_ne (run_all _ _ (Nat.le_refl _) j (by omega) h2)
  · exact isDigit_ne (run_all _ _ (Nat.le_refl _) j h1 h2)
/-- the line behind a token or a blank that is no line feed is that of its beginning -/
theorem line_word {l : List Nat} {i : Nat} (h : i ≤ l.length) : lineOf l (run isIn l i) = lineOf l i ∧ lineStart l (run isIn l i) = lineStart l i :=
  line_run _ (le_run _ _ _) (run_le h) fun k h1 h2 => isIn_ne (run_all _ _ (Nat.le_refl _) k h1 h2)
theorem line_number {l : List Nat} {i : Nat} (h : i ≤ l.length) : lineOf l (numEnd l i) = lineOf l i ∧ lineStart l (numEnd l i) = lineStart l i :=
  line_run _ (le_numEnd _ _) (numEnd_le h) fun _ h1 h2 => numEnd_ne h1 h2
theorem line_comment {l : List Nat} {i : Nat} (h : i ≤ l.length) : lineOf l (run notLF l i) = lineOf l i ∧ lineStart l (run notLF l i) = lineStart l i :=
  line_run _ (le_run _ _ _) (run_le h) fun k h1 h2 => by
    have := run_all (p := notLF) _ _ (Nat.le_refl _) k h1 h2
    simpa [notLF] using this
theorem line_one {l : List Nat} {i : Nat} (h : i < l.length) (hn : gd l i ≠ 10) : lineOf l (i + 1) = lineOf l i ∧ lineStart l (i + 1) = lineStart l i :=
  line_run _ (by omega) (by omega) fun k h1 h2 => by rw [show k = i by omega]; exact hn
end Go.Proofs.Ytfmkpaegpiipoaa
