/-
  Plain lists: the bytes of a text, runs of bytes of a kind, the tokens of a text. No program is in sight here.
  Conditions: each theorem's own.
-/
import Derived.Test.YtfmkpaegpiipoaaLib
namespace Go.Proofs.Ytfmkpaegpiipoaa
open Go.RowKit

/-- the bytes of a text -/
def bs (s : ByteArray) : List Nat := s.data.toList.map UInt8.toNat
theorem bs_length (s : ByteArray) : (bs s).length = s.size := by simp [bs]
theorem bs_lt (s : ByteArray) (k : Nat) : gd (bs s) k < 256 := by
  unfold gd bs
  rw [List.getD_eq_getElem?_getD, List.getElem?_map]
  cases s.data.toList[k]? with
  | none => simp
  | some x => simp; exact UInt8.toNat_lt x
theorem bs_getElem (s : ByteArray) (k : Nat) (h : k < s.size) : gd (bs s) k = (s[k]).toNat := by
  rw [gd_lt _ _ (by rw [bs_length]; exact h)]
  simp only [bs, List.getElem_map]
  rfl

def isLetter (b : Nat) : Bool := decide (65 ≤ b ∧ b ≤ 90 ∨ 97 ≤ b ∧ b ≤ 122)
def isDigit (b : Nat) : Bool := decide (48 ≤ b ∧ b ≤ 57)
def isBlank (b : Nat) : Bool := decide (b = 32 ∨ b = 9 ∨ b = 10 ∨ b = 13)
def isSign (b : Nat) : Bool := decide (b = 123 ∨ b = 125 ∨ b = 59 ∨ b = 58 ∨ b = 64)
def isIn (b : Nat) : Bool := isLetter b || isDigit b || decide (b = 95) || decide (b = 46)
def notLF (b : Nat) : Bool := decide (b ≠ 10)

/-- the end of the run of bytes of a kind from place k on -/
def run (p : Nat → Bool) (l : List Nat) (k : Nat) : Nat := k + ((l.drop k).takeWhile p).length
theorem drop_gd (l : List Nat) (k : Nat) (h : k < l.length) : l.drop k = gd l k :: l.drop (k + 1) := by
  rw [gd_lt _ _ h]; exact List.drop_eq_getElem_cons h
theorem run_yes {p : Nat → Bool} {l : List Nat} {k : Nat} (h : k < l.length) (hp : p (gd l k) = true) : run p l (k + 1) = run p l k := by
  unfold run
  rw [drop_gd l k h, List.takeWhile_cons, if_pos hp, List.length_cons]; omega
theorem run_no {p : Nat → Bool} {l : List Nat} {k : Nat} (hp : p (gd l k) = false) : run p l k = k := by
  unfold run
  by_cases h : k < l.length
  · rw [drop_gd l k h, List.takeWhile_cons, if_neg (by rw [hp]; simp)]; rfl
  · rw [List.drop_eq_nil_of_le (by omega)]; rfl
theorem run_end {p : Nat → Bool} {l : List Nat} {k : Nat} (h : l.length ≤ k) : run p l k = k := by
  unfold run
  rw [List.drop_eq_nil_of_le h]; rfl
theorem le_run (p : Nat → Bool) (l : List Nat) (k : Nat) : k ≤ run p l k := by unfold run; omega
theorem run_le {p : Nat → Bool} {l : List Nat} {k : Nat} (h : k ≤ l.length) : run p l k ≤ l.length := by
  unfold run
  have := (List.takeWhile_sublist (p := p) (l := l.drop k)).length_le
  rw [List.length_drop] at this; omega
/-- what stands at the end of a run is not of the kind -/
theorem run_stop {p : Nat → Bool} {l : List Nat} (n : Nat) : ∀ k, l.length - k ≤ n → run p l k < l.length → p (gd l (run p l k)) = false := by
  induction n with
  | zero => intro k hk h; have := le_run p l k; omega
  | succ n ih =>
    intro k hk h
    cases hp : p (gd l k) with
    | false => rw [run_no hp]; exact hp
    | true =>
      have hk' : k < l.length := by have := le_run p l k; omega
      rw [← run_yes hk' hp] at h ⊢
      exact ih (k + 1) (by omega) h
theorem run_all {p : Nat → Bool} {l : List Nat} (n : Nat) : ∀ k, l.length - k ≤ n → ∀ j, k ≤ j → j < run p l k → p (gd l j) = true := by
  induction n with
  | zero => intro k hk j h1 h2; by_cases h : k < l.length
            · omega
            · rw [run_end (by omega)] at h2; omega
  | succ n ih =>
    intro k hk j h1 h2
    cases hp : p (gd l k) with
    | false => rw [run_no hp] at h2; omega
    | true =>
      by_cases hk' : k < l.length
      · by_cases hj : j = k
        · rw [hj]; exact hp
        · exact ih (k + 1) (by omega) j (by omega) (by rw [run_yes hk' hp]; exact h2)
      · rw [run_end (by omega)] at h2; omega

/-- the end of the longest number from a digit on -/
def numEnd (l : List Nat) (k : Nat) : Nat :=
  if run isDigit l k + 1 < l.length ∧ (gd l (run isDigit l k) = 46 ∨ gd l (run isDigit l k) = 47) ∧ isDigit (gd l (run isDigit l k + 1)) = true
  then run isDigit l (run isDigit l k + 1) else run isDigit l k
theorem le_numEnd (l : List Nat) (k : Nat) : k ≤ numEnd l k := by
  have := le_run isDigit l k
  have := le_run isDigit l (run isDigit l k + 1)
  unfold numEnd; split <;> omega
theorem numEnd_le {l : List Nat} {k : Nat} (h : k ≤ l.length) : numEnd l k ≤ l.length := by
  have := run_le (p := isDigit) h
  unfold numEnd; split
  · exact run_le (by omega)
  · exact this
theorem numEnd_stop {l : List Nat} {k : Nat} (h : numEnd l k < l.length) : isDigit (gd l (numEnd l k)) = false := by
  unfold numEnd at h ⊢
  split at h
  · rename_i hc; rw [if_pos hc]; exact run_stop _ _ (Nat.le_refl _) h
  · rename_i hc; rw [if_neg hc]; exact run_stop _ _ (Nat.le_refl _) h

/-- what stands at a place: err (0: none), kind (3: no token), its end -/
structure St where
  err : Nat
  kind : Nat
  fin : Nat
/-- what may not follow a number -/
def badAfter (b : Nat) : Bool := isIn b || decide (b = 47)
def stepAt (l : List Nat) (i : Nat) : St :=
  if isBlank (gd l i) = true then ⟨0, 3, i + 1⟩
  else if gd l i = 35 then ⟨0, 3, run notLF l i⟩
  else if isLetter (gd l i) = true then (if 24 < run isIn l i - i then ⟨5, 0, 0⟩ else ⟨0, 0, run isIn l i⟩)
  else if isDigit (gd l i) = true then (if numEnd l i < l.length ∧ badAfter (gd l (numEnd l i)) = true then ⟨2, 0, 0⟩ else ⟨0, 1, numEnd l i⟩)
  else if isSign (gd l i) = true then ⟨0, 2, i + 1⟩
  else ⟨2, 0, 0⟩

theorem hash_run {l : List Nat} {i : Nat} (hi : i < l.length) (h : gd l i = 35) : run notLF l i = run notLF l (i + 1) := (run_yes hi (by rw [h]; rfl)).symm
theorem letter_run {l : List Nat} {i : Nat} (hi : i < l.length) (h : isLetter (gd l i) = true) : run isIn l i = run isIn l (i + 1) := (run_yes hi (by simp [isIn, h])).symm
theorem lt_numEnd {l : List Nat} {i : Nat} (hi : i < l.length) (h : isDigit (gd l i) = true) : i < numEnd l i := by
  have h1 := run_yes (p := isDigit) hi h
  have h2 := le_run isDigit l (i + 1)
  have h3 := le_run isDigit l (run isDigit l i + 1)
  unfold numEnd; split <;> omega

theorem stepAt_fin {l : List Nat} {i : Nat} (hi : i < l.length) (he : (stepAt l i).err = 0) : i < (stepAt l i).fin ∧ (stepAt l i).fin ≤ l.length := by
  unfold stepAt at he ⊢
  split
  · exact ⟨by simp, by simp; omega⟩
  rename_i hb; rw [if_neg hb] at he
  split
  · rename_i hh
    rw [hash_run hi hh]
    exact ⟨le_run _ _ _, run_le (by omega)⟩
  rename_i hh; rw [if_neg hh] at he
  split
  · rename_i hl; rw [if_pos hl] at he
    split at he
    · simp at he
    · rename_i hn; rw [if_neg hn, letter_run hi hl]
      exact ⟨le_run _ _ _, run_le (by omega)⟩
  rename_i hl; rw [if_neg hl] at he
  split
  · rename_i hd; rw [if_pos hd] at he
    split at he
    · simp at he
    · rename_i hn; rw [if_neg hn]
      exact ⟨lt_numEnd hi hd, numEnd_le (by omega)⟩
  rename_i hd; rw [if_neg hd] at he
  split
  · exact ⟨by simp, by simp; omega⟩
  · rename_i hs; rw [if_neg hs] at he; simp at he

/-- a token: its kind, where it begins and ends -/
structure Tk where
  kind : Nat
  at_ : Nat
  fin : Nat
/-- the tokens from place i on, or the number of an error; so many steps at the most -/
def scan (l : List Nat) : Nat → Nat → List Tk × Nat
  | 0, _ => ([], 0)
  | n + 1, i =>
    if i < l.length then
      if (stepAt l i).err ≠ 0 then ([], (stepAt l i).err)
      else if (scan l n (stepAt l i).fin).2 ≠ 0 then ([], (scan l n (stepAt l i).fin).2)
      else (if (stepAt l i).kind = 3 then (scan l n (stepAt l i).fin).1 else ⟨(stepAt l i).kind, i, (stepAt l i).fin⟩ :: (scan l n (stepAt l i).fin).1, 0)
    else ([], 0)
/-- enough steps are enough -/
theorem scan_enough (l : List Nat) (n : Nat) : ∀ m i, l.length - i ≤ n → n ≤ m → scan l m i = scan l n i := by
  induction n with
  | zero =>
    intro m i h1 h2
    cases m with
    | zero => rfl
    | succ m => simp only [scan]; rw [if_neg (by omega)]
  | succ n ih =>
    intro m i h1 h2
    obtain ⟨m, rfl⟩ : ∃ k, m = k + 1 := ⟨m - 1, by omega⟩
    simp only [scan]
    by_cases hi : i < l.length
    · rw [if_pos hi, if_pos hi]
      by_cases he : (stepAt l i).err = 0
      · have := stepAt_fin hi he
        rw [ih m _ (by omega) (by omega)]
      · rw [if_pos he, if_pos he]
    · rw [if_neg hi, if_neg hi]
/-- all tokens from place i on -/
def scanAt (l : List Nat) (i : Nat) : List Tk × Nat := scan l (l.length - i) i
theorem scanAt_end {l : List Nat} {i : Nat} (h : l.length ≤ i) : scanAt l i = ([], 0) := by
  unfold scanAt; rw [Nat.sub_eq_zero_of_le h]; rfl
theorem scanAt_err {l : List Nat} {i : Nat} (h : i < l.length) (he : (stepAt l i).err ≠ 0) : scanAt l i = ([], (stepAt l i).err) := by
  unfold scanAt
  obtain ⟨n, hn⟩ : ∃ n, l.length - i = n + 1 := ⟨l.length - i - 1, by omega⟩
  rw [hn]; simp only [scan]; rw [if_pos h, if_pos he]
theorem scanAt_step {l : List Nat} {i : Nat} (h : i < l.length) (he : (stepAt l i).err = 0) :
    scanAt l i = if (scanAt l (stepAt l i).fin).2 ≠ 0 then ([], (scanAt l (stepAt l i).fin).2)
      else (if (stepAt l i).kind = 3 then (scanAt l (stepAt l i).fin).1 else ⟨(stepAt l i).kind, i, (stepAt l i).fin⟩ :: (scanAt l (stepAt l i).fin).1, 0) := by
  have hf := stepAt_fin h he
  unfold scanAt
  obtain ⟨n, hn⟩ : ∃ n, l.length - i = n + 1 := ⟨l.length - i - 1, by omega⟩
  rw [hn]
  have := scan_enough l (l.length - (stepAt l i).fin) n (stepAt l i).fin (Nat.le_refl _) (by omega)
  rw [← this]
  simp only [scan]; rw [if_pos h, if_neg (by simpa using he)]

/-- lines and columns -/
def lineOf (l : List Nat) (i : Nat) : Nat := 1 + (l.take i).count 10
/-- where the line of place i begins -/
def lineStart (l : List Nat) : Nat → Nat
  | 0 => 0
  | i + 1 => if gd l i = 10 then i + 1 else lineStart l i
theorem lineStart_le (l : List Nat) (i : Nat) : lineStart l i ≤ i := by
  induction i with
  | zero => simp [lineStart]
  | succ i ih => simp only [lineStart]; split <;> omega
def colOf (l : List Nat) (i : Nat) : Nat := i - lineStart l i + 1
theorem lineOf_succ {l : List Nat} {i : Nat} (h : i < l.length) : lineOf l (i + 1) = lineOf l i + if gd l i = 10 then 1 else 0 := by
  unfold lineOf
  rw [List.take_succ_eq_append_getElem h, List.count_append, gd_lt _ _ h]
  by_cases h10 : l[i] = 10 <;> simp [h10] <;> omega
/-- over bytes that are no line feeds the line stays -/
theorem line_run {l : List Nat} {i : Nat} (j : Nat) (h : i ≤ j) (hj : j ≤ l.length) (hn : ∀ k, i ≤ k → k < j → gd l k ≠ 10) :
    lineOf l j = lineOf l i ∧ lineStart l j = lineStart l i := by
  obtain ⟨d, rfl⟩ : ∃ d, j = i + d := ⟨j - i, by omega⟩
  clear h
  induction d with
  | zero => exact ⟨rfl, rfl⟩
  | succ d ih =>
    have h10 := hn (i + d) (by omega) (by omega)
    have := ih (by omega) (fun k h1 h2 => hn k h1 (by omega))
    rw [show i + (d + 1) = (i + d) + 1 from rfl, lineOf_succ (by omega), if_neg h10]
    simp only [lineStart]; rw [if_neg h10]
    exact ⟨by omega, this.2⟩
end Go.Proofs.Ytfmkpaegpiipoaa
