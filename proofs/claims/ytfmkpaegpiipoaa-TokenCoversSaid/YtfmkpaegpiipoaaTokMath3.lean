/-
  Plain lists: a step of the scanner looks no further than the byte behind what it takes; texts that are moved, joined, or parted by blanks.
  Conditions: each theorem's own.
-/
import Derived.Test.YtfmkpaegpiipoaaTokMath2
namespace Go.Proofs.Ytfmkpaegpiipoaa
open Go.RowKit

theorem gd_shift (a b : List Nat) (k : Nat) : gd (a ++ b) (a.length + k) = gd b k := by
  rw [gd_append, if_neg (by omega), Nat.add_sub_cancel_left]
theorem run_shift (p : Nat → Bool) (a b : List Nat) (k : Nat) : run p (a ++ b) (a.length + k) = a.length + run p b k := by
  unfold run
  rw [List.drop_append]
  simp only [List.drop_eq_nil_of_le (Nat.le_add_right a.length k), List.nil_append, Nat.add_sub_cancel_left]
  omega
theorem numEnd_shift (a b : List Nat) (k : Nat) : numEnd (a ++ b) (a.length + k) = a.length + numEnd b k := by
  unfold numEnd
  rw [run_shift, show a.length + run isDigit b k + 1 = a.length + (run isDigit b k + 1) by omega, gd_shift, gd_shift, run_shift, List.length_append]
  by_cases h : run isDigit b k + 1 < b.length ∧ (gd b (run isDigit b k) = 46 ∨ gd b (run isDigit b k) = 47) ∧ isDigit (gd b (run isDigit b k + 1)) = true
  · rw [if_pos h, if_pos ⟨by omega, h.2⟩]
  · rw [if_neg h, if_neg (fun hh => h ⟨by omega, hh.2⟩)]
def addSt (n : Nat) (st : St) : St := ⟨st.err, st.kind, if st.err = 0 then n + st.fin else st.fin⟩
theorem step_shift (a b : List Nat) (i : Nat) : stepAt (a ++ b) (a.length + i) = addSt a.length (stepAt b i) := by
  have e1 : ∀ x y, (a.length + x < (a ++ b).length ∧ y) ↔ (x < b.length ∧ y) := fun x y => by rw [List.length_append]; constructor <;> exact fun h => ⟨by omega, h.2⟩
  unfold stepAt
  rw [gd_shift, run_shift, run_shift, numEnd_shift, gd_shift]
  simp only [e1, show a.length + run isIn b i - (a.length + i) = run isIn b i - i by omega]
  repeat' split
  all_goals simp [addSt]
  all_goals omega

/-- a token that is moved -/
def mvTk (n : Nat) (t : Tk) : Tk := ⟨t.kind, n + t.at_, n + t.fin⟩
theorem scan_shift (a b : List Nat) (n : Nat) : ∀ i, b.length - i ≤ n → scanAt (a ++ b) (a.length + i) = ((scanAt b i).1.map (mvTk a.length), (scanAt b i).2) := by
  induction n with
  | zero =>
    intro i h
    rw [scanAt_end (l := b) (by omega), scanAt_end (by rw [List.length_append]; omega)]; rfl
  | succ n ih =>
    intro i h
    by_cases hi : i < b.length
    · have hi' : a.length + i < (a ++ b).length := by rw [List.length_append]; omega
      have hst := step_shift a b i
      by_cases he : (stepAt b i).err = 0
      · have hf := stepAt_fin hi he
        have he' : (stepAt (a ++ b) (a.length + i)).err = 0 := by rw [hst]; exact he
        have hfin : (stepAt (a ++ b) (a.length + i)).fin = a.length + (stepAt b i).fin := by rw [hst]; simp [addSt, he]
        have hk : (stepAt (a ++ b) (a.length + i)).kind = (stepAt b i).kind := by rw [hst]; rfl
        rw [scanAt_step hi' he', hfin, hk, ih _ (by omega), scanAt_step hi he]
        by_cases h2 : (scanAt b (stepAt b i).fin).2 = 0
        · by_cases hk3 : (stepAt b i).kind = 3 <;> simp [h2, hk3, mvTk]
        · simp [h2]
      · rw [scanAt_err hi he, scanAt_err hi' (by rw [hst]; exact he), hst]; rfl
    · rw [scanAt_end (l := b) (by omega), scanAt_end (by rw [List.length_append]; omega)]; rfl
theorem scan_move (a b : List Nat) (i : Nat) (ts : List Tk) (h : scanAt b i = (ts, 0)) : scanAt (a ++ b) (a.length + i) = (ts.map (mvTk a.length), 0) := by
  rw [scan_shift a b _ i (Nat.le_refl _), h]

theorem isIn_zero : isIn 0 = false := by decide
theorem isDigit_zero : isDigit 0 = false := by decide
theorem run_eq {p : Nat → Bool} {l : List Nat} {e : Nat} (hp : p (gd l e) = false) (n : Nat) : ∀ i, e - i ≤ n → i ≤ e → (∀ j, i ≤ j → j < e → j < l.length ∧ p (gd l j) = true) → run p l i = e := by
  induction n with
  | zero => intro i h1 h2 h3; obtain rfl : i = e := by omega
            exact run_no hp
  | succ n ih =>
    intro i h1 h2 h3
    by_cases hi : i = e
    · rw [hi]; exact run_no hp
    · have := h3 i (Nat.le_refl _) (by omega)
      rw [← run_yes this.1 this.2]
      exact ih (i + 1) (by omega) (by omega) fun j h4 h5 => h3 j (by omega) h5
theorem lt_of_gd {p : Nat → Bool} (h0 : p 0 = false) {l : List Nat} {j : Nat} (h : p (gd l j) = true) : j < l.length := by
  by_cases hj : j < l.length
  · exact hj
  · rw [gd_over _ _ (by omega), h0] at h; cases h
/-- the byte behind a run is not of the kind, whether the text goes on or not -/
theorem run_behind {p : Nat → Bool} (h0 : p 0 = false) (l : List Nat) (i : Nat) : p (gd l (run p l i)) = false := by
  by_cases h : run p l i < l.length
  · exact run_stop _ _ (Nat.le_refl _) h
  · rw [gd_over _ _ (by omega)]; exact h0
/-- the same bytes as far as a run goes, and no more of the kind behind it: the same run -/
theorem run_same {p : Nat → Bool} (h0 : p 0 = false) {l l' : List Nat} {i e : Nat} (h : run p l i = e) (hs : ∀ j, i ≤ j → j < e → gd l' j = gd l j) (hx : p (gd l' e) = false) : run p l' i = e := by
  have hle := le_run p l i
  refine run_eq hx (e - i) i (Nat.le_refl _) (by omega) fun j h1 h2 => ?_
  have hp : p (gd l' j) = true := by rw [hs j h1 h2]; exact run_all _ _ (Nat.le_refl _) j h1 (by omega)
  exact ⟨lt_of_gd h0 hp, hp⟩
theorem bad_zero : badAfter 0 = false := by decide
theorem bad_digit {b : Nat} (h : badAfter b = false) : isDigit b = false ∧ isIn b = false ∧ b ≠ 46 ∧ b ≠ 47 := by
  unfold badAfter at h
  cases h1 : isIn b
  · rw [h1] at h
    have h2 := h1
    unfold isIn at h2
    simp only [Bool.or_eq_false_iff, decide_eq_false_iff_not] at h2 h
    exact ⟨h2.1.1.2, rfl, h2.2, h.2⟩
  · rw [h1] at h; simp at h

/-- what a byte behind a token may be for the token to stay what it is -/
def Ends (x y : Nat) : Prop := y = x ∨ y = 32 ∨ y = 0
theorem ends_bad {x y : Nat} (h : Ends x y) (hx : badAfter x = false) : badAfter y = false := by
  rcases h with rfl | rfl | rfl
  · exact hx
  · decide
  · decide
theorem ends_in {x y : Nat} (h : Ends x y) (hx : isIn x = false) : isIn y = false := by
  rcases h with rfl | rfl | rfl
  · exact hx
  · decide
  · decide
theorem numEnd_same {l l' : List Nat} {i e : Nat} (h : numEnd l i = e) (hs : ∀ j, i ≤ j → j < e → gd l' j = gd l j) (hb : badAfter (gd l e) = false) (hx : Ends (gd l e) (gd l' e)) : numEnd l' i = e := by
  have hb' := ends_bad hx hb
  have hle := le_run isDigit l i
  have hle2 := le_run isDigit l (run isDigit l i + 1)
  unfold numEnd at h
  split at h
  · rename_i hc
    obtain ⟨c1, c2, c3⟩ := hc
    have h1 := run_yes (p := isDigit) c1 c3
    have h2 := le_run isDigit l (run isDigit l i + 1 + 1)
    have d1 : run isDigit l' i = run isDigit l i := run_same isDigit_zero rfl (fun j h1 h2 => hs j h1 (by omega)) (by rw [hs _ (by omega) (by omega)]; rcases c2 with c2 | c2 <;> rw [c2] <;> decide)
    have d2 : isDigit (gd l' (run isDigit l i + 1)) = true := by rw [hs _ (by omega) (by omega)]; exact c3
    unfold numEnd
    rw [d1, if_pos ⟨lt_of_gd isDigit_zero d2, by rw [hs _ (by omega) (by omega)]; exact c2, d2⟩]
    exact run_same isDigit_zero h (fun j h1 h2 => hs j (by omega) h2) (bad_digit hb').1
  · have d1 : run isDigit l' i = e := run_same isDigit_zero h hs (bad_digit hb').1
    unfold numEnd
    rw [d1, if_neg (fun hc => by have := bad_digit hb'; omega)]

/-- A STEP LOOKS NO FURTHER THAN THE BYTE BEHIND WHAT IT TAKES -/
theorem step_same {l l' : List Nat} {i k e : Nat} (hi : i < l.length) (hst : stepAt l i = ⟨0, k, e⟩) (hs : ∀ j, i ≤ j → j < e → gd l' j = gd l j) (_hi' : i < l'.length)
    (hx : (k ≠ 3 ∧ Ends (gd l e) (gd l' e)) ∨ (k = 3 ∧ e < l.length ∧ e < l'.length ∧ gd l' e = gd l e)) : stepAt l' i = ⟨0, k, e⟩ := by
  have hf := stepAt_fin hi (by rw [hst])
  rw [hst] at hf
  have h0 : gd l' i = gd l i := hs i (Nat.le_refl _) hf.1
  unfold stepAt at hst ⊢
  rw [h0]
  split at hst
  · rename_i h1; rw [if_pos h1]; exact hst
  rename_i h1; rw [if_neg h1]
  split at hst
  · rename_i h2; rw [if_pos h2]
    simp only [St.mk.injEq, true_and] at hst
    obtain ⟨rfl, rfl⟩ := hst
    rcases hx with ⟨hk, _⟩ | ⟨_, x1, x2, x3⟩
    · simp at hk
    have hno : notLF (gd l (run notLF l i)) = false := run_stop _ _ (Nat.le_refl _) x1
    rw [run_eq (p := notLF) (l := l') (e := run notLF l i) (by rw [x3]; exact hno) _ i (Nat.le_refl _) (le_run _ _ _) fun j h3 h4 => ⟨by omega, by rw [hs j h3 h4]; exact run_all _ _ (Nat.le_refl _) j h3 h4⟩]
  rename_i h2; rw [if_neg h2]
  split at hst
  · rename_i h3; rw [if_pos h3]
    split at hst
    · simp at hst
    rename_i h4
    simp only [St.mk.injEq, true_and] at hst
    obtain ⟨rfl, rfl⟩ := hst
    rcases hx with ⟨_, hx⟩ | ⟨hk, _⟩
    · have := run_same isIn_zero rfl hs (ends_in hx (run_behind isIn_zero l i))
      rw [this, if_neg h4]
    · simp at hk
  rename_i h3; rw [if_neg h3]
  split at hst
  · rename_i h4; rw [if_pos h4]
    split at hst
    · simp at hst
    rename_i h5
    simp only [St.mk.injEq, true_and] at hst
    obtain ⟨rfl, rfl⟩ := hst
    rcases hx with ⟨_, hx⟩ | ⟨hk, _⟩
    · have hb : badAfter (gd l (numEnd l i)) = false := by
        by_cases h6 : numEnd l i < l.length
        · cases hq : badAfter (gd l (numEnd l i))
          · rfl
          · exact absurd ⟨h6, hq⟩ h5
        · rw [gd_over _ _ (by omega)]; exact bad_zero
      rw [numEnd_same rfl hs hb hx, if_neg (fun hc => by rw [ends_bad hx hb] at hc; exact absurd hc.2 (by simp))]
    · simp at hk
  rename_i h4; rw [if_neg h4]
  split at hst
  · rename_i h5; rw [if_pos h5]; exact hst
  · simp at hst

/-- scanning as far as a token's end: the same in a text that goes on there with a blank -/
theorem scan_cut {l l' : List Nat} {p : Nat} {r : List Tk} (hag : ∀ j, j < p → gd l' j = gd l j) (hp : p < l'.length) (hnext : gd l' p = 32) (hr : scanAt l' p = (r, 0)) (n : Nat) :
    ∀ i ts k t, l.length - i ≤ n → scanAt l i = (ts, 0) → ts[k]? = some t → t.fin = p → scanAt l' i = (ts.take (k + 1) ++ r, 0) ∧ scanAt l p = (ts.drop (k + 1), 0) ∧ i < p := by
  induction n with
  | zero =>
    intro i ts k t h1 h2 h3 h4
    rw [scanAt_end (by omega)] at h2
    cases h2; simp at h3
  | succ n ih =>
    intro i ts k t h1 h2 h3 h4
    by_cases hi : i < l.length
    · have he : (stepAt l i).err = 0 := by
        by_cases he : (stepAt l i).err = 0
        · exact he
        · rw [scanAt_err hi he] at h2; exact absurd (Prod.mk.inj h2).2 he
      have hf := stepAt_fin hi he
      rw [scanAt_step hi he] at h2
      obtain ⟨st, hst⟩ : ∃ st, st = stepAt l i := ⟨_, rfl⟩
      rw [← hst] at h2 he hf
      have hz : (scanAt l st.fin).2 = 0 := by
        by_cases hz : (scanAt l st.fin).2 = 0
        · exact hz
        · rw [if_pos hz] at h2; exact absurd (Prod.mk.inj h2).2 hz
      rw [if_neg (by simpa using hz)] at h2
      have hst' : stepAt l i = ⟨0, st.kind, st.fin⟩ := by rw [← hst, ← he]
      split at h2
      · rename_i hk
        have hrest : scanAt l st.fin = (ts, 0) := by
          have : (scanAt l st.fin).1 = ts := by cases h2; rfl
          rw [← this, ← hz]
        obtain ⟨r1, r2, r3⟩ := ih st.fin ts k t (by omega) hrest h3 h4
        have hpl : st.fin < l.length := by
          by_cases hh : st.fin < l.length
          · exact hh
          · rw [scanAt_end (by omega)] at hrest; cases hrest; simp at h3
        have hs' := step_same (l' := l') hi hst' (fun j _ h6 => hag j (by omega)) (by omega) (.inr ⟨hk, hpl, by omega, hag _ r3⟩)
        refine ⟨?_, r2, by omega⟩
        rw [scanAt_step (by omega) (by rw [hs']), hs', if_neg (by rw [r1]; simp), if_pos hk, r1]
      · rename_i hk
        obtain ⟨ts', rfl⟩ : ∃ ts', ts = ⟨st.kind, i, st.fin⟩ :: ts' := by cases h2; exact ⟨_, rfl⟩
        have hrest : scanAt l st.fin = (ts', 0) := by
          have : (scanAt l st.fin).1 = ts' := by cases h2; rfl
          rw [← this, ← hz]
        cases k with
        | zero =>
          simp only [List.getElem?_cons_zero, Option.some.injEq] at h3
          subst h3
          simp only at h4
          have hs' := step_same (l' := l') hi hst' (fun j _ h6 => hag j (by omega)) (by omega) (.inl ⟨hk, by rw [h4, hnext]; exact .inr (.inl rfl)⟩)
          refine ⟨?_, by rw [← h4, hrest]; rfl, by omega⟩
          rw [scanAt_step (by omega) (by rw [hs']), hs', h4, hr, if_neg (by simp), if_neg hk]
          simp
        | succ k =>
          simp only [List.getElem?_cons_succ] at h3
          obtain ⟨r1, r2, r3⟩ := ih st.fin ts' k t (by omega) hrest h3 h4
          have hs' := step_same (l' := l') hi hst' (fun j _ h6 => hag j (by omega)) (by omega) (.inl ⟨hk, .inl (hag _ r3)⟩)
          refine ⟨?_, by rw [r2]; rfl, by omega⟩
          rw [scanAt_step (by omega) (by rw [hs']), hs', if_neg (by rw [r1]; simp), if_neg hk, r1]
          simp
    · rw [scanAt_end (by omega)] at h2
      cases h2; simp at h3
end Go.Proofs.Ytfmkpaegpiipoaa
