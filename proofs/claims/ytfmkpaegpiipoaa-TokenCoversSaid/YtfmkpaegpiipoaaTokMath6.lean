/-
  Plain law of TokenCovers: what stands between the tokens.
  Conditions: each theorem's own.
-/
import Derived.Test.YtfmkpaegpiipoaaTokMath5
namespace Go.Proofs.Ytfmkpaegpiipoaa
open Go.RowKit

/-- whether a comment goes on behind a byte -/
def cm (b : Nat) (c : Bool) : Bool := if b = 10 then false else if b = 35 then true else c
/-- whether place j stands in a comment that began at e or later -/
def cfl (l : List Nat) (e : Nat) : Nat → Bool
  | 0 => false
  | j + 1 => if j < e then false else cm (gd l j) (cfl l e j)
theorem cfl_start (l : List Nat) (e : Nat) : cfl l e e = false := by
  cases e with
  | zero => rfl
  | succ e => simp [cfl]
theorem cfl_succ (l : List Nat) {e j : Nat} (h : e ≤ j) : cfl l e (j + 1) = cm (gd l j) (cfl l e j) := by
  simp only [cfl]; rw [if_neg (by omega)]
/-- a byte that may stand between tokens -/
def okAt (l : List Nat) (e j : Nat) : Prop := cfl l e (j + 1) = true ∨ isBlank (gd l j) = true
/-- where the next token, or the end, is -/
def nextAt (l : List Nat) : List Tk → Nat
  | [] => l.length
  | t :: _ => t.at_

theorem cfl_comment {l : List Nat} {e i : Nat} (he : e ≤ i) (h : gd l i = 35) (n : Nat) : ∀ j, j = i + 1 + n → j ≤ run notLF l i → cfl l e j = true := by
  induction n with
  | zero => intro j hj _; subst hj; rw [cfl_succ l he, h]; rfl
  | succ n ih =>
    intro j hj hr
    obtain rfl : j = (i + 1 + n) + 1 := by omega
    rw [cfl_succ l (by omega), ih _ rfl (by omega)]
    have := run_all (p := notLF) (l := l) _ i (Nat.le_refl _) (i + 1 + n) (by omega) (by omega)
    unfold notLF at this
    simp only [decide_eq_true_eq] at this
    unfold cm
    rw [if_neg this]; split <;> rfl
theorem step_skip {l : List Nat} {i e : Nat} (h : stepAt l i = ⟨0, 3, e⟩) : (isBlank (gd l i) = true ∧ e = i + 1) ∨ (gd l i = 35 ∧ e = run notLF l i) := by
  unfold stepAt at h
  split at h
  · rename_i hb; exact .inl ⟨hb, by cases h; rfl⟩
  split at h
  · rename_i _ hh; exact .inr ⟨hh, by cases h; rfl⟩
  split at h
  · split at h <;> simp at h
  split at h
  · split at h <;> simp at h
  split at h <;> simp at h
theorem blank_not10 {b : Nat} (h : isBlank b = true) : b ≠ 35 := by rintro rfl; revert h; decide

theorem scan_gaps {l : List Nat} {e : Nat} (n : Nat) : ∀ i ts, l.length - i ≤ n → e ≤ i → i ≤ l.length → scanAt l i = (ts, 0) →
    (cfl l e i = true → i = l.length ∨ gd l i = 10) → (∀ j, e ≤ j → j < i → okAt l e j) →
    e ≤ nextAt l ts ∧ nextAt l ts ≤ l.length ∧ (∀ j, e ≤ j → j < nextAt l ts → okAt l e j) ∧
      (∀ t r, ts = t :: r → cfl l e t.at_ = false ∧ t.at_ < t.fin ∧ t.fin ≤ l.length ∧ scanAt l t.fin = (r, 0)) := by
  induction n with
  | zero =>
    intro i ts h he hi hs _ hok
    obtain rfl : i = l.length := by omega
    rw [scanAt_end (Nat.le_refl _)] at hs; cases hs
    exact ⟨he, Nat.le_refl _, hok, fun t r h => by cases h⟩
  | succ n ih =>
    intro i ts h he hi hs hc hok
    by_cases hil : i < l.length
    · have her : (stepAt l i).err = 0 := by
        by_cases he : (stepAt l i).err = 0
        · exact he
        · rw [scanAt_err hil he] at hs; exact absurd (Prod.mk.inj hs).2 he
      have hf := stepAt_fin hil her
      rw [scanAt_step hil her] at hs
      obtain ⟨st, hst⟩ : ∃ st, st = stepAt l i := ⟨_, rfl⟩
      rw [← hst] at hs her hf
      have hst' : stepAt l i = ⟨0, st.kind, st.fin⟩ := by rw [← hst, ← her]
      have hz : (scanAt l st.fin).2 = 0 := by
        by_cases hz : (scanAt l st.fin).2 = 0
        · exact hz
        · rw [if_pos hz] at hs; exact absurd (Prod.mk.inj hs).2 hz
      rw [if_neg (by simpa using hz)] at hs
      have hrest : scanAt l st.fin = ((scanAt l st.fin).1, 0) := by rw [← hz]
      split at hs
      · rename_i hk
        have hts : (scanAt l st.fin).1 = ts := by cases hs; rfl
        rw [hts] at hrest
        rw [hk] at hst'
        refine ih st.fin ts (by omega) (by omega) hf.2 hrest ?_ ?_
        · intro hcf
          rcases step_skip hst' with ⟨hb, hfe⟩ | ⟨hh, hfe⟩
          · rw [hfe, cfl_succ l he] at hcf
            exfalso
            unfold cm at hcf
            by_cases h10 : gd l i = 10
            · rw [if_pos h10] at hcf; cases hcf
            · rw [if_neg h10, if_neg (blank_not10 hb)] at hcf
              rcases hc hcf with h | h
              · omega
              · exact h10 h
          · by_cases hend : st.fin = l.length
            · exact .inl hend
            · right
              have := run_stop (p := notLF) (l := l) _ i (Nat.le_refl _) (by omega)
              rw [← hfe] at this
              unfold notLF at this; simpa using this
        · intro j hj1 hj2
          by_cases hji : j < i
          · exact hok j hj1 hji
          · rcases step_skip hst' with ⟨hb, hfe⟩ | ⟨hh, hfe⟩
            · obtain rfl : j = i := by omega
              exact .inr hb
            · exact .inl (cfl_comment he hh (j - i) (j + 1) (by omega) (by omega))
      · rename_i hk
        obtain rfl : ⟨st.kind, i, st.fin⟩ :: (scanAt l st.fin).1 = ts := by cases hs; rfl
        refine ⟨he, hi, hok, ?_⟩
        intro t r htr
        obtain ⟨rfl, rfl⟩ : (⟨st.kind, i, st.fin⟩ : Tk) = t ∧ (scanAt l st.fin).1 = r := by cases htr; exact ⟨rfl, rfl⟩
        refine ⟨?_, hf.1, hf.2, hrest⟩
        cases hcf : cfl l e i with
        | false => rfl
        | true =>
          exfalso
          rcases hc hcf with h | h
          · omega
          · have hb : stepAt l i = ⟨0, 3, i + 1⟩ := step_blank (by rw [h]; rfl)
            rw [hb] at hst'
            exact hk (congrArg St.kind hst').symm
    · obtain rfl : i = l.length := by omega
      rw [scanAt_end (Nat.le_refl _)] at hs; cases hs
      exact ⟨he, Nat.le_refl _, hok, fun t r h => by cases h⟩
/-- what stands ahead of the next token -/
theorem gap_next {l : List Nat} {e : Nat} {ts : List Tk} (he : e ≤ l.length) (h : scanAt l e = (ts, 0)) :
    e ≤ nextAt l ts ∧ nextAt l ts ≤ l.length ∧ (∀ j, e ≤ j → j < nextAt l ts → okAt l e j) ∧
      (∀ t r, ts = t :: r → cfl l e t.at_ = false ∧ t.at_ < t.fin ∧ t.fin ≤ l.length ∧ scanAt l t.fin = (r, 0)) :=
  scan_gaps _ e ts (Nat.le_refl _) (Nat.le_refl _) he h (fun hc => by rw [cfl_start] at hc; cases hc) (fun j h1 h2 => by omega)
end Go.Proofs.Ytfmkpaegpiipoaa
