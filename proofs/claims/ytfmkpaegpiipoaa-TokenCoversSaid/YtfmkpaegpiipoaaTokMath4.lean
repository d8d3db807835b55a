/-
  Plain lists: a gap of blanks and a comment between tokens; the joined tokens of a text.
  Conditions: each theorem's own.
-/
import Derived.Test.YtfmkpaegpiipoaaTokMath3
namespace Go.Proofs.Ytfmkpaegpiipoaa
open Go.RowKit

theorem skip_one {l : List Nat} {i e : Nat} {r : List Tk} (hi : i < l.length) (hs : stepAt l i = ⟨0, 3, e⟩) (h : scanAt l e = (r, 0)) : scanAt l i = (r, 0) := by
  rw [scanAt_step hi (by rw [hs]), hs, h]; simp
theorem take_one {l : List Nat} {i k e : Nat} {r : List Tk} (hi : i < l.length) (hs : stepAt l i = ⟨0, k, e⟩) (hk : k ≠ 3) (h : scanAt l e = (r, 0)) : scanAt l i = (⟨k, i, e⟩ :: r, 0) := by
  rw [scanAt_step hi (by rw [hs]), hs, h]; simp [hk]
theorem step_blank {l : List Nat} {i : Nat} (h : isBlank (gd l i) = true) : stepAt l i = ⟨0, 3, i + 1⟩ := by
  unfold stepAt; rw [if_pos h]
theorem step_hash {l : List Nat} {i : Nat} (h : gd l i = 35) : stepAt l i = ⟨0, 3, run notLF l i⟩ := by
  unfold stepAt; rw [h]; rfl

/-- blanks and a comment with its line's end -/
def gapL (m : List Nat) : List Nat := 32 :: 35 :: (m ++ [10, 9, 13, 32])
theorem gapL_length (m : List Nat) : (gapL m).length = m.length + 6 := by simp [gapL]
theorem scan_gap {m suf : List Nat} {r : List Tk} (hm : ∀ x ∈ m, x ≠ 10) (h : scanAt suf 0 = (r, 0)) : scanAt (gapL m ++ suf) 0 = (r.map (mvTk (gapL m).length), 0) := by
  have hl := gapL_length m
  have hmv := scan_move (gapL m) suf 0 r h
  have hg : ∀ j, j < (gapL m).length → gd (gapL m ++ suf) j = gd (gapL m) j := fun j hj => by rw [gd_append, if_pos hj]
  have htail : ∀ d, gd (gapL m) (m.length + 2 + d) = gd [10, 9, 13, 32] d := fun d => by
    rw [show m.length + 2 + d = (m.length + d) + 1 + 1 by omega]
    show gd (m ++ [10, 9, 13, 32]) (m.length + d) = _
    rw [gd_append, if_neg (by omega), Nat.add_sub_cancel_left]
  have hlen : (gapL m ++ suf).length = m.length + 6 + suf.length := by rw [List.length_append, hl]
  have b0 : gd (gapL m ++ suf) 0 = 32 := by rw [hg 0 (by omega)]; rfl
  have b1 : gd (gapL m ++ suf) 1 = 35 := by rw [hg 1 (by omega)]; rfl
  have c0 : gd (gapL m ++ suf) (m.length + 2) = 10 := by rw [hg _ (by omega)]; exact htail 0
  have c1 : gd (gapL m ++ suf) (m.length + 3) = 9 := by rw [hg _ (by omega)]; exact htail 1
  have c2 : gd (gapL m ++ suf) (m.length + 4) = 13 := by rw [hg _ (by omega)]; exact htail 2
  have c3 : gd (gapL m ++ suf) (m.length + 5) = 32 := by rw [hg _ (by omega)]; exact htail 3
  have hrun : run notLF (gapL m ++ suf) 1 = m.length + 2 := by
    refine run_eq (by rw [c0]; rfl) (m.length + 1) 1 (by omega) (by omega) fun j h1 h2 => ⟨by omega, ?_⟩
    by_cases hj : j = 1
    · rw [hj, b1]; rfl
    · obtain ⟨d, rfl⟩ : ∃ d, j = d + 1 + 1 := ⟨j - 2, by omega⟩
      rw [hg _ (by omega)]
      show notLF (gd (m ++ [10, 9, 13, 32]) d) = true
      rw [gd_append, if_pos (by omega), gd_lt _ _ (by omega)]
      simp [notLF, hm _ (List.getElem_mem (show d < m.length by omega))]
  have s5 := skip_one (l := gapL m ++ suf) (i := m.length + 5) (by omega) (step_blank (by rw [c3]; rfl)) (by rw [show m.length + 5 + 1 = (gapL m).length + 0 by omega]; exact hmv)
  have s4 := skip_one (l := gapL m ++ suf) (i := m.length + 4) (by omega) (step_blank (by rw [c2]; rfl)) s5
  have s3 := skip_one (l := gapL m ++ suf) (i := m.length + 3) (by omega) (step_blank (by rw [c1]; rfl)) s4
  have s2 := skip_one (l := gapL m ++ suf) (i := m.length + 2) (by omega) (step_blank (by rw [c0]; rfl)) s3
  have s1 := skip_one (l := gapL m ++ suf) (i := 1) (by omega) (by rw [step_hash b1, hrun]) s2
  exact skip_one (l := gapL m ++ suf) (i := 0) (by omega) (step_blank (by rw [b0]; rfl)) s1

/-- the tokens of a text stand in it, in order -/
theorem scan_tok {l : List Nat} (n : Nat) : ∀ i ts, l.length - i ≤ n → scanAt l i = (ts, 0) → ∀ t ∈ ts, i ≤ t.at_ ∧ t.at_ < t.fin ∧ t.fin ≤ l.length ∧ t.kind ≠ 3 ∧ stepAt l t.at_ = ⟨0, t.kind, t.fin⟩ := by
  induction n with
  | zero => intro i ts h hs t ht; rw [scanAt_end (by omega)] at hs; cases hs; cases ht
  | succ n ih =>
    intro i ts h hs t ht
    by_cases hi : i < l.length
    · have he : (stepAt l i).err = 0 := by
        by_cases he : (stepAt l i).err = 0
        · exact he
        · rw [scanAt_err hi he] at hs; exact absurd (Prod.mk.inj hs).2 he
      have hf := stepAt_fin hi he
      rw [scanAt_step hi he] at hs
      obtain ⟨st, hst⟩ : ∃ st, st = stepAt l i := ⟨_, rfl⟩
      rw [← hst] at hs he hf
      have hst' : stepAt l i = ⟨0, st.kind, st.fin⟩ := by rw [← hst, ← he]
      have hz : (scanAt l st.fin).2 = 0 := by
        by_cases hz : (scanAt l st.fin).2 = 0
        · exact hz
        · rw [if_pos hz] at hs; exact absurd (Prod.mk.inj hs).2 hz
      rw [if_neg (by simpa using hz)] at hs
      have hrest := ih st.fin (scanAt l st.fin).1 (by omega) (by rw [← hz])
      split at hs
      · have : (scanAt l st.fin).1 = ts := by cases hs; rfl
        rw [this] at hrest
        have := hrest t ht
        exact ⟨by omega, this.2⟩
      · rename_i hk
        obtain rfl : ⟨st.kind, i, st.fin⟩ :: (scanAt l st.fin).1 = ts := by cases hs; rfl
        rcases List.mem_cons.1 ht with rfl | ht
        · exact ⟨Nat.le_refl _, hf.1, hf.2, hk, hst'⟩
        · have := hrest t ht
          exact ⟨by omega, this.2⟩
    · rw [scanAt_end (by omega)] at hs; cases hs; cases ht

/-- tokens stand behind each other -/
theorem scan_before {l : List Nat} (n : Nat) : ∀ i ts k t, l.length - i ≤ n → scanAt l i = (ts, 0) → ts[k]? = some t → ∀ x ∈ ts.take (k + 1), x.fin ≤ t.fin := by
  induction n with
  | zero => intro i ts k t h hs ht; rw [scanAt_end (by omega)] at hs; cases hs; cases ht
  | succ n ih =>
    intro i ts k t h hs ht x hx
    by_cases hi : i < l.length
    · have he : (stepAt l i).err = 0 := by
        by_cases he : (stepAt l i).err = 0
        · exact he
        · rw [scanAt_err hi he] at hs; exact absurd (Prod.mk.inj hs).2 he
      have hf := stepAt_fin hi he
      rw [scanAt_step hi he] at hs
      obtain ⟨st, hst⟩ : ∃ st, st = stepAt l i := ⟨_, rfl⟩
      rw [← hst] at hs he hf
      have hz : (scanAt l st.fin).2 = 0 := by
        by_cases hz : (scanAt l st.fin).2 = 0
        · exact hz
        · rw [if_pos hz] at hs; exact absurd (Prod.mk.inj hs).2 hz
      rw [if_neg (by simpa using hz)] at hs
      have hrest : scanAt l st.fin = ((scanAt l st.fin).1, 0) := by rw [← hz]
      split at hs
      · have : (scanAt l st.fin).1 = ts := by cases hs; rfl
        rw [this] at hrest
        exact ih st.fin ts k t (by omega) hrest ht x hx
      · obtain rfl : ⟨st.kind, i, st.fin⟩ :: (scanAt l st.fin).1 = ts := by cases hs; rfl
        cases k with
        | zero =>
          simp only [List.getElem?_cons_zero, Option.some.injEq] at ht
          subst ht
          simp only [Nat.zero_add, List.take_succ_cons, List.take_zero, List.mem_singleton] at hx
          subst hx; exact Nat.le_refl _
        | succ k =>
          simp only [List.getElem?_cons_succ] at ht
          have hge := (scan_tok _ _ _ (Nat.le_refl _) hrest t (List.mem_of_getElem? ht))
          rw [List.take_succ_cons] at hx
          rcases List.mem_cons.1 hx with rfl | hx
          · simp only; omega
          · exact ih st.fin _ k t (by omega) hrest ht x hx
    · rw [scanAt_end (by omega)] at hs; cases hs; cases ht

/-- TokenSpaces: the tokens of a text into which a gap is laid behind a token, or ahead of all -/
theorem scan_insert {l m : List Nat} {ts : List Tk} (hm : ∀ x ∈ m, x ≠ 10) (h : scanAt l 0 = (ts, 0)) (k p : Nat) (hk : (k = 0 ∧ p = 0) ∨ ∃ k' t, k = k' + 1 ∧ ts[k']? = some t ∧ p = t.fin) :
    p ≤ l.length ∧ scanAt (l.take p ++ (gapL m ++ l.drop p)) 0 = (ts.take k ++ (ts.drop k).map (fun t => ⟨t.kind, t.at_ + (gapL m).length, t.fin + (gapL m).length⟩), 0) ∧ (∀ t ∈ ts.take k, t.fin ≤ p) ∧ (∀ t ∈ ts.drop k, p ≤ t.at_) := by
  have hmvid : ∀ (r : List Tk), (r.map (mvTk (gapL m).length)) = r.map (fun t => ⟨t.kind, t.at_ + (gapL m).length, t.fin + (gapL m).length⟩) := fun r => by
    apply List.map_congr_left; intro t _; simp [mvTk, Nat.add_comm]
  rcases hk with ⟨rfl, rfl⟩ | ⟨k', t, rfl, ht, rfl⟩
  · refine ⟨by omega, ?_, by simp, by simp⟩
    simp only [List.take_zero, List.drop_zero, List.nil_append]
    rw [scan_gap hm h, hmvid]
  · have hall := scan_tok l.length 0 ts (by omega) h
    have htm := List.mem_of_getElem? ht
    have hpl := (hall t htm).2.2.1
    have hagree : ∀ j, j < t.fin → gd (l.take t.fin ++ (gapL m ++ l.drop t.fin)) j = gd l j := fun j hj => by
      rw [gd_append, if_pos (by rw [List.length_take]; omega), gd_take, if_pos hj]
    have htl : (l.take t.fin).length = t.fin := by rw [List.length_take]; omega
    have hsp : l.take t.fin ++ l.drop t.fin = l := List.take_append_drop _ _
    have hd32 : gd (l.take t.fin ++ [32]) t.fin = 32 := by have := gd_shift (l.take t.fin) [32] 0; rw [htl] at this; exact this
    have hs32 : scanAt (l.take t.fin ++ [32]) t.fin = ([], 0) := by have := scan_move (l.take t.fin) [32] 0 [] (by rfl); rw [htl] at this; exact this
    -- the rest of the text, by itself
    have h0 := (scan_cut (l := l) (l' := l.take t.fin ++ [32]) (p := t.fin) (r := []) (fun j hj => by rw [gd_append, if_pos (by omega), gd_take, if_pos hj]) (by simp; omega) hd32 hs32 l.length 0 ts k' t (by omega) h ht rfl).2.1
    have h1 := scan_shift (l.take t.fin) (l.drop t.fin) _ 0 (Nat.le_refl _)
    rw [hsp, htl, Nat.add_zero, h0] at h1
    obtain ⟨r, hr⟩ : ∃ r, r = (scanAt (l.drop t.fin) 0).1 := ⟨_, rfl⟩
    have hr2 : scanAt (l.drop t.fin) 0 = (r, 0) := by
      exact Prod.ext hr.symm (Prod.mk.inj h1).2.symm
    have hd : ts.drop (k' + 1) = r.map (mvTk t.fin) := by rw [(Prod.mk.inj h1).1, hr]
    have h3 := scan_move (l.take t.fin) (gapL m ++ l.drop t.fin) 0 _ (scan_gap hm hr2)
    rw [htl, Nat.add_zero] at h3
    have hgl : (l.take t.fin ++ (gapL m ++ l.drop t.fin)).length = t.fin + (m.length + 6 + (l.drop t.fin).length) := by simp [gapL_length, htl]
    have hg32 : gd (l.take t.fin ++ (gapL m ++ l.drop t.fin)) t.fin = 32 := by have := gd_shift (l.take t.fin) (gapL m ++ l.drop t.fin) 0; rw [htl] at this; exact this
    have h4 := scan_cut hagree (by omega) hg32 h3 l.length 0 ts k' t (by omega) h ht rfl
    refine ⟨hpl, ?_, ?_, ?_⟩
    · rw [h4.1, hd]
      congr 2
      rw [List.map_map, List.map_map]
      apply List.map_congr_left; intro x _; simp [mvTk]; omega
    · exact scan_before l.length 0 ts k' t (by omega) h ht
    · intro x hx
      rw [hd] at hx
      obtain ⟨y, _, rfl⟩ := List.mem_map.1 hx
      simp [mvTk]
end Go.Proofs.Ytfmkpaegpiipoaa
