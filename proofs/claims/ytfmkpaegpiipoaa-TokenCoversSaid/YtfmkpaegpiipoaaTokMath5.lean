/-
  Plain lists: the joined texts of tokens, split again.
  Conditions: each theorem's own.
-/
import Derived.Test.YtfmkpaegpiipoaaTokPlace
namespace Go.Proofs.Ytfmkpaegpiipoaa
open Go.RowKit

/-- texts with single blanks between -/
def joinL : List (List Nat) → List Nat
  | [] => []
  | [x] => x
  | x :: y :: r => x ++ 32 :: joinL (y :: r)
theorem joinL_length (xs : List (List Nat)) : (joinL xs).length ≤ (xs.map fun x => x.length + 1).sum := by
  induction xs with
  | nil => simp [joinL]
  | cons x xs ih =>
    cases xs with
    | nil => simp [joinL]
    | cons y r => simp only [joinL, List.length_append, List.length_cons, List.map_cons, List.sum_cons] at ih ⊢; omega
theorem join_bytes (xs : List (List UInt8)) : (Lib.join xs [32]).map UInt8.toNat = joinL (xs.map fun x => x.map UInt8.toNat) := by
  induction xs with
  | nil => rfl
  | cons x xs ih =>
    cases xs with
    | nil => simp [Lib.join, joinL, List.intercalate]
    | cons y r =>
      have e : Lib.join (x :: y :: r) [32] = x ++ 32 :: Lib.join (y :: r) [32] := by simp [Lib.join, List.intercalate]
      rw [e, List.map_append, List.map_cons, ih]; rfl
theorem bs_joinT (ts : List TokV) : bs (joinT ts) = joinL (ts.map fun t => bs t.text) := by
  have h := join_bytes (ts.map fun t => t.text.data.toList)
  unfold bs joinT
  rw [h, List.map_map]; rfl

/-- the bytes of a token are no line feeds -/
theorem tok_no10 {l : List Nat} {i k e : Nat} (hst : stepAt l i = ⟨0, k, e⟩) (hk : k ≠ 3) : ∀ j, i ≤ j → j < e → gd l j ≠ 10 := by
  intro j h1 h2
  unfold stepAt at hst
  split at hst
  · simp only [St.mk.injEq, true_and] at hst; omega
  split at hst
  · simp only [St.mk.injEq, true_and] at hst; omega
  split at hst
  · split at hst
    · simp at hst
    · simp only [St.mk.injEq, true_and] at hst
      exact isIn_ne (run_all _ _ (Nat.le_refl _) j h1 (by omega))
  split at hst
  · split at hst
    · simp at hst
    · simp only [St.mk.injEq, true_and] at hst
      exact numEnd_ne h1 (by omega)
  split at hst
  · rename_i hs
    simp only [St.mk.injEq, true_and] at hst
    rw [show j = i by omega]; exact isSign_ne hs
  · simp at hst

/-- a token's text by itself is one token -/
theorem tok_alone {l : List Nat} {i k e : Nat} (hi : i < l.length) (hst : stepAt l i = ⟨0, k, e⟩) (hk : k ≠ 3) :
    stepAt ((l.drop i).take (e - i)) 0 = ⟨0, k, e - i⟩ ∧ ((l.drop i).take (e - i)).length = e - i ∧ 0 < e - i := by
  have hf := stepAt_fin hi (by rw [hst])
  rw [hst] at hf
  simp only at hf
  have hlen : ((l.drop i).take (e - i)).length = e - i := by rw [List.length_take, List.length_drop]; omega
  refine ⟨?_, hlen, by omega⟩
  have hsp : l.take i ++ l.drop i = l := List.take_append_drop _ _
  have hti : (l.take i).length = i := by rw [List.length_take]; omega
  have hsh := step_shift (l.take i) (l.drop i) 0
  rw [hsp, hti, Nat.add_zero, hst] at hsh
  have h0 : stepAt (l.drop i) 0 = ⟨0, k, e - i⟩ := by
    obtain ⟨st, hst'⟩ : ∃ st, st = stepAt (l.drop i) 0 := ⟨_, rfl⟩
    rw [← hst'] at hsh ⊢
    obtain ⟨a, b, c⟩ := st
    simp only [addSt, St.mk.injEq] at hsh
    obtain ⟨rfl, rfl, h3⟩ := hsh
    simp only [if_true] at h3
    simp only [St.mk.injEq, true_and]; omega
  refine step_same (l := l.drop i) (by rw [List.length_drop]; omega) h0 (fun j _ h2 => by rw [gd_take, if_pos h2]) (by omega) (.inl ⟨hk, .inr (.inr ?_)⟩)
  rw [gd_over _ _ (by omega)]

/-- kinds and texts that are tokens by themselves, joined and split -/
theorem scan_join : ∀ xs : List (Nat × List Nat), (∀ p ∈ xs, stepAt p.2 0 = ⟨0, p.1, p.2.length⟩ ∧ 0 < p.2.length ∧ p.1 ≠ 3) →
    ∃ ts : List Tk, scanAt (joinL (xs.map Prod.snd)) 0 = (ts, 0) ∧ ts.length = xs.length ∧
      ∀ (i : Nat) (p : Nat × List Nat), xs[i]? = some p → ∃ t : Tk, ts[i]? = some t ∧ t.kind = p.1 ∧ ((joinL (xs.map Prod.snd)).drop t.at_).take (t.fin - t.at_) = p.2 := by
  intro xs
  induction xs with
  | nil => intro _; exact ⟨[], by rfl, rfl, by simp⟩
  | cons x xs ih =>
    intro h
    obtain ⟨hx1, hx2, hx3⟩ := h x (List.mem_cons_self ..)
    cases xs with
    | nil =>
      refine ⟨[⟨x.1, 0, x.2.length⟩], ?_, rfl, ?_⟩
      · exact take_one (l := x.2) hx2 hx1 hx3 (scanAt_end (Nat.le_refl _))
      · intro i p hp
        cases i with
        | zero =>
          simp at hp; subst hp
          exact ⟨_, rfl, rfl, by simp [joinL]⟩
        | succ i => simp at hp
    | cons y r =>
      obtain ⟨ts, h1, h2, h3⟩ := ih (fun p hp => h p (List.mem_cons_of_mem _ hp))
      obtain ⟨R, hR⟩ : ∃ R, R = joinL ((y :: r).map Prod.snd) := ⟨_, rfl⟩
      have hL : joinL ((x :: y :: r).map Prod.snd) = x.2 ++ 32 :: R := by rw [hR]; rfl
      rw [← hR] at h1 h3
      rw [hL]
      have s1 := scan_move [32] R 0 ts h1
      have s2 : scanAt (32 :: R) 0 = (ts.map (mvTk 1), 0) := skip_one (by simp) (step_blank (by rfl)) s1
      have s3 := scan_move x.2 (32 :: R) 0 _ s2
      have hlt : 0 < (x.2 ++ 32 :: R).length := by rw [List.length_append, List.length_cons]; omega
      have hst : stepAt (x.2 ++ 32 :: R) 0 = ⟨0, x.1, x.2.length⟩ := by
        refine step_same (l := x.2) hx2 hx1 (fun j _ hj => by rw [gd_append, if_pos hj]) hlt (.inl ⟨hx3, .inr (.inl ?_)⟩)
        have := gd_shift x.2 (32 :: R) 0; exact this
      refine ⟨_, take_one hlt hst hx3 s3, by simp [h2], ?_⟩
      intro i p hp
      cases i with
      | zero =>
        simp at hp; subst hp
        exact ⟨_, rfl, rfl, by simp⟩
      | succ i =>
        simp only [List.getElem?_cons_succ] at hp
        obtain ⟨t, ht1, ht2, ht3⟩ := h3 i p hp
        refine ⟨mvTk x.2.length (mvTk 1 t), by simp [ht1], ht2, ?_⟩
        have e1 : (mvTk x.2.length (mvTk 1 t)).at_ = x.2.length + (1 + t.at_) := rfl
        have e2 : (mvTk x.2.length (mvTk 1 t)).fin - (mvTk x.2.length (mvTk 1 t)).at_ = t.fin - t.at_ := by simp [mvTk]; omega
        rw [e2, e1, List.drop_append, List.drop_eq_nil_of_le (by omega), List.nil_append, Nat.add_sub_cancel_left, show 1 + t.at_ = t.at_ + 1 by omega, List.drop_succ_cons]
        exact ht3

theorem joinL_no10 (xs : List (List Nat)) (h : ∀ x ∈ xs, ∀ b ∈ x, b ≠ 10) : ∀ b ∈ joinL xs, b ≠ 10 := by
  induction xs with
  | nil => intro b hb; cases hb
  | cons x xs ih =>
    cases xs with
    | nil => exact h x (List.mem_cons_self ..)
    | cons y r =>
      intro b hb
      simp only [joinL, List.mem_append, List.mem_cons] at hb
      rcases hb with hb | rfl | hb
      · exact h x (List.mem_cons_self ..) b hb
      · decide
      · exact ih (fun z hz => h z (List.mem_cons_of_mem _ hz)) b hb
theorem line_one_of {l : List Nat} (h : ∀ b ∈ l, b ≠ 10) (i : Nat) : lineOf l i = 1 := by
  unfold lineOf
  rw [List.count_eq_zero_of_not_mem (fun hm => h 10 (List.mem_of_mem_take hm) rfl)]

/-- so much room do the joined tokens take -/
theorem scan_room {l : List Nat} (n : Nat) : ∀ i ts, l.length - i ≤ n → scanAt l i = (ts, 0) → (ts.map fun t => t.fin - t.at_ + 1).sum ≤ 2 * (l.length - i) := by
  induction n with
  | zero => intro i ts h hs; rw [scanAt_end (by omega)] at hs; cases hs; simp
  | succ n ih =>
    intro i ts h hs
    by_cases hi : i < l.length
    · have he : (stepAt l i).err = 0 := by
        by_cases he : (stepAt l i).err = 0
        · exact he
        · rw [scanAt_err hi he] at hs; exact absurd (Prod.mk.inj hs).2 he
      have hf := stepAt_fin hi he
      rw [scanAt_step hi he] at hs
      obtain ⟨st, hst⟩ : ∃ st, st = stepAt l i := ⟨_, rfl⟩
      rw [← hst] at hs he hf
      have hz : (scanAt l st.fin).2 = 0 := by
        by_cases hz : (scanAt l st.fin).2 = 0
        · exact hz
        · rw [if_pos hz] at hs; exact absurd (Prod.mk.inj hs).2 hz
      rw [if_neg (by simpa using hz)] at hs
      have hrest := ih st.fin (scanAt l st.fin).1 (by omega) (by rw [← hz])
      split at hs
      · have : (scanAt l st.fin).1 = ts := by cases hs; rfl
        rw [this] at hrest; omega
      · obtain rfl : ⟨st.kind, i, st.fin⟩ :: (scanAt l st.fin).1 = ts := by cases hs; rfl
        simp only [List.map_cons, List.sum_cons]; omega
    · rw [scanAt_end (by omega)] at hs; cases hs; simp

/-- TokenJoins: the joined tokens of a text, split again -/
theorem joins_same {s : ByteArray} {ts : List Tk} (h : scanAt (bs s) 0 = (ts, 0)) (hs : s.size ≤ 3000) :
    (joinT (ts.map (mkTok s))).size ≤ 6000 ∧
    ∃ ts' : List Tk, splitL (bs (joinT (ts.map (mkTok s)))) = (ts', 0) ∧ ts'.length = ts.length ∧
      (∀ (i : Nat) (t : Tk), ts[i]? = some t → ∃ t' : Tk, ts'[i]? = some t' ∧ t'.kind = t.kind ∧ (mkTok (joinT (ts.map (mkTok s))) t').text = (mkTok s t).text ∧ lineOf (bs (joinT (ts.map (mkTok s)))) t'.at_ = 1) ∧
      joinT (ts'.map (mkTok (joinT (ts.map (mkTok s))))) = joinT (ts.map (mkTok s)) := by
  have hall := scan_tok _ 0 ts (Nat.le_refl _) h
  have hroom := scan_room _ 0 ts (Nat.le_refl _) h
  obtain ⟨xs, hxs⟩ : ∃ xs : List (Nat × List Nat), xs = ts.map fun t => (t.kind, ((bs s).drop t.at_).take (t.fin - t.at_)) := ⟨_, rfl⟩
  have hj : bs (joinT (ts.map (mkTok s))) = joinL (xs.map Prod.snd) := by
    rw [bs_joinT, hxs, List.map_map, List.map_map]
    congr 1
    apply List.map_congr_left
    intro t _; exact text_bytes s t
  have hp : ∀ p ∈ xs, stepAt p.2 0 = ⟨0, p.1, p.2.length⟩ ∧ 0 < p.2.length ∧ p.1 ≠ 3 := by
    intro p hp
    rw [hxs] at hp
    obtain ⟨t, ht, rfl⟩ := List.mem_map.1 hp
    obtain ⟨a1, a2, a3, a4, a5⟩ := hall t ht
    obtain ⟨b1, b2, b3⟩ := tok_alone (l := bs s) (by omega) a5 a4
    simp only [b2]
    exact ⟨b1, b3, a4⟩
  have hjlen : (joinT (ts.map (mkTok s))).size ≤ 6000 := by
    rw [← bs_length, hj]
    have h1 := joinL_length (xs.map Prod.snd)
    have h2 : ((xs.map Prod.snd).map fun x => x.length + 1) = ts.map fun t => t.fin - t.at_ + 1 := by
      rw [hxs, List.map_map, List.map_map]
      apply List.map_congr_left
      intro t ht
      obtain ⟨a1, a2, a3, a4, a5⟩ := hall t ht
      simp only [Function.comp_apply, List.length_take, List.length_drop]; omega
    rw [h2] at h1
    rw [bs_length] at hroom; omega
  obtain ⟨ts', c1, c2, c3⟩ := scan_join xs hp
  have hno : ∀ b ∈ joinL (xs.map Prod.snd), b ≠ 10 := by
    apply joinL_no10
    intro x hx b hb
    rw [hxs, List.map_map] at hx
    obtain ⟨t, ht, rfl⟩ := List.mem_map.1 hx
    obtain ⟨a1, a2, a3, a4, a5⟩ := hall t ht
    have := tok_no10 (l := bs s) a5 a4
    obtain ⟨j, hj', rfl⟩ := List.getElem_of_mem hb
    simp only [Function.comp_apply, List.length_take, List.length_drop] at hj'
    have h3 := this (t.at_ + j) (by omega) (by omega)
    simp only [Function.comp_apply, List.getElem_take, List.getElem_drop]
    rwa [gd_lt _ _ (by omega)] at h3
  have hsame : ∀ (i : Nat) (t : Tk), ts[i]? = some t → ∃ t' : Tk, ts'[i]? = some t' ∧ t'.kind = t.kind ∧ (mkTok (joinT (ts.map (mkTok s))) t').text = (mkTok s t).text ∧ lineOf (bs (joinT (ts.map (mkTok s)))) t'.at_ = 1 := by
    intro i t ht
    obtain ⟨t', d1, d2, d3⟩ := c3 i (t.kind, ((bs s).drop t.at_).take (t.fin - t.at_)) (by rw [hxs, List.getElem?_map, ht]; rfl)
    refine ⟨t', d1, d2, ?_, by rw [hj]; exact line_one_of hno _⟩
    apply bs_inj
    rw [text_bytes, text_bytes, hj]; exact d3
  refine ⟨hjlen, ts', ?_, by rw [c2, hxs, List.length_map], hsame, ?_⟩
  · unfold splitL; rw [if_neg (by rw [bs_length]; omega), hj]; exact c1
  · apply bs_inj
    rw [bs_joinT, hj, List.map_map]
    congr 1
    apply List.ext_getElem?
    intro i
    rw [List.getElem?_map, List.getElem?_map]
    cases hx : xs[i]? with
    | none =>
      have : ts'[i]? = none := by rw [List.getElem?_eq_none_iff] at hx ⊢; omega
      rw [this]; rfl
    | some p =>
      obtain ⟨t', d1, d2, d3⟩ := c3 i p hx
      rw [d1]
      simp only [Option.map_some, Function.comp_apply, Option.some.injEq]
      rw [text_bytes, hj]; exact d3
end Go.Proofs.Ytfmkpaegpiipoaa
