/-
  Plain texts: the bytes of joined and cut texts; the texts of tokens in a text with a gap.
  Conditions: each theorem's own.
-/
import Derived.Test.YtfmkpaegpiipoaaTokMath4
import Derived.Test.YtfmkpaegpiipoaaTokOwn
import Derived.Test.YtfmkpaegpiipoaaBytes
namespace Go.Proofs.Ytfmkpaegpiipoaa
open Go.RowKit

theorem bs_inj {a b : ByteArray} (h : bs a = bs b) : a = b := by
  have : a.data.toList = b.data.toList := by
    unfold bs at h
    exact List.map_inj_right (fun x y => UInt8.toNat_inj.1) |>.1 h
  cases a; cases b
  simp only [ByteArray.mk.injEq]
  exact Array.toList_inj.1 this
theorem bs_append (a b : ByteArray) : bs (a ++ b) = bs a ++ bs b := by
  unfold bs
  rw [ByteArray.data_append, Array.toList_append, List.map_append]
theorem bs_extract (s : ByteArray) (a b : Nat) : bs (s.extract a b) = ((bs s).drop a).take (b - a) := by
  unfold bs
  rw [ByteArray.data_extract, Array.toList_extract, List.extract_eq_take_drop, List.map_take, List.map_drop]
theorem bs_strOf {l : List Nat} (h : U8 l) : bs (strOf l) = l := by
  unfold bs strOf
  simp only [List.map_map]
  have : ∀ x ∈ l, (UInt8.toNat ∘ UInt8.ofNat) x = id x := by
    intro x hx
    obtain ⟨j, hj, rfl⟩ := List.getElem_of_mem hx
    have := h j
    rw [gd_lt _ _ hj] at this
    simp [Nat.mod_eq_of_lt this]
  rw [List.map_congr_left this, List.map_id]
theorem u8_bs (s : ByteArray) : U8 (bs s) := fun j => bs_lt s j
theorem strOf_append (a b : List Nat) : strOf a ++ strOf b = strOf (a ++ b) := by
  unfold strOf
  rw [List.map_append, ByteArray.mk_append_mk]
theorem text_bytes (s : ByteArray) (t : Tk) : bs (mkTok s t).text = ((bs s).drop t.at_).take (t.fin - t.at_) := bs_extract _ _ _
theorem cut_pre (l x : List Nat) (p a b : Nat) (h1 : a ≤ b) (h2 : b ≤ p) (h3 : p ≤ l.length) : ((l.take p ++ x).drop a).take (b - a) = (l.drop a).take (b - a) := by
  apply gd_ext
  · simp; omega
  · intro j hj
    simp only [List.length_take, List.length_drop, List.length_append] at hj
    rw [gd_take, gd_take, gd_drop, gd_drop, gd_append, gd_take, List.length_take]
    repeat' split
    all_goals first | rfl | omega
theorem cut_suf (l g : List Nat) (p a b : Nat) (h1 : p ≤ a) (h3 : p ≤ l.length) : ((l.take p ++ (g ++ l.drop p)).drop (a + g.length)).take (b + g.length - (a + g.length)) = (l.drop a).take (b - a) := by
  have e : b + g.length - (a + g.length) = b - a := by omega
  have hl : (l.take p ++ g).length = p + g.length := by rw [List.length_append, List.length_take]; omega
  rw [e, ← List.append_assoc, List.drop_append, List.drop_eq_nil_of_le (by omega), List.nil_append, hl, List.drop_drop]
  congr 2; omega

/-- TokenSpaces: the tokens of the new text have the kinds and texts of the old one -/
theorem spaces_same {s g : ByteArray} {m : List Nat} {ts : List Tk} {k p : Nat} (hm : ∀ x ∈ m, x ≠ 10) (hg : bs g = gapL m) (h : scanAt (bs s) 0 = (ts, 0))
    (hk : (k = 0 ∧ p = 0) ∨ ∃ k' t, k = k' + 1 ∧ ts[k']? = some t ∧ p = t.fin) (hsmall : s.size + g.size ≤ 65536) :
    ∃ ts' : List Tk, splitL (bs (s.extract 0 p ++ g ++ s.extract p s.size)) = (ts', 0) ∧ ts'.length = ts.length ∧
      ∀ (i : Nat) (t : Tk), ts[i]? = some t → ∃ t' : Tk, ts'[i]? = some t' ∧ t'.kind = t.kind ∧ (mkTok (s.extract 0 p ++ g ++ s.extract p s.size) t').text = (mkTok s t).text := by
  obtain ⟨h1, h2, h3, h4⟩ := scan_insert hm h k p hk
  have hall := scan_tok _ 0 ts (Nat.le_refl _) h
  have hb : bs (s.extract 0 p ++ g ++ s.extract p s.size) = (bs s).take p ++ (gapL m ++ (bs s).drop p) := by
    rw [bs_append, bs_append, bs_extract, bs_extract, hg, List.append_assoc, List.drop_zero, Nat.sub_zero]
    rw [List.take_of_length_le (l := (bs s).drop p) (by rw [List.length_drop, bs_length]; exact Nat.le_refl _)]
  refine ⟨_, by rw [hb]; unfold splitL; rw [if_neg (by have := congrArg List.length hg; rw [bs_length] at this; rw [List.length_append, List.length_append, List.length_take, List.length_drop, bs_length]; omega)]; exact h2, by simp; omega, ?_⟩
  intro i t ht
  have hat := hall t (List.mem_of_getElem? ht)
  by_cases hik : i < k
  · refine ⟨t, ?_, rfl, ?_⟩
    · rw [List.getElem?_append_left (by rw [List.length_take]; have := (List.getElem?_eq_some_iff.1 ht).1; omega), List.getElem?_take, if_pos hik]; exact ht
    · have hmem : t ∈ ts.take k := List.mem_of_getElem? (by rw [List.getElem?_take, if_pos hik]; exact ht)
      apply bs_inj
      rw [text_bytes, text_bytes, hb]
      exact cut_pre _ _ _ _ _ (by omega) (h3 t hmem) h1
  · have hmem : t ∈ ts.drop k := List.mem_of_getElem? (i := i - k) (by rw [List.getElem?_drop, show k + (i - k) = i by omega]; exact ht)
    have hklen : k ≤ ts.length := by have := (List.getElem?_eq_some_iff.1 ht).1; omega
    refine ⟨⟨t.kind, t.at_ + (gapL m).length, t.fin + (gapL m).length⟩, ?_, rfl, ?_⟩
    · rw [List.getElem?_append_right (by rw [List.length_take]; omega), List.length_take, show i - min k ts.length = i - k by omega, List.getElem?_map, List.getElem?_drop, show k + (i - k) = i by omega, ht]; rfl
    · apply bs_inj
      rw [text_bytes, text_bytes, hb]
      exact cut_suf _ _ _ _ _ (h4 t hmem) h1
end Go.Proofs.Ytfmkpaegpiipoaa
