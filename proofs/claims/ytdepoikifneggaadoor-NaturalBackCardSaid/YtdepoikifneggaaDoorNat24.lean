/-
  natural.Parse: its short ways, its bytes.
  Conditions: each theorem's own.
-/
import Derived.Test.YtdepoikifneggaaDoorNat23
import Derived.Laws.IdiomStrings
namespace Go.Proofs.YtdepoikifneggaaDoor
open Go.RowKit Go.ChangeShapes Go.WideShapes

theorem parC_big {l : List UInt8} (h : 65536 < l.length) : parC l = 4 ∧ parV l = 0 := by
  have h1 : parC l = 4 := by unfold parC; rw [if_pos h]
  exact ⟨h1, by unfold parV; rw [h1, if_neg (by decide)]⟩
theorem parC_form {l : List UInt8} (h : l.length ≤ 65536) (h2 : l = [] ∨ (l.head? = some 48 ∧ 1 < l.length)) : parC l = 2 ∧ parV l = 0 := by
  have h1 : parC l = 2 := by unfold parC; rw [if_neg (by omega), if_pos h2]
  exact ⟨h1, by unfold parV; rw [h1, if_neg (by decide)]⟩
theorem parC_scan {l : List UInt8} (h : l.length ≤ 65536) (h2 : ¬ (l = [] ∨ (l.head? = some 48 ∧ 1 < l.length))) : parC l = (if l.all isDig then 0 else 2) ∧ parV l = if l.all isDig then decN l else 0 := by
  have h1 : parC l = if l.all isDig then 0 else 2 := by unfold parC; rw [if_neg (by omega), if_neg h2]
  refine ⟨h1, ?_⟩
  unfold parV; rw [h1]
  by_cases h3 : l.all isDig = true
  · rw [if_pos h3, if_pos h3, if_pos rfl]
  · rw [if_neg h3, if_neg h3, if_neg (by decide)]
/-- the ways of a text -/
theorem par_cases (l : List UInt8) : 65536 < l.length ∨ l = [] ∨ (∃ y m, l = 48 :: y :: m ∧ l.length ≤ 65536) ∨ (l.length ≤ 65536 ∧ ¬ (l = [] ∨ (l.head? = some 48 ∧ 1 < l.length)) ∧ ∃ h : 0 < l.length, l[0].toNat = 48 → l.length = 1) := by
  by_cases h1 : 65536 < l.length
  · exact .inl h1
  · cases l with
    | nil => exact .inr (.inl rfl)
    | cons x l =>
      by_cases h2 : x = 48 ∧ 0 < l.length
      · obtain ⟨rfl, h3⟩ := h2
        cases l with
        | nil => simp at h3
        | cons y l => exact .inr (.inr (.inl ⟨y, l, rfl, by omega⟩))
      · refine .inr (.inr (.inr ⟨by omega, ?_, by simp, ?_⟩))
        · rintro (h | ⟨h, h4⟩)
          · cases h
          · exact h2 ⟨by simpa using h, by simp at h4; omega⟩
        · intro e
          have e1 : x = 48 := UInt8.toNat_inj.1 e
          have h5 : ¬ 0 < l.length := fun h6 => h2 ⟨e1, h6⟩
          rw [List.length_cons]; omega

theorem rparse_any (l : List UInt8) (w : World) (h : l.length ≤ 400 ∨ 65536 < l.length ∧ l.length ≤ 9223372036854775807) :
    Calls Tryd.prog 45 #[.string ⟨l.toArray⟩] w (RetNE w (parV l) (.int .i64 (parC l : Nat))) := by
  rcases par_cases l with h1 | rfl | ⟨y, m, rfl, h1⟩ | ⟨h1, h2, h3, h4⟩
  · obtain ⟨e1, e2⟩ := parC_big h1
    rw [e1, e2]; exact rparse_large l w h1 (by omega)
  · obtain ⟨e1, e2⟩ := parC_form (l := []) (by decide) (.inl rfl)
    rw [e1, e2]; exact rparse_empty w
  · obtain ⟨e1, e2⟩ := parC_form (l := 48 :: y :: m) h1 (.inr ⟨rfl, by simp⟩)
    rw [e1, e2]; exact rparse_zero y m w (by simp at h1; omega)
  · obtain ⟨e1, e2⟩ := parC_scan h1 h2
    rw [e1, e2]; exact rparse_loop l w (by omega) h3 h4

/-- '[]byte(s)' -/
theorem conv_bytes (l : List UInt8) (wx : World) : ∃ c w2, (convert 9 70 (.string ⟨l.toArray⟩)).run Tryd.prog wx = .ok (.slice (some ⟨wx.heap.size, 0, none⟩) l.length c) w2 ∧ Below wx.heap.size wx w2 ∧
    ∀ k (h : k < l.length), w2.cell? ⟨wx.heap.size, k, none⟩ = some (.int .u8 ((l[k]).toNat : Nat)) := by
  have h := run_bytes_of_string (P := Tryd.prog) wx 9 70 5 ⟨l.toArray⟩ Tryd.underlying9 Tryd.underlying70 Tryd.underlying5
  have hs : (ByteArray.mk l.toArray).size = l.length := by simp [ByteArray.size]
  refine ⟨_, _, h.trans (by rw [hs]), (Below.refl _ _).drew.alloc (by simp) _, ?_⟩
  intro k hk
  have e : wx.heap.size = wx.drew.heap.size := by simp
  rw [e, cell_of_row _ _ _ _ _ _ (heap_alloc_new _ _)]
  unfold bytesRow
  rw [Array.getElem?_append_left (by simp; exact hk)]
  simp [hk]
set_option maxRecDepth 100000 in
set_option maxHeartbeats 400000 in
theorem parse_large (l : List UInt8) (w : World) (h : 65536 < l.length) (hm : l.length ≤ 9223372036854775807) :
    Calls Tryd.prog 44 #[.string ⟨l.toArray⟩] w (RetNE w 0 (errV 4)) := by
  rw [errV_pos (by decide)]
  have f1 : decide ((65536 : Int) < (l.length : Int)) = true := decide_eq_true (by omega)
  go_enter Tryd.func44, Tryd.ntmps44
  go_wp2_with fail
  go_ret2
  exact ⟨_, rfl, Below.refl _ _, by rw [wd_zero]; exact Num.nil _⟩
set_option maxRecDepth 100000 in
set_option maxHeartbeats 400000 in
theorem parse_empty (w : World) :
    Calls Tryd.prog 44 #[.string ⟨([] : List UInt8).toArray⟩] w (RetNE w 0 (errV 2)) := by
  rw [errV_pos (by decide)]
  go_enter Tryd.func44, Tryd.ntmps44
  go_wp2_with fail
  go_ret2
  exact ⟨_, rfl, Below.refl _ _, by rw [wd_zero]; exact Num.nil _⟩
set_option maxRecDepth 100000 in
set_option maxHeartbeats 400000 in
theorem parse_zero (y : UInt8) (l : List UInt8) (w : World) (h : l.length ≤ 65534) :
    Calls Tryd.prog 44 #[.string ⟨(48 :: y :: l).toArray⟩] w (RetNE w 0 (errV 2)) := by
  rw [errV_pos (by decide)]
  have f1 : decide ((65536 : Int) < (l.length : Int) + 1 + 1) = false := decide_eq_false (by omega)
  have f2 : decide ((1 : Int) < (l.length : Int) + 1 + 1) = true := decide_eq_true (by omega)
  go_enter Tryd.func44, Tryd.ntmps44
  go_wp2_with fail
  go_ret2
  exact ⟨_, rfl, Below.refl _ _, by rw [wd_zero]; exact Num.nil _⟩
end Go.Proofs.YtdepoikifneggaaDoor
