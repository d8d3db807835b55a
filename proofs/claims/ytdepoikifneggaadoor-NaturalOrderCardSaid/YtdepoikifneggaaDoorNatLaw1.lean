/-
  NaturalSums: the walk of the statement.
  Conditions: none.
-/
import Derived.Test.YtdepoikifneggaaDoorNatAwake
namespace Go.Proofs.YtdepoikifneggaaDoor
open Go.RowKit Go.ChangeShapes Go.WideShapes

theorem large2 (va vb : Value) (a b : List Nat) (w : World) (T : TypeId) (ha : Num w va a) (hb : Num w vb b) :
    Calls Tryd.prog 15 #[.slice (some ⟨w.heap.size, 0, none⟩) 2 2] (w.alloc (.cells #[va, vb] T)) (RetS (w.alloc (.cells #[va, vb] T)) (.bool (decide (40 < a.length) || decide (40 < b.length)))) := by
  obtain ⟨ao, ca, rfl, hca, hca2, _⟩ := ha.shape
  obtain ⟨bo, cb, rfl, hcb, hcb2, _⟩ := hb.shape
  have h := large_any w.heap.size 2 2 (fun j => if j = 0 then a.length else b.length) (w.alloc (.cells #[.slice ao a.length ca, .slice bo b.length cb] T)) (Nat.le_refl _) (by omega) (fun j => by show (if j = 0 then _ else _) ≤ _; split <;> omega) (fun j hj => by
    rw [cell_of_row (w.alloc (.cells #[.slice ao a.length ca, .slice bo b.length cb] T)) w.heap.size j _ T (0, 0) (heap_alloc_new w _)]
    match j, hj with
    | 0, _ => exact ⟨_, _, rfl⟩
    | 1, _ => exact ⟨_, _, rfl⟩)
  exact h
theorem large1 (va : Value) (a : List Nat) (w : World) (T : TypeId) (ha : Num w va a) :
    Calls Tryd.prog 15 #[.slice (some ⟨w.heap.size, 0, none⟩) 1 1] (w.alloc (.cells #[va] T)) (RetS (w.alloc (.cells #[va] T)) (.bool (decide (40 < a.length)))) := by
  obtain ⟨ao, ca, rfl, hca, hca2, _⟩ := ha.shape
  have h := large_any w.heap.size 1 1 (fun _ => a.length) (w.alloc (.cells #[.slice ao a.length ca] T)) (Nat.le_refl _) (by omega) (fun j => by omega) (fun j hj => by
    rw [cell_of_row (w.alloc (.cells #[.slice ao a.length ca] T)) w.heap.size j _ T (0, 0) (heap_alloc_new w _)]
    match j, hj with
    | 0, _ => exact ⟨_, _, rfl⟩)
  exact h
theorem large3 (va vb vc : Value) (a b c : List Nat) (w : World) (T : TypeId) (ha : Num w va a) (hb : Num w vb b) (hc : Num w vc c) :
    Calls Tryd.prog 15 #[.slice (some ⟨w.heap.size, 0, none⟩) 3 3] (w.alloc (.cells #[va, vb, vc] T)) (RetS (w.alloc (.cells #[va, vb, vc] T)) (.bool (decide (40 < a.length) || decide (40 < b.length) || decide (40 < c.length)))) := by
  obtain ⟨ao, ca, rfl, hca, hca2, _⟩ := ha.shape
  obtain ⟨bo, cb, rfl, hcb, hcb2, _⟩ := hb.shape
  obtain ⟨co, cc, rfl, hcc, hcc2, _⟩ := hc.shape
  have h := large_any w.heap.size 3 3 (fun j => if j = 0 then a.length else if j = 1 then b.length else c.length) (w.alloc (.cells #[.slice ao a.length ca, .slice bo b.length cb, .slice co c.length cc] T)) (Nat.le_refl _) (by omega) (fun j => by show (if j = 0 then _ else if j = 1 then _ else _) ≤ _; split <;> (try split) <;> omega) (fun j hj => by
    rw [cell_of_row (w.alloc (.cells #[.slice ao a.length ca, .slice bo b.length cb, .slice co c.length cc] T)) w.heap.size j _ T (0, 0) (heap_alloc_new w _)]
    match j, hj with
    | 0, _ => exact ⟨_, _, rfl⟩
    | 1, _ => exact ⟨_, _, rfl⟩
    | 2, _ => exact ⟨_, _, rfl⟩)
  exact h

/-- the error of a difference -/
def subC (m n : Nat) : Nat := if m < n then 3 else 0
theorem subC_small (m n : Nat) : subC m n < 1000 := by unfold subC; split <;> omega
theorem sub_any (va vb : Value) (a b : List Nat) (w : World) (ha : Num w va a) (hb : Num w vb b) (hla : a.length ≤ 900000) (hlb : b.length ≤ 900000) :
    Calls Tryd.prog 30 #[va, vb] w (RetNE w (val a - val b) (errV (subC (val a) (val b)))) := by
  by_cases h : val a < val b
  · have := sub_lt va vb a b w ha hb hla hlb h
    rw [show val a - val b = 0 by omega, show subC (val a) (val b) = 3 by unfold subC; rw [if_pos h]]; exact this
  · have := sub_ge va vb a b w ha hb hla hlb (by omega)
    rw [show subC (val a) (val b) = 0 by unfold subC; rw [if_neg h]]; exact this
theorem rsub_any (va vb : Value) (a b : List Nat) (w : World) (ha : Num w va a) (hb : Num w vb b) (hla : a.length ≤ 900000) (hlb : b.length ≤ 900000) :
    Calls Tryd.prog 31 #[va, vb] w (RetNE w (val a - val b) (.int .i64 (subC (val a) (val b) : Nat))) := by
  by_cases h : val a < val b
  · have := rsub_lt va vb a b w ha hb hla hlb h
    rw [show val a - val b = 0 by omega, show subC (val a) (val b) = 3 by unfold subC; rw [if_pos h]]; exact this
  · have := rsub_ge va vb a b w ha hb hla hlb (by omega)
    rw [show subC (val a) (val b) = 0 by unfold subC; rw [if_neg h]]; exact this

set_option maxRecDepth 100000 in
set_option maxHeartbeats 4000000 in
theorem sums_walk (va vb : Value) (a b : List Nat) (w : World) (ha : Num w va a) (hb : Num w vb b) :
    Calls Tryd.prog 5 #[va, vb] w (RetV w (.bool true)) := by
  obtain ⟨ao, ca, rfl, hca, hca2, _⟩ := ha.shape
  obtain ⟨bo, cb, rfl, hcb, hcb2, _⟩ := hb.shape
  have HA := Lib.hid ha; have HB := Lib.hid hb
  clear ha hb
  by_cases hbig : (decide (40 < a.length) || decide (40 < b.length)) = true
  · have HBIG := Lib.hid hbig; clear hbig
    go_enter Tryd.func5, Tryd.ntmps5
    go_wp2_with fail
    (with_reducible refine (awake_any _).mono ?_); rintro e w1 ⟨rfl, hb1⟩
    have hla := large2 (.slice ao a.length ca) (.slice bo b.length cb) a b w1 22 (HA.out.below hb1) (HB.out.below hb1)
    rw [HBIG.out] at hla
    have HLA := Lib.hid hla; clear hla
    go_wp2_with fail
    (with_reducible refine HLA.out.mono ?_); rintro e w2 ⟨rfl, rfl⟩
    go_wp2_with fail
    (with_reducible refine (awake_any _).mono ?_); rintro e w3 ⟨rfl, hb3⟩
    go_wp2_with fail
    go_ret
    exact ⟨rfl, (hb1.alloc hb1.size _).trans (hb3.mono (by have := hb1.size; simp; omega))⟩
  · have hbf := Bool.eq_false_iff.2 hbig
    have hl : a.length ≤ 40 ∧ b.length ≤ 40 := by simp at hbf; exact hbf
    have HBIG := Lib.hid hbf; clear hbig hbf
    obtain ⟨hla40, hlb40⟩ := hl
    go_enter Tryd.func5, Tryd.ntmps5
    go_wp2_with fail
    (with_reducible refine (awake_any _).mono ?_); rintro e w1 ⟨rfl, hb1⟩
    have hla := large2 (.slice ao a.length ca) (.slice bo b.length cb) a b w1 22 (HA.out.below hb1) (HB.out.below hb1)
    rw [HBIG.out] at hla
    have HLA := Lib.hid hla; clear hla
    go_wp2_with fail
    (with_reducible refine HLA.out.mono ?_); rintro e w2 ⟨rfl, rfl⟩
    have HB2 := Lib.hid (hb1.alloc hb1.size (.cells #[.slice ao a.length ca, .slice bo b.length cb] 22))
    obtain ⟨w2, hw2⟩ : ∃ w2, w2 = w1.alloc (.cells #[.slice ao a.length ca, .slice bo b.length cb] 22) := ⟨_, rfl⟩
    rw [← hw2] at HB2 ⊢
    have hs := sub_any (.slice ao a.length ca) (.slice bo b.length cb) a b w2 (HA.out.below HB2.out) (HB.out.below HB2.out) (by omega) (by omega)
    have HS := Lib.hid hs
    clear hs hw2 hb1
    go_wp2_with fail
    (with_reducible refine HS.out.mono ?_); rintro e w3 ⟨v3, rfl, hb3, hn3⟩
    have HB3 := Lib.hid (HB2.out.trans (hb3.mono HB2.out.size))
    have hs := rsub_any (.slice ao a.length ca) (.slice bo b.length cb) a b w3 (HA.out.below HB3.out) (HB.out.below HB3.out) (by omega) (by omega)
    have HS := Lib.hid hs; have HN3 := Lib.hid hn3
    clear hs hn3 hb3
    go_wp2_with fail
    (with_reducible refine HS.out.mono ?_); rintro e w4 ⟨v4, rfl, hb4, hn4⟩
    have HB4 := Lib.hid (HB3.out.trans (hb4.mono HB3.out.size))
    have hs := add_any (.slice ao a.length ca) (.slice bo b.length cb) a b w4 (HA.out.below HB4.out) (HB.out.below HB4.out) (by omega) (by omega)
    have HS := Lib.hid hs; have HN3 := Lib.hid (HN3.out.below hb4); have HN4 := Lib.hid hn4
    clear hs hn4 hb4
    go_wp2_with fail
    (with_reducible refine HS.out.mono ?_); rintro e w5 ⟨v5, l5, rfl, hb5, hn5, hl5⟩
    have HB5 := Lib.hid (HB4.out.trans (hb5.mono HB4.out.size))
    rw [hl5] at hn5
    have hs := radd_any (.slice ao a.length ca) (.slice bo b.length cb) a b w5 (HA.out.below HB5.out) (HB.out.below HB5.out) (by omega) (by omega)
    have HS := Lib.hid hs; have HN3 := Lib.hid (HN3.out.below hb5); have HN4 := Lib.hid (HN4.out.below hb5); have HN5 := Lib.hid hn5
    clear hs hn5 hb5 hl5
    go_wp2_with fail
    (with_reducible refine HS.out.mono ?_); rintro e w6 ⟨v6, l6, rfl, hb6, hn6, hl6⟩
    have HB6 := Lib.hid (HB5.out.trans (hb6.mono HB5.out.size))
    rw [hl6] at hn6
    have hle1 := wd_length_le HA.out.lt
    have hle2 := wd_length_le HB.out.lt
    have hle3 : (wd (val a + val b)).length ≤ 1000000 := by
      have := wd_add_len (val a) (val b)
      omega
    have hs := words_same v5 v6 _ w6 (HN5.out.below hb6) hn6 hle3
    have HS := Lib.hid hs; have HN3 := Lib.hid (HN3.out.below hb6); have HN4 := Lib.hid (HN4.out.below hb6)
    clear hs hn6 hb6 hl6
    go_wp2_with fail
    (with_reducible refine HS.out.mono ?_); rintro e w7 ⟨rfl, hb7⟩
    have HB7 := Lib.hid (HB6.out.trans (hb7.mono HB6.out.size))
    have hs := words_same v3 v4 _ w7 (HN3.out.below hb7) (HN4.out.below hb7) (Nat.le_trans (wd_length_mono (Nat.sub_le _ _)) (by omega))
    have HS := Lib.hid hs
    clear hs hb7
    go_wp2_with fail
    (with_reducible refine HS.out.mono ?_); rintro e w8 ⟨rfl, hb8⟩
    have HB8 := Lib.hid (HB7.out.trans (hb8.mono HB7.out.size))
    have hs := num_any (subC (val a) (val b)) w8 (subC_small _ _)
    have HS := Lib.hid hs
    clear hs hb8
    go_wp2_with fail
    (with_reducible refine HS.out.mono ?_); rintro e w9 ⟨rfl, rfl⟩
    go_wp2_with fail
    go_ret
    exact ⟨by simp, HB8.out⟩
end Go.Proofs.YtdepoikifneggaaDoor
