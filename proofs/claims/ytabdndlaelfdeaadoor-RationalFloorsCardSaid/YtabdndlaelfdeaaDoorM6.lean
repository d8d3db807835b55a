/-
  The texts ParseQ, ParseQ2, RatLaw1, Draw, DrawR, one behind the other.
  Conditions: each theorem's own.
-/
import Derived.Test.YtabdndlaelfdeaaDoorM5
/-
  rational.Parse: what it hands back.
  Conditions: each theorem's own.
-/
namespace Go.Proofs.YtabdndlaelfdeaaDoor
open Go.RowKit Go.ChangeShapes Go.WideShapes

theorem preL_len (c : UInt8) (l : List UInt8) : (preL c l).1.length ≤ l.length := by
  unfold preL; split
  · rw [List.length_tail]; omega
  · exact Nat.le_refl _
theorem cut3_len (c : UInt8) (l : List UInt8) : (cut3 c l).1.length ≤ l.length ∧ (cut3 c l).2.1.length ≤ l.length := by
  unfold cut3
  cases h : cutL c l with
  | none => exact ⟨Nat.le_refl _, Nat.zero_le _⟩
  | some p =>
    obtain ⟨_, h2⟩ := cutL_mem h
    have := congrArg List.length h2
    rw [List.length_append, List.length_cons] at this
    exact ⟨by show p.1.length ≤ _; omega, by show p.2.length ≤ _; omega⟩
set_option maxRecDepth 100000 in
set_option maxHeartbeats 3200000 in
theorem parseq_large (l : List UInt8) (w : World)  (hl : 65536 < l.length) (hm : l.length ≤ 9223372036854775807) :
    Calls Tryd.prog 13 #[.string ⟨l.toArray⟩] w (RetRE w 0 (errV 4)) := by
  rw [errV_pos (by decide)]
  have hb0 := ((Below.refl w.heap.size w).alloc (by first | (simp; done) | (simp; omega)) (.cells #[.bool false, .slice none 0 0, .slice none 0 0] 24))
  have hxR := nest1_0 w (.cells #[.bool false, .slice none 0 0, .slice none 0 0] 24)
  obtain ⟨w0, hw0⟩ : ∃ w0, w0 = (w.alloc (.cells #[.bool false, .slice none 0 0, .slice none 0 0] 24)) := ⟨_, rfl⟩
  rw [← hw0] at hb0 hxR
  have HB0 := Lib.hid hb0; have HW0 := Lib.hid hw0
  have BXR := Lib.hid hxR
  clear hb0 hw0 hxR
  have f1 : decide ((65536 : Int) < (l.length : Int)) = true := decide_eq_true (by omega)
  go_enter Tryd.func13, Tryd.ntmps13
  go_wp2_with fail
  rw [← HW0.out]
  refine ret_rat2 rfl w.heap.size _ _ _ rfl BXR.out rfl ?_
  exact ⟨_, rfl, HB0.out, isR_zero _⟩
set_option maxRecDepth 100000 in
set_option maxHeartbeats 6400000 in
theorem parseq_point (l : List UInt8) (w : World)  (hl : l.length ≤ 300) (hf : (cut3 46 (preL 45 l).1).2.2 = true) :
    Calls Tryd.prog 13 #[.string ⟨l.toArray⟩] w (RetRE w (oQ (dcO (preL 45 l).2 (cut3 46 (preL 45 l).1).1 (cut3 46 (preL 45 l).1).2.1 l.length)) (errV (oC (dcO (preL 45 l).2 (cut3 46 (preL 45 l).1).1 (cut3 46 (preL 45 l).1).2.1 l.length)))) := by
  have hb0 := ((Below.refl w.heap.size w).alloc (by first | (simp; done) | (simp; omega)) (.cells #[.bool false, .slice none 0 0, .slice none 0 0] 24))
  have hxR := nest1_0 w (.cells #[.bool false, .slice none 0 0, .slice none 0 0] 24)
  obtain ⟨w0, hw0⟩ : ∃ w0, w0 = (w.alloc (.cells #[.bool false, .slice none 0 0, .slice none 0 0] 24)) := ⟨_, rfl⟩
  rw [← hw0] at hb0 hxR
  have HB0 := Lib.hid hb0; have HW0 := Lib.hid hw0
  have BXR := Lib.hid hxR
  clear hb0 hw0 hxR
  obtain ⟨t, ht⟩ : ∃ t, t = (preL 45 l).1 := ⟨_, rfl⟩
  obtain ⟨neg, hneg⟩ : ∃ neg, neg = (preL 45 l).2 := ⟨_, rfl⟩
  have htl2 : t.length ≤ l.length := by rw [ht]; exact preL_len 45 l
  have htl : t.length ≤ 300 := Nat.le_trans htl2 hl
  have hcp := fun wx => cutPrefix_any 45 l wx (by omega)
  rw [← ht, ← hneg] at hcp; rw [← ht] at hf
  have hc1 := fun wx => cut_any 46 t wx (by omega)
  have hl1 := (cut3_len 46 t).1
  have hl2 := (cut3_len 46 t).2
  have f1 : decide ((65536 : Int) < (l.length : Int)) = false := decide_eq_false (by omega)
  unfold RetCut at hc1
  rw [← ht, ← hneg]
  rw [hf] at hc1
  obtain ⟨a, ha⟩ : ∃ a, a = (cut3 46 t).1 := ⟨_, rfl⟩; obtain ⟨b, hb⟩ : ∃ b, b = (cut3 46 t).2.1 := ⟨_, rfl⟩
  rw [← ha] at hc1 hl1 ⊢; rw [← hb] at hc1 hl2 ⊢
  have hdc := fun wx => dec_any neg a b l.length wx (fun h => by omega) (fun h => by omega)
  obtain ⟨o, ho⟩ : ∃ o, o = dcO neg a b l.length := ⟨_, rfl⟩
  rw [← ho] at hdc ⊢
  obtain ⟨S, hS⟩ : ∃ S : ByteArray, S = ⟨l.toArray⟩ := ⟨_, rfl⟩; obtain ⟨T, hT⟩ : ∃ T : ByteArray, T = ⟨t.toArray⟩ := ⟨_, rfl⟩; obtain ⟨A, hA⟩ : ∃ A : ByteArray, A = ⟨a.toArray⟩ := ⟨_, rfl⟩; obtain ⟨B, hB⟩ : ∃ B : ByteArray, B = ⟨b.toArray⟩ := ⟨_, rfl⟩
  have hsz : S.size = l.length := by rw [hS]; simp [ByteArray.size]
  rw [← hS, ← hT] at hcp; rw [← hT, ← hA, ← hB] at hc1; rw [← hA, ← hB] at hdc; rw [← hS]
  obtain ⟨oc, hoc⟩ : ∃ oc, oc = errV (oC o) := ⟨_, rfl⟩; rw [← hoc] at hdc ⊢
  have HCP := Lib.hid hcp; have HC1 := Lib.hid hc1; have HDC := Lib.hid hdc; clear hcp hc1 hdc hS hT hA hB ha hb ht hneg hf ho hoc hl1 hl2 htl htl2
  go_enter Tryd.func13, Tryd.ntmps13
  have hs := HCP.out w0
  have HS := Lib.hid hs; clear hs
  go_wp2_with fail
  rw [← HW0.out]
  (with_reducible refine HS.out.mono ?_); rintro e wx ⟨rfl, rfl⟩
  clear HS
  have hs := HC1.out w0
  have HS := Lib.hid hs; clear hs
  go_wp2_with fail
  (with_reducible refine HS.out.mono ?_); rintro e w2 ⟨rfl, hb2⟩
  clear HS
  have HB2 := Lib.hid (HB0.out.step hb2)
  have BXR := Lib.hid (heap_below BXR.out hb2)
  clear hb2
  have hs := HDC.out w2
  have HS := Lib.hid hs; clear hs
  go_wp2_with fail
  (with_reducible refine HS.out.mono ?_); rintro e w3 ⟨v3, rfl, hb3, hn3⟩
  clear HS
  have HB3 := Lib.hid (HB2.out.step hb3)
  have BXR := Lib.hid (heap_below BXR.out hb3)
  have Q := Lib.hid hn3; clear hn3
  clear hb3
  obtain ⟨sQ, oQ, nQ, cQ, aQ, mQ, dQ, rfl⟩ := Q.out.shape
  obtain ⟨eR0, eR1, eR2⟩ := row3 BXR.out
  obtain ⟨fR0, fR1, fR2⟩ := froz3 BXR.out
  go_wp2_with fail
  refine ret_rat2 rfl w.heap.size _ _ _ rfl (put3_heap BXR.out) rfl ?_
  exact ⟨_, rfl, put3_below HB3.out (by omega) _ _ _, isR_put Q.out BXR.out⟩
set_option maxRecDepth 100000 in
set_option maxHeartbeats 6400000 in
theorem pfr_badx (l : List UInt8) (w : World)  (hl : l.length ≤ 300) (hf : (cut3 46 (preL 45 l).1).2.2 = false) (hpx : parC (cut3 47 (preL 45 l).1).1 ≠ 0)  :
    Calls Tryd.prog 13 #[.string ⟨l.toArray⟩] w (RetRE w 0 (errV 2)) := by
  rw [errV_pos (by decide)]
  have hb0 := ((Below.refl w.heap.size w).alloc (by first | (simp; done) | (simp; omega)) (.cells #[.bool false, .slice none 0 0, .slice none 0 0] 24))
  have hxR := nest1_0 w (.cells #[.bool false, .slice none 0 0, .slice none 0 0] 24)
  obtain ⟨w0, hw0⟩ : ∃ w0, w0 = (w.alloc (.cells #[.bool false, .slice none 0 0, .slice none 0 0] 24)) := ⟨_, rfl⟩
  rw [← hw0] at hb0 hxR
  have HB0 := Lib.hid hb0; have HW0 := Lib.hid hw0
  have BXR := Lib.hid hxR
  clear hb0 hw0 hxR
  obtain ⟨t, ht⟩ : ∃ t, t = (preL 45 l).1 := ⟨_, rfl⟩
  obtain ⟨neg, hneg⟩ : ∃ neg, neg = (preL 45 l).2 := ⟨_, rfl⟩
  have htl2 : t.length ≤ l.length := by rw [ht]; exact preL_len 45 l
  have htl : t.length ≤ 300 := Nat.le_trans htl2 hl
  have hcp := fun wx => cutPrefix_any 45 l wx (by omega)
  rw [← ht, ← hneg] at hcp; rw [← ht] at hf
  have hc1 := fun wx => cut_any 46 t wx (by omega)
  have hl1 := (cut3_len 46 t).1
  have hl2 := (cut3_len 46 t).2
  have f1 : decide ((65536 : Int) < (l.length : Int)) = false := decide_eq_false (by omega)
  unfold RetCut at hc1
  rw [hf] at hc1
  have hc2 := fun wx => cut_any 47 t wx (by omega)
  unfold RetCut at hc2
  have hl3 := (cut3_len 47 t).1; have hl4 := (cut3_len 47 t).2
  rw [← ht] at hpx
  obtain ⟨x, hx⟩ : ∃ x, x = (cut3 47 t).1 := ⟨_, rfl⟩; obtain ⟨y, hy⟩ : ∃ y, y = (cut3 47 t).2.1 := ⟨_, rfl⟩; obtain ⟨h, hhe⟩ : ∃ h, h = (cut3 47 t).2.2 := ⟨_, rfl⟩
  rw [← hx] at hc2 hl3 hpx
  rw [← hy] at hc2 hl4
  rw [← hhe] at hc2
  obtain ⟨a, ha⟩ : ∃ a : ByteArray, a = ⟨(cut3 46 t).1.toArray⟩ := ⟨_, rfl⟩; obtain ⟨b, hb⟩ : ∃ b : ByteArray, b = ⟨(cut3 46 t).2.1.toArray⟩ := ⟨_, rfl⟩
  rw [← ha, ← hb] at hc1
  have hpX := fun wx => parse_any x wx (by omega); have hpY := fun wx => parse_any y wx (by omega)
  have hwx := parV_len (l := x) (K := 300) (by omega); have hwy := parV_len (l := y) (K := 300) (by omega)
  rw [errV_pos hpx] at hpX
  obtain ⟨S, hS⟩ : ∃ S : ByteArray, S = ⟨l.toArray⟩ := ⟨_, rfl⟩; obtain ⟨T, hT⟩ : ∃ T : ByteArray, T = ⟨t.toArray⟩ := ⟨_, rfl⟩; obtain ⟨XB, hXB⟩ : ∃ A : ByteArray, A = ⟨x.toArray⟩ := ⟨_, rfl⟩; obtain ⟨YB, hYB⟩ : ∃ B : ByteArray, B = ⟨y.toArray⟩ := ⟨_, rfl⟩
  have hsz : S.size = l.length := by rw [hS]; simp [ByteArray.size]
  rw [← hS, ← hT] at hcp; rw [← hT] at hc1; rw [← hT, ← hXB, ← hYB] at hc2; rw [← hXB] at hpX; rw [← hYB] at hpY; rw [← hS]
  obtain ⟨VX, hVX⟩ : ∃ V, V = parV x := ⟨_, rfl⟩; obtain ⟨VY, hVY⟩ : ∃ V, V = parV y := ⟨_, rfl⟩
  rw [← hVX] at hpX hwx
  rw [← hVY] at hpY hwy
  have hlo : (wd 1).length ≤ 1 := by rw [wd_one_len]; exact Nat.le_refl _
  have HCP := Lib.hid hcp; have HC1 := Lib.hid hc1; have HC2 := Lib.hid hc2; have HPX := Lib.hid hpX; have HPY := Lib.hid hpY; clear hcp hc1 hc2 hpX hpY hS hT hXB hYB hx hy hhe ha hb ht hneg hf hVX hVY hl1 hl2 hl3 hl4 htl htl2 hpx
  go_enter Tryd.func13, Tryd.ntmps13
  have hs := HCP.out w0
  have HS := Lib.hid hs; clear hs
  go_wp2_with fail
  rw [← HW0.out]
  (with_reducible refine HS.out.mono ?_); rintro e wx ⟨rfl, rfl⟩
  clear HS
  have hs := HC1.out w0
  have HS := Lib.hid hs; clear hs
  go_wp2_with fail
  (with_reducible refine HS.out.mono ?_); rintro e w2 ⟨rfl, hb2⟩
  clear HS
  have HB2 := Lib.hid (HB0.out.step hb2)
  have BXR := Lib.hid (heap_below BXR.out hb2)
  clear hb2
  have hs := HC2.out w2
  have HS := Lib.hid hs; clear hs
  go_wp2_with fail
  (with_reducible refine HS.out.mono ?_); rintro e w3 ⟨rfl, hb3⟩
  clear HS
  have HB3 := Lib.hid (HB2.out.step hb3)
  have BXR := Lib.hid (heap_below BXR.out hb3)
  clear hb3
  have hs := HPX.out w3
  have HS := Lib.hid hs; clear hs
  go_wp2_with fail
  (with_reducible refine HS.out.mono ?_); rintro e w4 ⟨v4, rfl, hb4, hn4⟩
  clear HS
  have HB4 := Lib.hid (HB3.out.step hb4)
  have BXR := Lib.hid (heap_below BXR.out hb4)
  have NX := Lib.hid hn4; clear hn4
  clear hb4
  obtain ⟨eR0, eR1, eR2⟩ := row3 BXR.out
  obtain ⟨fR0, fR1, fR2⟩ := froz3 BXR.out
  go_wp2_with fail
  refine ret_rat2 rfl w.heap.size _ _ _ rfl (put3_heap BXR.out) rfl ?_
  exact ⟨_, rfl, put3_below HB4.out (by omega) _ _ _, isR_zero _⟩
set_option maxRecDepth 100000 in
set_option maxHeartbeats 6400000 in
theorem pfr_bady (l : List UInt8) (w : World)  (hl : l.length ≤ 300) (hf : (cut3 46 (preL 45 l).1).2.2 = false) (hh : (cut3 47 (preL 45 l).1).2.2 = true) (hpx : parC (cut3 47 (preL 45 l).1).1 = 0) (hpy : parC (cut3 47 (preL 45 l).1).2.1 ≠ 0)  :
    Calls Tryd.prog 13 #[.string ⟨l.toArray⟩] w (RetRE w 0 (errV 2)) := by
  rw [errV_pos (by decide)]
  have hb0 := ((Below.refl w.heap.size w).alloc (by first | (simp; done) | (simp; omega)) (.cells #[.bool false, .slice none 0 0, .slice none 0 0] 24))
  have hxR := nest1_0 w (.cells #[.bool false, .slice none 0 0, .slice none 0 0] 24)
  obtain ⟨w0, hw0⟩ : ∃ w0, w0 = (w.alloc (.cells #[.bool false, .slice none 0 0, .slice none 0 0] 24)) := ⟨_, rfl⟩
  rw [← hw0] at hb0 hxR
  have HB0 := Lib.hid hb0; have HW0 := Lib.hid hw0
  have BXR := Lib.hid hxR
  clear hb0 hw0 hxR
  obtain ⟨t, ht⟩ : ∃ t, t = (preL 45 l).1 := ⟨_, rfl⟩
  obtain ⟨neg, hneg⟩ : ∃ neg, neg = (preL 45 l).2 := ⟨_, rfl⟩
  have htl2 : t.length ≤ l.length := by rw [ht]; exact preL_len 45 l
  have htl : t.length ≤ 300 := Nat.le_trans htl2 hl
  have hcp := fun wx => cutPrefix_any 45 l wx (by omega)
  rw [← ht, ← hneg] at hcp; rw [← ht] at hf
  have hc1 := fun wx => cut_any 46 t wx (by omega)
  have hl1 := (cut3_len 46 t).1
  have hl2 := (cut3_len 46 t).2
  have f1 : decide ((65536 : Int) < (l.length : Int)) = false := decide_eq_false (by omega)
  unfold RetCut at hc1
  rw [hf] at hc1
  have hc2 := fun wx => cut_any 47 t wx (by omega)
  unfold RetCut at hc2
  have hl3 := (cut3_len 47 t).1; have hl4 := (cut3_len 47 t).2
  rw [← ht] at hpx hh hpy
  obtain ⟨x, hx⟩ : ∃ x, x = (cut3 47 t).1 := ⟨_, rfl⟩; obtain ⟨y, hy⟩ : ∃ y, y = (cut3 47 t).2.1 := ⟨_, rfl⟩; obtain ⟨h, hhe⟩ : ∃ h, h = (cut3 47 t).2.2 := ⟨_, rfl⟩
  rw [← hx] at hc2 hl3 hpx
  rw [← hy] at hc2 hl4 hpy
  rw [← hhe] at hc2 hh
  subst hh
  obtain ⟨a, ha⟩ : ∃ a : ByteArray, a = ⟨(cut3 46 t).1.toArray⟩ := ⟨_, rfl⟩; obtain ⟨b, hb⟩ : ∃ b : ByteArray, b = ⟨(cut3 46 t).2.1.toArray⟩ := ⟨_, rfl⟩
  rw [← ha, ← hb] at hc1
  have hpX := fun wx => parse_any x wx (by omega); have hpY := fun wx => parse_any y wx (by omega)
  have hwx := parV_len (l := x) (K := 300) (by omega); have hwy := parV_len (l := y) (K := 300) (by omega)
  rw [hpx, errV_zero] at hpX
  rw [errV_pos hpy] at hpY
  obtain ⟨S, hS⟩ : ∃ S : ByteArray, S = ⟨l.toArray⟩ := ⟨_, rfl⟩; obtain ⟨T, hT⟩ : ∃ T : ByteArray, T = ⟨t.toArray⟩ := ⟨_, rfl⟩; obtain ⟨XB, hXB⟩ : ∃ A : ByteArray, A = ⟨x.toArray⟩ := ⟨_, rfl⟩; obtain ⟨YB, hYB⟩ : ∃ B : ByteArray, B = ⟨y.toArray⟩ := ⟨_, rfl⟩
  have hsz : S.size = l.length := by rw [hS]; simp [ByteArray.size]
  rw [← hS, ← hT] at hcp; rw [← hT] at hc1; rw [← hT, ← hXB, ← hYB] at hc2; rw [← hXB] at hpX; rw [← hYB] at hpY; rw [← hS]
  obtain ⟨VX, hVX⟩ : ∃ V, V = parV x := ⟨_, rfl⟩; obtain ⟨VY, hVY⟩ : ∃ V, V = parV y := ⟨_, rfl⟩
  rw [← hVX] at hpX hwx
  rw [← hVY] at hpY hwy
  have hlo : (wd 1).length ≤ 1 := by rw [wd_one_len]; exact Nat.le_refl _
  have HCP := Lib.hid hcp; have HC1 := Lib.hid hc1; have HC2 := Lib.hid hc2; have HPX := Lib.hid hpX; have HPY := Lib.hid hpY; clear hcp hc1 hc2 hpX hpY hS hT hXB hYB hx hy hhe ha hb ht hneg hf hVX hVY hl1 hl2 hl3 hl4 htl htl2 hpx hpy
  go_enter Tryd.func13, Tryd.ntmps13
  have hs := HCP.out w0
  have HS := Lib.hid hs; clear hs
  go_wp2_with fail
  rw [← HW0.out]
  (with_reducible refine HS.out.mono ?_); rintro e wx ⟨rfl, rfl⟩
  clear HS
  have hs := HC1.out w0
  have HS := Lib.hid hs; clear hs
  go_wp2_with fail
  (with_reducible refine HS.out.mono ?_); rintro e w2 ⟨rfl, hb2⟩
  clear HS
  have HB2 := Lib.hid (HB0.out.step hb2)
  have BXR := Lib.hid (heap_below BXR.out hb2)
  clear hb2
  have hs := HC2.out w2
  have HS := Lib.hid hs; clear hs
  go_wp2_with fail
  (with_reducible refine HS.out.mono ?_); rintro e w3 ⟨rfl, hb3⟩
  clear HS
  have HB3 := Lib.hid (HB2.out.step hb3)
  have BXR := Lib.hid (heap_below BXR.out hb3)
  clear hb3
  have hs := HPX.out w3
  have HS := Lib.hid hs; clear hs
  go_wp2_with fail
  (with_reducible refine HS.out.mono ?_); rintro e w4 ⟨v4, rfl, hb4, hn4⟩
  clear HS
  have HB4 := Lib.hid (HB3.out.step hb4)
  have BXR := Lib.hid (heap_below BXR.out hb4)
  have NX := Lib.hid hn4; clear hn4
  clear hb4
  have hs := one_any w4
  have HS := Lib.hid hs; clear hs
  go_wp2_with fail
  (with_reducible refine HS.out.mono ?_); rintro e w5 ⟨v5, rfl, hb5, hn5⟩
  clear HS
  have HB5 := Lib.hid (HB4.out.step hb5)
  have NX := Lib.hid (NX.out.below hb5)
  have BXR := Lib.hid (heap_below BXR.out hb5)
  have ONE := Lib.hid hn5; clear hn5
  clear hb5
  have hs := HPY.out w5
  have HS := Lib.hid hs; clear hs
  go_wp2_with fail
  (with_reducible refine HS.out.mono ?_); rintro e w6 ⟨v6, rfl, hb6, hn6⟩
  clear HS
  have HB6 := Lib.hid (HB5.out.step hb6)
  have NX := Lib.hid (NX.out.below hb6)
  have ONE := Lib.hid (ONE.out.below hb6)
  have BXR := Lib.hid (heap_below BXR.out hb6)
  have NY := Lib.hid hn6; clear hn6
  clear hb6
  obtain ⟨eR0, eR1, eR2⟩ := row3 BXR.out
  obtain ⟨fR0, fR1, fR2⟩ := froz3 BXR.out
  go_wp2_with fail
  refine ret_rat2 rfl w.heap.size _ _ _ rfl (put3_heap BXR.out) rfl ?_
  exact ⟨_, rfl, put3_below HB6.out (by omega) _ _ _, isR_zero _⟩
set_option maxRecDepth 100000 in
set_option maxHeartbeats 6400000 in
theorem pfr_zero (l : List UInt8) (w : World)  (hl : l.length ≤ 300) (hf : (cut3 46 (preL 45 l).1).2.2 = false) (hh : (cut3 47 (preL 45 l).1).2.2 = true) (hpx : parC (cut3 47 (preL 45 l).1).1 = 0) (hpy : parC (cut3 47 (preL 45 l).1).2.1 = 0) (hvy : parV (cut3 47 (preL 45 l).1).2.1 = 0)  :
    Calls Tryd.prog 13 #[.string ⟨l.toArray⟩] w (RetRE w 0 (errV 2)) := by
  rw [errV_pos (by decide)]
  have hb0 := ((Below.refl w.heap.size w).alloc (by first | (simp; done) | (simp; omega)) (.cells #[.bool false, .slice none 0 0, .slice none 0 0] 24))
  have hxR := nest1_0 w (.cells #[.bool false, .slice none 0 0, .slice none 0 0] 24)
  obtain ⟨w0, hw0⟩ : ∃ w0, w0 = (w.alloc (.cells #[.bool false, .slice none 0 0, .slice none 0 0] 24)) := ⟨_, rfl⟩
  rw [← hw0] at hb0 hxR
  have HB0 := Lib.hid hb0; have HW0 := Lib.hid hw0
  have BXR := Lib.hid hxR
  clear hb0 hw0 hxR
  obtain ⟨t, ht⟩ : ∃ t, t = (preL 45 l).1 := ⟨_, rfl⟩
  obtain ⟨neg, hneg⟩ : ∃ neg, neg = (preL 45 l).2 := ⟨_, rfl⟩
  have htl2 : t.length ≤ l.length := by rw [ht]; exact preL_len 45 l
  have htl : t.length ≤ 300 := Nat.le_trans htl2 hl
  have hcp := fun wx => cutPrefix_any 45 l wx (by omega)
  rw [← ht, ← hneg] at hcp; rw [← ht] at hf
  have hc1 := fun wx => cut_any 46 t wx (by omega)
  have hl1 := (cut3_len 46 t).1
  have hl2 := (cut3_len 46 t).2
  have f1 : decide ((65536 : Int) < (l.length : Int)) = false := decide_eq_false (by omega)
  unfold RetCut at hc1
  rw [hf] at hc1
  have hc2 := fun wx => cut_any 47 t wx (by omega)
  unfold RetCut at hc2
  have hl3 := (cut3_len 47 t).1; have hl4 := (cut3_len 47 t).2
  rw [← ht] at hpx hh hpy hvy
  obtain ⟨x, hx⟩ : ∃ x, x = (cut3 47 t).1 := ⟨_, rfl⟩; obtain ⟨y, hy⟩ : ∃ y, y = (cut3 47 t).2.1 := ⟨_, rfl⟩; obtain ⟨h, hhe⟩ : ∃ h, h = (cut3 47 t).2.2 := ⟨_, rfl⟩
  rw [← hx] at hc2 hl3 hpx
  rw [← hy] at hc2 hl4 hpy hvy
  rw [← hhe] at hc2 hh
  subst hh
  obtain ⟨a, ha⟩ : ∃ a : ByteArray, a = ⟨(cut3 46 t).1.toArray⟩ := ⟨_, rfl⟩; obtain ⟨b, hb⟩ : ∃ b : ByteArray, b = ⟨(cut3 46 t).2.1.toArray⟩ := ⟨_, rfl⟩
  rw [← ha, ← hb] at hc1
  have hpX := fun wx => parse_any x wx (by omega); have hpY := fun wx => parse_any y wx (by omega)
  have hwx := parV_len (l := x) (K := 300) (by omega); have hwy := parV_len (l := y) (K := 300) (by omega)
  rw [hpx, errV_zero] at hpX
  rw [hpy, errV_zero] at hpY
  obtain ⟨S, hS⟩ : ∃ S : ByteArray, S = ⟨l.toArray⟩ := ⟨_, rfl⟩; obtain ⟨T, hT⟩ : ∃ T : ByteArray, T = ⟨t.toArray⟩ := ⟨_, rfl⟩; obtain ⟨XB, hXB⟩ : ∃ A : ByteArray, A = ⟨x.toArray⟩ := ⟨_, rfl⟩; obtain ⟨YB, hYB⟩ : ∃ B : ByteArray, B = ⟨y.toArray⟩ := ⟨_, rfl⟩
  have hsz : S.size = l.length := by rw [hS]; simp [ByteArray.size]
  rw [← hS, ← hT] at hcp; rw [← hT] at hc1; rw [← hT, ← hXB, ← hYB] at hc2; rw [← hXB] at hpX; rw [← hYB] at hpY; rw [← hS]
  obtain ⟨VX, hVX⟩ : ∃ V, V = parV x := ⟨_, rfl⟩; obtain ⟨VY, hVY⟩ : ∃ V, V = parV y := ⟨_, rfl⟩
  rw [← hVX] at hpX hwx
  rw [← hVY] at hpY hwy hvy
  have hlo : (wd 1).length ≤ 1 := by rw [wd_one_len]; exact Nat.le_refl _
  have HVY := Lib.hid hvy; clear hvy
  have HCP := Lib.hid hcp; have HC1 := Lib.hid hc1; have HC2 := Lib.hid hc2; have HPX := Lib.hid hpX; have HPY := Lib.hid hpY; clear hcp hc1 hc2 hpX hpY hS hT hXB hYB hx hy hhe ha hb ht hneg hf hVX hVY hl1 hl2 hl3 hl4 htl htl2 hpx hpy
  go_enter Tryd.func13, Tryd.ntmps13
  have hs := HCP.out w0
  have HS := Lib.hid hs; clear hs
  go_wp2_with fail
  rw [← HW0.out]
  (with_reducible refine HS.out.mono ?_); rintro e wx ⟨rfl, rfl⟩
  clear HS
  have hs := HC1.out w0
  have HS := Lib.hid hs; clear hs
  go_wp2_with fail
  (with_reducible refine HS.out.mono ?_); rintro e w2 ⟨rfl, hb2⟩
  clear HS
  have HB2 := Lib.hid (HB0.out.step hb2)
  have BXR := Lib.hid (heap_below BXR.out hb2)
  clear hb2
  have hs := HC2.out w2
  have HS := Lib.hid hs; clear hs
  go_wp2_with fail
  (with_reducible refine HS.out.mono ?_); rintro e w3 ⟨rfl, hb3⟩
  clear HS
  have HB3 := Lib.hid (HB2.out.step hb3)
  have BXR := Lib.hid (heap_below BXR.out hb3)
  clear hb3
  have hs := HPX.out w3
  have HS := Lib.hid hs; clear hs
  go_wp2_with fail
  (with_reducible refine HS.out.mono ?_); rintro e w4 ⟨v4, rfl, hb4, hn4⟩
  clear HS
  have HB4 := Lib.hid (HB3.out.step hb4)
  have BXR := Lib.hid (heap_below BXR.out hb4)
  have NX := Lib.hid hn4; clear hn4
  clear hb4
  have hs := one_any w4
  have HS := Lib.hid hs; clear hs
  go_wp2_with fail
  (with_reducible refine HS.out.mono ?_); rintro e w5 ⟨v5, rfl, hb5, hn5⟩
  clear HS
  have HB5 := Lib.hid (HB4.out.step hb5)
  have NX := Lib.hid (NX.out.below hb5)
  have BXR := Lib.hid (heap_below BXR.out hb5)
  have ONE := Lib.hid hn5; clear hn5
  clear hb5
  have hs := HPY.out w5
  have HS := Lib.hid hs; clear hs
  go_wp2_with fail
  (with_reducible refine HS.out.mono ?_); rintro e w6 ⟨v6, rfl, hb6, hn6⟩
  clear HS
  have HB6 := Lib.hid (HB5.out.step hb6)
  have NX := Lib.hid (NX.out.below hb6)
  have ONE := Lib.hid (ONE.out.below hb6)
  have BXR := Lib.hid (heap_below BXR.out hb6)
  have NY := Lib.hid hn6; clear hn6
  clear hb6
  have hs := bits_any _ _ w6 NY.out (by omega)
  rw [val_wd, HVY.out, blen_zero] at hs
  have HS := Lib.hid hs; clear hs
  go_wp2_with fail
  (with_reducible refine HS.out.mono ?_); rintro e wx ⟨rfl, rfl⟩
  clear HS
  obtain ⟨eR0, eR1, eR2⟩ := row3 BXR.out
  obtain ⟨fR0, fR1, fR2⟩ := froz3 BXR.out
  go_wp2_with fail
  refine ret_rat2 rfl w.heap.size _ _ _ rfl (put3_heap BXR.out) rfl ?_
  exact ⟨_, rfl, put3_below HB6.out (by omega) _ _ _, isR_zero _⟩
set_option maxRecDepth 100000 in
set_option maxHeartbeats 6400000 in
theorem pfr_differs1 (l : List UInt8) (w : World)  (hl : l.length ≤ 300) (hf : (cut3 46 (preL 45 l).1).2.2 = false) (hh : (cut3 47 (preL 45 l).1).2.2 = false) (hpx : parC (cut3 47 (preL 45 l).1).1 = 0) (hr : rtx (qm (preL 45 l).2 (parV (cut3 47 (preL 45 l).1).1) 1) ≠ l) :
    Calls Tryd.prog 13 #[.string ⟨l.toArray⟩] w (RetRE w 0 (errV 2)) := by
  rw [errV_pos (by decide)]
  have hb0 := ((Below.refl w.heap.size w).alloc (by first | (simp; done) | (simp; omega)) (.cells #[.bool false, .slice none 0 0, .slice none 0 0] 24))
  have hxR := nest1_0 w (.cells #[.bool false, .slice none 0 0, .slice none 0 0] 24)
  obtain ⟨w0, hw0⟩ : ∃ w0, w0 = (w.alloc (.cells #[.bool false, .slice none 0 0, .slice none 0 0] 24)) := ⟨_, rfl⟩
  rw [← hw0] at hb0 hxR
  have HB0 := Lib.hid hb0; have HW0 := Lib.hid hw0
  have BXR := Lib.hid hxR
  clear hb0 hw0 hxR
  obtain ⟨t, ht⟩ : ∃ t, t = (preL 45 l).1 := ⟨_, rfl⟩
  obtain ⟨neg, hneg⟩ : ∃ neg, neg = (preL 45 l).2 := ⟨_, rfl⟩
  have htl2 : t.length ≤ l.length := by rw [ht]; exact preL_len 45 l
  have htl : t.length ≤ 300 := Nat.le_trans htl2 hl
  have hcp := fun wx => cutPrefix_any 45 l wx (by omega)
  rw [← ht, ← hneg] at hcp; rw [← ht] at hf
  have hc1 := fun wx => cut_any 46 t wx (by omega)
  have hl1 := (cut3_len 46 t).1
  have hl2 := (cut3_len 46 t).2
  have f1 : decide ((65536 : Int) < (l.length : Int)) = false := decide_eq_false (by omega)
  unfold RetCut at hc1
  rw [hf] at hc1
  have hc2 := fun wx => cut_any 47 t wx (by omega)
  unfold RetCut at hc2
  have hl3 := (cut3_len 47 t).1; have hl4 := (cut3_len 47 t).2
  rw [← ht] at hpx hh hr
  rw [← hneg] at hr
  obtain ⟨x, hx⟩ : ∃ x, x = (cut3 47 t).1 := ⟨_, rfl⟩; obtain ⟨y, hy⟩ : ∃ y, y = (cut3 47 t).2.1 := ⟨_, rfl⟩; obtain ⟨h, hhe⟩ : ∃ h, h = (cut3 47 t).2.2 := ⟨_, rfl⟩
  rw [← hx] at hc2 hl3 hpx hr
  rw [← hy] at hc2 hl4
  rw [← hhe] at hc2 hh
  subst hh
  obtain ⟨a, ha⟩ : ∃ a : ByteArray, a = ⟨(cut3 46 t).1.toArray⟩ := ⟨_, rfl⟩; obtain ⟨b, hb⟩ : ∃ b : ByteArray, b = ⟨(cut3 46 t).2.1.toArray⟩ := ⟨_, rfl⟩
  rw [← ha, ← hb] at hc1
  have hpX := fun wx => parse_any x wx (by omega); have hpY := fun wx => parse_any y wx (by omega)
  have hwx := parV_len (l := x) (K := 300) (by omega); have hwy := parV_len (l := y) (K := 300) (by omega)
  rw [hpx, errV_zero] at hpX
  obtain ⟨S, hS⟩ : ∃ S : ByteArray, S = ⟨l.toArray⟩ := ⟨_, rfl⟩; obtain ⟨T, hT⟩ : ∃ T : ByteArray, T = ⟨t.toArray⟩ := ⟨_, rfl⟩; obtain ⟨XB, hXB⟩ : ∃ A : ByteArray, A = ⟨x.toArray⟩ := ⟨_, rfl⟩; obtain ⟨YB, hYB⟩ : ∃ B : ByteArray, B = ⟨y.toArray⟩ := ⟨_, rfl⟩
  have hsz : S.size = l.length := by rw [hS]; simp [ByteArray.size]
  rw [← hS, ← hT] at hcp; rw [← hT] at hc1; rw [← hT, ← hXB, ← hYB] at hc2; rw [← hXB] at hpX; rw [← hYB] at hpY; rw [← hS]
  obtain ⟨VX, hVX⟩ : ∃ V, V = parV x := ⟨_, rfl⟩; obtain ⟨VY, hVY⟩ : ∃ V, V = parV y := ⟨_, rfl⟩
  rw [← hVX] at hpX hwx hr
  rw [← hVY] at hpY hwy
  have hlo : (wd 1).length ≤ 1 := by rw [wd_one_len]; exact Nat.le_refl _
  obtain ⟨q, hq⟩ : ∃ q, q = qm neg VX 1 := ⟨_, rfl⟩
  rw [← hq] at hr
  have hrl : rl q ≤ 300 := by rw [hq]; exact rl_qm (by decide) hwx (by omega)
  obtain ⟨TX, hTX⟩ : ∃ A : ByteArray, A = ⟨(rtx q).toArray⟩ := ⟨_, rfl⟩
  have hne : TX ≠ S := fun e => hr (by rw [hTX, hS] at e; have := congrArg (fun z : ByteArray => z.data.toList) e; simpa using this)
  have HQ := Lib.hid hq; have HTX := Lib.hid hTX; clear hq hTX hr
  have HCP := Lib.hid hcp; have HC1 := Lib.hid hc1; have HC2 := Lib.hid hc2; have HPX := Lib.hid hpX; have HPY := Lib.hid hpY; clear hcp hc1 hc2 hpX hpY hS hT hXB hYB hx hy hhe ha hb ht hneg hf hVX hVY hl1 hl2 hl3 hl4 htl htl2 hpx
  go_enter Tryd.func13, Tryd.ntmps13
  have hs := HCP.out w0
  have HS := Lib.hid hs; clear hs
  go_wp2_with fail
  rw [← HW0.out]
  (with_reducible refine HS.out.mono ?_); rintro e wx ⟨rfl, rfl⟩
  clear HS
  have hs := HC1.out w0
  have HS := Lib.hid hs; clear hs
  go_wp2_with fail
  (with_reducible refine HS.out.mono ?_); rintro e w2 ⟨rfl, hb2⟩
  clear HS
  have HB2 := Lib.hid (HB0.out.step hb2)
  have BXR := Lib.hid (heap_below BXR.out hb2)
  clear hb2
  have hs := HC2.out w2
  have HS := Lib.hid hs; clear hs
  go_wp2_with fail
  (with_reducible refine HS.out.mono ?_); rintro e w3 ⟨rfl, hb3⟩
  clear HS
  have HB3 := Lib.hid (HB2.out.step hb3)
  have BXR := Lib.hid (heap_below BXR.out hb3)
  clear hb3
  have hs := HPX.out w3
  have HS := Lib.hid hs; clear hs
  go_wp2_with fail
  (with_reducible refine HS.out.mono ?_); rintro e w4 ⟨v4, rfl, hb4, hn4⟩
  clear HS
  have HB4 := Lib.hid (HB3.out.step hb4)
  have BXR := Lib.hid (heap_below BXR.out hb4)
  have NX := Lib.hid hn4; clear hn4
  clear hb4
  have hs := one_any w4
  have HS := Lib.hid hs; clear hs
  go_wp2_with fail
  (with_reducible refine HS.out.mono ?_); rintro e w5 ⟨v5, rfl, hb5, hn5⟩
  clear HS
  have HB5 := Lib.hid (HB4.out.step hb5)
  have NX := Lib.hid (NX.out.below hb5)
  have BXR := Lib.hid (heap_below BXR.out hb5)
  have ONE := Lib.hid hn5; clear hn5
  clear hb5
  have hs := formN neg NX.out ONE.out (by omega) (by omega) (by decide)
  rw [← HQ.out] at hs
  have HS := Lib.hid hs; clear hs
  go_wp2_with fail
  (with_reducible refine HS.out.mono ?_); rintro e w6 ⟨v6, rfl, hb6, hn6⟩
  clear HS
  have HB6 := Lib.hid (HB5.out.step hb6)
  have NX := Lib.hid (NX.out.below hb6)
  have ONE := Lib.hid (ONE.out.below hb6)
  have BXR := Lib.hid (heap_below BXR.out hb6)
  have Q := Lib.hid hn6; clear hn6
  clear hb6
  obtain ⟨sQ, oQ, nQ, cQ, aQ, mQ, dQ, rfl⟩ := Q.out.shape
  have hb80 : Below w6.heap.size w6 (w6.alloc (.cells #[.bool sQ, .slice oQ nQ cQ, .slice aQ mQ dQ] 24)) := (Below.refl _ _).alloc (Nat.le_refl _) _
  have hxl := heap_alloc_new w6 (.cells #[.bool sQ, .slice oQ nQ cQ, .slice aQ mQ dQ] 24)
  have hs := textq_any _ q (w6.alloc (.cells #[.bool sQ, .slice oQ nQ cQ, .slice aQ mQ dQ] 24)) ((Q.out.below hb80).is (by omega))
  rw [← HTX.out] at hs
  have HS := Lib.hid hs; clear hs
  go_wp2_with fail
  obtain ⟨w80, hw80⟩ : ∃ w80, w80 = w6.alloc (.cells #[.bool sQ, .slice oQ nQ cQ, .slice aQ mQ dQ] 24) := ⟨_, rfl⟩; obtain ⟨gl, hgl⟩ : ∃ gl, gl = w6.heap.size := ⟨_, rfl⟩
  rw [← hw80] at hb80 hxl HS ⊢; rw [← hgl] at hxl ⊢
  clear hgl
  have HB80 := Lib.hid (HB6.out.step hb80)
  have NX := Lib.hid (NX.out.below hb80)
  have ONE := Lib.hid (ONE.out.below hb80)
  have Q := Lib.hid (Q.out.below hb80)
  have BXR := Lib.hid (heap_below BXR.out hb80)
  have BXL := Lib.hid hxl; clear hxl hw80 hb80
  (with_reducible refine HS.out.mono ?_); rintro e w81 ⟨rfl, hb81⟩
  have HB81 := Lib.hid (HB80.out.step hb81)
  have NX := Lib.hid (NX.out.below hb81)
  have ONE := Lib.hid (ONE.out.below hb81)
  have Q := Lib.hid (Q.out.below hb81)
  have BXR := Lib.hid (heap_below BXR.out hb81)
  have BXL := Lib.hid (heap_below BXL.out hb81)
  clear hb81 HS
  have hbq : (TX.toList == S.toList) = false := by rw [beq_eq_false_iff_ne, ByteArray.toList_eq, ByteArray.toList_eq]; intro e; exact hne (ByteArray.ext (Array.toList_inj.1 e))
  obtain ⟨eR0, eR1, eR2⟩ := row3 BXR.out
  obtain ⟨fR0, fR1, fR2⟩ := froz3 BXR.out
  go_wp2_with fail
  refine ret_rat2 rfl w.heap.size _ _ _ rfl (put3_heap BXR.out) rfl ?_
  exact ⟨_, rfl, put3_below HB81.out (by omega) _ _ _, isR_zero _⟩
set_option maxRecDepth 100000 in
set_option maxHeartbeats 6400000 in
theorem pfr_fits1 (l : List UInt8) (w : World)  (hl : l.length ≤ 300) (hf : (cut3 46 (preL 45 l).1).2.2 = false) (hh : (cut3 47 (preL 45 l).1).2.2 = false) (hpx : parC (cut3 47 (preL 45 l).1).1 = 0) (hr : rtx (qm (preL 45 l).2 (parV (cut3 47 (preL 45 l).1).1) 1) = l) :
    Calls Tryd.prog 13 #[.string ⟨l.toArray⟩] w (RetRE w (qm (preL 45 l).2 (parV (cut3 47 (preL 45 l).1).1) 1) (errV 0)) := by
  rw [errV_zero]
  have hb0 := ((Below.refl w.heap.size w).alloc (by first | (simp; done) | (simp; omega)) (.cells #[.bool false, .slice none 0 0, .slice none 0 0] 24))
  have hxR := nest1_0 w (.cells #[.bool false, .slice none 0 0, .slice none 0 0] 24)
  obtain ⟨w0, hw0⟩ : ∃ w0, w0 = (w.alloc (.cells #[.bool false, .slice none 0 0, .slice none 0 0] 24)) := ⟨_, rfl⟩
  rw [← hw0] at hb0 hxR
  have HB0 := Lib.hid hb0; have HW0 := Lib.hid hw0
  have BXR := Lib.hid hxR
  clear hb0 hw0 hxR
  obtain ⟨t, ht⟩ : ∃ t, t = (preL 45 l).1 := ⟨_, rfl⟩
  obtain ⟨neg, hneg⟩ : ∃ neg, neg = (preL 45 l).2 := ⟨_, rfl⟩
  have htl2 : t.length ≤ l.length := by rw [ht]; exact preL_len 45 l
  have htl : t.length ≤ 300 := Nat.le_trans htl2 hl
  have hcp := fun wx => cutPrefix_any 45 l wx (by omega)
  rw [← ht, ← hneg] at hcp; rw [← ht] at hf
  have hc1 := fun wx => cut_any 46 t wx (by omega)
  have hl1 := (cut3_len 46 t).1
  have hl2 := (cut3_len 46 t).2
  have f1 : decide ((65536 : Int) < (l.length : Int)) = false := decide_eq_false (by omega)
  unfold RetCut at hc1
  rw [hf] at hc1
  have hc2 := fun wx => cut_any 47 t wx (by omega)
  unfold RetCut at hc2
  have hl3 := (cut3_len 47 t).1; have hl4 := (cut3_len 47 t).2
  rw [← ht] at hpx hh hr
  rw [← hneg] at hr
  rw [← ht, ← hneg]
  obtain ⟨x, hx⟩ : ∃ x, x = (cut3 47 t).1 := ⟨_, rfl⟩; obtain ⟨y, hy⟩ : ∃ y, y = (cut3 47 t).2.1 := ⟨_, rfl⟩; obtain ⟨h, hhe⟩ : ∃ h, h = (cut3 47 t).2.2 := ⟨_, rfl⟩
  rw [← hx] at hc2 hl3 hpx hr ⊢
  rw [← hy] at hc2 hl4
  rw [← hhe] at hc2 hh
  subst hh
  obtain ⟨a, ha⟩ : ∃ a : ByteArray, a = ⟨(cut3 46 t).1.toArray⟩ := ⟨_, rfl⟩; obtain ⟨b, hb⟩ : ∃ b : ByteArray, b = ⟨(cut3 46 t).2.1.toArray⟩ := ⟨_, rfl⟩
  rw [← ha, ← hb] at hc1
  have hpX := fun wx => parse_any x wx (by omega); have hpY := fun wx => parse_any y wx (by omega)
  have hwx := parV_len (l := x) (K := 300) (by omega); have hwy := parV_len (l := y) (K := 300) (by omega)
  rw [hpx, errV_zero] at hpX
  obtain ⟨S, hS⟩ : ∃ S : ByteArray, S = ⟨l.toArray⟩ := ⟨_, rfl⟩; obtain ⟨T, hT⟩ : ∃ T : ByteArray, T = ⟨t.toArray⟩ := ⟨_, rfl⟩; obtain ⟨XB, hXB⟩ : ∃ A : ByteArray, A = ⟨x.toArray⟩ := ⟨_, rfl⟩; obtain ⟨YB, hYB⟩ : ∃ B : ByteArray, B = ⟨y.toArray⟩ := ⟨_, rfl⟩
  have hsz : S.size = l.length := by rw [hS]; simp [ByteArray.size]
  rw [← hS, ← hT] at hcp; rw [← hT] at hc1; rw [← hT, ← hXB, ← hYB] at hc2; rw [← hXB] at hpX; rw [← hYB] at hpY; rw [← hS]
  obtain ⟨VX, hVX⟩ : ∃ V, V = parV x := ⟨_, rfl⟩; obtain ⟨VY, hVY⟩ : ∃ V, V = parV y := ⟨_, rfl⟩
  rw [← hVX] at hpX hwx hr ⊢
  rw [← hVY] at hpY hwy
  have hlo : (wd 1).length ≤ 1 := by rw [wd_one_len]; exact Nat.le_refl _
  obtain ⟨q, hq⟩ : ∃ q, q = qm neg VX 1 := ⟨_, rfl⟩
  rw [← hq] at hr ⊢
  have hrl : rl q ≤ 300 := by rw [hq]; exact rl_qm (by decide) hwx (by omega)
  obtain ⟨TX, hTX⟩ : ∃ A : ByteArray, A = ⟨(rtx q).toArray⟩ := ⟨_, rfl⟩
  have htx : TX = S := by rw [hTX, hr, hS]
  have hbq : (S.toList == S.toList) = true := by simp
  have HQ := Lib.hid hq; have HTX := Lib.hid hTX; clear hq hTX hr
  have HCP := Lib.hid hcp; have HC1 := Lib.hid hc1; have HC2 := Lib.hid hc2; have HPX := Lib.hid hpX; have HPY := Lib.hid hpY; clear hcp hc1 hc2 hpX hpY hS hT hXB hYB hx hy hhe ha hb ht hneg hf hVX hVY hl1 hl2 hl3 hl4 htl htl2 hpx
  go_enter Tryd.func13, Tryd.ntmps13
  have hs := HCP.out w0
  have HS := Lib.hid hs; clear hs
  go_wp2_with fail
  rw [← HW0.out]
  (with_reducible refine HS.out.mono ?_); rintro e wx ⟨rfl, rfl⟩
  clear HS
  have hs := HC1.out w0
  have HS := Lib.hid hs; clear hs
  go_wp2_with fail
  (with_reducible refine HS.out.mono ?_); rintro e w2 ⟨rfl, hb2⟩
  clear HS
  have HB2 := Lib.hid (HB0.out.step hb2)
  have BXR := Lib.hid (heap_below BXR.out hb2)
  clear hb2
  have hs := HC2.out w2
  have HS := Lib.hid hs; clear hs
  go_wp2_with fail
  (with_reducible refine HS.out.mono ?_); rintro e w3 ⟨rfl, hb3⟩
  clear HS
  have HB3 := Lib.hid (HB2.out.step hb3)
  have BXR := Lib.hid (heap_below BXR.out hb3)
  clear hb3
  have hs := HPX.out w3
  have HS := Lib.hid hs; clear hs
  go_wp2_with fail
  (with_reducible refine HS.out.mono ?_); rintro e w4 ⟨v4, rfl, hb4, hn4⟩
  clear HS
  have HB4 := Lib.hid (HB3.out.step hb4)
  have BXR := Lib.hid (heap_below BXR.out hb4)
  have NX := Lib.hid hn4; clear hn4
  clear hb4
  have hs := one_any w4
  have HS := Lib.hid hs; clear hs
  go_wp2_with fail
  (with_reducible refine HS.out.mono ?_); rintro e w5 ⟨v5, rfl, hb5, hn5⟩
  clear HS
  have HB5 := Lib.hid (HB4.out.step hb5)
  have NX := Lib.hid (NX.out.below hb5)
  have BXR := Lib.hid (heap_below BXR.out hb5)
  have ONE := Lib.hid hn5; clear hn5
  clear hb5
  have hs := formN neg NX.out ONE.out (by omega) (by omega) (by decide)
  rw [← HQ.out] at hs
  have HS := Lib.hid hs; clear hs
  go_wp2_with fail
  (with_reducible refine HS.out.mono ?_); rintro e w6 ⟨v6, rfl, hb6, hn6⟩
  clear HS
  have HB6 := Lib.hid (HB5.out.step hb6)
  have NX := Lib.hid (NX.out.below hb6)
  have ONE := Lib.hid (ONE.out.below hb6)
  have BXR := Lib.hid (heap_below BXR.out hb6)
  have Q := Lib.hid hn6; clear hn6
  clear hb6
  obtain ⟨sQ, oQ, nQ, cQ, aQ, mQ, dQ, rfl⟩ := Q.out.shape
  have hb80 : Below w6.heap.size w6 (w6.alloc (.cells #[.bool sQ, .slice oQ nQ cQ, .slice aQ mQ dQ] 24)) := (Below.refl _ _).alloc (Nat.le_refl _) _
  have hxl := heap_alloc_new w6 (.cells #[.bool sQ, .slice oQ nQ cQ, .slice aQ mQ dQ] 24)
  have hs := textq_any _ q (w6.alloc (.cells #[.bool sQ, .slice oQ nQ cQ, .slice aQ mQ dQ] 24)) ((Q.out.below hb80).is (by omega))
  rw [← HTX.out] at hs
  have HS := Lib.hid hs; clear hs
  go_wp2_with fail
  obtain ⟨w80, hw80⟩ : ∃ w80, w80 = w6.alloc (.cells #[.bool sQ, .slice oQ nQ cQ, .slice aQ mQ dQ] 24) := ⟨_, rfl⟩; obtain ⟨gl, hgl⟩ : ∃ gl, gl = w6.heap.size := ⟨_, rfl⟩
  rw [← hw80] at hb80 hxl HS ⊢; rw [← hgl] at hxl ⊢
  clear hgl
  have HB80 := Lib.hid (HB6.out.step hb80)
  have NX := Lib.hid (NX.out.below hb80)
  have ONE := Lib.hid (ONE.out.below hb80)
  have Q := Lib.hid (Q.out.below hb80)
  have BXR := Lib.hid (heap_below BXR.out hb80)
  have BXL := Lib.hid hxl; clear hxl hw80 hb80
  (with_reducible refine HS.out.mono ?_); rintro e w81 ⟨rfl, hb81⟩
  have HB81 := Lib.hid (HB80.out.step hb81)
  have NX := Lib.hid (NX.out.below hb81)
  have ONE := Lib.hid (ONE.out.below hb81)
  have Q := Lib.hid (Q.out.below hb81)
  have BXR := Lib.hid (heap_below BXR.out hb81)
  have BXL := Lib.hid (heap_below BXL.out hb81)
  clear hb81 HS
  subst htx
  obtain ⟨eL0, eL1, eL2⟩ := row3 BXL.out
  obtain ⟨eR0, eR1, eR2⟩ := row3 BXR.out
  obtain ⟨fR0, fR1, fR2⟩ := froz3 BXR.out
  go_wp2_with fail
  refine ret_rat2 rfl w.heap.size _ _ _ rfl (put3_heap BXR.out) rfl ?_
  exact ⟨_, rfl, put3_below HB81.out (by omega) _ _ _, isR_put Q.out BXR.out⟩
set_option maxRecDepth 100000 in
set_option maxHeartbeats 6400000 in
theorem pfr_differs2 (l : List UInt8) (w : World)  (hl : l.length ≤ 300) (hf : (cut3 46 (preL 45 l).1).2.2 = false) (hh : (cut3 47 (preL 45 l).1).2.2 = true) (hpx : parC (cut3 47 (preL 45 l).1).1 = 0) (hpy : parC (cut3 47 (preL 45 l).1).2.1 = 0) (hvy : parV (cut3 47 (preL 45 l).1).2.1 ≠ 0) (hr : rtx (qm (preL 45 l).2 (parV (cut3 47 (preL 45 l).1).1) (parV (cut3 47 (preL 45 l).1).2.1)) ≠ l) :
    Calls Tryd.prog 13 #[.string ⟨l.toArray⟩] w (RetRE w 0 (errV 2)) := by
  rw [errV_pos (by decide)]
  have hb0 := ((Below.refl w.heap.size w).alloc (by first | (simp; done) | (simp; omega)) (.cells #[.bool false, .slice none 0 0, .slice none 0 0] 24))
  have hxR := nest1_0 w (.cells #[.bool false, .slice none 0 0, .slice none 0 0] 24)
  obtain ⟨w0, hw0⟩ : ∃ w0, w0 = (w.alloc (.cells #[.bool false, .slice none 0 0, .slice none 0 0] 24)) := ⟨_, rfl⟩
  rw [← hw0] at hb0 hxR
  have HB0 := Lib.hid hb0; have HW0 := Lib.hid hw0
  have BXR := Lib.hid hxR
  clear hb0 hw0 hxR
  obtain ⟨t, ht⟩ : ∃ t, t = (preL 45 l).1 := ⟨_, rfl⟩
  obtain ⟨neg, hneg⟩ : ∃ neg, neg = (preL 45 l).2 := ⟨_, rfl⟩
  have htl2 : t.length ≤ l.length := by rw [ht]; exact preL_len 45 l
  have htl : t.length ≤ 300 := Nat.le_trans htl2 hl
  have hcp := fun wx => cutPrefix_any 45 l wx (by omega)
  rw [← ht, ← hneg] at hcp; rw [← ht] at hf
  have hc1 := fun wx => cut_any 46 t wx (by omega)
  have hl1 := (cut3_len 46 t).1
  have hl2 := (cut3_len 46 t).2
  have f1 : decide ((65536 : Int) < (l.length : Int)) = false := decide_eq_false (by omega)
  unfold RetCut at hc1
  rw [hf] at hc1
  have hc2 := fun wx => cut_any 47 t wx (by omega)
  unfold RetCut at hc2
  have hl3 := (cut3_len 47 t).1; have hl4 := (cut3_len 47 t).2
  rw [← ht] at hpx hh hpy hvy hr
  rw [← hneg] at hr
  obtain ⟨x, hx⟩ : ∃ x, x = (cut3 47 t).1 := ⟨_, rfl⟩; obtain ⟨y, hy⟩ : ∃ y, y = (cut3 47 t).2.1 := ⟨_, rfl⟩; obtain ⟨h, hhe⟩ : ∃ h, h = (cut3 47 t).2.2 := ⟨_, rfl⟩
  rw [← hx] at hc2 hl3 hpx hr
  rw [← hy] at hc2 hl4 hpy hvy hr
  rw [← hhe] at hc2 hh
  subst hh
  obtain ⟨a, ha⟩ : ∃ a : ByteArray, a = ⟨(cut3 46 t).1.toArray⟩ := ⟨_, rfl⟩; obtain ⟨b, hb⟩ : ∃ b : ByteArray, b = ⟨(cut3 46 t).2.1.toArray⟩ := ⟨_, rfl⟩
  rw [← ha, ← hb] at hc1
  have hpX := fun wx => parse_any x wx (by omega); have hpY := fun wx => parse_any y wx (by omega)
  have hwx := parV_len (l := x) (K := 300) (by omega); have hwy := parV_len (l := y) (K := 300) (by omega)
  rw [hpx, errV_zero] at hpX
  rw [hpy, errV_zero] at hpY
  obtain ⟨S, hS⟩ : ∃ S : ByteArray, S = ⟨l.toArray⟩ := ⟨_, rfl⟩; obtain ⟨T, hT⟩ : ∃ T : ByteArray, T = ⟨t.toArray⟩ := ⟨_, rfl⟩; obtain ⟨XB, hXB⟩ : ∃ A : ByteArray, A = ⟨x.toArray⟩ := ⟨_, rfl⟩; obtain ⟨YB, hYB⟩ : ∃ B : ByteArray, B = ⟨y.toArray⟩ := ⟨_, rfl⟩
  have hsz : S.size = l.length := by rw [hS]; simp [ByteArray.size]
  rw [← hS, ← hT] at hcp; rw [← hT] at hc1; rw [← hT, ← hXB, ← hYB] at hc2; rw [← hXB] at hpX; rw [← hYB] at hpY; rw [← hS]
  obtain ⟨VX, hVX⟩ : ∃ V, V = parV x := ⟨_, rfl⟩; obtain ⟨VY, hVY⟩ : ∃ V, V = parV y := ⟨_, rfl⟩
  rw [← hVX] at hpX hwx hr
  rw [← hVY] at hpY hwy hvy hr
  have hlo : (wd 1).length ≤ 1 := by rw [wd_one_len]; exact Nat.le_refl _
  have HVY := Lib.hid hvy; clear hvy
  obtain ⟨q, hq⟩ : ∃ q, q = qm neg VX VY := ⟨_, rfl⟩
  rw [← hq] at hr
  have hrl : rl q ≤ 300 := by rw [hq]; exact rl_qm HVY.out hwx (by omega)
  obtain ⟨TX, hTX⟩ : ∃ A : ByteArray, A = ⟨(rtx q).toArray⟩ := ⟨_, rfl⟩
  have hne : TX ≠ S := fun e => hr (by rw [hTX, hS] at e; have := congrArg (fun z : ByteArray => z.data.toList) e; simpa using this)
  have HQ := Lib.hid hq; have HTX := Lib.hid hTX; clear hq hTX hr
  have HCP := Lib.hid hcp; have HC1 := Lib.hid hc1; have HC2 := Lib.hid hc2; have HPX := Lib.hid hpX; have HPY := Lib.hid hpY; clear hcp hc1 hc2 hpX hpY hS hT hXB hYB hx hy hhe ha hb ht hneg hf hVX hVY hl1 hl2 hl3 hl4 htl htl2 hpx hpy
  go_enter Tryd.func13, Tryd.ntmps13
  have hs := HCP.out w0
  have HS := Lib.hid hs; clear hs
  go_wp2_with fail
  rw [← HW0.out]
  (with_reducible refine HS.out.mono ?_); rintro e wx ⟨rfl, rfl⟩
  clear HS
  have hs := HC1.out w0
  have HS := Lib.hid hs; clear hs
  go_wp2_with fail
  (with_reducible refine HS.out.mono ?_); rintro e w2 ⟨rfl, hb2⟩
  clear HS
  have HB2 := Lib.hid (HB0.out.step hb2)
  have BXR := Lib.hid (heap_below BXR.out hb2)
  clear hb2
  have hs := HC2.out w2
  have HS := Lib.hid hs; clear hs
  go_wp2_with fail
  (with_reducible refine HS.out.mono ?_); rintro e w3 ⟨rfl, hb3⟩
  clear HS
  have HB3 := Lib.hid (HB2.out.step hb3)
  have BXR := Lib.hid (heap_below BXR.out hb3)
  clear hb3
  have hs := HPX.out w3
  have HS := Lib.hid hs; clear hs
  go_wp2_with fail
  (with_reducible refine HS.out.mono ?_); rintro e w4 ⟨v4, rfl, hb4, hn4⟩
  clear HS
  have HB4 := Lib.hid (HB3.out.step hb4)
  have BXR := Lib.hid (heap_below BXR.out hb4)
  have NX := Lib.hid hn4; clear hn4
  clear hb4
  have hs := one_any w4
  have HS := Lib.hid hs; clear hs
  go_wp2_with fail
  (with_reducible refine HS.out.mono ?_); rintro e w5 ⟨v5, rfl, hb5, hn5⟩
  clear HS
  have HB5 := Lib.hid (HB4.out.step hb5)
  have NX := Lib.hid (NX.out.below hb5)
  have BXR := Lib.hid (heap_below BXR.out hb5)
  have ONE := Lib.hid hn5; clear hn5
  clear hb5
  have hs := HPY.out w5
  have HS := Lib.hid hs; clear hs
  go_wp2_with fail
  (with_reducible refine HS.out.mono ?_); rintro e w6 ⟨v6, rfl, hb6, hn6⟩
  clear HS
  have HB6 := Lib.hid (HB5.out.step hb6)
  have NX := Lib.hid (NX.out.below hb6)
  have ONE := Lib.hid (ONE.out.below hb6)
  have BXR := Lib.hid (heap_below BXR.out hb6)
  have NY := Lib.hid hn6; clear hn6
  clear hb6
  have hs := bits_any _ _ w6 NY.out (by omega)
  rw [val_wd] at hs
  obtain ⟨bl, hbl⟩ : ∃ bl, bl = blen VY := ⟨_, rfl⟩
  have hbz : ((bl : Int) == 0) = false := by rw [beq_eq_false_iff_ne, hbl]; have := blen_pos.2 HVY.out; omega
  rw [← hbl] at hs; clear hbl
  have HS := Lib.hid hs; clear hs
  go_wp2_with fail
  (with_reducible refine HS.out.mono ?_); rintro e wx ⟨rfl, rfl⟩
  clear HS
  have hs := formN neg NX.out NY.out (by omega) (by omega) HVY.out
  rw [← HQ.out] at hs
  have HS := Lib.hid hs; clear hs
  go_wp2_with fail
  (with_reducible refine HS.out.mono ?_); rintro e w7 ⟨v7, rfl, hb7, hn7⟩
  clear HS
  have HB7 := Lib.hid (HB6.out.step hb7)
  have NX := Lib.hid (NX.out.below hb7)
  have ONE := Lib.hid (ONE.out.below hb7)
  have NY := Lib.hid (NY.out.below hb7)
  have BXR := Lib.hid (heap_below BXR.out hb7)
  have Q := Lib.hid hn7; clear hn7
  clear hb7
  obtain ⟨sQ, oQ, nQ, cQ, aQ, mQ, dQ, rfl⟩ := Q.out.shape
  have hb80 : Below w7.heap.size w7 (w7.alloc (.cells #[.bool sQ, .slice oQ nQ cQ, .slice aQ mQ dQ] 24)) := (Below.refl _ _).alloc (Nat.le_refl _) _
  have hxl := heap_alloc_new w7 (.cells #[.bool sQ, .slice oQ nQ cQ, .slice aQ mQ dQ] 24)
  have hs := textq_any _ q (w7.alloc (.cells #[.bool sQ, .slice oQ nQ cQ, .slice aQ mQ dQ] 24)) ((Q.out.below hb80).is (by omega))
  rw [← HTX.out] at hs
  have HS := Lib.hid hs; clear hs
  go_wp2_with fail
  obtain ⟨w80, hw80⟩ : ∃ w80, w80 = w7.alloc (.cells #[.bool sQ, .slice oQ nQ cQ, .slice aQ mQ dQ] 24) := ⟨_, rfl⟩; obtain ⟨gl, hgl⟩ : ∃ gl, gl = w7.heap.size := ⟨_, rfl⟩
  rw [← hw80] at hb80 hxl HS ⊢; rw [← hgl] at hxl ⊢
  clear hgl
  have HB80 := Lib.hid (HB7.out.step hb80)
  have NX := Lib.hid (NX.out.below hb80)
  have ONE := Lib.hid (ONE.out.below hb80)
  have NY := Lib.hid (NY.out.below hb80)
  have Q := Lib.hid (Q.out.below hb80)
  have BXR := Lib.hid (heap_below BXR.out hb80)
  have BXL := Lib.hid hxl; clear hxl hw80 hb80
  (with_reducible refine HS.out.mono ?_); rintro e w81 ⟨rfl, hb81⟩
  have HB81 := Lib.hid (HB80.out.step hb81)
  have NX := Lib.hid (NX.out.below hb81)
  have ONE := Lib.hid (ONE.out.below hb81)
  have NY := Lib.hid (NY.out.below hb81)
  have Q := Lib.hid (Q.out.below hb81)
  have BXR := Lib.hid (heap_below BXR.out hb81)
  have BXL := Lib.hid (heap_below BXL.out hb81)
  clear hb81 HS
  have hbq : (TX.toList == S.toList) = false := by rw [beq_eq_false_iff_ne, ByteArray.toList_eq, ByteArray.toList_eq]; intro e; exact hne (ByteArray.ext (Array.toList_inj.1 e))
  obtain ⟨eR0, eR1, eR2⟩ := row3 BXR.out
  obtain ⟨fR0, fR1, fR2⟩ := froz3 BXR.out
  go_wp2_with fail
  refine ret_rat2 rfl w.heap.size _ _ _ rfl (put3_heap BXR.out) rfl ?_
  exact ⟨_, rfl, put3_below HB81.out (by omega) _ _ _, isR_zero _⟩
set_option maxRecDepth 100000 in
set_option maxHeartbeats 6400000 in
theorem pfr_fits2 (l : List UInt8) (w : World)  (hl : l.length ≤ 300) (hf : (cut3 46 (preL 45 l).1).2.2 = false) (hh : (cut3 47 (preL 45 l).1).2.2 = true) (hpx : parC (cut3 47 (preL 45 l).1).1 = 0) (hpy : parC (cut3 47 (preL 45 l).1).2.1 = 0) (hvy : parV (cut3 47 (preL 45 l).1).2.1 ≠ 0) (hr : rtx (qm (preL 45 l).2 (parV (cut3 47 (preL 45 l).1).1) (parV (cut3 47 (preL 45 l).1).2.1)) = l) :
    Calls Tryd.prog 13 #[.string ⟨l.toArray⟩] w (RetRE w (qm (preL 45 l).2 (parV (cut3 47 (preL 45 l).1).1) (parV (cut3 47 (preL 45 l).1).2.1)) (errV 0)) := by
  rw [errV_zero]
  have hb0 := ((Below.refl w.heap.size w).alloc (by first | (simp; done) | (simp; omega)) (.cells #[.bool false, .slice none 0 0, .slice none 0 0] 24))
  have hxR := nest1_0 w (.cells #[.bool false, .slice none 0 0, .slice none 0 0] 24)
  obtain ⟨w0, hw0⟩ : ∃ w0, w0 = (w.alloc (.cells #[.bool false, .slice none 0 0, .slice none 0 0] 24)) := ⟨_, rfl⟩
  rw [← hw0] at hb0 hxR
  have HB0 := Lib.hid hb0; have HW0 := Lib.hid hw0
  have BXR := Lib.hid hxR
  clear hb0 hw0 hxR
  obtain ⟨t, ht⟩ : ∃ t, t = (preL 45 l).1 := ⟨_, rfl⟩
  obtain ⟨neg, hneg⟩ : ∃ neg, neg = (preL 45 l).2 := ⟨_, rfl⟩
  have htl2 : t.length ≤ l.length := by rw [ht]; exact preL_len 45 l
  have htl : t.length ≤ 300 := Nat.le_trans htl2 hl
  have hcp := fun wx => cutPrefix_any 45 l wx (by omega)
  rw [← ht, ← hneg] at hcp; rw [← ht] at hf
  have hc1 := fun wx => cut_any 46 t wx (by omega)
  have hl1 := (cut3_len 46 t).1
  have hl2 := (cut3_len 46 t).2
  have f1 : decide ((65536 : Int) < (l.length : Int)) = false := decide_eq_false (by omega)
  unfold RetCut at hc1
  rw [hf] at hc1
  have hc2 := fun wx => cut_any 47 t wx (by omega)
  unfold RetCut at hc2
  have hl3 := (cut3_len 47 t).1; have hl4 := (cut3_len 47 t).2
  rw [← ht] at hpx hh hpy hvy hr
  rw [← hneg] at hr
  rw [← ht, ← hneg]
  obtain ⟨x, hx⟩ : ∃ x, x = (cut3 47 t).1 := ⟨_, rfl⟩; obtain ⟨y, hy⟩ : ∃ y, y = (cut3 47 t).2.1 := ⟨_, rfl⟩; obtain ⟨h, hhe⟩ : ∃ h, h = (cut3 47 t).2.2 := ⟨_, rfl⟩
  rw [← hx] at hc2 hl3 hpx hr ⊢
  rw [← hy] at hc2 hl4 hpy hvy hr ⊢
  rw [← hhe] at hc2 hh
  subst hh
  obtain ⟨a, ha⟩ : ∃ a : ByteArray, a = ⟨(cut3 46 t).1.toArray⟩ := ⟨_, rfl⟩; obtain ⟨b, hb⟩ : ∃ b : ByteArray, b = ⟨(cut3 46 t).2.1.toArray⟩ := ⟨_, rfl⟩
  rw [← ha, ← hb] at hc1
  have hpX := fun wx => parse_any x wx (by omega); have hpY := fun wx => parse_any y wx (by omega)
  have hwx := parV_len (l := x) (K := 300) (by omega); have hwy := parV_len (l := y) (K := 300) (by omega)
  rw [hpx, errV_zero] at hpX
  rw [hpy, errV_zero] at hpY
  obtain ⟨S, hS⟩ : ∃ S : ByteArray, S = ⟨l.toArray⟩ := ⟨_, rfl⟩; obtain ⟨T, hT⟩ : ∃ T : ByteArray, T = ⟨t.toArray⟩ := ⟨_, rfl⟩; obtain ⟨XB, hXB⟩ : ∃ A : ByteArray, A = ⟨x.toArray⟩ := ⟨_, rfl⟩; obtain ⟨YB, hYB⟩ : ∃ B : ByteArray, B = ⟨y.toArray⟩ := ⟨_, rfl⟩
  have hsz : S.size = l.length := by rw [hS]; simp [ByteArray.size]
  rw [← hS, ← hT] at hcp; rw [← hT] at hc1; rw [← hT, ← hXB, ← hYB] at hc2; rw [← hXB] at hpX; rw [← hYB] at hpY; rw [← hS]
  obtain ⟨VX, hVX⟩ : ∃ V, V = parV x := ⟨_, rfl⟩; obtain ⟨VY, hVY⟩ : ∃ V, V = parV y := ⟨_, rfl⟩
  rw [← hVX] at hpX hwx hr ⊢
  rw [← hVY] at hpY hwy hvy hr ⊢
  have hlo : (wd 1).length ≤ 1 := by rw [wd_one_len]; exact Nat.le_refl _
  have HVY := Lib.hid hvy; clear hvy
  obtain ⟨q, hq⟩ : ∃ q, q = qm neg VX VY := ⟨_, rfl⟩
  rw [← hq] at hr ⊢
  have hrl : rl q ≤ 300 := by rw [hq]; exact rl_qm HVY.out hwx (by omega)
  obtain ⟨TX, hTX⟩ : ∃ A : ByteArray, A = ⟨(rtx q).toArray⟩ := ⟨_, rfl⟩
  have htx : TX = S := by rw [hTX, hr, hS]
  have hbq : (S.toList == S.toList) = true := by simp
  have HQ := Lib.hid hq; have HTX := Lib.hid hTX; clear hq hTX hr
  have HCP := Lib.hid hcp; have HC1 := Lib.hid hc1; have HC2 := Lib.hid hc2; have HPX := Lib.hid hpX; have HPY := Lib.hid hpY; clear hcp hc1 hc2 hpX hpY hS hT hXB hYB hx hy hhe ha hb ht hneg hf hVX hVY hl1 hl2 hl3 hl4 htl htl2 hpx hpy
  go_enter Tryd.func13, Tryd.ntmps13
  have hs := HCP.out w0
  have HS := Lib.hid hs; clear hs
  go_wp2_with fail
  rw [← HW0.out]
  (with_reducible refine HS.out.mono ?_); rintro e wx ⟨rfl, rfl⟩
  clear HS
  have hs := HC1.out w0
  have HS := Lib.hid hs; clear hs
  go_wp2_with fail
  (with_reducible refine HS.out.mono ?_); rintro e w2 ⟨rfl, hb2⟩
  clear HS
  have HB2 := Lib.hid (HB0.out.step hb2)
  have BXR := Lib.hid (heap_below BXR.out hb2)
  clear hb2
  have hs := HC2.out w2
  have HS := Lib.hid hs; clear hs
  go_wp2_with fail
  (with_reducible refine HS.out.mono ?_); rintro e w3 ⟨rfl, hb3⟩
  clear HS
  have HB3 := Lib.hid (HB2.out.step hb3)
  have BXR := Lib.hid (heap_below BXR.out hb3)
  clear hb3
  have hs := HPX.out w3
  have HS := Lib.hid hs; clear hs
  go_wp2_with fail
  (with_reducible refine HS.out.mono ?_); rintro e w4 ⟨v4, rfl, hb4, hn4⟩
  clear HS
  have HB4 := Lib.hid (HB3.out.step hb4)
  have BXR := Lib.hid (heap_below BXR.out hb4)
  have NX := Lib.hid hn4; clear hn4
  clear hb4
  have hs := one_any w4
  have HS := Lib.hid hs; clear hs
  go_wp2_with fail
  (with_reducible refine HS.out.mono ?_); rintro e w5 ⟨v5, rfl, hb5, hn5⟩
  clear HS
  have HB5 := Lib.hid (HB4.out.step hb5)
  have NX := Lib.hid (NX.out.below hb5)
  have BXR := Lib.hid (heap_below BXR.out hb5)
  have ONE := Lib.hid hn5; clear hn5
  clear hb5
  have hs := HPY.out w5
  have HS := Lib.hid hs; clear hs
  go_wp2_with fail
  (with_reducible refine HS.out.mono ?_); rintro e w6 ⟨v6, rfl, hb6, hn6⟩
  clear HS
  have HB6 := Lib.hid (HB5.out.step hb6)
  have NX := Lib.hid (NX.out.below hb6)
  have ONE := Lib.hid (ONE.out.below hb6)
  have BXR := Lib.hid (heap_below BXR.out hb6)
  have NY := Lib.hid hn6; clear hn6
  clear hb6
  have hs := bits_any _ _ w6 NY.out (by omega)
  rw [val_wd] at hs
  obtain ⟨bl, hbl⟩ : ∃ bl, bl = blen VY := ⟨_, rfl⟩
  have hbz : ((bl : Int) == 0) = false := by rw [beq_eq_false_iff_ne, hbl]; have := blen_pos.2 HVY.out; omega
  rw [← hbl] at hs; clear hbl
  have HS := Lib.hid hs; clear hs
  go_wp2_with fail
  (with_reducible refine HS.out.mono ?_); rintro e wx ⟨rfl, rfl⟩
  clear HS
  have hs := formN neg NX.out NY.out (by omega) (by omega) HVY.out
  rw [← HQ.out] at hs
  have HS := Lib.hid hs; clear hs
  go_wp2_with fail
  (with_reducible refine HS.out.mono ?_); rintro e w7 ⟨v7, rfl, hb7, hn7⟩
  clear HS
  have HB7 := Lib.hid (HB6.out.step hb7)
  have NX := Lib.hid (NX.out.below hb7)
  have ONE := Lib.hid (ONE.out.below hb7)
  have NY := Lib.hid (NY.out.below hb7)
  have BXR := Lib.hid (heap_below BXR.out hb7)
  have Q := Lib.hid hn7; clear hn7
  clear hb7
  obtain ⟨sQ, oQ, nQ, cQ, aQ, mQ, dQ, rfl⟩ := Q.out.shape
  have hb80 : Below w7.heap.size w7 (w7.alloc (.cells #[.bool sQ, .slice oQ nQ cQ, .slice aQ mQ dQ] 24)) := (Below.refl _ _).alloc (Nat.le_refl _) _
  have hxl := heap_alloc_new w7 (.cells #[.bool sQ, .slice oQ nQ cQ, .slice aQ mQ dQ] 24)
  have hs := textq_any _ q (w7.alloc (.cells #[.bool sQ, .slice oQ nQ cQ, .slice aQ mQ dQ] 24)) ((Q.out.below hb80).is (by omega))
  rw [← HTX.out] at hs
  have HS := Lib.hid hs; clear hs
  go_wp2_with fail
  obtain ⟨w80, hw80⟩ : ∃ w80, w80 = w7.alloc (.cells #[.bool sQ, .slice oQ nQ cQ, .slice aQ mQ dQ] 24) := ⟨_, rfl⟩; obtain ⟨gl, hgl⟩ : ∃ gl, gl = w7.heap.size := ⟨_, rfl⟩
  rw [← hw80] at hb80 hxl HS ⊢; rw [← hgl] at hxl ⊢
  clear hgl
  have HB80 := Lib.hid (HB7.out.step hb80)
  have NX := Lib.hid (NX.out.below hb80)
  have ONE := Lib.hid (ONE.out.below hb80)
  have NY := Lib.hid (NY.out.below hb80)
  have Q := Lib.hid (Q.out.below hb80)
  have BXR := Lib.hid (heap_below BXR.out hb80)
  have BXL := Lib.hid hxl; clear hxl hw80 hb80
  (with_reducible refine HS.out.mono ?_); rintro e w81 ⟨rfl, hb81⟩
  have HB81 := Lib.hid (HB80.out.step hb81)
  have NX := Lib.hid (NX.out.below hb81)
  have ONE := Lib.hid (ONE.out.below hb81)
  have NY := Lib.hid (NY.out.below hb81)
  have Q := Lib.hid (Q.out.below hb81)
  have BXR := Lib.hid (heap_below BXR.out hb81)
  have BXL := Lib.hid (heap_below BXL.out hb81)
  clear hb81 HS
  subst htx
  obtain ⟨eL0, eL1, eL2⟩ := row3 BXL.out
  obtain ⟨eR0, eR1, eR2⟩ := row3 BXR.out
  obtain ⟨fR0, fR1, fR2⟩ := froz3 BXR.out
  go_wp2_with fail
  refine ret_rat2 rfl w.heap.size _ _ _ rfl (put3_heap BXR.out) rfl ?_
  exact ⟨_, rfl, put3_below HB81.out (by omega) _ _ _, isR_put Q.out BXR.out⟩
end Go.Proofs.YtabdndlaelfdeaaDoor
/-
  rational.Parse: what it hands back, for every text that is short or too long.
  Conditions: each theorem's own.
-/
namespace Go.Proofs.YtabdndlaelfdeaaDoor
open Go.RowKit Go.ChangeShapes Go.WideShapes

theorem cut3_some {c : UInt8} {l : List UInt8} {p : List UInt8 × List UInt8} (h : cutL c l = some p) : cut3 c l = (p.1, p.2, true) := by unfold cut3; rw [h]
theorem cut3_none {c : UInt8} {l : List UInt8} (h : cutL c l = none) : cut3 c l = (l, [], false) := by unfold cut3; rw [h]
theorem frV_none1 {l a : List UInt8} {neg : Bool} {b : Option (List UInt8)} (h : parC a ≠ 0) : frV l neg a b = none := by
  unfold frV
  cases b with
  | none => exact if_neg fun k => h k.1
  | some b => exact if_neg fun k => h k.1
theorem parseq_small (l : List UInt8) (w : World) (hl : l.length ≤ 300) :
    Calls Tryd.prog 13 #[.string ⟨l.toArray⟩] w (RetRE w (oQ (prV l)) (errV (oC (prV l)))) := by
  cases h : cutL 46 (preL 45 l).1 with
  | some p =>
    have h3 := cut3_some h
    have hk := parseq_point l w hl (by rw [h3])
    rw [h3] at hk
    have e : prV l = dcO (preL 45 l).2 p.1 p.2 l.length := by
      unfold prV dcO
      rw [h]
      show (if l.length ≤ 64 then _ else _) = _
      by_cases h6 : l.length ≤ 64
      · rw [if_pos h6, if_pos (by omega)]
      · rw [if_neg h6, if_neg (by omega)]
    rw [e]; exact hk
  | none =>
    have h3 := cut3_none h
    have hf : (cut3 46 (preL 45 l).1).2.2 = false := by rw [h3]
    cases h2 : cutL 47 (preL 45 l).1 with
    | some p =>
      have h4 := cut3_some h2
      have e : prV l = frV l (preL 45 l).2 p.1 (some p.2) := by unfold prV; rw [h, h2]
      have hh : (cut3 47 (preL 45 l).1).2.2 = true := by rw [h4]
      rw [e]
      by_cases hx : parC p.1 = 0
      · by_cases hy : parC p.2 = 0
        · by_cases hv : parV p.2 = 0
          · have hk := pfr_zero l w hl hf hh (by rw [h4]; exact hx) (by rw [h4]; exact hy) (by rw [h4]; exact hv)
            have e2 : frV l (preL 45 l).2 p.1 (some p.2) = none := if_neg fun k => k.2.2.1 hv
            rw [e2]; exact hk
          · by_cases hr : rtx (qm (preL 45 l).2 (parV p.1) (parV p.2)) = l
            · have hk := pfr_fits2 l w hl hf hh (by rw [h4]; exact hx) (by rw [h4]; exact hy) (by rw [h4]; exact hv) (by rw [h4]; exact hr)
              rw [h4] at hk
              have e2 : frV l (preL 45 l).2 p.1 (some p.2) = some (qm (preL 45 l).2 (parV p.1) (parV p.2)) := if_pos ⟨hx, hy, hv, hr⟩
              rw [e2]; exact hk
            · have hk := pfr_differs2 l w hl hf hh (by rw [h4]; exact hx) (by rw [h4]; exact hy) (by rw [h4]; exact hv) (by rw [h4]; exact hr)
              have e2 : frV l (preL 45 l).2 p.1 (some p.2) = none := if_neg fun k => hr k.2.2.2
              rw [e2]; exact hk
        · have hk := pfr_bady l w hl hf hh (by rw [h4]; exact hx) (by rw [h4]; exact hy)
          have e2 : frV l (preL 45 l).2 p.1 (some p.2) = none := if_neg fun k => hy k.2.1
          rw [e2]; exact hk
      · have hk := pfr_badx l w hl hf (by rw [h4]; exact hx)
        rw [frV_none1 hx]; exact hk
    | none =>
      have h4 := cut3_none h2
      have e : prV l = frV l (preL 45 l).2 (preL 45 l).1 none := by unfold prV; rw [h, h2]
      have hh : (cut3 47 (preL 45 l).1).2.2 = false := by rw [h4]
      rw [e]
      by_cases hx : parC (preL 45 l).1 = 0
      · by_cases hr : rtx (qm (preL 45 l).2 (parV (preL 45 l).1) 1) = l
        · have hk := pfr_fits1 l w hl hf hh (by rw [h4]; exact hx) (by rw [h4]; exact hr)
          rw [h4] at hk
          have e2 : frV l (preL 45 l).2 (preL 45 l).1 none = some (qm (preL 45 l).2 (parV (preL 45 l).1) 1) := if_pos ⟨hx, hr⟩
          rw [e2]; exact hk
        · have hk := pfr_differs1 l w hl hf hh (by rw [h4]; exact hx) (by rw [h4]; exact hr)
          have e2 : frV l (preL 45 l).2 (preL 45 l).1 none = none := if_neg fun k => hr k.2
          rw [e2]; exact hk
      · have hk := pfr_badx l w hl hf (by rw [h4]; exact hx)
        rw [frV_none1 hx]; exact hk
theorem parseq_any (l : List UInt8) (w : World) (hl : l.length ≤ 300 ∨ 65536 < l.length) (hm : l.length ≤ 9223372036854775807) :
    Calls Tryd.prog 13 #[.string ⟨l.toArray⟩] w (RetRE w (prQ l) (errV (prC l))) := by
  unfold prQ prC
  by_cases h : 65536 < l.length
  · rw [if_pos h, if_pos h]; exact parseq_large l w h hm
  · rw [if_neg h, if_neg h]; exact parseq_small l w (by omega)
end Go.Proofs.YtabdndlaelfdeaaDoor
/-
  faultlinelaw02.awake: the document's examples are answered as the document says.
  Conditions: each theorem's own.
-/
namespace Go.Proofs.YtabdndlaelfdeaaDoor
open Go.RowKit Go.ChangeShapes Go.WideShapes

theorem decL_dig {n : Nat} (h0 : n ≠ 0) (h : n < 10) : decL n = [digB n] := by
  unfold decL; rw [if_neg h0, digD_pos h0, show n / 10 = 0 by omega, digD_zero]; rfl
theorem rtx_qm {s : Bool} {n d a b : Nat} (hd : d ≠ 0) (hn : n ≠ 0) (h1 : n / Nat.gcd n d = a) (h2 : d / Nat.gcd n d = b) :
    rtx (qm s n d) = (if s then [45] else []) ++ decL a ++ (if b = 1 then [] else 47 :: decL b) := by
  unfold rtx
  rw [ng_qm hd hn, nn_qm hd, den_qm hd, h1, h2]
theorem awk_a : ((6 : Int) : Rat) / ((-4 : Int) : Rat) = qm true 3 2 := by
  rw [qm_eq_div, show sgn true 3 = -3 from rfl]
  rw [show ((6 : Int) : Rat) = 6 from rfl, show ((-4 : Int) : Rat) = -4 from rfl, show ((-3 : Int) : Rat) = -3 from rfl, show ((2 : Nat) : Rat) = 2 from rfl]
  grind
theorem awk_ta : (⟨(rtx (qm true 3 2)).toArray⟩ : ByteArray) = ⟨#[45, 51, 47, 50]⟩ := by
  rw [rtx_qm (a := 3) (b := 2) (by decide) (by decide) (by decide) (by decide), decL_dig (by decide) (by decide), decL_dig (by decide) (by decide)]; rfl
theorem awk_f : fl (qm true 3 2) = qm true 2 1 := by
  rw [← q_floor, ng_qm (by decide) (by decide), nn_qm (by decide), den_qm (by decide), show 3 / Nat.gcd 3 2 = 3 from by decide, show 2 / Nat.gcd 3 2 = 2 from by decide]
  rw [if_pos ⟨rfl, by decide⟩]
theorem awk_tf : (⟨(rtx (qm true 2 1)).toArray⟩ : ByteArray) = ⟨#[45, 50]⟩ := by
  rw [rtx_qm (a := 2) (b := 1) (by decide) (by decide) (by decide) (by decide), decL_dig (by decide) (by decide)]; rfl
theorem awk_p : prV [48, 46, 50, 53] = some (qm false 25 100) := by kernel_rfl
theorem awk_b : prQ [48, 46, 50, 53] = qm false 25 100 ∧ prC [48, 46, 50, 53] = 0 := by
  unfold prQ prC
  rw [if_neg (by decide), if_neg (by decide), awk_p]; exact ⟨rfl, rfl⟩
theorem awk_tb : (⟨(rtx (qm false 25 100)).toArray⟩ : ByteArray) = ⟨#[49, 47, 52]⟩ := by
  rw [rtx_qm (a := 1) (b := 4) (by decide) (by decide) (by decide) (by decide), decL_dig (by decide) (by decide), decL_dig (by decide) (by decide)]; rfl
theorem wd_len1 {n : Nat} (h : n < 4294967296) : (wd n).length ≤ 1 := wd_length_of_lt (by omega)

set_option maxRecDepth 100000 in
set_option maxHeartbeats 6400000 in
theorem awake02  (w : World)   :
    Calls Tryd.prog 11 #[] w (RetV w (.bool true)) := by
  have HB0 := Lib.hid (Below.refl w.heap.size w)
  have la : rl (qm true 3 2) ≤ 1 := rl_qm (by decide) (wd_len1 (by decide)) (wd_len1 (by decide))
  have lf : rl (qm true 2 1) ≤ 1 := rl_qm (by decide) (wd_len1 (by decide)) (wd_len1 (by decide))
  have lb : rl (qm false 25 100) ≤ 1 := rl_qm (by decide) (wd_len1 (by decide)) (wd_len1 (by decide))
  have hps := fun wx => parseq_any [48, 46, 50, 53] wx (.inl (by decide)) (by decide)
  rw [awk_b.1, awk_b.2, errV_zero] at hps
  have HPS := Lib.hid hps; clear hps
  go_enter Tryd.func11, Tryd.ntmps11
  have hs := make_any 6 (-4) w (by decide) (by decide) (by decide) (by decide)
  rw [awk_a, show zc (-4 : Int).natAbs = 0 from rfl, errV_zero] at hs
  have HS := Lib.hid hs; clear hs
  go_wp2_with fail
  (with_reducible refine HS.out.mono ?_); rintro e w1 ⟨v1, rfl, hb1, hn1⟩
  clear HS
  have HB1 := Lib.hid (HB0.out.step hb1)
  have A := Lib.hid hn1; clear hn1
  clear hb1
  obtain ⟨sA, oA, nA, cA, aA, mA, dA, rfl⟩ := A.out.shape
  obtain ⟨w2, hw2⟩ : ∃ w2, w2 = w1.alloc (.cells #[.bool sA, .slice oA nA cA, .slice aA mA dA] 24) := ⟨_, rfl⟩
  have hb2 : Below w1.heap.size w1 w2 := by rw [hw2]; exact (Below.refl _ _).alloc (Nat.le_refl _) _
  have hxx := heap_alloc_new w1 (.cells #[.bool sA, .slice oA nA cA, .slice aA mA dA] 24)
  obtain ⟨gx, hgx⟩ : ∃ gx, gx = w1.heap.size := ⟨_, rfl⟩
  rw [← hw2, ← hgx] at hxx
  have HW2 := Lib.hid hw2; have HGx := Lib.hid hgx; clear hw2 hgx
  have HB2 := Lib.hid (HB1.out.step hb2)
  have A := Lib.hid (A.out.below hb2)
  clear hb2
  have BXx := Lib.hid hxx; clear hxx
  have hs := HPS.out w2
  have HS := Lib.hid hs; clear hs
  go_wp2_with fail
  rw [← HW2.out]
  try rw [← HGx.out]
  (with_reducible refine HS.out.mono ?_); rintro e w3 ⟨v3, rfl, hb3, hn3⟩
  clear HS
  have HB3 := Lib.hid (HB2.out.step hb3)
  have A := Lib.hid (A.out.below hb3)
  have BXx := Lib.hid (heap_below BXx.out hb3)
  have B := Lib.hid hn3; clear hn3
  clear hb3
  obtain ⟨sB, oB, nB, cB, aB, mB, dB, rfl⟩ := B.out.shape
  obtain ⟨w4, hw4⟩ : ∃ w4, w4 = w3.alloc (.cells #[.bool sB, .slice oB nB cB, .slice aB mB dB] 24) := ⟨_, rfl⟩
  have hb4 : Below w3.heap.size w3 w4 := by rw [hw4]; exact (Below.refl _ _).alloc (Nat.le_refl _) _
  have hxy := heap_alloc_new w3 (.cells #[.bool sB, .slice oB nB cB, .slice aB mB dB] 24)
  obtain ⟨gy, hgy⟩ : ∃ gy, gy = w3.heap.size := ⟨_, rfl⟩
  rw [← hw4, ← hgy] at hxy
  have HW4 := Lib.hid hw4; have HGy := Lib.hid hgy; clear hw4 hgy
  have HB4 := Lib.hid (HB3.out.step hb4)
  have A := Lib.hid (A.out.below hb4)
  have B := Lib.hid (B.out.below hb4)
  have BXx := Lib.hid (heap_below BXx.out hb4)
  clear hb4
  have BXy := Lib.hid hxy; clear hxy
  have hs := textq_any _ _ w4 (A.out.is (by omega))
  rw [awk_ta] at hs
  have HS := Lib.hid hs; clear hs
  obtain ⟨ex0, ex1, ex2⟩ := row3 BXx.out
  rw [HW4.out] at ex0
  rw [HW4.out] at ex1
  rw [HW4.out] at ex2
  go_wp2_with fail
  rw [← HW4.out]
  try rw [← HGy.out]
  clear ex0 ex1 ex2
  (with_reducible refine HS.out.mono ?_); rintro e w5 ⟨rfl, hb5⟩
  clear HS
  have HB5 := Lib.hid (HB4.out.step hb5)
  have A := Lib.hid (A.out.below hb5)
  have B := Lib.hid (B.out.below hb5)
  have BXx := Lib.hid (heap_below BXx.out hb5)
  have BXy := Lib.hid (heap_below BXy.out hb5)
  clear hb5
  have hs := floor_any _ _ w5 (A.out.is (by omega))
  rw [awk_f] at hs
  have HS := Lib.hid hs; clear hs
  obtain ⟨ex0, ex1, ex2⟩ := row3 BXx.out
  go_wp2_with fail
  clear ex0 ex1 ex2
  (with_reducible refine HS.out.mono ?_); rintro e w6 ⟨v6, rfl, hb6, hn6⟩
  clear HS
  have HB6 := Lib.hid (HB5.out.step hb6)
  have A := Lib.hid (A.out.below hb6)
  have B := Lib.hid (B.out.below hb6)
  have BXx := Lib.hid (heap_below BXx.out hb6)
  have BXy := Lib.hid (heap_below BXy.out hb6)
  have F := Lib.hid hn6; clear hn6
  clear hb6
  have hs := textq_any _ _ w6 (F.out.is (by omega))
  rw [awk_tf] at hs
  have HS := Lib.hid hs; clear hs
  go_wp2_with fail
  (with_reducible refine HS.out.mono ?_); rintro e w7 ⟨rfl, hb7⟩
  clear HS
  have HB7 := Lib.hid (HB6.out.step hb7)
  have A := Lib.hid (A.out.below hb7)
  have B := Lib.hid (B.out.below hb7)
  have F := Lib.hid (F.out.below hb7)
  have BXx := Lib.hid (heap_below BXx.out hb7)
  have BXy := Lib.hid (heap_below BXy.out hb7)
  clear hb7
  have hs := textq_any _ _ w7 (B.out.is (by omega))
  rw [awk_tb] at hs
  have HS := Lib.hid hs; clear hs
  obtain ⟨ey0, ey1, ey2⟩ := row3 BXy.out
  go_wp2_with fail
  clear ey0 ey1 ey2
  (with_reducible refine HS.out.mono ?_); rintro e w8 ⟨rfl, hb8⟩
  clear HS
  have HB8 := Lib.hid (HB7.out.step hb8)
  have A := Lib.hid (A.out.below hb8)
  have B := Lib.hid (B.out.below hb8)
  have F := Lib.hid (F.out.below hb8)
  have BXx := Lib.hid (heap_below BXx.out hb8)
  have BXy := Lib.hid (heap_below BXy.out hb8)
  clear hb8
  go_wp2_with fail
  go_ret
  exact ⟨rfl, HB8.out⟩
end Go.Proofs.YtabdndlaelfdeaaDoor
/-
  A statement that leaves its order open and holds calls and new variables: one walk, whatever the order: each operation leaves a fact that later operations keep.
  Conditions: each theorem's own.
-/
namespace Go.Proofs.YtabdndlaelfdeaaDoor
open Go.RowKit Go.ChangeShapes Go.WideShapes

section
variable {P : Program} {ops : Array Oper} {md : Region.Mode}

/-- the slot that operation j writes -/
def dstOf (ops : Array Oper) (j : Nat) : Option Tmp := (ops[j]?).bind (·.dst)
/-- the frame behind the first n operations' values, of those that are listed -/
def putsTo (ops : Array Oper) (listed : Nat → Bool) (vals : Nat → Value) (a : Act) : Nat → Act
  | 0 => a
  | n + 1 => if listed n then (putsTo ops listed vals a n).put (dstOf ops n) (vals n) else putsTo ops listed vals a n
theorem putsTo_congr {l l' : Nat → Bool} {v v' : Nat → Value} {a : Act} {n : Nat} (h : ∀ j, j < n → l j = l' j ∧ (l j = true → v j = v' j)) : putsTo ops l v a n = putsTo ops l' v' a n := by
  induction n with
  | zero => rfl
  | succ n ih =>
    obtain ⟨h1, h2⟩ := h n (by omega)
    unfold putsTo
    rw [ih (fun j hj => h j (by omega)), ← h1]
    by_cases hl : l n = true
    · rw [if_pos hl, if_pos hl, h2 hl]
    · rw [if_neg hl, if_neg hl]
theorem putsTo_set {l : Nat → Bool} {vals : Nat → Value} {a : Act} {i : Nat} {v : Value} (hi : l i = false) :
    ∀ n, i < n → (∀ j, j < n → j ≠ i → ∀ d, dstOf ops i = some d → dstOf ops j ≠ some d) →
    putsTo ops (fun j => if j = i then true else l j) (fun j => if j = i then v else vals j) a n = (putsTo ops l vals a n).put (dstOf ops i) v := by
  intro n
  induction n with
  | zero => intro h; omega
  | succ n ih =>
    intro hin hd
    unfold putsTo
    by_cases hn : n = i
    · subst hn
      have e := putsTo_congr (ops := ops) (l := fun j => if j = n then true else l j) (l' := l) (v := fun j => if j = n then v else vals j) (v' := vals) (a := a) (n := n) (fun j hj => by
        have : j ≠ n := by omega
        exact ⟨by show (if j = n then true else l j) = l j; rw [if_neg this], fun _ => by show (if j = n then v else vals j) = vals j; rw [if_neg this]⟩)
      rw [e]
      simp only [if_true, hi, Bool.false_eq_true, if_false]
    · rw [if_neg hn, if_neg hn, ih (by omega) (fun j hj => hd j (by omega))]
      by_cases hl : l n = true
      · rw [if_pos hl, if_pos hl, Act.put_comm _ v (vals n) (hd n (by omega) hn)]
      · rw [if_neg hl, if_neg hl]
theorem getD_set_self (t : Array Value) (d : Nat) (v u : Value) : (t.setIfInBounds d v).getD d u = if d < t.size then v else u := by
  by_cases h : d < t.size <;> simp [h]
theorem putsTo_eval {l : Nat → Bool} {vals : Nat → Value} {a : Act} {x : Operand} : ∀ n, (∀ t, x = .tmp t → ∀ j, j < n → dstOf ops j = some t → l j = true) →
    (putsTo ops l vals a n).eval x = (putsTo ops (fun _ => true) vals a n).eval x ∧ (putsTo ops l vals a n).tmps.size = (putsTo ops (fun _ => true) vals a n).tmps.size := by
  have hsz : ∀ (a : Act) (d : Option Tmp) (v : Value), (a.put d v).tmps.size = a.tmps.size := fun a d v => by cases d <;> simp [Act.put]
  intro n
  induction n with
  | zero => intro _; exact ⟨rfl, rfl⟩
  | succ n ih =>
    intro h
    obtain ⟨h1, h2⟩ := ih (fun t ht j hj => h t ht j (by omega))
    unfold putsTo
    rw [if_pos rfl]
    by_cases hl : l n = true
    · rw [if_pos hl, hsz, hsz]
      refine ⟨?_, h2⟩
      cases hd : dstOf ops n with
      | none => exact h1
      | some d =>
        cases x with
        | tmp t =>
          by_cases htd : d = t
          · subst htd
            show ((putsTo ops l vals a n).tmps.setIfInBounds d (vals n)).getD d undef = ((putsTo ops (fun _ => true) vals a n).tmps.setIfInBounds d (vals n)).getD d undef
            rw [getD_set_self, getD_set_self, h2]
          · rw [Act.eval_put (fun e he hx => htd (by cases he; cases hx; rfl)), Act.eval_put (fun e he hx => htd (by cases he; cases hx; rfl))]; exact h1
        | _ => exact h1
    · rw [if_neg hl, hsz]
      refine ⟨?_, h2⟩
      rw [Act.eval_put (fun d hd hx => hl (h d hx n (by omega) hd))]; exact h1

/-- an operation, run at a frame, yields a value and a world as R says -/
def StepOK (P : Program) (o : Oper) (a : Act) (w : World) (R : Value → World → Prop) : Prop :=
  match (execOp a.eval o).run P w with
  | .ok (.value v) w' => R v w'
  | .ok (.enter f args) w' => Calls P f args w' fun e w'' => ∃ v, e = .returned v ∧ R v w''
  | _ => False
/-- an operation under its guard -/
def StepG (P : Program) (ops : Array Oper) (o : Oper) (a : Act) (w : World) (R : Value → World → Prop) : Prop :=
  if Region.wanted o (yielded ops a.tmps) = true then StepOK P o a w R else R undef w
theorem wpOp_of_stepG {o : Oper} {a a' : Act} {w : World} {i : Nat} {R : Value → World → Prop} {Q : Exit → Act → World → Prop} {K : Act → World → Prop} (hi : ops[i]? = some o)
    (hg : Region.wanted o (yielded ops a.tmps) = Region.wanted o (yielded ops a'.tmps))
    (he : execOp a.eval o = execOp a'.eval o) (h : StepG P ops o a' w R) (hK : ∀ v w', R v w' → K (a.put o.dst v) w') : wpOp P ops Q i K a w := by
  unfold wpOp
  simp only [hi]
  unfold StepG at h
  rw [hg]
  by_cases hw : Region.wanted o (yielded ops a'.tmps) = true
  · rw [if_pos hw] at h ⊢
    left
    unfold StepOK at h
    unfold Oper.wp
    rw [he]
    generalize (execOp a'.eval o).run P w = r at h
    cases r with
    | ok n w' =>
      cases n <;> simp only [Oper.upon] at h ⊢
      case value v => exact hK _ _ h
      case enter f args => exact h.mono fun e w'' ⟨v, hv, hr⟩ => by subst hv; exact hK _ _ hr
      all_goals exact h.elim
    | halt x w' => simp at h
  · rw [if_neg hw] at h ⊢
    exact hK _ _ h
theorem putsTo_wanted {l : Nat → Bool} {vals : Nat → Value} {a : Act} {o : Oper} (n : Nat) (h : ∀ g b, o.guard = some (g, b) → ∀ t, dstOf ops g = some t → ∀ j, j < n → dstOf ops j = some t → l j = true) :
    Region.wanted o (yielded ops (putsTo ops l vals a n).tmps) = Region.wanted o (yielded ops (putsTo ops (fun _ => true) vals a n).tmps) := by
  unfold Region.wanted
  cases hg : o.guard with
  | none => rfl
  | some gw =>
    obtain ⟨g, want⟩ := gw
    have hy : yielded ops (putsTo ops l vals a n).tmps g = yielded ops (putsTo ops (fun _ => true) vals a n).tmps g := by
      unfold yielded
      cases ht : (ops[g]?).bind (·.dst) with
      | none => rfl
      | some t =>
        obtain ⟨h1, h2⟩ := putsTo_eval (ops := ops) (l := l) (vals := vals) (a := a) (x := .tmp t) n (fun t' ht' j hj hd => h g want hg t ht j hj (by rw [hd]; cases ht'; rfl))
        have h3 : (putsTo ops l vals a n).tmps[t]? = (putsTo ops (fun _ => true) vals a n).tmps[t]? := by
          have h4 : (putsTo ops l vals a n).tmps.getD t undef = (putsTo ops (fun _ => true) vals a n).tmps.getD t undef := h1
          rcases Nat.lt_or_ge t (putsTo ops l vals a n).tmps.size with hl | hl
          · have hl2 : t < (putsTo ops (fun _ => true) vals a n).tmps.size := by rw [← h2]; exact hl
            rw [Array.getElem?_eq_getElem hl, Array.getElem?_eq_getElem hl2]
            simp [hl, hl2] at h4
            rw [h4]
          · rw [Array.getElem?_eq_none hl, Array.getElem?_eq_none (by omega)]
        show (match (some t).bind ((putsTo ops l vals a n).tmps[·]?) with | some (.bool b) => some b | _ => none) = (match (some t).bind ((putsTo ops (fun _ => true) vals a n).tmps[·]?) with | some (.bool b) => some b | _ => none)
        simp only [Option.bind_some, h3]
    simp only [hy]

/-- each operation of the head but the floating ones has a later one of the head, or the first behind it, that waits for it and does not float -/
def sinkF (md : Region.Mode) (ops : Array Oper) (fl : List Nat) (n : Nat) : Bool :=
  (List.range n).all fun i => fl.contains i || (List.range (n + 1)).any fun j => decide (i < j) && !fl.contains j && Region.waitsFor md ops j i
/-- a floating operation is out of all others' way -/
def floatB (md : Region.Mode) (ops : Array Oper) (fl : List Nat) : Bool :=
  fl.all fun i => match ops[i]? with
    | none => false
    | some oi => oi.guard.isNone && (List.range ops.size).all fun j => j == i || Region.waitsFor md ops j i || Region.waitsFor md ops i j || match ops[j]? with
      | some oj => oi.apart ops oj
      | none => true
/-- what the law asks of a region: n operations of its head wait for earlier ones alone, write slots of their own and read what they wait for; the rest stands behind them in one order -/
def headB (md : Region.Mode) (ops : Array Oper) (fl : List Nat) (n : Nat) : Bool :=
  Region.noSelect ops && decide (n < ops.size) && (sinkF md ops fl n && floatB md ops fl && fl.all (fun i => decide (i < n))) && Region.chainB md ops n &&
  ((List.range n).all fun k => match ops[k]? with
    | none => false
    | some o => (match o.guard with | none => true | some (g, _) => decide (g < n) && Region.waitsFor md ops k g) && (o.after.all fun e => !Region.binds md e || decide (e.on < k)) &&
      ((List.range n).all fun j => (j == k || o.dst.isNone || decide (dstOf ops j ≠ o.dst)) &&
        (o.op.operands.all fun x => match x with
          | .tmp t => decide (dstOf ops j ≠ some t) || Region.waitsFor md ops k j
          | _ => true))) &&
  Region.seqB md ops (ops.size - n) n ((Array.range ops.size).map fun i => decide (i < n))
/-- while something of the head that does not float is not listed, nothing behind the head comes up -/
theorem tail_waitsF {n : Nat} {fl : List Nat} {listed : Array Bool} (hs : sinkF md ops fl n = true) (hc : Region.chainB md ops n = true) (hn : n < ops.size) (inv : HeadInv md ops n listed) :
    ∀ (d i : Nat), n - i = d → i < n → fl.contains i = false → listed.getD i true = false → ∀ t, n ≤ t → t ∉ Region.ready md ops listed := by
  intro d
  induction d using Nat.strongRecOn with
  | _ d ih =>
    intro i hd hi hfi hun t ht hr
    obtain ⟨_, ot, hot, hall⟩ := mem_ready.1 hr
    have htlt : t < ops.size := (Array.getElem?_eq_some_iff.1 hot).1
    by_cases htn : t = n
    · subst htn
      have h1 := List.all_eq_true.1 hs i (List.mem_range.2 hi)
      rw [hfi, Bool.false_or] at h1
      obtain ⟨j, hj, hj2⟩ := List.any_eq_true.1 h1
      simp only [Bool.and_eq_true, decide_eq_true_eq, Bool.not_eq_true'] at hj2
      obtain ⟨oj, hoj, e, he, hb, hon⟩ := Region.waitsFor_spec hj2.2
      have hjle : j ≤ t := by have := List.mem_range.1 hj; omega
      by_cases hjt : j = t
      · subst hjt
        have : oj = ot := Option.some.inj (hoj.symm.trans hot)
        subst this
        have h2 := hall e he hb
        rw [hon, getD_both hun] at h2
        cases h2
      · cases hl : listed.getD j false with
        | true =>
          have h2 := inv.closed j oj hoj hl e he hb
          rw [hon, getD_both hun] at h2
          cases h2
        | false =>
          have hjs : j < listed.size := by rw [inv.size]; omega
          exact ih (t - j) (by omega) j rfl (by omega) hj2.1.2 (getD_in hjs hl) t (Nat.le_refl _) hr
    · have h1 := List.all_eq_true.1 hc t (List.mem_range.2 htlt)
      simp only [Bool.or_eq_true, decide_eq_true_eq] at h1
      rcases h1 with h1 | h1
      · omega
      · obtain ⟨o', ho', e, he, hb, hon⟩ := Region.waitsFor_spec h1
        have : o' = ot := Option.some.inj (ho'.symm.trans hot)
        subst this
        have h2 := hall e he hb
        rw [hon, getD_both (inv.tail (t - 1) (by omega) (by omega))] at h2
        cases h2

structure HeadOK (md : Region.Mode) (ops : Array Oper) (n k : Nat) (o : Oper) : Prop where
  guard : ∀ g b, o.guard = some (g, b) → g < n ∧ Region.waitsFor md ops k g = true
  early : ∀ e ∈ o.after, Region.binds md e = true → e.on < k
  dst : ∀ j, j < n → j ≠ k → ∀ d, o.dst = some d → dstOf ops j ≠ some d
  reads : ∀ x ∈ o.op.operands, ∀ t, x = .tmp t → ∀ j, j < n → dstOf ops j = some t → Region.waitsFor md ops k j = true
theorem headB_ok {n k : Nat} {fl : List Nat} {o : Oper} (h : headB md ops fl n = true) (hk : k < n) (ho : ops[k]? = some o) : HeadOK md ops n k o := by
  unfold headB at h
  simp only [Bool.and_eq_true] at h
  have h1 := List.all_eq_true.1 h.1.2 k (List.mem_range.2 hk)
  rw [ho] at h1
  simp only [Bool.and_eq_true, List.all_eq_true, List.mem_range] at h1
  obtain ⟨⟨g1, g2⟩, g3⟩ := h1
  refine ⟨fun g b hg => by
    rw [hg] at g1
    simpa using g1, fun e he hb => ?_, fun j hj hjk d hd => ?_, fun x hx t ht j hj hd => ?_⟩
  · have := Array.all_eq_true_iff_forall_mem.1 g2 e he
    rw [hb] at this; simpa using this
  · have := (g3 j hj).1
    rw [hd] at this
    simp only [Bool.or_eq_true, beq_iff_eq, Option.isNone_some, Bool.false_eq_true, or_false, decide_eq_true_eq] at this
    rcases this with h | h
    · exact absurd h hjk
    · exact h
  · have := Array.all_eq_true_iff_forall_mem.1 (g3 j hj).2 x hx
    subst ht
    simp only [Bool.or_eq_true, decide_eq_true_eq] at this
    rcases this with h | h
    · exact absurd hd h
    · exact h

/-- what stands behind some listed operations -/
structure DrawInv (md : Region.Mode) (ops : Array Oper) (n : Nat) (F : Nat → Value → World → Prop) (AL : Nat → Bool) (w0 : World) (a0 : Act) (listed : Array Bool) (a : Act) (w : World) : Prop where
  head : HeadInv md ops n listed
  below : Below w0.heap.size w0 w
  vals : ∃ vals : Nat → Value, a = putsTo ops (fun j => listed.getD j false) vals a0 n ∧ (∀ j, j < n → listed.getD j false = true → F j (vals j) w) ∧
    (∀ j, j < n → listed.getD j false = true → AL j = true → ∃ g, vals j = .pointer (some ⟨g, 0, none⟩) ∧ g < w.heap.size) ∧
    (∀ j k, j < n → k < n → j ≠ k → listed.getD j false = true → listed.getD k false = true → AL j = true → AL k = true → vals j ≠ vals k)

/-- how many of the first n are not listed -/
def unl (listed : Array Bool) : Nat → Nat
  | 0 => 0
  | n + 1 => unl listed n + if listed.getD n false then 0 else 1
theorem unl_zero {listed : Array Bool} : ∀ n, unl listed n = 0 → ∀ j, j < n → listed.getD j false = true
  | 0, _, j, hj => by omega
  | n + 1, h, j, hj => by
    unfold unl at h
    by_cases hn : listed.getD n false = true
    · rw [if_pos hn] at h
      by_cases hjn : j = n
      · subst hjn; exact hn
      · exact unl_zero n (by omega) j (by omega)
    · rw [if_neg hn] at h; omega
theorem unl_first {listed : Array Bool} : ∀ n, unl listed n ≠ 0 → ∃ k, k < n ∧ listed.getD k false = false ∧ ∀ j, j < k → listed.getD j false = true
  | 0, h => absurd rfl h
  | n + 1, h => by
    by_cases hz : unl listed n = 0
    · unfold unl at h
      refine ⟨n, by omega, ?_, unl_zero n hz⟩
      cases hn : listed.getD n false with
      | false => rfl
      | true => rw [hz, hn] at h; simp at h
    · obtain ⟨k, h1, h2⟩ := unl_first n hz
      exact ⟨k, by omega, h2⟩
theorem unl_congr {l l' : Array Bool} : ∀ n, (∀ j, j < n → l.getD j false = l'.getD j false) → unl l n = unl l' n
  | 0, _ => rfl
  | n + 1, h => by
    unfold unl
    rw [unl_congr n (fun j hj => h j (by omega)), h n (by omega)]
theorem unl_set {listed : Array Bool} {i : Nat} (hs : i < listed.size) (hi : listed.getD i false = false) : ∀ n, i < n → unl (listed.setIfInBounds i true) n + 1 = unl listed n
  | 0, h => by omega
  | n + 1, h => by
    unfold unl
    by_cases hn : n = i
    · subst hn
      rw [unl_congr (l' := listed) n (fun j hj => getD_set_ne false (by omega)), hi]
      have : (listed.setIfInBounds n true).getD n false = true := by simp [hs]
      rw [this]; simp
    · have ih := unl_set hs hi n (by omega)
      rw [getD_set_ne false (Ne.symm hn)]; omega

/-- a step that yields in whatever world -/
def StepPure (P : Program) (o : Oper) (a : Act) (R : Value → Prop) : Prop := ∃ v, (∀ w, (execOp a.eval o).run P w = .ok (.value v) w) ∧ R v
/-- what a step leaves -/
def Leaves (F : Nat → Value → World → Prop) (AL : Nat → Bool) (i : Nat) (w1 : World) (v : Value) (w2 : World) : Prop :=
  Below w1.heap.size w1 w2 ∧ F i v w2 ∧ (AL i = true → v = .pointer (some ⟨w1.heap.size, 0, none⟩) ∧ w1.heap.size < w2.heap.size)
theorem leaves_mk {F : Nat → Value → World → Prop} {AL : Nat → Bool} {i : Nat} {w1 w2 : World} {v : Value} (hb : Below w1.heap.size w1 w2) (hf : F i v w2) (hal : AL i = true → v = .pointer (some ⟨w1.heap.size, 0, none⟩) ∧ w1.heap.size < w2.heap.size) : Leaves F AL i w1 v w2 := ⟨hb, hf, hal⟩
theorem DrawInv.next {n i : Nat} {oi : Oper} {fl : List Nat} {F : Nat → Value → World → Prop} {AL : Nat → Bool} {w0 w w' : World} {a0 a : Act} {listed : Array Bool} {v : Value} (hB : headB md ops fl n = true)
    (hF : ∀ i v w1 w2, F i v w1 → Below w1.heap.size w1 w2 → F i v w2) (inv : DrawInv md ops n F AL w0 a0 listed a w) (hi : i ∈ Region.ready md ops listed) (hin : i < n) (hoi : ops[i]? = some oi)
    (h : Leaves F AL i w v w') : DrawInv md ops n F AL w0 a0 (listed.setIfInBounds i true) (a.put oi.dst v) w' := by
  obtain ⟨hiu, oi', hoi', hdeps⟩ := mem_ready.1 hi
  have : oi' = oi := Option.some.inj (hoi'.symm.trans hoi)
  subst this
  have hiu' := getD_both hiu
  have ok := headB_ok hB hin hoi
  have his : i < listed.size := by rw [inv.head.size]; exact (Array.getElem?_eq_some_iff.1 hoi).1
  have hdst : dstOf ops i = oi'.dst := by unfold dstOf; rw [hoi]; rfl
  obtain ⟨vals, rfl, hv, hg, hd⟩ := inv.vals
  obtain ⟨hb, hf, hal⟩ := h
  refine ⟨inv.head.set hi hin, inv.below.trans (hb.mono inv.below.size), fun j => if j = i then v else vals j, ?_, ?_, ?_, ?_⟩
  · rw [← hdst, ← putsTo_set hiu' n hin (fun j hj hji => by rw [hdst]; exact ok.dst j hj hji)]
    refine putsTo_congr fun j hj => ⟨?_, fun _ => rfl⟩
    by_cases hji : j = i
    · subst hji; rw [if_pos rfl]; simp [his]
    · rw [if_neg hji, getD_set_ne false (Ne.symm hji)]
  · intro j hj hl
    show F j (if j = i then v else vals j) w'
    by_cases hji : j = i
    · subst hji; rw [if_pos rfl]; exact hf
    · rw [if_neg hji]
      rw [getD_set_ne false (Ne.symm hji)] at hl
      exact hF _ _ _ _ (hv j hj hl) hb
  · intro j hj hl aj
    show ∃ g, (if j = i then v else vals j) = _ ∧ _
    by_cases hji : j = i
    · subst hji; rw [if_pos rfl]
      obtain ⟨e1, e2⟩ := hal aj
      exact ⟨_, e1, e2⟩
    · rw [if_neg hji]
      rw [getD_set_ne false (Ne.symm hji)] at hl
      obtain ⟨g, e1, e2⟩ := hg j hj hl aj
      exact ⟨g, e1, Nat.lt_of_lt_of_le e2 hb.size⟩
  · intro j k' hj hk' hjk hl hl' aj ak
    show (if j = i then v else vals j) ≠ (if k' = i then v else vals k')
    by_cases hji : j = i
    · subst hji
      have hki : k' ≠ j := fun e => hjk e.symm
      rw [if_pos rfl, if_neg hki]
      rw [getD_set_ne false (Ne.symm hki)] at hl'
      obtain ⟨e1, e2⟩ := hal aj
      obtain ⟨g, e3, e4⟩ := hg k' hk' hl' ak
      rw [e1, e3]
      intro h
      cases h; omega
    · rw [if_neg hji]
      rw [getD_set_ne false (Ne.symm hji)] at hl
      by_cases hki : k' = i
      · subst hki
        rw [if_pos rfl]
        obtain ⟨e1, e2⟩ := hal ak
        obtain ⟨g, e3, e4⟩ := hg j hj hl aj
        rw [e1, e3]
        intro h
        cases h; omega
      · rw [if_neg hki]
        rw [getD_set_ne false (Ne.symm hki)] at hl'
        exact hd j k' hj hk' hjk hl hl' aj ak

theorem wpAny_of_facts {n : Nat} {fl : List Nat} {Q : Exit → Act → World → Prop} {F : Nat → Value → World → Prop} {AL : Nat → Bool} {w0 : World} {a0 : Act} (hB : headB md ops fl n = true)
    (hQ : ∀ c (a : Act) (d : Tmp) v w, Q (.panic c) (a.put (some d) v) w → Q (.panic c) a w)
    (hF : ∀ i v w1 w2, F i v w1 → Below w1.heap.size w1 w2 → F i v w2)
    (hstep : ∀ i o, i < n → ops[i]? = some o → ∀ (vals : Nat → Value) (w1 : World), Below w0.heap.size w0 w1 → (∀ j, Region.waitsFor md ops i j = true → F j (vals j) w1) →
      if fl.contains i then StepPure P o (putsTo ops (fun _ => true) vals a0 n) (fun v => Leaves F AL i w1 v w1) else StepG P ops o (putsTo ops (fun _ => true) vals a0 n) w1 (Leaves F AL i w1))
    (hend : ∀ (vals : Nat → Value) (w1 : World), Below w0.heap.size w0 w1 → (∀ i, i < n → F i (vals i) w1) → (∀ i j, i < n → j < n → i ≠ j → AL i = true → AL j = true → vals i ≠ vals j) →
      wpList P ops Q (ops.toList.drop n) (putsTo ops (fun _ => true) vals a0 n) w1) :
    ∀ (m : Nat) (listed : Array Bool) (a : Act) (w : World), unl listed n = m → DrawInv md ops n F AL w0 a0 listed a w → wpAny P md ops Q (m + (ops.size - n)) listed a w := by
  have hB' := hB
  unfold headB at hB'
  simp only [Bool.and_eq_true, decide_eq_true_eq] at hB'
  obtain ⟨⟨⟨⟨⟨hsel, hn⟩, ⟨hs, hfb⟩, hfn⟩, hc⟩, _⟩, hseq⟩ := hB'
  intro m
  induction m with
  | zero =>
    intro listed a w hm inv
    have hall := unl_zero n hm
    obtain ⟨vals, rfl, hv, _, hd⟩ := inv.vals
    have hl : listed = (Array.range ops.size).map fun i => decide (i < n) := by
      apply Array.ext
      · simp [inv.head.size]
      · intro j h1 h2
        simp only [Array.getElem_map, Array.getElem_range]
        by_cases hj : j < n
        · have := hall j hj
          simp [h1] at this; rw [this, decide_eq_true hj]
        · have hjs : j < ops.size := by rw [← inv.head.size]; exact h1
          have := inv.head.tail j (by omega) hjs
          simp [h1] at this; rw [this, decide_eq_false hj]
    have hend' := hend vals w inv.below (fun i hi => hv i hi (hall i hi)) (fun i j hi hj hij ai aj => hd i j hi hj hij (hall i hi) (hall j hj) ai aj)
    rw [putsTo_congr (l' := fun _ => true) (v' := vals) (fun j hj => ⟨hall j hj, fun _ => rfl⟩)]
    rw [Nat.zero_add]
    have hlen : (ops.toList.drop n).length = ops.size - n := by simp
    have := wpAny_of_seq (P := P) (md := md) (Q' := Q) (ops.toList.drop n) n listed (putsTo ops (fun _ => true) vals a0 n) w (fun j => by simp [List.getElem?_drop]) (by rw [hlen, hl]; exact hseq) hend'
    rwa [hlen] at this
  | succ m ih =>
    intro listed a w hm inv
    have step : ∀ i oi, i ∈ Region.ready md ops listed → i < n → ops[i]? = some oi →
        (execOp a.eval oi = execOp (putsTo ops (fun _ => true) (Classical.choose inv.vals) a0 n).eval oi ∧ Region.wanted oi (yielded ops a.tmps) = Region.wanted oi (yielded ops (putsTo ops (fun _ => true) (Classical.choose inv.vals) a0 n).tmps)) ∧ (∀ j, Region.waitsFor md ops i j = true → F j (Classical.choose inv.vals j) w) ∧ unl (listed.setIfInBounds i true) n = m := by
      intro i oi hi hin hoi
      obtain ⟨ha, hv, _, _⟩ := Classical.choose_spec inv.vals
      obtain ⟨hiu, oi', hoi', hdeps⟩ := mem_ready.1 hi
      have : oi' = oi := Option.some.inj (hoi'.symm.trans hoi)
      subst this
      have ok := headB_ok hB hin hoi
      have his : i < listed.size := by rw [inv.head.size]; exact (Array.getElem?_eq_some_iff.1 hoi).1
      have hwl : ∀ j, Region.waitsFor md ops i j = true → listed.getD j false = true := fun j hj => by
        obtain ⟨o', ho', e, he, hb, hon⟩ := Region.waitsFor_spec hj
        have : o' = oi' := Option.some.inj (ho'.symm.trans hoi)
        subst this
        rw [← hon]; exact hdeps e he hb
      have hwn : ∀ j, Region.waitsFor md ops i j = true → j < n := fun j hj => by
        obtain ⟨o', ho', e, he, hb, hon⟩ := Region.waitsFor_spec hj
        have : o' = oi' := Option.some.inj (ho'.symm.trans hoi)
        subst this
        have := ok.early e he hb; omega
      refine ⟨?_, fun j hj => hv j (hwn j hj) (hwl j hj), by have := unl_set his (getD_both hiu) n hin; omega⟩
      have e := execOp_congr oi' (ρ := (putsTo ops (fun j => listed.getD j false) (Classical.choose inv.vals) a0 n).eval) (ρ' := (putsTo ops (fun _ => true) (Classical.choose inv.vals) a0 n).eval) (fun cs b => Region.noSelect_spec hsel i oi' cs b hoi)
        fun x hx => (putsTo_eval n (fun t ht j hj hdj => hwl j (ok.reads x hx t ht j hj hdj))).1
      have e2 := putsTo_wanted (ops := ops) (l := fun j => listed.getD j false) (vals := Classical.choose inv.vals) (a := a0) (o := oi') n (fun g b hg t ht j hj hdj => by
        obtain ⟨hgn, hw⟩ := ok.guard g b hg
        by_cases hjg : j = g
        · subst hjg; exact hwl _ hw
        · exfalso
          have hgs : g < ops.size := by omega
          have okg := headB_ok hB hgn (Array.getElem?_eq_getElem hgs)
          refine okg.dst j hj hjg t ?_ hdj
          unfold dstOf at ht
          rw [Array.getElem?_eq_getElem hgs] at ht; exact ht)
      rw [← ha] at e e2; exact ⟨e, e2⟩
    obtain ⟨k, hk, hku, hkl⟩ := unl_first (listed := listed) n (by omega)
    have hks : k < listed.size := by rw [inv.head.size]; omega
    have hkt := getD_in hks hku
    have hready : k ∈ Region.ready md ops listed := by
      rw [mem_ready]
      refine ⟨hkt, ops[k]'(by omega), by rw [Array.getElem?_eq_getElem], fun e he hb => ?_⟩
      exact hkl _ ((headB_ok hB hk (Array.getElem?_eq_getElem (by omega))).early e he hb)
    rw [show m + 1 + (ops.size - n) = (m + (ops.size - n)) + 1 by omega]
    by_cases hfl : ∃ i, i < n ∧ i ∈ Region.ready md ops listed ∧ fl.contains i = true
    · obtain ⟨i, hin, hi, hif⟩ := hfl
      obtain ⟨_, oi, hoi, _⟩ := mem_ready.1 hi
      obtain ⟨he, hdp, hu⟩ := step i oi hi hin hoi
      have st := hstep i oi hin hoi (Classical.choose inv.vals) w inv.below hdp
      rw [if_pos hif] at st
      obtain ⟨v, hv, hL⟩ := st
      have hfi := List.all_eq_true.1 hfb i (by simpa using hif)
      rw [hoi] at hfi
      simp only [Bool.and_eq_true] at hfi
      obtain ⟨hgn, hfi⟩ := hfi
      have hgn : oi.guard = none := by simpa using hgn
      refine wpAny_first hoi (Region.noSelect_spec hsel) (fun c a w h => by
        cases hd : oi.dst with
        | none => rw [hd] at h; exact h
        | some d => rw [hd] at h; exact hQ c a d v w h) _ listed a w ?_ hi (.inl ⟨by simp [Region.wanted, hgn], fun w' => by rw [he.1]; exact hv w'⟩) (ih _ _ _ hu (inv.next hB hF hi hin hoi hL))
      intro j oj hj hji hun hno
      have h1 := List.all_eq_true.1 hfi j (List.mem_range.2 (Array.getElem?_eq_some_iff.1 hj).1)
      rw [hj] at h1
      simp only [Bool.or_eq_true, beq_iff_eq, hji, false_or] at h1
      rcases h1 with (h1 | h1) | h1
      · obtain ⟨o', ho', e, he, hb, hon⟩ := Region.waitsFor_spec h1
        have : o' = oj := Option.some.inj (ho'.symm.trans hj)
        subst this
        exact absurd hon (hno e he hb)
      · obtain ⟨o', ho', e, he, hb, hon⟩ := Region.waitsFor_spec h1
        obtain ⟨_, o2, ho2, hall⟩ := mem_ready.1 hi
        have : o' = o2 := Option.some.inj (ho'.symm.trans ho2)
        subst this
        have := hall e he hb
        rw [hon, getD_both hun] at this; cases this
      · exact h1
    · have hkf : fl.contains k = false := by
        cases h : fl.contains k with
        | false => rfl
        | true => exact absurd ⟨k, hk, hready, h⟩ hfl
      refine ⟨fun h0 => (by rw [h0] at hready; cases hready), fun i hi => ?_⟩
      have hin : i < n := by
        rcases Nat.lt_or_ge i n with h | h
        · exact h
        · exact absurd hi (tail_waitsF hs hc hn inv.head _ k rfl hk hkf hkt i h)
      obtain ⟨_, oi, hoi, _⟩ := mem_ready.1 hi
      obtain ⟨he, hdp, hu⟩ := step i oi hi hin hoi
      have st := hstep i oi hin hoi (Classical.choose inv.vals) w inv.below hdp
      rw [if_neg (fun h => hfl ⟨i, hin, hi, h⟩)] at st
      refine wpOp_of_stepG hoi he.2 he.1 st ?_
      intro v w' hL
      exact ih _ _ _ hu (inv.next hB hF hi hin hoi hL)

/-- a list of facts, one for each operation from number i on; A: the frame with all values of the head -/
def stepsOK (P : Program) (md : Region.Mode) (ops : Array Oper) (fl : List Nat) (F : Nat → Value → World → Prop) (AL : Nat → Bool) (w0 : World) (A : (Nat → Value) → Act) : List Oper → Nat → Prop
  | [], _ => True
  | o :: l, i => (∀ (vals : Nat → Value) (w1 : World), Below w0.heap.size w0 w1 → (∀ j, Region.waitsFor md ops i j = true → F j (vals j) w1) →
      if fl.contains i then StepPure P o (A vals) (fun v => Leaves F AL i w1 v w1) else StepG P ops o (A vals) w1 (Leaves F AL i w1)) ∧
    stepsOK P md ops fl F AL w0 A l (i + 1)
theorem stepsOK_at {fl : List Nat} {F : Nat → Value → World → Prop} {AL : Nat → Bool} {w0 : World} {A : (Nat → Value) → Act} : ∀ (l : List Oper) (i : Nat), stepsOK P md ops fl F AL w0 A l i → ∀ k o, l[k]? = some o →
    ∀ (vals : Nat → Value) (w1 : World), Below w0.heap.size w0 w1 → (∀ j, Region.waitsFor md ops (i + k) j = true → F j (vals j) w1) →
      if fl.contains (i + k) then StepPure P o (A vals) (fun v => Leaves F AL (i + k) w1 v w1) else StepG P ops o (A vals) w1 (Leaves F AL (i + k) w1)
  | [], _, _, k, o, h => by simp at h
  | x :: l, i, hs, 0, o, h => by
    simp at h; subst h
    exact hs.1
  | x :: l, i, hs, k + 1, o, h => by
    have := stepsOK_at l (i + 1) hs.2 k o (by simpa using h)
    rw [show i + 1 + k = i + (k + 1) by omega] at this
    exact this
/-- the law: whatever the order, each operation of the head leaves its fact; behind them the rest is walked -/
theorem wp_region_facts {id : Nat} {Q : Exit → Act → World → Prop} {a : Act} {w : World} {l : List Oper} {A : (Nat → Value) → Act} (n : Nat) (fl : List Nat) (hm : P.follows .mixedOrders = true) (F : Nat → Value → World → Prop) (AL : Nat → Bool)
    (hB : headB .any l.toArray fl n = true)
    (hQ : ∀ c (a : Act) (d : Tmp) v w, Q (.panic c) (a.put (some d) v) w → Q (.panic c) a w)
    (hF : ∀ i v w1 w2, F i v w1 → Below w1.heap.size w1 w2 → F i v w2)
    (hA : ∀ vals : Nat → Value, putsTo l.toArray (fun _ => true) vals a n = A vals)
    (hstep : stepsOK P .any l.toArray fl F AL w A (l.take n) 0)
    (hend : ∀ (vals : Nat → Value) (w1 : World), Below w.heap.size w w1 → (∀ i, i < n → F i (vals i) w1) → (∀ i j, i < n → j < n → i ≠ j → AL i = true → AL j = true → vals i ≠ vals j) →
      wpList P l.toArray Q (l.drop n) (A vals) w1) : (Code.region id l.toArray true).wp P Q a w := by
  refine wp_region_any hm ?_
  have hB' := hB
  unfold headB at hB'
  simp only [Bool.and_eq_true, decide_eq_true_eq] at hB'
  have hn : n < l.toArray.size := hB'.1.1.1.1.2
  have hu : ∀ k, unl (Array.replicate l.toArray.size false) k = k := fun k => by
    induction k with
    | zero => rfl
    | succ k ih => unfold unl; rw [ih, getD_replicate_false]; rfl
  have key := wpAny_of_facts (P := P) (Q := Q) (F := F) (AL := AL) (w0 := w) (a0 := a) hB hQ hF (fun i o hi ho vals w1 hb hd => by
      have := stepsOK_at (l.take n) 0 hstep i o (by
        rw [List.getElem?_take, if_pos hi]; simpa using ho)
      rw [Nat.zero_add] at this; rw [hA]; exact this vals w1 hb hd) (fun vals w1 hb hf hd => by rw [hA]; simpa using hend vals w1 hb hf hd) n (Array.replicate l.toArray.size false) a { w with drawn := w.drawn + 1 } (hu n)
    ⟨⟨by simp, fun j oj _ hl => (by rw [getD_replicate_false] at hl; cases hl), fun t _ ht => getD_in (by simpa using ht) (getD_replicate_false _ _)⟩,
      (Below.refl w.heap.size w).drew, fun _ => undef, by
        have : ∀ k, putsTo l.toArray (fun j => (Array.replicate l.toArray.size false).getD j false) (fun _ => undef) a k = a := fun k => by
          induction k with
          | zero => rfl
          | succ k ih => unfold putsTo; rw [if_neg (by rw [getD_replicate_false]; decide), ih]
        exact (this n).symm, fun j _ hl => (by rw [getD_replicate_false] at hl; cases hl), fun j _ hl => (by rw [getD_replicate_false] at hl; cases hl), fun j _ _ _ _ hl => (by rw [getD_replicate_false] at hl; cases hl)⟩
  rw [show n + (l.toArray.size - n) = l.toArray.size by omega] at key
  exact key
section
variable {fl : List Nat} {F : Nat → Value → World → Prop} {AL : Nat → Bool} {w0 : World} {A : (Nat → Value) → Act} {i : Nat} {o : Oper} {l : List Oper}
theorem stepsOK_nil : stepsOK P md ops fl F AL w0 A [] i := trivial
theorem stepsOK_cons (hi : fl.contains i = false) (hg : o.guard = none)
    (h : ∀ (vals : Nat → Value) (w1 : World), Below w0.heap.size w0 w1 → (∀ j, Region.waitsFor md ops i j = true → F j (vals j) w1) → StepOK P o (A vals) w1 (Leaves F AL i w1))
    (hl : stepsOK P md ops fl F AL w0 A l (i + 1)) : stepsOK P md ops fl F AL w0 A (o :: l) i := ⟨fun vals w1 hb hd => by rw [if_neg (by rw [hi]; decide)]; unfold StepG; rw [if_pos (by simp [Region.wanted, hg])]; exact h vals w1 hb hd, hl⟩
theorem stepsOK_pure (hi : fl.contains i = true)
    (h : ∀ (vals : Nat → Value) (w1 : World), Below w0.heap.size w0 w1 → (∀ j, Region.waitsFor md ops i j = true → F j (vals j) w1) → StepPure P o (A vals) (fun v => Leaves F AL i w1 v w1))
    (hl : stepsOK P md ops fl F AL w0 A l (i + 1)) : stepsOK P md ops fl F AL w0 A (o :: l) i := ⟨fun vals w1 hb hd => by rw [if_pos hi]; exact h vals w1 hb hd, hl⟩
theorem stepsOK_guard (hi : fl.contains i = false)
    (h : ∀ (vals : Nat → Value) (w1 : World), Below w0.heap.size w0 w1 → (∀ j, Region.waitsFor md ops i j = true → F j (vals j) w1) → StepG P ops o (A vals) w1 (Leaves F AL i w1))
    (hl : stepsOK P md ops fl F AL w0 A l (i + 1)) : stepsOK P md ops fl F AL w0 A (o :: l) i := ⟨fun vals w1 hb hd => by rw [if_neg (by rw [hi]; decide)]; exact h vals w1 hb hd, hl⟩
end
theorem wanted_of {o : Oper} {tmps : Array Value} {g : Nat} {t : Tmp} {b want : Bool} (hg : o.guard = some (g, want)) (hd : (ops[g]?).bind (·.dst) = some t) (ht : tmps[t]? = some (.bool b)) (hb : (b == want) = true) : Region.wanted o (yielded ops tmps) = true := by
  have hy : yielded ops tmps g = some b := by unfold yielded; rw [hd]; show (match tmps[t]? with | some (.bool b) => some b | _ => none) = some b; rw [ht]
  unfold Region.wanted; rw [hg]
  have : b = want := by simpa using hb
  subst this
  simp [hy]
theorem unwanted_of {o : Oper} {tmps : Array Value} {g : Nat} {t : Tmp} {b want : Bool} (hg : o.guard = some (g, want)) (hd : (ops[g]?).bind (·.dst) = some t) (ht : tmps[t]? = some (.bool b)) (hb : (b == want) = false) : Region.wanted o (yielded ops tmps) = false := by
  have hy : yielded ops tmps g = some b := by unfold yielded; rw [hd]; show (match tmps[t]? with | some (.bool b) => some b | _ => none) = some b; rw [ht]
  unfold Region.wanted; rw [hg]
  have : b ≠ want := by simpa using hb
  simp [hy, this]
theorem stepG_yes {o : Oper} {a : Act} {w : World} {R : Value → World → Prop} (hw : Region.wanted o (yielded ops a.tmps) = true) (h : StepOK P o a w R) : StepG P ops o a w R := by
  unfold StepG; rw [if_pos hw]; exact h
theorem stepG_no {o : Oper} {a : Act} {w : World} {R : Value → World → Prop} (hw : Region.wanted o (yielded ops a.tmps) = false) (h : R undef w) : StepG P ops o a w R := by
  unfold StepG; rw [if_neg (by rw [hw]; decide)]; exact h
theorem stepPure_value {o : Oper} {a : Act} {v : Value} {R : Value → Prop} (h : ∀ w, (execOp a.eval o).run P w = .ok (.value v) w) (hR : R v) : StepPure P o a R := ⟨v, h, hR⟩
theorem stepOK_value {o : Oper} {a : Act} {w w' : World} {v : Value} {R : Value → World → Prop} (h : (execOp a.eval o).run P w = .ok (.value v) w') (hR : R v w') : StepOK P o a w R := by
  unfold StepOK; rw [h]; exact hR
theorem stepOK_call {o : Oper} {a : Act} {w w' : World} {f : FuncId} {args : Array Value} {R : Value → World → Prop} (h : (execOp a.eval o).run P w = .ok (.enter f args) w')
    (hR : Calls P f args w' fun e w'' => ∃ v, e = .returned v ∧ R v w'') : StepOK P o a w R := by
  unfold StepOK; rw [h]; exact hR
end
/-- facts that later operations keep -/
def MonoF (p : Value → World → Prop) : Prop := ∀ v w1 w2, p v w1 → Below w1.heap.size w1 w2 → p v w2
def Fl (l : List (Value → World → Prop)) (i : Nat) : Value → World → Prop := l.getD i fun _ _ => True
theorem monoL {l : List (Value → World → Prop)} (h : ∀ p ∈ l, MonoF p) (i : Nat) (v : Value) (w1 w2 : World) (h1 : Fl l i v w1) (hb : Below w1.heap.size w1 w2) : Fl l i v w2 := by
  unfold Fl at *
  rw [List.getD_eq_getElem?_getD] at *
  cases hi : l[i]? with
  | none => trivial
  | some p =>
    rw [hi] at h1
    exact h p (List.mem_of_getElem? hi) v w1 w2 h1 hb
theorem monoN : ∀ p ∈ ([] : List (Value → World → Prop)), MonoF p := fun _ h => by cases h
theorem monoC {p : Value → World → Prop} {l : List (Value → World → Prop)} (hp : MonoF p) (h : ∀ p ∈ l, MonoF p) : ∀ q ∈ p :: l, MonoF q := fun q hq => by
  rcases List.mem_cons.1 hq with rfl | hq
  · exact hp
  · exact h q hq
def KEq (c : Value) : Value → World → Prop := fun v _ => v = c
theorem kEq (c : Value) : MonoF (KEq c) := fun _ _ _ h _ => h
def KAny : Value → World → Prop := fun _ _ => True
theorem kAny : MonoF KAny := fun _ _ _ h _ => h
end Go.Proofs.YtabdndlaelfdeaaDoor
/-
  Statements of open order over fractions: the facts that operations leave.
  Conditions: each theorem's own.
-/
namespace Go.Proofs.YtabdndlaelfdeaaDoor
open Go.RowKit Go.ChangeShapes Go.WideShapes

def KIs (q : Rat) : Value → World → Prop := fun v w => IsR w v q
theorem kIs (q : Rat) : MonoF (KIs q) := fun _ _ _ h hb => IsR.below h hb
/-- a new variable of a fraction, in a block from B on -/
def KBox (B : Nat) : Value → World → Prop := fun v w => ∃ g, B ≤ g ∧ v = .pointer (some ⟨g, 0, none⟩) ∧ w.heap[g]? = some (.cells #[.bool false, .slice none 0 0, .slice none 0 0] 24)
theorem kBox (B : Nat) : MonoF (KBox B) := fun _ _ _ ⟨g, h1, h2, h3⟩ hb => ⟨g, h1, h2, heap_below h3 hb⟩
/-- a fraction and an error -/
def KRE (q : Rat) (er : Value) : Value → World → Prop := fun v w => ∃ b, v = .tuple #[b, er] ∧ IsR w b q
theorem kRE (q : Rat) (er : Value) : MonoF (KRE q er) := fun _ _ _ ⟨b, h1, h2⟩ hb => ⟨b, h1, h2.below hb⟩
/-- a number of words -/
def KNum (n : Nat) : Value → World → Prop := fun v w => Num w v (wd n)
theorem kNum (n : Nat) : MonoF (KNum n) := fun _ _ _ h hb => Num.below h hb
theorem put3_ne {w : World} {g p : Nat} {x y z : Value} (h : p ≠ g) : (put3 w g x y z).heap[p]? = w.heap[p]? := by
  unfold put3; rw [Below.heap_setCell _ _ _ _ h, Below.heap_setCell _ _ _ _ h, Below.heap_setCell _ _ _ _ h]
theorem below_lt {w1 : World} {g : Nat} {o : Obj} (h : w1.heap[g]? = some o) : g < w1.heap.size := (Array.getElem?_eq_some_iff.1 h).1
/-! what a store of a fraction into a variable keeps -/
theorem putx {w w' : World} {g p : Nat} {x y z : Value} {o : Obj} (hw : w' = put3 w g x y z) (h : w.heap[p]? = some o) (hp : p ≠ g) : w'.heap[p]? = some o := by
  rw [hw, put3_ne hp]; exact h
theorem putb {w0 w w' : World} {B g : Nat} {x y z : Value} (hw : w' = put3 w g x y z) (h : Below B w0 w) (hg : B ≤ g) : Below B w0 w' := by
  rw [hw]; exact put3_below h hg x y z
section
variable {w w' : World} {g : Nat} {x y z v : Value} {s s' : Bool} {o p : Option Addr} {n c m d : Nat} {T : TypeId} {q : Rat} {a b : List Nat}
theorem putkI (hw : w' = put3 w g x y z) (h : IsR w v q) (hg : w.heap[g]? = some (.cells #[.bool s, .slice o n c, .slice p m d] T)) : IsR w' v q := by
  rw [hw]; exact isR_put h hg
theorem putkR (hw : w' = put3 w g x y z) (h : RatIs w v q) (hg : w.heap[g]? = some (.cells #[.bool s, .slice o n c, .slice p m d] T)) : RatIs w' v q := by
  rw [hw]; exact ratIs_put h hg
theorem putkV (hw : w' = put3 w g x y z) (h : RatV w v s' a b) (hg : w.heap[g]? = some (.cells #[.bool s, .slice o n c, .slice p m d] T)) : RatV w' v s' a b := by
  rw [hw]; exact ratV_put h hg (fun n e => by cases e) (fun n e => by cases e) (fun n e => by cases e)
end
end Go.Proofs.YtabdndlaelfdeaaDoor
