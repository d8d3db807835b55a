/-
  The texts Rat13, SpanLaw0, SpanLaw1, Span8, Span4, Span5, Span5d, SpanLaw2, Span6, one behind the other (what the law leans on).
  Conditions: each theorem's own.
-/
import Derived.Test.YtaefimegiobkmaaGreatDoorMB4
/-
  Text of a fraction; whether two fractions have the same fields.
  Conditions: each theorem's own.
-/
namespace Go.Proofs.YtaefimegiobkmaaGreatDoor
open Go.RowKit Go.ChangeShapes Go.WideShapes

/-- the text of a number -/
def rtx (p : Rat) : List UInt8 := (if ng p then [45] else []) ++ decL (nn p) ++ (if p.den = 1 then [] else 47 :: decL p.den)
theorem decB_size {n : Nat} (h : (wd n).length ≤ 100000) : (decB n).size ≤ 1000000 := by
  rw [decB_decL]
  have := decL_words h (by decide)
  simp [ByteArray.size]; omega
theorem cmpN_zero {m n : Nat} (h : cmpN m n = 0) : m = n := by
  unfold cmpN at h; split at h
  · cases h
  · split at h
    · cases h
    · omega
set_option maxRecDepth 100000 in
set_option maxHeartbeats 3200000 in
theorem text_f1 (vp : Value) (p : Rat) (w : World) (hp : RatIs w vp p) (hs : ng p = false) (hd : p.den = 1) :
    Calls Tryz.prog 62 #[vp] w (RetV w (.string ⟨(rtx p).toArray⟩)) := by
  obtain ⟨sp, op, np, cp, ap, mp, dp, rfl⟩ := hp.shape
  have hlp := hp.rl
  have hb0 := ((Below.refl w.heap.size w).alloc (by first | (simp; done) | (simp; omega)) (.cells #[.bool sp, .slice op np cp, .slice ap mp dp] 24))
  have hxp := nest1_0 w (.cells #[.bool sp, .slice op np cp, .slice ap mp dp] 24)
  have hpp := hp.below hb0
  obtain ⟨w0, hw0⟩ : ∃ w0, w0 = (w.alloc (.cells #[.bool sp, .slice op np cp, .slice ap mp dp] 24)) := ⟨_, rfl⟩
  rw [← hw0] at hb0 hxp hpp
  have HB0 := Lib.hid hb0; have HW0 := Lib.hid hw0
  have BXp := Lib.hid hxp
  have Fp := Lib.hid hpp
  clear hb0 hw0 hxp hpp hp
  have l1 := rl_n p; have l2 := rl_d p
  have hz1 := decB_size (n := nn p) (by omega); have hz2 := decB_size (n := p.den) (by omega)
  have heq : (⟨(rtx p).toArray⟩ : ByteArray) = decB (nn p) := by
    unfold rtx; rw [hs, if_pos hd, decB_decL]; apply ByteArray.ext; simp
  rw [heq]
  have hlo : (wd 1).length ≤ 1 := by rw [wd_one_len]; exact Nat.le_refl _
  obtain ⟨c, hc⟩ : ∃ c, c = cmpN p.den 1 := ⟨_, rfl⟩
  have hc0 : c = 0 := by rw [hc]; exact cmpN_eq hd
  have hcb : (c == 0) = true := by rw [hc0]; rfl
  have HC := Lib.hid hc; have HS := Lib.hid hs; have HSP := Lib.hid hs; clear hc hs heq hd hc0
  have ht1 := fun v wx (h : Num wx v (wd (nn p))) => text_any v _ wx h (by omega)
  rw [val_wd] at ht1
  obtain ⟨B, hB⟩ : ∃ B, B = decB (nn p) := ⟨_, rfl⟩; obtain ⟨D, hD⟩ : ∃ D, D = decB p.den := ⟨_, rfl⟩
  rw [← hB] at ht1 hz1 ⊢
  rw [← hD] at hz2
  have HT1 := Lib.hid ht1; clear ht1 hB hD
  go_enter Tryz.func62, Tryz.ntmps62
  have hs := parts_any _ p w0 Fp.out
  have HS := Lib.hid hs; clear hs
  go_wp2_with fail
  rw [← HW0.out]
  (with_reducible refine HS.out.mono ?_); rintro e w1 ⟨v1, u1, rfl, hb1, hn1, hm1⟩
  clear HS
  rw [HSP.out]
  have HB1 := Lib.hid (HB0.out.step hb1)
  have Fp := Lib.hid (Fp.out.below hb1)
  have BXp := Lib.hid (heap_below BXp.out hb1)
  have N := Lib.hid hn1
  have D0 := Lib.hid hm1
  clear hn1 hm1
  clear hb1
  have hs := HT1.out _ w1 N.out
  have HS := Lib.hid hs; clear hs
  go_wp2_with fail
  (with_reducible refine HS.out.mono ?_); rintro e w2 ⟨rfl, hb2⟩
  clear HS
  have HB2 := Lib.hid (HB1.out.step hb2)
  have Fp := Lib.hid (Fp.out.below hb2)
  have N := Lib.hid (N.out.below hb2)
  have D0 := Lib.hid (D0.out.below hb2)
  have BXp := Lib.hid (heap_below BXp.out hb2)
  clear hb2
  have hs := one_any w2
  have HS := Lib.hid hs; clear hs
  go_wp2_with fail
  (with_reducible refine HS.out.mono ?_); rintro e w3 ⟨v3, rfl, hb3, hn3⟩
  clear HS
  have HB3 := Lib.hid (HB2.out.step hb3)
  have Fp := Lib.hid (Fp.out.below hb3)
  have N := Lib.hid (N.out.below hb3)
  have D0 := Lib.hid (D0.out.below hb3)
  have BXp := Lib.hid (heap_below BXp.out hb3)
  have ONE := Lib.hid hn3; clear hn3
  clear hb3
  have hs := cmpN_ D0.out ONE.out (by omega) (by omega)
  rw [← HC.out] at hs
  have HS := Lib.hid hs; clear hs
  go_wp2_with fail
  (with_reducible refine HS.out.mono ?_); rintro e w4 ⟨rfl, hb4⟩
  clear HS
  have HB4 := Lib.hid (HB3.out.step hb4)
  have Fp := Lib.hid (Fp.out.below hb4)
  have N := Lib.hid (N.out.below hb4)
  have D0 := Lib.hid (D0.out.below hb4)
  have ONE := Lib.hid (ONE.out.below hb4)
  have BXp := Lib.hid (heap_below BXp.out hb4)
  clear hb4
  go_wp2_with fail
  all_goals first | (go_ret; exact ⟨by first | rfl | (simp; done), HB4.out⟩) | (rename_i h; exact absurd h (by simp; omega))
set_option maxRecDepth 100000 in
set_option maxHeartbeats 3200000 in
theorem text_f0 (vp : Value) (p : Rat) (w : World) (hp : RatIs w vp p) (hs : ng p = false) (hd : p.den ≠ 1) :
    Calls Tryz.prog 62 #[vp] w (RetV w (.string ⟨(rtx p).toArray⟩)) := by
  obtain ⟨sp, op, np, cp, ap, mp, dp, rfl⟩ := hp.shape
  have hlp := hp.rl
  have hb0 := ((Below.refl w.heap.size w).alloc (by first | (simp; done) | (simp; omega)) (.cells #[.bool sp, .slice op np cp, .slice ap mp dp] 24))
  have hxp := nest1_0 w (.cells #[.bool sp, .slice op np cp, .slice ap mp dp] 24)
  have hpp := hp.below hb0
  obtain ⟨w0, hw0⟩ : ∃ w0, w0 = (w.alloc (.cells #[.bool sp, .slice op np cp, .slice ap mp dp] 24)) := ⟨_, rfl⟩
  rw [← hw0] at hb0 hxp hpp
  have HB0 := Lib.hid hb0; have HW0 := Lib.hid hw0
  have BXp := Lib.hid hxp
  have Fp := Lib.hid hpp
  clear hb0 hw0 hxp hpp hp
  have l1 := rl_n p; have l2 := rl_d p
  have hz1 := decB_size (n := nn p) (by omega); have hz2 := decB_size (n := p.den) (by omega)
  have heq : (⟨(rtx p).toArray⟩ : ByteArray) = decB (nn p) ++ (⟨#[47]⟩ ++ decB p.den) := by
    unfold rtx; rw [hs, if_neg hd, decB_decL, decB_decL]; apply ByteArray.ext; simp
  rw [heq]
  have hlo : (wd 1).length ≤ 1 := by rw [wd_one_len]; exact Nat.le_refl _
  obtain ⟨c, hc⟩ : ∃ c, c = cmpN p.den 1 := ⟨_, rfl⟩
  have hcb : (c == 0) = false := by rw [hc, beq_eq_false_iff_ne]; exact fun e => hd (cmpN_zero e)
  have HC := Lib.hid hc; have HS := Lib.hid hs; have HSP := Lib.hid hs; clear hc hs heq hd
  have ht1 := fun v wx (h : Num wx v (wd (nn p))) => text_any v _ wx h (by omega)
  rw [val_wd] at ht1
  obtain ⟨B, hB⟩ : ∃ B, B = decB (nn p) := ⟨_, rfl⟩; obtain ⟨D, hD⟩ : ∃ D, D = decB p.den := ⟨_, rfl⟩
  rw [← hB] at ht1 hz1 ⊢
  rw [← hD] at hz2 ⊢
  have ht2 := fun v wx (h : Num wx v (wd p.den)) => text_any v _ wx h (by omega)
  rw [val_wd, ← hD] at ht2
  have HT2 := Lib.hid ht2; clear ht2
  have HT1 := Lib.hid ht1; clear ht1 hB hD
  go_enter Tryz.func62, Tryz.ntmps62
  have hs := parts_any _ p w0 Fp.out
  have HS := Lib.hid hs; clear hs
  go_wp2_with fail
  rw [← HW0.out]
  (with_reducible refine HS.out.mono ?_); rintro e w1 ⟨v1, u1, rfl, hb1, hn1, hm1⟩
  clear HS
  rw [HSP.out]
  have HB1 := Lib.hid (HB0.out.step hb1)
  have Fp := Lib.hid (Fp.out.below hb1)
  have BXp := Lib.hid (heap_below BXp.out hb1)
  have N := Lib.hid hn1
  have D0 := Lib.hid hm1
  clear hn1 hm1
  clear hb1
  have hs := HT1.out _ w1 N.out
  have HS := Lib.hid hs; clear hs
  go_wp2_with fail
  (with_reducible refine HS.out.mono ?_); rintro e w2 ⟨rfl, hb2⟩
  clear HS
  have HB2 := Lib.hid (HB1.out.step hb2)
  have Fp := Lib.hid (Fp.out.below hb2)
  have N := Lib.hid (N.out.below hb2)
  have D0 := Lib.hid (D0.out.below hb2)
  have BXp := Lib.hid (heap_below BXp.out hb2)
  clear hb2
  have hs := one_any w2
  have HS := Lib.hid hs; clear hs
  go_wp2_with fail
  (with_reducible refine HS.out.mono ?_); rintro e w3 ⟨v3, rfl, hb3, hn3⟩
  clear HS
  have HB3 := Lib.hid (HB2.out.step hb3)
  have Fp := Lib.hid (Fp.out.below hb3)
  have N := Lib.hid (N.out.below hb3)
  have D0 := Lib.hid (D0.out.below hb3)
  have BXp := Lib.hid (heap_below BXp.out hb3)
  have ONE := Lib.hid hn3; clear hn3
  clear hb3
  have hs := cmpN_ D0.out ONE.out (by omega) (by omega)
  rw [← HC.out] at hs
  have HS := Lib.hid hs; clear hs
  go_wp2_with fail
  (with_reducible refine HS.out.mono ?_); rintro e w4 ⟨rfl, hb4⟩
  clear HS
  have HB4 := Lib.hid (HB3.out.step hb4)
  have Fp := Lib.hid (Fp.out.below hb4)
  have N := Lib.hid (N.out.below hb4)
  have D0 := Lib.hid (D0.out.below hb4)
  have ONE := Lib.hid (ONE.out.below hb4)
  have BXp := Lib.hid (heap_below BXp.out hb4)
  clear hb4
  have hs := HT2.out _ w4 D0.out
  have HS := Lib.hid hs; clear hs
  go_wp2_with fail
  (with_reducible refine HS.out.mono ?_); rintro e w5 ⟨rfl, hb5⟩
  clear HS
  have HB5 := Lib.hid (HB4.out.step hb5)
  have Fp := Lib.hid (Fp.out.below hb5)
  have N := Lib.hid (N.out.below hb5)
  have D0 := Lib.hid (D0.out.below hb5)
  have ONE := Lib.hid (ONE.out.below hb5)
  have BXp := Lib.hid (heap_below BXp.out hb5)
  clear hb5
  go_wp2_with fail
  all_goals first | (go_ret; exact ⟨by first | rfl | (simp; done), HB5.out⟩) | (rename_i h; exact absurd h (by simp; omega))
set_option maxRecDepth 100000 in
set_option maxHeartbeats 3200000 in
theorem text_t1 (vp : Value) (p : Rat) (w : World) (hp : RatIs w vp p) (hs : ng p = true) (hd : p.den = 1) :
    Calls Tryz.prog 62 #[vp] w (RetV w (.string ⟨(rtx p).toArray⟩)) := by
  obtain ⟨sp, op, np, cp, ap, mp, dp, rfl⟩ := hp.shape
  have hlp := hp.rl
  have hb0 := ((Below.refl w.heap.size w).alloc (by first | (simp; done) | (simp; omega)) (.cells #[.bool sp, .slice op np cp, .slice ap mp dp] 24))
  have hxp := nest1_0 w (.cells #[.bool sp, .slice op np cp, .slice ap mp dp] 24)
  have hpp := hp.below hb0
  obtain ⟨w0, hw0⟩ : ∃ w0, w0 = (w.alloc (.cells #[.bool sp, .slice op np cp, .slice ap mp dp] 24)) := ⟨_, rfl⟩
  rw [← hw0] at hb0 hxp hpp
  have HB0 := Lib.hid hb0; have HW0 := Lib.hid hw0
  have BXp := Lib.hid hxp
  have Fp := Lib.hid hpp
  clear hb0 hw0 hxp hpp hp
  have l1 := rl_n p; have l2 := rl_d p
  have hz1 := decB_size (n := nn p) (by omega); have hz2 := decB_size (n := p.den) (by omega)
  have heq : (⟨(rtx p).toArray⟩ : ByteArray) = ⟨#[45]⟩ ++ decB (nn p) := by
    unfold rtx; rw [hs, if_pos hd, decB_decL]; apply ByteArray.ext; simp
  rw [heq]
  have hlo : (wd 1).length ≤ 1 := by rw [wd_one_len]; exact Nat.le_refl _
  obtain ⟨c, hc⟩ : ∃ c, c = cmpN p.den 1 := ⟨_, rfl⟩
  have hc0 : c = 0 := by rw [hc]; exact cmpN_eq hd
  have hcb : (c == 0) = true := by rw [hc0]; rfl
  have HC := Lib.hid hc; have HS := Lib.hid hs; have HSP := Lib.hid hs; clear hc hs heq hd hc0
  have ht1 := fun v wx (h : Num wx v (wd (nn p))) => text_any v _ wx h (by omega)
  rw [val_wd] at ht1
  obtain ⟨B, hB⟩ : ∃ B, B = decB (nn p) := ⟨_, rfl⟩; obtain ⟨D, hD⟩ : ∃ D, D = decB p.den := ⟨_, rfl⟩
  rw [← hB] at ht1 hz1 ⊢
  rw [← hD] at hz2
  have HT1 := Lib.hid ht1; clear ht1 hB hD
  go_enter Tryz.func62, Tryz.ntmps62
  have hs := parts_any _ p w0 Fp.out
  have HS := Lib.hid hs; clear hs
  go_wp2_with fail
  rw [← HW0.out]
  (with_reducible refine HS.out.mono ?_); rintro e w1 ⟨v1, u1, rfl, hb1, hn1, hm1⟩
  clear HS
  rw [HSP.out]
  have HB1 := Lib.hid (HB0.out.step hb1)
  have Fp := Lib.hid (Fp.out.below hb1)
  have BXp := Lib.hid (heap_below BXp.out hb1)
  have N := Lib.hid hn1
  have D0 := Lib.hid hm1
  clear hn1 hm1
  clear hb1
  have hs := HT1.out _ w1 N.out
  have HS := Lib.hid hs; clear hs
  go_wp2_with fail
  (with_reducible refine HS.out.mono ?_); rintro e w2 ⟨rfl, hb2⟩
  clear HS
  have HB2 := Lib.hid (HB1.out.step hb2)
  have Fp := Lib.hid (Fp.out.below hb2)
  have N := Lib.hid (N.out.below hb2)
  have D0 := Lib.hid (D0.out.below hb2)
  have BXp := Lib.hid (heap_below BXp.out hb2)
  clear hb2
  have hs := one_any w2
  have HS := Lib.hid hs; clear hs
  go_wp2_with fail
  (with_reducible refine HS.out.mono ?_); rintro e w3 ⟨v3, rfl, hb3, hn3⟩
  clear HS
  have HB3 := Lib.hid (HB2.out.step hb3)
  have Fp := Lib.hid (Fp.out.below hb3)
  have N := Lib.hid (N.out.below hb3)
  have D0 := Lib.hid (D0.out.below hb3)
  have BXp := Lib.hid (heap_below BXp.out hb3)
  have ONE := Lib.hid hn3; clear hn3
  clear hb3
  have hs := cmpN_ D0.out ONE.out (by omega) (by omega)
  rw [← HC.out] at hs
  have HS := Lib.hid hs; clear hs
  go_wp2_with fail
  (with_reducible refine HS.out.mono ?_); rintro e w4 ⟨rfl, hb4⟩
  clear HS
  have HB4 := Lib.hid (HB3.out.step hb4)
  have Fp := Lib.hid (Fp.out.below hb4)
  have N := Lib.hid (N.out.below hb4)
  have D0 := Lib.hid (D0.out.below hb4)
  have ONE := Lib.hid (ONE.out.below hb4)
  have BXp := Lib.hid (heap_below BXp.out hb4)
  clear hb4
  go_wp2_with fail
  all_goals first | (go_ret; exact ⟨by first | rfl | (simp; done), HB4.out⟩) | (rename_i h; exact absurd h (by simp; omega))
set_option maxRecDepth 100000 in
set_option maxHeartbeats 3200000 in
theorem text_t0 (vp : Value) (p : Rat) (w : World) (hp : RatIs w vp p) (hs : ng p = true) (hd : p.den ≠ 1) :
    Calls Tryz.prog 62 #[vp] w (RetV w (.string ⟨(rtx p).toArray⟩)) := by
  obtain ⟨sp, op, np, cp, ap, mp, dp, rfl⟩ := hp.shape
  have hlp := hp.rl
  have hb0 := ((Below.refl w.heap.size w).alloc (by first | (simp; done) | (simp; omega)) (.cells #[.bool sp, .slice op np cp, .slice ap mp dp] 24))
  have hxp := nest1_0 w (.cells #[.bool sp, .slice op np cp, .slice ap mp dp] 24)
  have hpp := hp.below hb0
  obtain ⟨w0, hw0⟩ : ∃ w0, w0 = (w.alloc (.cells #[.bool sp, .slice op np cp, .slice ap mp dp] 24)) := ⟨_, rfl⟩
  rw [← hw0] at hb0 hxp hpp
  have HB0 := Lib.hid hb0; have HW0 := Lib.hid hw0
  have BXp := Lib.hid hxp
  have Fp := Lib.hid hpp
  clear hb0 hw0 hxp hpp hp
  have l1 := rl_n p; have l2 := rl_d p
  have hz1 := decB_size (n := nn p) (by omega); have hz2 := decB_size (n := p.den) (by omega)
  have heq : (⟨(rtx p).toArray⟩ : ByteArray) = ⟨#[45]⟩ ++ decB (nn p) ++ (⟨#[47]⟩ ++ decB p.den) := by
    unfold rtx; rw [hs, if_neg hd, decB_decL, decB_decL]; apply ByteArray.ext; simp
  rw [heq]
  have hlo : (wd 1).length ≤ 1 := by rw [wd_one_len]; exact Nat.le_refl _
  obtain ⟨c, hc⟩ : ∃ c, c = cmpN p.den 1 := ⟨_, rfl⟩
  have hcb : (c == 0) = false := by rw [hc, beq_eq_false_iff_ne]; exact fun e => hd (cmpN_zero e)
  have HC := Lib.hid hc; have HS := Lib.hid hs; have HSP := Lib.hid hs; clear hc hs heq hd
  have ht1 := fun v wx (h : Num wx v (wd (nn p))) => text_any v _ wx h (by omega)
  rw [val_wd] at ht1
  obtain ⟨B, hB⟩ : ∃ B, B = decB (nn p) := ⟨_, rfl⟩; obtain ⟨D, hD⟩ : ∃ D, D = decB p.den := ⟨_, rfl⟩
  rw [← hB] at ht1 hz1 ⊢
  rw [← hD] at hz2 ⊢
  have ht2 := fun v wx (h : Num wx v (wd p.den)) => text_any v _ wx h (by omega)
  rw [val_wd, ← hD] at ht2
  have HT2 := Lib.hid ht2; clear ht2
  have HT1 := Lib.hid ht1; clear ht1 hB hD
  go_enter Tryz.func62, Tryz.ntmps62
  have hs := parts_any _ p w0 Fp.out
  have HS := Lib.hid hs; clear hs
  go_wp2_with fail
  rw [← HW0.out]
  (with_reducible refine HS.out.mono ?_); rintro e w1 ⟨v1, u1, rfl, hb1, hn1, hm1⟩
  clear HS
  rw [HSP.out]
  have HB1 := Lib.hid (HB0.out.step hb1)
  have Fp := Lib.hid (Fp.out.below hb1)
  have BXp := Lib.hid (heap_below BXp.out hb1)
  have N := Lib.hid hn1
  have D0 := Lib.hid hm1
  clear hn1 hm1
  clear hb1
  have hs := HT1.out _ w1 N.out
  have HS := Lib.hid hs; clear hs
  go_wp2_with fail
  (with_reducible refine HS.out.mono ?_); rintro e w2 ⟨rfl, hb2⟩
  clear HS
  have HB2 := Lib.hid (HB1.out.step hb2)
  have Fp := Lib.hid (Fp.out.below hb2)
  have N := Lib.hid (N.out.below hb2)
  have D0 := Lib.hid (D0.out.below hb2)
  have BXp := Lib.hid (heap_below BXp.out hb2)
  clear hb2
  have hs := one_any w2
  have HS := Lib.hid hs; clear hs
  go_wp2_with fail
  (with_reducible refine HS.out.mono ?_); rintro e w3 ⟨v3, rfl, hb3, hn3⟩
  clear HS
  have HB3 := Lib.hid (HB2.out.step hb3)
  have Fp := Lib.hid (Fp.out.below hb3)
  have N := Lib.hid (N.out.below hb3)
  have D0 := Lib.hid (D0.out.below hb3)
  have BXp := Lib.hid (heap_below BXp.out hb3)
  have ONE := Lib.hid hn3; clear hn3
  clear hb3
  have hs := cmpN_ D0.out ONE.out (by omega) (by omega)
  rw [← HC.out] at hs
  have HS := Lib.hid hs; clear hs
  go_wp2_with fail
  (with_reducible refine HS.out.mono ?_); rintro e w4 ⟨rfl, hb4⟩
  clear HS
  have HB4 := Lib.hid (HB3.out.step hb4)
  have Fp := Lib.hid (Fp.out.below hb4)
  have N := Lib.hid (N.out.below hb4)
  have D0 := Lib.hid (D0.out.below hb4)
  have ONE := Lib.hid (ONE.out.below hb4)
  have BXp := Lib.hid (heap_below BXp.out hb4)
  clear hb4
  have hs := HT2.out _ w4 D0.out
  have HS := Lib.hid hs; clear hs
  go_wp2_with fail
  (with_reducible refine HS.out.mono ?_); rintro e w5 ⟨rfl, hb5⟩
  clear HS
  have HB5 := Lib.hid (HB4.out.step hb5)
  have Fp := Lib.hid (Fp.out.below hb5)
  have N := Lib.hid (N.out.below hb5)
  have D0 := Lib.hid (D0.out.below hb5)
  have ONE := Lib.hid (ONE.out.below hb5)
  have BXp := Lib.hid (heap_below BXp.out hb5)
  clear hb5
  go_wp2_with fail
  all_goals first | (go_ret; exact ⟨by first | rfl | (simp; done), HB5.out⟩) | (rename_i h; exact absurd h (by simp; omega))
theorem textq_any (vp : Value) (p : Rat) (w : World) (hp : RatIs w vp p) : Calls Tryz.prog 62 #[vp] w (RetV w (.string ⟨(rtx p).toArray⟩)) := by
  by_cases h : ng p = true
  · by_cases h2 : p.den = 1
    · exact text_t1 vp p w hp h h2
    · exact text_t0 vp p w hp h h2
  · have h := Bool.eq_false_iff.2 h
    by_cases h2 : p.den = 1
    · exact text_f1 vp p w hp h h2
    · exact text_f0 vp p w hp h h2
theorem IsR.fields {w : World} {s : Bool} {x y : Value} {q : Rat} (h : IsR w (.agg #[.bool s, x, y]) q) : s = ng q ∧ Num w x (wd (nn q)) ∧ Num w y (wd (dn q)) := by
  obtain ⟨va, vb, e, h1, h2⟩ := h
  cases e
  exact ⟨rfl, h1, h2⟩
theorem wd_inj {m n : Nat} (h : wd m = wd n) : m = n := by
  have := congrArg val h
  rwa [val_wd, val_wd] at this
set_option maxRecDepth 100000 in
set_option maxHeartbeats 3200000 in
theorem same_rat0 (vp : Value) (p : Rat) (vq : Value) (q : Rat) (w : World) (hp : RatIs w vp p) (hq : RatIs w vq q) (gp : IsR w vp p) (gq : IsR w vq q) (hs : ng p ≠ ng q) :
    Calls Tryz.prog 21 #[vp, vq] w (RetV w (.bool (decide (p = q)))) := by
  obtain ⟨sp, op, np, cp, ap, mp, dp, rfl⟩ := hp.shape
  have hlp := hp.rl
  obtain ⟨sq, oq, nq, cq, aq, mq, dq, rfl⟩ := hq.shape
  have hlq := hq.rl
  obtain ⟨e1, g1, g2⟩ := gp.fields
  obtain ⟨e2, g3, g4⟩ := gq.fields
  have hb0 := (((Below.refl w.heap.size w).alloc (by first | (simp; done) | (simp; omega)) (.cells #[.bool sp, .slice op np cp, .slice ap mp dp] 24)).alloc (by first | (simp; done) | (simp; omega)) (.cells #[.bool sq, .slice oq nq cq, .slice aq mq dq] 24))
  have hxp := nest2_0 w (.cells #[.bool sp, .slice op np cp, .slice ap mp dp] 24) (.cells #[.bool sq, .slice oq nq cq, .slice aq mq dq] 24)
  have hxq := nest2_1 w (.cells #[.bool sp, .slice op np cp, .slice ap mp dp] 24) (.cells #[.bool sq, .slice oq nq cq, .slice aq mq dq] 24)
  have hpp := hp.below hb0
  have hpq := hq.below hb0
  obtain ⟨w0, hw0⟩ : ∃ w0, w0 = ((w.alloc (.cells #[.bool sp, .slice op np cp, .slice ap mp dp] 24)).alloc (.cells #[.bool sq, .slice oq nq cq, .slice aq mq dq] 24)) := ⟨_, rfl⟩
  rw [← hw0] at hb0 hxp hxq hpp hpq
  have HB0 := Lib.hid hb0; have HW0 := Lib.hid hw0
  have BXp := Lib.hid hxp
  have BXq := Lib.hid hxq
  have Fp := Lib.hid hpp
  have Fq := Lib.hid hpq
  clear hb0 hw0 hxp hxq hpp hp hpq hq
  have N := Lib.hid (g1.below HB0.out)
  have D := Lib.hid (g2.below HB0.out)
  have M := Lib.hid (g3.below HB0.out)
  have E := Lib.hid (g4.below HB0.out)
  have l1 := rl_n p; have l2 := dn_len p
  have hd : decide (p = q) = false := decide_eq_false fun e => hs (by rw [e])
  rw [hd]
  have f1 : (sp == sq) = false := by rw [e1, e2, beq_eq_false_iff_ne]; exact hs
  clear hs e1 e2 hd gp gq g1 g2 g3 g4
  go_enter Tryz.func21, Tryz.ntmps21
  go_wp2_with fail
  rw [← HW0.out]
  go_ret
  exact ⟨by first | rfl | (simp; done), HB0.out⟩
set_option maxRecDepth 100000 in
set_option maxHeartbeats 3200000 in
theorem same_rat1 (vp : Value) (p : Rat) (vq : Value) (q : Rat) (w : World) (hp : RatIs w vp p) (hq : RatIs w vq q) (gp : IsR w vp p) (gq : IsR w vq q) (hs : ng p = ng q) (hn : nn p ≠ nn q) :
    Calls Tryz.prog 21 #[vp, vq] w (RetV w (.bool (decide (p = q)))) := by
  obtain ⟨sp, op, np, cp, ap, mp, dp, rfl⟩ := hp.shape
  have hlp := hp.rl
  obtain ⟨sq, oq, nq, cq, aq, mq, dq, rfl⟩ := hq.shape
  have hlq := hq.rl
  obtain ⟨e1, g1, g2⟩ := gp.fields
  obtain ⟨e2, g3, g4⟩ := gq.fields
  have hb0 := (((Below.refl w.heap.size w).alloc (by first | (simp; done) | (simp; omega)) (.cells #[.bool sp, .slice op np cp, .slice ap mp dp] 24)).alloc (by first | (simp; done) | (simp; omega)) (.cells #[.bool sq, .slice oq nq cq, .slice aq mq dq] 24))
  have hxp := nest2_0 w (.cells #[.bool sp, .slice op np cp, .slice ap mp dp] 24) (.cells #[.bool sq, .slice oq nq cq, .slice aq mq dq] 24)
  have hxq := nest2_1 w (.cells #[.bool sp, .slice op np cp, .slice ap mp dp] 24) (.cells #[.bool sq, .slice oq nq cq, .slice aq mq dq] 24)
  have hpp := hp.below hb0
  have hpq := hq.below hb0
  obtain ⟨w0, hw0⟩ : ∃ w0, w0 = ((w.alloc (.cells #[.bool sp, .slice op np cp, .slice ap mp dp] 24)).alloc (.cells #[.bool sq, .slice oq nq cq, .slice aq mq dq] 24)) := ⟨_, rfl⟩
  rw [← hw0] at hb0 hxp hxq hpp hpq
  have HB0 := Lib.hid hb0; have HW0 := Lib.hid hw0
  have BXp := Lib.hid hxp
  have BXq := Lib.hid hxq
  have Fp := Lib.hid hpp
  have Fq := Lib.hid hpq
  clear hb0 hw0 hxp hxq hpp hp hpq hq
  have N := Lib.hid (g1.below HB0.out)
  have D := Lib.hid (g2.below HB0.out)
  have M := Lib.hid (g3.below HB0.out)
  have E := Lib.hid (g4.below HB0.out)
  have l1 := rl_n p; have l2 := dn_len p
  have f1 : (sp == sq) = true := by rw [e1, e2, beq_iff_eq]; exact hs
  have hd : decide (p = q) = false := decide_eq_false fun e => hn (by rw [e])
  rw [hd]
  have hw : decide (wd (nn p) = wd (nn q)) = false := decide_eq_false fun e => hn (wd_inj e)
  have HW := Lib.hid hw; clear hw
  clear hs e1 e2 hd gp gq g1 g2 g3 g4 hn
  go_enter Tryz.func21, Tryz.ntmps21
  have hs := words_any _ _ _ _ w0 N.out M.out (by omega)
  rw [HW.out] at hs
  have HS := Lib.hid hs; clear hs
  go_wp2_with fail
  rw [← HW0.out]
  (with_reducible refine HS.out.mono ?_); rintro e w1 ⟨rfl, hb1⟩
  clear HS
  have HB1 := Lib.hid (HB0.out.step hb1)
  have Fp := Lib.hid (Fp.out.below hb1)
  have Fq := Lib.hid (Fq.out.below hb1)
  have N := Lib.hid (N.out.below hb1)
  have D := Lib.hid (D.out.below hb1)
  have M := Lib.hid (M.out.below hb1)
  have E := Lib.hid (E.out.below hb1)
  have BXp := Lib.hid (heap_below BXp.out hb1)
  have BXq := Lib.hid (heap_below BXq.out hb1)
  clear hb1
  go_wp2_with fail
  go_ret
  exact ⟨by first | rfl | (simp; done), HB1.out⟩
set_option maxRecDepth 100000 in
set_option maxHeartbeats 3200000 in
theorem same_rat2 (vp : Value) (p : Rat) (vq : Value) (q : Rat) (w : World) (hp : RatIs w vp p) (hq : RatIs w vq q) (gp : IsR w vp p) (gq : IsR w vq q) (hs : ng p = ng q) (hn : nn p = nn q) :
    Calls Tryz.prog 21 #[vp, vq] w (RetV w (.bool (decide (p = q)))) := by
  obtain ⟨sp, op, np, cp, ap, mp, dp, rfl⟩ := hp.shape
  have hlp := hp.rl
  obtain ⟨sq, oq, nq, cq, aq, mq, dq, rfl⟩ := hq.shape
  have hlq := hq.rl
  obtain ⟨e1, g1, g2⟩ := gp.fields
  obtain ⟨e2, g3, g4⟩ := gq.fields
  have hb0 := (((Below.refl w.heap.size w).alloc (by first | (simp; done) | (simp; omega)) (.cells #[.bool sp, .slice op np cp, .slice ap mp dp] 24)).alloc (by first | (simp; done) | (simp; omega)) (.cells #[.bool sq, .slice oq nq cq, .slice aq mq dq] 24))
  have hxp := nest2_0 w (.cells #[.bool sp, .slice op np cp, .slice ap mp dp] 24) (.cells #[.bool sq, .slice oq nq cq, .slice aq mq dq] 24)
  have hxq := nest2_1 w (.cells #[.bool sp, .slice op np cp, .slice ap mp dp] 24) (.cells #[.bool sq, .slice oq nq cq, .slice aq mq dq] 24)
  have hpp := hp.below hb0
  have hpq := hq.below hb0
  obtain ⟨w0, hw0⟩ : ∃ w0, w0 = ((w.alloc (.cells #[.bool sp, .slice op np cp, .slice ap mp dp] 24)).alloc (.cells #[.bool sq, .slice oq nq cq, .slice aq mq dq] 24)) := ⟨_, rfl⟩
  rw [← hw0] at hb0 hxp hxq hpp hpq
  have HB0 := Lib.hid hb0; have HW0 := Lib.hid hw0
  have BXp := Lib.hid hxp
  have BXq := Lib.hid hxq
  have Fp := Lib.hid hpp
  have Fq := Lib.hid hpq
  clear hb0 hw0 hxp hxq hpp hp hpq hq
  have N := Lib.hid (g1.below HB0.out)
  have D := Lib.hid (g2.below HB0.out)
  have M := Lib.hid (g3.below HB0.out)
  have E := Lib.hid (g4.below HB0.out)
  have l1 := rl_n p; have l2 := dn_len p
  have f1 : (sp == sq) = true := by rw [e1, e2, beq_iff_eq]; exact hs
  have hw : decide (wd (nn p) = wd (nn q)) = true := decide_eq_true (by rw [hn])
  have HW := Lib.hid hw; clear hw
  have hd : decide (p = q) = decide (wd (dn p) = wd (dn q)) := by rw [decide_eq_decide]; exact ⟨fun e => by rw [e], fun e => ext_fields hs hn (wd_inj e)⟩
  rw [hd]
  obtain ⟨r, hr⟩ : ∃ r, r = decide (wd (dn p) = wd (dn q)) := ⟨_, rfl⟩
  rw [← hr]
  have HR := Lib.hid hr; clear hr
  clear hs e1 e2 hd gp gq g1 g2 g3 g4 hn
  go_enter Tryz.func21, Tryz.ntmps21
  have hs := words_any _ _ _ _ w0 N.out M.out (by omega)
  rw [HW.out] at hs
  have HS := Lib.hid hs; clear hs
  go_wp2_with fail
  rw [← HW0.out]
  (with_reducible refine HS.out.mono ?_); rintro e w1 ⟨rfl, hb1⟩
  clear HS
  have HB1 := Lib.hid (HB0.out.step hb1)
  have Fp := Lib.hid (Fp.out.below hb1)
  have Fq := Lib.hid (Fq.out.below hb1)
  have N := Lib.hid (N.out.below hb1)
  have D := Lib.hid (D.out.below hb1)
  have M := Lib.hid (M.out.below hb1)
  have E := Lib.hid (E.out.below hb1)
  have BXp := Lib.hid (heap_below BXp.out hb1)
  have BXq := Lib.hid (heap_below BXq.out hb1)
  clear hb1
  have hs := words_any _ _ _ _ w1 D.out E.out (by omega)
  rw [← HR.out] at hs
  have HS := Lib.hid hs; clear hs
  obtain ⟨ep0, ep1, ep2⟩ := row3 BXp.out
  obtain ⟨eq0, eq1, eq2⟩ := row3 BXq.out
  go_wp2_with fail
  (with_reducible refine HS.out.mono ?_); rintro e w2 ⟨rfl, hb2⟩
  clear HS
  have HB2 := Lib.hid (HB1.out.step hb2)
  have Fp := Lib.hid (Fp.out.below hb2)
  have Fq := Lib.hid (Fq.out.below hb2)
  have N := Lib.hid (N.out.below hb2)
  have D := Lib.hid (D.out.below hb2)
  have M := Lib.hid (M.out.below hb2)
  have E := Lib.hid (E.out.below hb2)
  have BXp := Lib.hid (heap_below BXp.out hb2)
  have BXq := Lib.hid (heap_below BXq.out hb2)
  clear hb2
  go_wp2_with fail
  go_ret
  exact ⟨by first | rfl | (simp; done), HB2.out⟩
theorem rat_any (vp : Value) (p : Rat) (vq : Value) (q : Rat) (w : World) (hp : IsR w vp p) (hq : IsR w vq q) (lp : rl p ≤ 100000) (lq : rl q ≤ 100000) :
    Calls Tryz.prog 21 #[vp, vq] w (RetV w (.bool (decide (p = q)))) := by
  by_cases h : ng p = ng q
  · by_cases h2 : nn p = nn q
    · exact same_rat2 vp p vq q w (hp.is lp) (hq.is lq) hp hq h h2
    · exact same_rat1 vp p vq q w (hp.is lp) (hq.is lq) hp hq h h2
  · exact same_rat0 vp p vq q w (hp.is lp) (hq.is lq) hp hq h
theorem rat_same (vp : Value) (vq : Value) (q : Rat) (w : World) (hp : IsR w vp q) (hq : IsR w vq q) (lq : rl q ≤ 100000) :
    Calls Tryz.prog 21 #[vp, vq] w (RetV w (.bool true)) := by
  have h := rat_any vp q vq q w hp hq lq lq
  rw [decide_eq_true rfl] at h; exact h
end Go.Proofs.YtaefimegiobkmaaGreatDoor
/-
  faultlinelaw03.large: whether one of some intervals has too many words; faultlinelaw03.same.
  Conditions: each theorem's own.
-/
namespace Go.Proofs.YtaefimegiobkmaaGreatDoor
open Go.RowKit Go.ChangeShapes Go.WideShapes

/-- one of the first n intervals has an end with more than 6 words -/
def bigS (l1 l2 l3 l4 : Nat → Nat) : Nat → Bool
  | 0 => false
  | n + 1 => bigS l1 l2 l3 l4 n || (decide (6 < l1 n) || decide (6 < l2 n) || decide (6 < l3 n) || decide (6 < l4 n))
theorem bigS_mono {l1 l2 l3 l4 : Nat → Nat} {k n : Nat} (h : bigS l1 l2 l3 l4 k = true) (hkn : k ≤ n) : bigS l1 l2 l3 l4 n = true := by
  obtain ⟨d, rfl⟩ : ∃ d, n = k + d := ⟨n - k, by omega⟩
  clear hkn
  induction d with
  | zero => exact h
  | succ d ih => rw [← Nat.add_assoc]; simp only [bigS]; rw [ih, Bool.true_or]
set_option maxRecDepth 100000 in
set_option maxHeartbeats 3200000 in
theorem slarge_any (g n : Nat) (l1 l2 l3 l4 : Nat → Nat) (w : World) (hn : n ≤ 1000000) (hg : g < w.heap.size) (hl : ∀ j, l1 j ≤ 9223372036854775807 ∧ l2 j ≤ 9223372036854775807 ∧ l3 j ≤ 9223372036854775807 ∧ l4 j ≤ 9223372036854775807)
    (hV : ∀ j, j < n → ∃ s a1 c1 a2 c2 t a3 c3 a4 c4, w.cell? ⟨g, j * 6, none⟩ = some (.bool s) ∧ w.cell? ⟨g, j * 6 + 1, none⟩ = some (.slice a1 (l1 j) c1) ∧ w.cell? ⟨g, j * 6 + 2, none⟩ = some (.slice a2 (l2 j) c2) ∧
      w.cell? ⟨g, j * 6 + 3, none⟩ = some (.bool t) ∧ w.cell? ⟨g, j * 6 + 4, none⟩ = some (.slice a3 (l3 j) c3) ∧ w.cell? ⟨g, j * 6 + 5, none⟩ = some (.slice a4 (l4 j) c4)) :
    Calls Tryz.prog 8 #[.slice (some ⟨g, 0, none⟩) n n] w (RetV w (.bool (bigS l1 l2 l3 l4 n))) := by
  have HV := Lib.hid hV; have HL := Lib.hid hl; clear hV hl
  obtain ⟨r, hr⟩ : ∃ r, r = bigS l1 l2 l3 l4 n := ⟨_, rfl⟩
  rw [← hr]
  have HR := Lib.hid hr; clear hr
  go_enter Tryz.func8, Tryz.ntmps8
  go_wp2_with fail
  go_loopw [7] (fun iv wr => ∃ k : Nat, k ≤ n ∧ iv = .int .i64 k ∧ Hid (bigS l1 l2 l3 l4 k = false) ∧ Below w.heap.size w wr) (fun iv _ => n - (intOf iv).toNat)
  case atStart => exact ⟨0, Nat.zero_le _, rfl, Lib.hid rfl, Below.refl _ _⟩
  case round =>
    obtain ⟨k, hk, rfl, hno, hBr⟩ := hrel
    have HBR := Lib.hid hBr; clear hBr
    by_cases hkn : k < n
    · obtain ⟨s, a1, c1, a2, c2, t, a3, c3, a4, c4, h0, h1, h2, h3, h4, h5⟩ := HV.out k hkn
      have hc0 := (HBR.out.cell (p := ⟨g, k * 6, none⟩) hg).trans h0
      have hc1 := (HBR.out.cell (p := ⟨g, k * 6 + 1, none⟩) hg).trans h1
      have hc2 := (HBR.out.cell (p := ⟨g, k * 6 + 2, none⟩) hg).trans h2
      have hc3 := (HBR.out.cell (p := ⟨g, k * 6 + 3, none⟩) hg).trans h3
      have hc4 := (HBR.out.cell (p := ⟨g, k * 6 + 4, none⟩) hg).trans h4
      have hc5 := (HBR.out.cell (p := ⟨g, k * 6 + 5, none⟩) hg).trans h5
      obtain ⟨b1, b2, b3, b4⟩ := HL.out k
      obtain ⟨m1, hm1⟩ : ∃ m, m = l1 k := ⟨_, rfl⟩
      obtain ⟨m2, hm2⟩ : ∃ m, m = l2 k := ⟨_, rfl⟩
      obtain ⟨m3, hm3⟩ : ∃ m, m = l3 k := ⟨_, rfl⟩
      obtain ⟨m4, hm4⟩ : ∃ m, m = l4 k := ⟨_, rfl⟩
      rw [← hm1] at hc1 b1
      rw [← hm2] at hc2 b2
      rw [← hm3] at hc4 b3
      rw [← hm4] at hc5 b4
      clear h0 h1 h2 h3 h4 h5
      have HM1 := Lib.hid hm1; have HM2 := Lib.hid hm2; have HM3 := Lib.hid hm3; have HM4 := Lib.hid hm4; clear hm1 hm2 hm3 hm4
      have hal : Below w.heap.size w (wr.alloc (.cells #[.bool s, .slice a1 m1 c1, .slice a2 m2 c2, .bool t, .slice a3 m3 c3, .slice a4 m4 c4] 26)) := HBR.out.alloc HBR.out.size _
      have HAL := Lib.hid hal; clear hal
      by_cases hb : 6 < m1 ∨ 6 < m2 ∨ 6 < m3 ∨ 6 < m4
      · have hv : r = true := by
          rw [HR.out]
          refine bigS_mono (k := k + 1) ?_ hkn
          simp only [bigS]; rw [← HM1.out, ← HM2.out, ← HM3.out, ← HM4.out]
          rcases hb with h | h | h | h <;> simp [h]
        have HVV := Lib.hid hv; clear hv
        by_cases h1 : 6 < m1
        · have f1 : decide ((6 : Int) < (m1 : Int)) = true := decide_eq_true (by omega)
          clear hb h1
          go_wp2_with fail
          go_ret
          exact ⟨by rw [HVV.out]; rfl, HAL.out⟩
        by_cases h2 : 6 < m2
        · have f1 : decide ((6 : Int) < (m1 : Int)) = false := decide_eq_false (by omega)
          have f2 : decide ((6 : Int) < (m2 : Int)) = true := decide_eq_true (by omega)
          clear hb h1 h2
          go_wp2_with fail
          go_ret
          exact ⟨by rw [HVV.out]; rfl, HAL.out⟩
        by_cases h3 : 6 < m3
        · have f1 : decide ((6 : Int) < (m1 : Int)) = false := decide_eq_false (by omega)
          have f2 : decide ((6 : Int) < (m2 : Int)) = false := decide_eq_false (by omega)
          have f3 : decide ((6 : Int) < (m3 : Int)) = true := decide_eq_true (by omega)
          clear hb h1 h2 h3
          go_wp2_with fail
          go_ret
          exact ⟨by rw [HVV.out]; rfl, HAL.out⟩
        have h4 : 6 < m4 := by omega
        have f1 : decide ((6 : Int) < (m1 : Int)) = false := decide_eq_false (by omega)
        have f2 : decide ((6 : Int) < (m2 : Int)) = false := decide_eq_false (by omega)
        have f3 : decide ((6 : Int) < (m3 : Int)) = false := decide_eq_false (by omega)
        have f4 : decide ((6 : Int) < (m4 : Int)) = true := decide_eq_true (by omega)
        clear hb h1 h2 h3 h4
        go_wp2_with fail
        go_ret
        exact ⟨by rw [HVV.out]; rfl, HAL.out⟩
      · have f1 : decide ((6 : Int) < (m1 : Int)) = false := decide_eq_false (by omega)
        have f2 : decide ((6 : Int) < (m2 : Int)) = false := decide_eq_false (by omega)
        have f3 : decide ((6 : Int) < (m3 : Int)) = false := decide_eq_false (by omega)
        have f4 : decide ((6 : Int) < (m4 : Int)) = false := decide_eq_false (by omega)
        have hno2 : bigS l1 l2 l3 l4 (k + 1) = false := by
          simp only [bigS]; rw [hno.out, ← HM1.out, ← HM2.out, ← HM3.out, ← HM4.out, decide_eq_false (by omega), decide_eq_false (by omega), decide_eq_false (by omega), decide_eq_false (by omega)]; rfl
        have HNO := Lib.hid hno2; clear hno2 hb
        go_wp2_with fail
        go_roundw
        case rel => exact ⟨k + 1, by omega, by go_num, HNO, HAL.out⟩
        case measure => simp [intOf]; omega
    · obtain rfl : k = n := by omega
      have hv : r = false := by rw [HR.out]; exact hno.out
      have HVV := Lib.hid hv; clear hv
      go_wp2_with fail
      go_ret
      exact ⟨by rw [HVV.out]; rfl, HBR.out⟩
/-- an interval's shape -/
def SpSz (v : Value) (n1 n2 n3 n4 : Nat) : Prop := ∃ s o1 c1 o2 c2 t o3 c3 o4 c4, v = .agg #[.bool s, .slice o1 n1 c1, .slice o2 n2 c2, .bool t, .slice o3 n3 c3, .slice o4 n4 c4] ∧ n1 ≤ 9223372036854775807 ∧ n2 ≤ 9223372036854775807 ∧ n3 ≤ 9223372036854775807 ∧ n4 ≤ 9223372036854775807
def szS : Value → Nat × Nat × Nat × Nat
  | .agg #[_, .slice _ n1 _, .slice _ n2 _, _, .slice _ n3 _, .slice _ n4 _] => (n1, n2, n3, n4)
  | _ => (0, 0, 0, 0)
theorem SpV.sz {w : World} {v : Value} {s t : Bool} {a b c d : List Nat} (h : SpV w v s a b t c d) : SpSz v a.length b.length c.length d.length ∧ szS v = (a.length, b.length, c.length, d.length) := by
  obtain ⟨x0, x1, x2, x3, x4, x5, rfl, ⟨va, vb, e1, h1, h2⟩, ⟨vc, vd, e2, h3, h4⟩⟩ := h
  have e1' : x0 = .bool s ∧ x1 = va ∧ x2 = vb := by simpa using e1
  have e2' : x3 = .bool t ∧ x4 = vc ∧ x5 = vd := by simpa using e2
  obtain ⟨rfl, rfl, rfl⟩ := e1'
  obtain ⟨rfl, rfl, rfl⟩ := e2'
  obtain ⟨o1, c1, rfl, k1, l1, _⟩ := h1.shape
  obtain ⟨o2, c2, rfl, k2, l2, _⟩ := h2.shape
  obtain ⟨o3, c3, rfl, k3, l3, _⟩ := h3.shape
  obtain ⟨o4, c4, rfl, k4, l4, _⟩ := h4.shape
  exact ⟨⟨s, o1, c1, o2, c2, t, o3, c3, o4, c4, rfl, by omega, by omega, by omega, by omega⟩, rfl⟩
theorem slarge2s {s0 t0 : Bool} {o0 a0 o0x a0x : Option Addr} {n0 c0 m0 d0 n0x c0x m0x d0x : Nat} {s1 t1 : Bool} {o1 a1 o1x a1x : Option Addr} {n1 c1 m1 d1 n1x c1x m1x d1x : Nat} {g : Nat} {w : World} {T : TypeId} (h : w.heap[g]? = some (.cells #[.bool s0, .slice o0 n0 c0, .slice a0 m0 d0, .bool t0, .slice o0x n0x c0x, .slice a0x m0x d0x, .bool s1, .slice o1 n1 c1, .slice a1 m1 d1, .bool t1, .slice o1x n1x c1x, .slice a1x m1x d1x] T)) (k0 : n0 ≤ 6 ∧ m0 ≤ 6 ∧ n0x ≤ 6 ∧ m0x ≤ 6) (k1 : n1 ≤ 6 ∧ m1 ≤ 6 ∧ n1x ≤ 6 ∧ m1x ≤ 6) :
    Calls Tryz.prog 8 #[.slice (some ⟨g, 0, none⟩) 2 2] w (RetV w (.bool false)) := by
  have hk := slarge_any g 2 (fun j => if j = 0 then n0 else n1) (fun j => if j = 0 then m0 else m1) (fun j => if j = 0 then n0x else n1x) (fun j => if j = 0 then m0x else m1x) w (by decide) (Array.getElem?_eq_some_iff.1 h).1 (fun j => by show (if j = 0 then _ else _) ≤ _ ∧ (if j = 0 then _ else _) ≤ _ ∧ (if j = 0 then _ else _) ≤ _ ∧ (if j = 0 then _ else _) ≤ _; (repeat' split) <;> omega) (fun j hj => by
    rw [cell_of_row w g _ _ T (0, 0) h, cell_of_row w g _ _ T (0, 0) h, cell_of_row w g _ _ T (0, 0) h, cell_of_row w g _ _ T (0, 0) h, cell_of_row w g _ _ T (0, 0) h, cell_of_row w g _ _ T (0, 0) h]
    match j, hj with
    | 0, _ => exact ⟨_, _, _, _, _, _, _, _, _, _, rfl, rfl, rfl, rfl, rfl, rfl⟩
    | 1, _ => exact ⟨_, _, _, _, _, _, _, _, _, _, rfl, rfl, rfl, rfl, rfl, rfl⟩)
  have hr : bigS (fun j => if j = 0 then n0 else n1) (fun j => if j = 0 then m0 else m1) (fun j => if j = 0 then n0x else n1x) (fun j => if j = 0 then m0x else m1x) 2 = false := by
    simp [bigS]; omega
  rw [hr] at hk; exact hk
theorem slarge2b {s0 t0 : Bool} {o0 a0 o0x a0x : Option Addr} {n0 c0 m0 d0 n0x c0x m0x d0x : Nat} {s1 t1 : Bool} {o1 a1 o1x a1x : Option Addr} {n1 c1 m1 d1 n1x c1x m1x d1x : Nat} {g : Nat} {w : World} {T : TypeId} (h : w.heap[g]? = some (.cells #[.bool s0, .slice o0 n0 c0, .slice a0 m0 d0, .bool t0, .slice o0x n0x c0x, .slice a0x m0x d0x, .bool s1, .slice o1 n1 c1, .slice a1 m1 d1, .bool t1, .slice o1x n1x c1x, .slice a1x m1x d1x] T)) (k0 : n0 ≤ 9223372036854775807 ∧ m0 ≤ 9223372036854775807 ∧ n0x ≤ 9223372036854775807 ∧ m0x ≤ 9223372036854775807) (k1 : n1 ≤ 9223372036854775807 ∧ m1 ≤ 9223372036854775807 ∧ n1x ≤ 9223372036854775807 ∧ m1x ≤ 9223372036854775807) (hb : 6 < n0 ∨ 6 < m0 ∨ 6 < n0x ∨ 6 < m0x ∨ 6 < n1 ∨ 6 < m1 ∨ 6 < n1x ∨ 6 < m1x) :
    Calls Tryz.prog 8 #[.slice (some ⟨g, 0, none⟩) 2 2] w (RetV w (.bool true)) := by
  have hk := slarge_any g 2 (fun j => if j = 0 then n0 else n1) (fun j => if j = 0 then m0 else m1) (fun j => if j = 0 then n0x else n1x) (fun j => if j = 0 then m0x else m1x) w (by decide) (Array.getElem?_eq_some_iff.1 h).1 (fun j => by show (if j = 0 then _ else _) ≤ _ ∧ (if j = 0 then _ else _) ≤ _ ∧ (if j = 0 then _ else _) ≤ _ ∧ (if j = 0 then _ else _) ≤ _; (repeat' split) <;> omega) (fun j hj => by
    rw [cell_of_row w g _ _ T (0, 0) h, cell_of_row w g _ _ T (0, 0) h, cell_of_row w g _ _ T (0, 0) h, cell_of_row w g _ _ T (0, 0) h, cell_of_row w g _ _ T (0, 0) h, cell_of_row w g _ _ T (0, 0) h]
    match j, hj with
    | 0, _ => exact ⟨_, _, _, _, _, _, _, _, _, _, rfl, rfl, rfl, rfl, rfl, rfl⟩
    | 1, _ => exact ⟨_, _, _, _, _, _, _, _, _, _, rfl, rfl, rfl, rfl, rfl, rfl⟩)
  have hr : bigS (fun j => if j = 0 then n0 else n1) (fun j => if j = 0 then m0 else m1) (fun j => if j = 0 then n0x else n1x) (fun j => if j = 0 then m0x else m1x) 2 = true := by
    simp [bigS]; omega
  rw [hr] at hk; exact hk
end Go.Proofs.YtaefimegiobkmaaGreatDoor
/-
  faultlinelaw03.same: intervals with the same ends have the same fields.
  Conditions: each theorem's own.
-/
namespace Go.Proofs.YtaefimegiobkmaaGreatDoor
open Go.RowKit Go.ChangeShapes Go.WideShapes

set_option maxRecDepth 100000 in
set_option maxHeartbeats 3200000 in
theorem spsame_any (va : Value) (a : Rat × Rat) (vb : Value) (w : World) (ha : IsSp w va a) (hb : IsSp w vb a) (la1 : rl a.1 ≤ 39000) (la2 : rl a.2 ≤ 39000) :
    Calls Tryz.prog 11 #[va, vb] w (RetV w (.bool true)) := by
  have HBW := Lib.hid (Below.refl w.heap.size w)
  have kz0 : rl 0 ≤ 1 := by rw [rl_zero]; exact Nat.le_refl _
  obtain ⟨qa, oa, na, ka, pa, ma, ra, qax, oax, nax, kax, pax, max, rax, rfl⟩ := ha.shape
  obtain ⟨qb, ob, nb, kb, pb, mb, rb, qbx, obx, nbx, kbx, pbx, mbx, rbx, rfl⟩ := hb.shape
  have Fa := Lib.hid ha; clear ha
  have Fal := Lib.hid (isSp_ends Fa.out).1; have Fah := Lib.hid (isSp_ends Fa.out).2
  have Fb := Lib.hid hb; clear hb
  have Fbl := Lib.hid (isSp_ends Fb.out).1; have Fbh := Lib.hid (isSp_ends Fb.out).2
  obtain ⟨w1, hw1⟩ : ∃ w1, w1 = w.alloc (.cells #[.bool qa, .slice oa na ka, .slice pa ma ra, .bool qax, .slice oax nax kax, .slice pax max rax] 26) := ⟨_, rfl⟩
  have hb1 : Below w.heap.size w w1 := by rw [hw1]; exact (Below.refl _ _).alloc (Nat.le_refl _) _
  have hx1 := heap_alloc_new w (.cells #[.bool qa, .slice oa na ka, .slice pa ma ra, .bool qax, .slice oax nax kax, .slice pax max rax] 26)
  obtain ⟨g1, hg1⟩ : ∃ g, g = w.heap.size := ⟨_, rfl⟩
  rw [← hw1, ← hg1] at hx1
  have lw1 : w.heap.size ≤ g1 := by rw [hg1]; exact HBW.out.size
  have HW1 := Lib.hid hw1; have HG1 := Lib.hid hg1; clear hw1 hg1
  have HB1 := Lib.hid (HBW.out.step hb1)
  have Fa := Lib.hid (Fa.out.below hb1)
  have Fal := Lib.hid (Fal.out.below hb1)
  have Fah := Lib.hid (Fah.out.below hb1)
  have Fb := Lib.hid (Fb.out.below hb1)
  have Fbl := Lib.hid (Fbl.out.below hb1)
  have Fbh := Lib.hid (Fbh.out.below hb1)
  have BX1 := Lib.hid hx1; clear hb1 hx1
  obtain ⟨w2, hw2⟩ : ∃ w2, w2 = w1.alloc (.cells #[.bool qb, .slice ob nb kb, .slice pb mb rb, .bool qbx, .slice obx nbx kbx, .slice pbx mbx rbx] 26) := ⟨_, rfl⟩
  have hb2 : Below w1.heap.size w1 w2 := by rw [hw2]; exact (Below.refl _ _).alloc (Nat.le_refl _) _
  have hx2 := heap_alloc_new w1 (.cells #[.bool qb, .slice ob nb kb, .slice pb mb rb, .bool qbx, .slice obx nbx kbx, .slice pbx mbx rbx] 26)
  obtain ⟨g2, hg2⟩ : ∃ g, g = w1.heap.size := ⟨_, rfl⟩
  rw [← hw2, ← hg2] at hx2
  have lw2 : w.heap.size ≤ g2 := by rw [hg2]; exact HB1.out.size
  have ltBX12 : g1 < g2 := by rw [hg2]; exact below_lt BX1.out
  have hs2 : g2 = w.heap.size + 1 := by rw [hg2, HW1.out]; simp
  have HS2 := Lib.hid hs2; clear hs2
  have HW2 := Lib.hid hw2; have HG2 := Lib.hid hg2; clear hw2 hg2
  have HB2 := Lib.hid (HB1.out.step hb2)
  have Fa := Lib.hid (Fa.out.below hb2)
  have Fal := Lib.hid (Fal.out.below hb2)
  have Fah := Lib.hid (Fah.out.below hb2)
  have Fb := Lib.hid (Fb.out.below hb2)
  have Fbl := Lib.hid (Fbl.out.below hb2)
  have Fbh := Lib.hid (Fbh.out.below hb2)
  have BX1 := Lib.hid (heap_below BX1.out hb2)
  have BX2 := Lib.hid hx2; clear hb2 hx2
  go_enter Tryz.func11, Tryz.ntmps11
  obtain ⟨x1_0, x1_1, x1_2, x1_3, x1_4, x1_5⟩ := row6 BX1.out
  obtain ⟨x2_0, x2_1, x2_2, x2_3, x2_4, x2_5⟩ := row6 BX2.out
  have hs := rat_same _ _ (a.1) w2 Fal.out Fbl.out (by omega)
  have HS := Lib.hid hs; clear hs
  try rw [HW2.out] at x1_0
  try rw [HG2.out] at x1_0
  try rw [HW1.out] at x1_0
  try rw [HG1.out] at x1_0
  try rw [HW2.out] at x1_1
  try rw [HG2.out] at x1_1
  try rw [HW1.out] at x1_1
  try rw [HG1.out] at x1_1
  try rw [HW2.out] at x1_2
  try rw [HG2.out] at x1_2
  try rw [HW1.out] at x1_2
  try rw [HG1.out] at x1_2
  try rw [HW2.out] at x1_3
  try rw [HG2.out] at x1_3
  try rw [HW1.out] at x1_3
  try rw [HG1.out] at x1_3
  try rw [HW2.out] at x1_4
  try rw [HG2.out] at x1_4
  try rw [HW1.out] at x1_4
  try rw [HG1.out] at x1_4
  try rw [HW2.out] at x1_5
  try rw [HG2.out] at x1_5
  try rw [HW1.out] at x1_5
  try rw [HG1.out] at x1_5
  try rw [HW2.out] at x2_0
  try rw [HG2.out] at x2_0
  try rw [HW1.out] at x2_0
  try rw [HG1.out] at x2_0
  try rw [HW2.out] at x2_1
  try rw [HG2.out] at x2_1
  try rw [HW1.out] at x2_1
  try rw [HG1.out] at x2_1
  try rw [HW2.out] at x2_2
  try rw [HG2.out] at x2_2
  try rw [HW1.out] at x2_2
  try rw [HG1.out] at x2_2
  try rw [HW2.out] at x2_3
  try rw [HG2.out] at x2_3
  try rw [HW1.out] at x2_3
  try rw [HG1.out] at x2_3
  try rw [HW2.out] at x2_4
  try rw [HG2.out] at x2_4
  try rw [HW1.out] at x2_4
  try rw [HG1.out] at x2_4
  try rw [HW2.out] at x2_5
  try rw [HG2.out] at x2_5
  try rw [HW1.out] at x2_5
  try rw [HG1.out] at x2_5
  go_wp2_with (with_reducible first | refine pauseCall ?_ | refine pauseLoop ?_ | refine pauseDraw ?_ | refine pauseBody ?_ | refine pauseRounds ?_)
  try rw [← HW1.out]
  try rw [← HW2.out]
  try rw [← HS2.out]
  try rw [← HG1.out]
  try rw [← HG2.out]
  clear x1_0 x1_1 x1_2 x1_3 x1_4 x1_5 x2_0 x2_1 x2_2 x2_3 x2_4 x2_5
  refine Pause.mk ?_
  (with_reducible refine HS.out.mono ?_); rintro e w3 ⟨rfl, hb3⟩
  clear HS
  have HB3 := Lib.hid (HB2.out.step hb3)
  have Fa := Lib.hid (Fa.out.below hb3)
  have Fal := Lib.hid (Fal.out.below hb3)
  have Fah := Lib.hid (Fah.out.below hb3)
  have Fb := Lib.hid (Fb.out.below hb3)
  have Fbl := Lib.hid (Fbl.out.below hb3)
  have Fbh := Lib.hid (Fbh.out.below hb3)
  have BX1 := Lib.hid (heap_below BX1.out hb3)
  have BX2 := Lib.hid (heap_below BX2.out hb3)
  clear hb3
  obtain ⟨x3_0, x3_1, x3_2, x3_3, x3_4, x3_5⟩ := row6 BX1.out
  obtain ⟨x4_0, x4_1, x4_2, x4_3, x4_4, x4_5⟩ := row6 BX2.out
  have hs := rat_same _ _ (a.2) w3 Fah.out Fbh.out (by omega)
  have HS := Lib.hid hs; clear hs
  go_wp2_with (with_reducible first | refine pauseCall ?_ | refine pauseLoop ?_ | refine pauseDraw ?_ | refine pauseBody ?_ | refine pauseRounds ?_)
  clear x3_0 x3_1 x3_2 x3_3 x3_4 x3_5 x4_0 x4_1 x4_2 x4_3 x4_4 x4_5
  refine Pause.mk ?_
  (with_reducible refine HS.out.mono ?_); rintro e w4 ⟨rfl, hb4⟩
  clear HS
  have HB4 := Lib.hid (HB3.out.step hb4)
  have Fa := Lib.hid (Fa.out.below hb4)
  have Fal := Lib.hid (Fal.out.below hb4)
  have Fah := Lib.hid (Fah.out.below hb4)
  have Fb := Lib.hid (Fb.out.below hb4)
  have Fbl := Lib.hid (Fbl.out.below hb4)
  have Fbh := Lib.hid (Fbh.out.below hb4)
  have BX1 := Lib.hid (heap_below BX1.out hb4)
  have BX2 := Lib.hid (heap_below BX2.out hb4)
  clear hb4
  go_wp2_with (with_reducible first | refine pauseCall ?_ | refine pauseLoop ?_ | refine pauseDraw ?_ | refine pauseBody ?_ | refine pauseRounds ?_)
  refine Pause.mk ?_
  go_ret
  exact ⟨by first | rfl | (simp; done), HB4.out⟩
end Go.Proofs.YtaefimegiobkmaaGreatDoor
/-
  The texts of intervals.
  Conditions: each theorem's own.
-/
namespace Go.Proofs.YtaefimegiobkmaaGreatDoor
open Go.RowKit Go.ChangeShapes Go.WideShapes

/-- the text of an interval -/
def stx (a : Rat × Rat) : List UInt8 := rtx a.1 ++ [46, 46] ++ rtx a.2
theorem rtx_len2 {q : Rat} {k : Nat} (h : rl q ≤ k) (hk : 0 < k) : (rtx q).length ≤ 20 * k + 2 := by
  unfold rtx
  have h1 := decL_words (Nat.le_trans (rl_n q) h) hk
  have h2 := decL_words (Nat.le_trans (rl_d q) h) hk
  rw [List.length_append, List.length_append]
  have e1 : (if ng q = true then [(45 : UInt8)] else []).length ≤ 1 := by split <;> simp
  have e2 : (if q.den = 1 then [] else (47 : UInt8) :: decL q.den).length ≤ 1 + (decL q.den).length := by split <;> simp; omega
  omega
set_option maxRecDepth 100000 in
set_option maxHeartbeats 3200000 in
theorem stext_any (va : Value) (a : Rat × Rat) (w : World) (ha : SpIs w va a) (la1 : rl a.1 ≤ 39000) (la2 : rl a.2 ≤ 39000) :
    Calls Tryz.prog 24 #[va] w (RetV w (.string ⟨(stx a).toArray⟩)) := by
  have HBW := Lib.hid (Below.refl w.heap.size w)
  have kz0 : rl 0 ≤ 1 := by rw [rl_zero]; exact Nat.le_refl _
  obtain ⟨qa, oa, na, ka, pa, ma, ra, qax, oax, nax, kax, pax, max, rax, rfl⟩ := ha.shape
  have hla := ha.rl; have hoa := ha.ok; obtain ⟨hlaa, hlab⟩ := hla
  have hoa := Lib.hid hoa
  obtain ⟨B1, hB1⟩ : ∃ B, B = (⟨(rtx ((a).1)).toArray⟩ : ByteArray) := ⟨_, rfl⟩
  obtain ⟨B2, hB2⟩ : ∃ B, B = (⟨(rtx ((a).2)).toArray⟩ : ByteArray) := ⟨_, rfl⟩
  have z1 : B1.size ≤ 1000000 := by rw [hB1]; have := rtx_len2 la1 (by decide); simp [ByteArray.size]; omega
  have z2 : B2.size ≤ 1000000 := by rw [hB2]; have := rtx_len2 la2 (by decide); simp [ByteArray.size]; omega
  rw [show (⟨(stx a).toArray⟩ : ByteArray) = B1 ++ ⟨#[46, 46]⟩ ++ B2 from by rw [hB1, hB2]; unfold stx; apply ByteArray.ext; simp]
  have z3 : (B1 ++ ⟨#[46, 46]⟩).size ≤ 1000002 := by rw [ByteArray.size_append]; exact Nat.add_le_add z1 (Nat.le_refl 2)
  have z4 : (⟨#[46, 46]⟩ : ByteArray).size = 2 := rfl
  have HT1 := Lib.hid hB1; have HT2 := Lib.hid hB2; clear hB1 hB2
  have Fa := Lib.hid ha; clear ha
  obtain ⟨w1, hw1⟩ : ∃ w1, w1 = w.alloc (.cells #[.bool qa, .slice oa na ka, .slice pa ma ra, .bool qax, .slice oax nax kax, .slice pax max rax] 26) := ⟨_, rfl⟩
  have hb1 : Below w.heap.size w w1 := by rw [hw1]; exact (Below.refl _ _).alloc (Nat.le_refl _) _
  have hx1 := heap_alloc_new w (.cells #[.bool qa, .slice oa na ka, .slice pa ma ra, .bool qax, .slice oax nax kax, .slice pax max rax] 26)
  obtain ⟨g1, hg1⟩ : ∃ g, g = w.heap.size := ⟨_, rfl⟩
  rw [← hw1, ← hg1] at hx1
  have lw1 : w.heap.size ≤ g1 := by rw [hg1]; exact HBW.out.size
  have HW1 := Lib.hid hw1; have HG1 := Lib.hid hg1; clear hw1 hg1
  have HB1 := Lib.hid (HBW.out.step hb1)
  have Fa := Lib.hid (Fa.out.below hb1)
  have BX1 := Lib.hid hx1; clear hb1 hx1
  go_enter Tryz.func24, Tryz.ntmps24
  obtain ⟨x1_0, x1_1, x1_2, x1_3, x1_4, x1_5⟩ := row6 BX1.out
  have hs := norm_any _ (a) w1 Fa.out
  have HS := Lib.hid hs; clear hs
  try rw [HW1.out] at x1_0
  try rw [HG1.out] at x1_0
  try rw [HW1.out] at x1_1
  try rw [HG1.out] at x1_1
  try rw [HW1.out] at x1_2
  try rw [HG1.out] at x1_2
  try rw [HW1.out] at x1_3
  try rw [HG1.out] at x1_3
  try rw [HW1.out] at x1_4
  try rw [HG1.out] at x1_4
  try rw [HW1.out] at x1_5
  try rw [HG1.out] at x1_5
  go_wp2_with (with_reducible first | refine pauseCall ?_ | refine pauseLoop ?_ | refine pauseDraw ?_ | refine pauseBody ?_ | refine pauseRounds ?_)
  try rw [← HW1.out]
  try rw [← HG1.out]
  clear x1_0 x1_1 x1_2 x1_3 x1_4 x1_5
  refine Pause.mk ?_
  (with_reducible refine HS.out.mono ?_); rintro e w2 ⟨v2, rfl, hb2, hn2⟩
  clear HS
  have HB2 := Lib.hid (HB1.out.step hb2)
  have Fa := Lib.hid (Fa.out.below hb2)
  have BX1 := Lib.hid (heap_below BX1.out hb2)
  have N2 := Lib.hid hn2; clear hn2
  obtain ⟨s2, o2, n2, c2, a2, m2, d2, s2x, o2x, n2x, c2x, a2x, m2x, d2x, rfl⟩ := N2.out.shape
  have N2l := Lib.hid (isSp_ends N2.out).1; have N2h := Lib.hid (isSp_ends N2.out).2
  clear hb2
  go_wp2_with (with_reducible refine wpList_pauseS ?_)
  refine wpList_stL g1 0 [.bool s2, .slice o2 n2 c2, .slice a2 m2 d2, .bool s2x, .slice o2x n2x c2x, .slice a2x m2x d2x] BX1.out rfl rfl (Nat.le_of_ble_eq_true rfl) (by kernel_rfl) rfl ?_
  intro w3 hp3
  have Fa := Lib.hid (putL_SS hp3 Fa.out BX1.out noW6)
  have N2 := Lib.hid (putL_SI hp3 N2.out BX1.out noW6)
  have N2l := Lib.hid (putL_I hp3 N2l.out BX1.out noW6)
  have N2h := Lib.hid (putL_I hp3 N2h.out BX1.out noW6)
  have nx3 : w3.heap[g1]? = some (.cells #[.bool s2, .slice o2 n2 c2, .slice a2 m2 d2, .bool s2x, .slice o2x n2x c2x, .slice a2x m2x d2x] 26) := by rw [hp3]; exact putL_6 BX1.out
  have BX1 := Lib.hid nx3; clear nx3
  have HB3 := Lib.hid (putLb hp3 HB2.out (by omega))
  clear hp3
  go_wp2_with (with_reducible first | refine pauseCall ?_ | refine pauseLoop ?_ | refine pauseDraw ?_ | refine pauseBody ?_ | refine pauseRounds ?_)
  refine Pause.mk ?_
  refine wp_region_facts (A := ?aa3) (w := w3) 6 [3] (by kernel_rfl) (Fl [KEq (.pointer (some ⟨g1, 0, none⟩)), KEq (.agg #[.bool s2, .slice o2 n2 c2, .slice a2 m2 d2]), KEq (.string B1), KEq (.string ((B1 : ByteArray) ++ (⟨#[46, 46]⟩ : ByteArray))), KEq (.pointer (some ⟨g1, 3, none⟩)), KEq (.agg #[.bool s2x, .slice o2x n2x c2x, .slice a2x m2x d2x])]) (fun i => false) (by kernel_rfl) ?hq3 (monoL (monoC (kEq _) (monoC (kEq _) (monoC (kEq _) (monoC (kEq _) (monoC (kEq _) (monoC (kEq _) monoN))))))) ?ha3 ?st3 ?tl3
  case hq3 =>
    intro c a d v w h
    first | (simp only [Exit.then] at h ⊢; exact h) | (simp only [Exit.inBlock, Exit.then] at h ⊢; exact h) | exact h
  case ha3 =>
    intro vals
    simp only [putsTo, dstOf, if_true, Act.put, List.setIfInBounds_toArray, List.set_cons_zero, List.set_cons_succ, List.getElem?_toArray, List.getElem?_cons_zero, List.getElem?_cons_succ, Option.bind_some]
    exact rfl
  case st3 =>
    simp only [List.take_succ_cons, List.take_zero]
    refine stepsOK_cons rfl rfl ?_ (stepsOK_cons rfl rfl ?_ (stepsOK_cons rfl rfl ?_ (stepsOK_pure rfl ?_ (stepsOK_cons rfl rfl ?_ (stepsOK_cons rfl rfl ?_ (stepsOK_nil))))))
    · intro vals w1 hb hd
      refine stepOK_value (v := (.pointer (some ⟨g1, 0, none⟩))) (w' := w1) (by go_simp) (leaves_mk (Below.refl _ _) rfl (fun h => by cases h))
    · intro vals w1 hb hd
      have d0 : KEq (.pointer (some ⟨g1, 0, none⟩)) (vals 0) w1 := hd 0 (by kernel_rfl)
      rw [show vals 0 = _ from d0]
      obtain ⟨e0, e1, e2, e3, e4, e5⟩ := row6 (heap_below BX1.out hb)
      refine stepOK_value (v := .agg #[.bool s2, .slice o2 n2 c2, .slice a2 m2 d2]) (w' := w1) (by go_simp) (leaves_mk (Below.refl _ _) rfl (fun h => by cases h))
    · intro vals w1 hb hd
      have d1 : KEq (.agg #[.bool s2, .slice o2 n2 c2, .slice a2 m2 d2]) (vals 1) w1 := hd 1 (by kernel_rfl)
      have z1 : vals 1 = _ := d1
      have hs := textq_any _ ((a).1) w1 ((N2l.out.below hb).is (by omega))
      rw [← HT1.out] at hs
      have HS := Lib.hid hs; clear hs
      rw [z1]; clear z1
      clear d1 hd
      refine stepOK_call (by go_simp; first | done | exact ⟨⟨rfl, rfl⟩, rfl⟩) ?_
      (with_reducible refine HS.out.mono ?_); rintro e w2 ⟨rfl, hb2⟩
      exact ⟨_, rfl, leaves_mk hb2 rfl (fun h => by cases h)⟩
    · intro vals w1 hb hd
      have d2 : KEq (.string B1) (vals 2) w1 := hd 2 (by kernel_rfl)
      rw [show vals 2 = _ from d2]
      refine stepPure_value (v := (.string ((B1 : ByteArray) ++ (⟨#[46, 46]⟩ : ByteArray)))) (fun w => by first | (go_simp; done) | (go_simp; rw [if_neg (by omega)]) | (go_simp; rw [if_neg (by simp; omega)]) | (go_simp; omega) | (go_simp; split <;> first | rfl | (exfalso; omega))) (leaves_mk (Below.refl _ _) rfl (fun h => by cases h))
    · intro vals w1 hb hd
      refine stepOK_value (v := (.pointer (some ⟨g1, 3, none⟩))) (w' := w1) (by go_simp) (leaves_mk (Below.refl _ _) rfl (fun h => by cases h))
    · intro vals w1 hb hd
      have d4 : KEq (.pointer (some ⟨g1, 3, none⟩)) (vals 4) w1 := hd 4 (by kernel_rfl)
      rw [show vals 4 = _ from d4]
      obtain ⟨e0, e1, e2, e3, e4, e5⟩ := row6 (heap_below BX1.out hb)
      refine stepOK_value (v := .agg #[.bool s2x, .slice o2x n2x c2x, .slice a2x m2x d2x]) (w' := w1) (by go_simp) (leaves_mk (Below.refl _ _) rfl (fun h => by cases h))
  case tl3 =>
    intro vals w4 hb4 hf hdis
    simp only [List.drop_succ_cons, List.drop_zero]
    have z3 : vals 3 = _ := hf 3 (by decide)
    try rw [z3]
    clear z3
    have z5 : vals 5 = _ := hf 5 (by decide)
    try rw [z5]
    clear z5
    clear hf hdis
    have HB4 := Lib.hid (HB3.out.step hb4)
    have Fa := Lib.hid (Fa.out.below hb4)
    have N2 := Lib.hid (N2.out.below hb4)
    have N2l := Lib.hid (N2l.out.below hb4)
    have N2h := Lib.hid (N2h.out.below hb4)
    have BX1 := Lib.hid (heap_below BX1.out hb4)
    clear hb4
    skip
    have hs := textq_any _ ((a).2) w4 (N2h.out.is (by omega))
    rw [← HT2.out] at hs
    have HS := Lib.hid hs; clear hs
    go_wp2_with (with_reducible first | refine pauseCall ?_ | refine pauseLoop ?_ | refine pauseDraw ?_ | refine pauseBody ?_ | refine pauseRounds ?_)
    refine Pause.mk ?_
    (with_reducible refine HS.out.mono ?_); rintro e w5 ⟨rfl, hb5⟩
    clear HS
    have HB5 := Lib.hid (HB4.out.step hb5)
    have Fa := Lib.hid (Fa.out.below hb5)
    have N2 := Lib.hid (N2.out.below hb5)
    have N2l := Lib.hid (N2l.out.below hb5)
    have N2h := Lib.hid (N2h.out.below hb5)
    have BX1 := Lib.hid (heap_below BX1.out hb5)
    clear hb5
    go_wp2_with (with_reducible first | refine pauseCall ?_ | refine pauseLoop ?_ | refine pauseDraw ?_ | refine pauseBody ?_ | refine pauseRounds ?_)
    refine Pause.mk ?_
    go_ret
    exact ⟨by first | rfl | (simp; done), HB5.out⟩
end Go.Proofs.YtaefimegiobkmaaGreatDoor
/-
  span: sums, complements, products, hulls, widths: what they hand back.
  Conditions: each theorem's own.
-/
namespace Go.Proofs.YtaefimegiobkmaaGreatDoor
open Go.RowKit Go.ChangeShapes Go.WideShapes

set_option maxRecDepth 100000 in
set_option maxHeartbeats 6400000 in
theorem smul_raw (va : Value) (a : Rat × Rat) (vb : Value) (b : Rat × Rat) (w : World) (ha : SpIs w va a) (hb : SpIs w vb b) (la1 : rl a.1 ≤ 19000) (la2 : rl a.2 ≤ 19000) (lb1 : rl b.1 ≤ 19000) (lb2 : rl b.2 ≤ 19000) :
    Calls Tryz.prog 12 #[va, vb] w (RetSp w (around4 (((a).1) * ((b).1)) (((a).1) * ((b).2)) (((a).2) * ((b).1)) (((a).2) * ((b).2)))) := by
  have HBW := Lib.hid (Below.refl w.heap.size w)
  have kz0 : rl 0 ≤ 1 := by rw [rl_zero]; exact Nat.le_refl _
  obtain ⟨qa, oa, na, ka, pa, ma, ra, qax, oax, nax, kax, pax, max, rax, rfl⟩ := ha.shape
  have hla := ha.rl; have hoa := ha.ok; obtain ⟨hlaa, hlab⟩ := hla
  have hoa := Lib.hid hoa
  obtain ⟨qb, ob, nb, kb, pb, mb, rb, qbx, obx, nbx, kbx, pbx, mbx, rbx, rfl⟩ := hb.shape
  have hlb := hb.rl; have hob := hb.ok; obtain ⟨hlba, hlbb⟩ := hlb
  have hob := Lib.hid hob
  have Fa := Lib.hid ha; clear ha
  have Fb := Lib.hid hb; clear hb
  obtain ⟨w1, hw1⟩ : ∃ w1, w1 = w.alloc (.cells #[.bool qa, .slice oa na ka, .slice pa ma ra, .bool qax, .slice oax nax kax, .slice pax max rax] 26) := ⟨_, rfl⟩
  have hb1 : Below w.heap.size w w1 := by rw [hw1]; exact (Below.refl _ _).alloc (Nat.le_refl _) _
  have hx1 := heap_alloc_new w (.cells #[.bool qa, .slice oa na ka, .slice pa ma ra, .bool qax, .slice oax nax kax, .slice pax max rax] 26)
  obtain ⟨g1, hg1⟩ : ∃ g, g = w.heap.size := ⟨_, rfl⟩
  rw [← hw1, ← hg1] at hx1
  have lw1 : w.heap.size ≤ g1 := by rw [hg1]; exact HBW.out.size
  have HW1 := Lib.hid hw1; have HG1 := Lib.hid hg1; clear hw1 hg1
  have HB1 := Lib.hid (HBW.out.step hb1)
  have Fa := Lib.hid (Fa.out.below hb1)
  have Fb := Lib.hid (Fb.out.below hb1)
  have BX1 := Lib.hid hx1; clear hb1 hx1
  obtain ⟨w2, hw2⟩ : ∃ w2, w2 = w1.alloc (.cells #[.bool qb, .slice ob nb kb, .slice pb mb rb, .bool qbx, .slice obx nbx kbx, .slice pbx mbx rbx] 26) := ⟨_, rfl⟩
  have hb2 : Below w1.heap.size w1 w2 := by rw [hw2]; exact (Below.refl _ _).alloc (Nat.le_refl _) _
  have hx2 := heap_alloc_new w1 (.cells #[.bool qb, .slice ob nb kb, .slice pb mb rb, .bool qbx, .slice obx nbx kbx, .slice pbx mbx rbx] 26)
  obtain ⟨g2, hg2⟩ : ∃ g, g = w1.heap.size := ⟨_, rfl⟩
  rw [← hw2, ← hg2] at hx2
  have lw2 : w.heap.size ≤ g2 := by rw [hg2]; exact HB1.out.size
  have ltBX12 : g1 < g2 := by rw [hg2]; exact below_lt BX1.out
  have hs2 : g2 = w.heap.size + 1 := by rw [hg2, HW1.out]; simp
  have HS2 := Lib.hid hs2; clear hs2
  have HW2 := Lib.hid hw2; have HG2 := Lib.hid hg2; clear hw2 hg2
  have HB2 := Lib.hid (HB1.out.step hb2)
  have Fa := Lib.hid (Fa.out.below hb2)
  have Fb := Lib.hid (Fb.out.below hb2)
  have BX1 := Lib.hid (heap_below BX1.out hb2)
  have BX2 := Lib.hid hx2; clear hb2 hx2
  obtain ⟨w3, hw3⟩ : ∃ w3, w3 = w2.alloc (.cells #[.bool false, .slice none 0 0, .slice none 0 0, .bool false, .slice none 0 0, .slice none 0 0] 26) := ⟨_, rfl⟩
  have hb3 : Below w2.heap.size w2 w3 := by rw [hw3]; exact (Below.refl _ _).alloc (Nat.le_refl _) _
  have hx3 := heap_alloc_new w2 (.cells #[.bool false, .slice none 0 0, .slice none 0 0, .bool false, .slice none 0 0, .slice none 0 0] 26)
  obtain ⟨g3, hg3⟩ : ∃ g, g = w2.heap.size := ⟨_, rfl⟩
  rw [← hw3, ← hg3] at hx3
  have lw3 : w.heap.size ≤ g3 := by rw [hg3]; exact HB2.out.size
  have ltBX13 : g1 < g3 := by rw [hg3]; exact below_lt BX1.out
  have ltBX23 : g2 < g3 := by rw [hg3]; exact below_lt BX2.out
  have hs3 : g3 = w.heap.size + 2 := by rw [hg3, HW2.out, HW1.out]; simp
  have HS3 := Lib.hid hs3; clear hs3
  have HW3 := Lib.hid hw3; have HG3 := Lib.hid hg3; clear hw3 hg3
  have HB3 := Lib.hid (HB2.out.step hb3)
  have Fa := Lib.hid (Fa.out.below hb3)
  have Fb := Lib.hid (Fb.out.below hb3)
  have BX1 := Lib.hid (heap_below BX1.out hb3)
  have BX2 := Lib.hid (heap_below BX2.out hb3)
  have BX3 := Lib.hid hx3; clear hb3 hx3
  go_enter Tryz.func12, Tryz.ntmps12
  go_wp2_with (with_reducible first | refine pauseCall ?_ | refine pauseLoop ?_ | refine pauseDraw ?_ | refine pauseBody ?_ | refine pauseRounds ?_)
  try rw [← HW1.out]
  try rw [← HW2.out]
  try rw [← HW3.out]
  try rw [← HS3.out]
  try rw [← HS2.out]
  try rw [← HG1.out]
  try rw [← HG2.out]
  try rw [← HG3.out]
  refine Pause.mk ?_
  refine wp_region_facts (A := ?aa1) (w := w3) 3 [] (by kernel_rfl) (Fl [KEq (.agg #[.bool qa, .slice oa na ka, .slice pa ma ra, .bool qax, .slice oax nax kax, .slice pax max rax]), KSp (a), KEq (.agg #[.bool qb, .slice ob nb kb, .slice pb mb rb, .bool qbx, .slice obx nbx kbx, .slice pbx mbx rbx])]) (fun i => false) (by kernel_rfl) ?hq1 (monoL (monoC (kEq _) (monoC (kSp _) (monoC (kEq _) monoN)))) ?ha1 ?st1 ?tl1
  case hq1 =>
    intro c a d v w h
    first | (simp only [Exit.then] at h ⊢; exact h) | (simp only [Exit.inBlock, Exit.then] at h ⊢; exact h) | exact h
  case ha1 =>
    intro vals
    simp only [putsTo, dstOf, if_true, Act.put, List.setIfInBounds_toArray, List.set_cons_zero, List.set_cons_succ, List.getElem?_toArray, List.getElem?_cons_zero, List.getElem?_cons_succ, Option.bind_some]
    exact rfl
  case st1 =>
    simp only [List.take_succ_cons, List.take_zero]
    refine stepsOK_cons rfl rfl ?_ (stepsOK_cons rfl rfl ?_ (stepsOK_cons rfl rfl ?_ (stepsOK_nil)))
    · intro vals w1 hb hd
      obtain ⟨e0, e1, e2, e3, e4, e5⟩ := row6 (heap_below BX1.out hb)
      refine stepOK_value (v := .agg #[.bool qa, .slice oa na ka, .slice pa ma ra, .bool qax, .slice oax nax kax, .slice pax max rax]) (w' := w1) (by go_simp) (leaves_mk (Below.refl _ _) rfl (fun h => by cases h))
    · intro vals w1 hb hd
      have d0 : KEq (.agg #[.bool qa, .slice oa na ka, .slice pa ma ra, .bool qax, .slice oax nax kax, .slice pax max rax]) (vals 0) w1 := hd 0 (by kernel_rfl)
      have z0 : vals 0 = _ := d0
      have hs := norm_any _ (a) w1 (Fa.out.below hb)
      have HS := Lib.hid hs; clear hs
      rw [z0]; clear z0
      clear d0 hd
      refine stepOK_call (by go_simp; first | done | exact ⟨⟨rfl, rfl⟩, rfl⟩) ?_
      (with_reducible refine HS.out.mono ?_); rintro e w2 ⟨v, rfl, hb2, hn⟩
      exact ⟨v, rfl, leaves_mk hb2 hn (fun h => by cases h)⟩
    · intro vals w1 hb hd
      obtain ⟨e0, e1, e2, e3, e4, e5⟩ := row6 (heap_below BX2.out hb)
      refine stepOK_value (v := .agg #[.bool qb, .slice ob nb kb, .slice pb mb rb, .bool qbx, .slice obx nbx kbx, .slice pbx mbx rbx]) (w' := w1) (by go_simp) (leaves_mk (Below.refl _ _) rfl (fun h => by cases h))
  case tl1 =>
    intro vals w4 hb4 hf hdis
    simp only [List.drop_succ_cons, List.drop_zero]
    obtain ⟨u1_1, hu1⟩ : ∃ u, u = vals 1 := ⟨_, rfl⟩
    have hn1_1 : IsSp w4 (vals 1) (a) := hf 1 (by decide)
    rw [← hu1] at hn1_1 ⊢; clear hu1
    have z2 : vals 2 = _ := hf 2 (by decide)
    try rw [z2]
    clear z2
    clear hf hdis
    have HB4 := Lib.hid (HB3.out.step hb4)
    have Fa := Lib.hid (Fa.out.below hb4)
    have Fb := Lib.hid (Fb.out.below hb4)
    have BX1 := Lib.hid (heap_below BX1.out hb4)
    have BX2 := Lib.hid (heap_below BX2.out hb4)
    have BX3 := Lib.hid (heap_below BX3.out hb4)
    clear hb4
    have N1_1 := Lib.hid hn1_1; clear hn1_1
    obtain ⟨s2, o2, n2, c2, a2, m2, d2, s2x, o2x, n2x, c2x, a2x, m2x, d2x, rfl⟩ := N1_1.out.shape
    have N1_1l := Lib.hid (isSp_ends N1_1.out).1; have N1_1h := Lib.hid (isSp_ends N1_1.out).2
    skip
    have hs := norm_any _ (b) w4 Fb.out
    have HS := Lib.hid hs; clear hs
    go_wp2_with (with_reducible first | refine pauseCall ?_ | refine pauseLoop ?_ | refine pauseDraw ?_ | refine pauseBody ?_ | refine pauseRounds ?_)
    refine Pause.mk ?_
    (with_reducible refine HS.out.mono ?_); rintro e w5 ⟨v5, rfl, hb5, hn5⟩
    clear HS
    have HB5 := Lib.hid (HB4.out.step hb5)
    have Fa := Lib.hid (Fa.out.below hb5)
    have Fb := Lib.hid (Fb.out.below hb5)
    have N1_1 := Lib.hid (N1_1.out.below hb5)
    have N1_1l := Lib.hid (N1_1l.out.below hb5)
    have N1_1h := Lib.hid (N1_1h.out.below hb5)
    have BX1 := Lib.hid (heap_below BX1.out hb5)
    have BX2 := Lib.hid (heap_below BX2.out hb5)
    have BX3 := Lib.hid (heap_below BX3.out hb5)
    have N5 := Lib.hid hn5; clear hn5
    obtain ⟨s3, o3, n3, c3, a3, m3, d3, s3x, o3x, n3x, c3x, a3x, m3x, d3x, rfl⟩ := N5.out.shape
    have N5l := Lib.hid (isSp_ends N5.out).1; have N5h := Lib.hid (isSp_ends N5.out).2
    clear hb5
    go_wp2_with (with_reducible refine wpList_pauseS ?_)
    refine wpList_stL g1 0 [.bool s2, .slice o2 n2 c2, .slice a2 m2 d2, .bool s2x, .slice o2x n2x c2x, .slice a2x m2x d2x] BX1.out rfl rfl (Nat.le_of_ble_eq_true rfl) (by kernel_rfl) rfl ?_
    intro w6 hp6
    have Fa := Lib.hid (putL_SS hp6 Fa.out BX1.out noW6)
    have Fb := Lib.hid (putL_SS hp6 Fb.out BX1.out noW6)
    have N1_1 := Lib.hid (putL_SI hp6 N1_1.out BX1.out noW6)
    have N1_1l := Lib.hid (putL_I hp6 N1_1l.out BX1.out noW6)
    have N1_1h := Lib.hid (putL_I hp6 N1_1h.out BX1.out noW6)
    have N5 := Lib.hid (putL_SI hp6 N5.out BX1.out noW6)
    have N5l := Lib.hid (putL_I hp6 N5l.out BX1.out noW6)
    have N5h := Lib.hid (putL_I hp6 N5h.out BX1.out noW6)
    have BX2 := Lib.hid (putLx hp6 BX2.out (by omega))
    have BX3 := Lib.hid (putLx hp6 BX3.out (by omega))
    have nx6 : w6.heap[g1]? = some (.cells #[.bool s2, .slice o2 n2 c2, .slice a2 m2 d2, .bool s2x, .slice o2x n2x c2x, .slice a2x m2x d2x] 26) := by rw [hp6]; exact putL_6 BX1.out
    have BX1 := Lib.hid nx6; clear nx6
    have HB6 := Lib.hid (putLb hp6 HB5.out (by omega))
    clear hp6
    go_wp2_with (with_reducible refine wpList_pauseS ?_)
    refine wpList_stL g2 0 [.bool s3, .slice o3 n3 c3, .slice a3 m3 d3, .bool s3x, .slice o3x n3x c3x, .slice a3x m3x d3x] BX2.out rfl rfl (Nat.le_of_ble_eq_true rfl) (by kernel_rfl) rfl ?_
    intro w7 hp7
    have Fa := Lib.hid (putL_SS hp7 Fa.out BX2.out noW6)
    have Fb := Lib.hid (putL_SS hp7 Fb.out BX2.out noW6)
    have N1_1 := Lib.hid (putL_SI hp7 N1_1.out BX2.out noW6)
    have N1_1l := Lib.hid (putL_I hp7 N1_1l.out BX2.out noW6)
    have N1_1h := Lib.hid (putL_I hp7 N1_1h.out BX2.out noW6)
    have N5 := Lib.hid (putL_SI hp7 N5.out BX2.out noW6)
    have N5l := Lib.hid (putL_I hp7 N5l.out BX2.out noW6)
    have N5h := Lib.hid (putL_I hp7 N5h.out BX2.out noW6)
    have BX1 := Lib.hid (putLx hp7 BX1.out (by omega))
    have BX3 := Lib.hid (putLx hp7 BX3.out (by omega))
    have nx7 : w7.heap[g2]? = some (.cells #[.bool s3, .slice o3 n3 c3, .slice a3 m3 d3, .bool s3x, .slice o3x n3x c3x, .slice a3x m3x d3x] 26) := by rw [hp7]; exact putL_6 BX2.out
    have BX2 := Lib.hid nx7; clear nx7
    have HB7 := Lib.hid (putLb hp7 HB6.out (by omega))
    clear hp7
    go_wp2_with (with_reducible first | refine pauseCall ?_ | refine pauseLoop ?_ | refine pauseDraw ?_ | refine pauseBody ?_ | refine pauseRounds ?_)
    refine Pause.mk ?_
    have k4 := rl_mul ((a).1) ((b).1)
    have k5 := rl_mul ((a).1) ((b).2)
    have k6 := rl_mul ((a).2) ((b).1)
    refine wp_region_facts (A := ?aa7) (w := w7) 19 [] (by kernel_rfl) (Fl [KEq (.pointer (some ⟨g1, 0, none⟩)), KEq (.agg #[.bool s2, .slice o2 n2 c2, .slice a2 m2 d2]), KEq (.pointer (some ⟨g2, 0, none⟩)), KEq (.agg #[.bool s3, .slice o3 n3 c3, .slice a3 m3 d3]), KIs (((a).1) * ((b).1)), KEq (.pointer (some ⟨g1, 0, none⟩)), KEq (.agg #[.bool s2, .slice o2 n2 c2, .slice a2 m2 d2]), KEq (.pointer (some ⟨g2, 3, none⟩)), KEq (.agg #[.bool s3x, .slice o3x n3x c3x, .slice a3x m3x d3x]), KIs (((a).1) * ((b).2)), KEq (.pointer (some ⟨g1, 3, none⟩)), KEq (.agg #[.bool s2x, .slice o2x n2x c2x, .slice a2x m2x d2x]), KEq (.pointer (some ⟨g2, 0, none⟩)), KEq (.agg #[.bool s3, .slice o3 n3 c3, .slice a3 m3 d3]), KIs (((a).2) * ((b).1)), KEq (.pointer (some ⟨g1, 3, none⟩)), KEq (.agg #[.bool s2x, .slice o2x n2x c2x, .slice a2x m2x d2x]), KEq (.pointer (some ⟨g2, 3, none⟩)), KEq (.agg #[.bool s3x, .slice o3x n3x c3x, .slice a3x m3x d3x])]) (fun i => false) (by kernel_rfl) ?hq7 (monoL (monoC (kEq _) (monoC (kEq _) (monoC (kEq _) (monoC (kEq _) (monoC (kIs _) (monoC (kEq _) (monoC (kEq _) (monoC (kEq _) (monoC (kEq _) (monoC (kIs _) (monoC (kEq _) (monoC (kEq _) (monoC (kEq _) (monoC (kEq _) (monoC (kIs _) (monoC (kEq _) (monoC (kEq _) (monoC (kEq _) (monoC (kEq _) monoN)))))))))))))))))))) ?ha7 ?st7 ?tl7
    case hq7 =>
      intro c a d v w h
      first | (simp only [Exit.then] at h ⊢; exact h) | (simp only [Exit.inBlock, Exit.then] at h ⊢; exact h) | exact h
    case ha7 =>
      intro vals
      simp only [putsTo, dstOf, if_true, Act.put, List.setIfInBounds_toArray, List.set_cons_zero, List.set_cons_succ, List.getElem?_toArray, List.getElem?_cons_zero, List.getElem?_cons_succ, Option.bind_some]
      exact rfl
    case st7 =>
      simp only [List.take_succ_cons, List.take_zero]
      refine stepsOK_cons rfl rfl ?_ (stepsOK_cons rfl rfl ?_ (stepsOK_cons rfl rfl ?_ (stepsOK_cons rfl rfl ?_ (stepsOK_cons rfl rfl ?_ (stepsOK_cons rfl rfl ?_ (stepsOK_cons rfl rfl ?_ (stepsOK_cons rfl rfl ?_ (stepsOK_cons rfl rfl ?_ (stepsOK_cons rfl rfl ?_ (stepsOK_cons rfl rfl ?_ (stepsOK_cons rfl rfl ?_ (stepsOK_cons rfl rfl ?_ (stepsOK_cons rfl rfl ?_ (stepsOK_cons rfl rfl ?_ (stepsOK_cons rfl rfl ?_ (stepsOK_cons rfl rfl ?_ (stepsOK_cons rfl rfl ?_ (stepsOK_cons rfl rfl ?_ (stepsOK_nil)))))))))))))))))))
      · intro vals w1 hb hd
        refine stepOK_value (v := (.pointer (some ⟨g1, 0, none⟩))) (w' := w1) (by go_simp) (leaves_mk (Below.refl _ _) rfl (fun h => by cases h))
      · intro vals w1 hb hd
        have d0 : KEq (.pointer (some ⟨g1, 0, none⟩)) (vals 0) w1 := hd 0 (by kernel_rfl)
        rw [show vals 0 = _ from d0]
        obtain ⟨e0, e1, e2, e3, e4, e5⟩ := row6 (heap_below BX1.out hb)
        refine stepOK_value (v := .agg #[.bool s2, .slice o2 n2 c2, .slice a2 m2 d2]) (w' := w1) (by go_simp) (leaves_mk (Below.refl _ _) rfl (fun h => by cases h))
      · intro vals w1 hb hd
        refine stepOK_value (v := (.pointer (some ⟨g2, 0, none⟩))) (w' := w1) (by go_simp) (leaves_mk (Below.refl _ _) rfl (fun h => by cases h))
      · intro vals w1 hb hd
        have d2 : KEq (.pointer (some ⟨g2, 0, none⟩)) (vals 2) w1 := hd 2 (by kernel_rfl)
        rw [show vals 2 = _ from d2]
        obtain ⟨e0, e1, e2, e3, e4, e5⟩ := row6 (heap_below BX2.out hb)
        refine stepOK_value (v := .agg #[.bool s3, .slice o3 n3 c3, .slice a3 m3 d3]) (w' := w1) (by go_simp) (leaves_mk (Below.refl _ _) rfl (fun h => by cases h))
      · intro vals w1 hb hd
        have d1 : KEq (.agg #[.bool s2, .slice o2 n2 c2, .slice a2 m2 d2]) (vals 1) w1 := hd 1 (by kernel_rfl)
        have d3 : KEq (.agg #[.bool s3, .slice o3 n3 c3, .slice a3 m3 d3]) (vals 3) w1 := hd 3 (by kernel_rfl)
        have z1 : vals 1 = _ := d1
        have z3 : vals 3 = _ := d3
        have hs := mulq_any _ ((a).1) _ ((b).1) w1 ((N1_1l.out.below hb).is (by omega)) ((N5l.out.below hb).is (by omega))
        have HS := Lib.hid hs; clear hs
        rw [z1]; clear z1
        rw [z3]; clear z3
        clear d1 d3 hd
        refine stepOK_call (by go_simp; first | done | exact ⟨⟨rfl, rfl⟩, rfl⟩) ?_
        (with_reducible refine HS.out.mono ?_); rintro e w2 ⟨v, rfl, hb2, hn⟩
        exact ⟨v, rfl, leaves_mk hb2 hn (fun h => by cases h)⟩
      · intro vals w1 hb hd
        refine stepOK_value (v := (.pointer (some ⟨g1, 0, none⟩))) (w' := w1) (by go_simp) (leaves_mk (Below.refl _ _) rfl (fun h => by cases h))
      · intro vals w1 hb hd
        have d5 : KEq (.pointer (some ⟨g1, 0, none⟩)) (vals 5) w1 := hd 5 (by kernel_rfl)
        rw [show vals 5 = _ from d5]
        obtain ⟨e0, e1, e2, e3, e4, e5⟩ := row6 (heap_below BX1.out hb)
        refine stepOK_value (v := .agg #[.bool s2, .slice o2 n2 c2, .slice a2 m2 d2]) (w' := w1) (by go_simp) (leaves_mk (Below.refl _ _) rfl (fun h => by cases h))
      · intro vals w1 hb hd
        refine stepOK_value (v := (.pointer (some ⟨g2, 3, none⟩))) (w' := w1) (by go_simp) (leaves_mk (Below.refl _ _) rfl (fun h => by cases h))
      · intro vals w1 hb hd
        have d7 : KEq (.pointer (some ⟨g2, 3, none⟩)) (vals 7) w1 := hd 7 (by kernel_rfl)
        rw [show vals 7 = _ from d7]
        obtain ⟨e0, e1, e2, e3, e4, e5⟩ := row6 (heap_below BX2.out hb)
        refine stepOK_value (v := .agg #[.bool s3x, .slice o3x n3x c3x, .slice a3x m3x d3x]) (w' := w1) (by go_simp) (leaves_mk (Below.refl _ _) rfl (fun h => by cases h))
      · intro vals w1 hb hd
        have d6 : KEq (.agg #[.bool s2, .slice o2 n2 c2, .slice a2 m2 d2]) (vals 6) w1 := hd 6 (by kernel_rfl)
        have d8 : KEq (.agg #[.bool s3x, .slice o3x n3x c3x, .slice a3x m3x d3x]) (vals 8) w1 := hd 8 (by kernel_rfl)
        have z6 : vals 6 = _ := d6
        have z8 : vals 8 = _ := d8
        have hs := mulq_any _ ((a).1) _ ((b).2) w1 ((N1_1l.out.below hb).is (by omega)) ((N5h.out.below hb).is (by omega))
        have HS := Lib.hid hs; clear hs
        rw [z6]; clear z6
        rw [z8]; clear z8
        clear d6 d8 hd
        refine stepOK_call (by go_simp; first | done | exact ⟨⟨rfl, rfl⟩, rfl⟩) ?_
        (with_reducible refine HS.out.mono ?_); rintro e w2 ⟨v, rfl, hb2, hn⟩
        exact ⟨v, rfl, leaves_mk hb2 hn (fun h => by cases h)⟩
      · intro vals w1 hb hd
        refine stepOK_value (v := (.pointer (some ⟨g1, 3, none⟩))) (w' := w1) (by go_simp) (leaves_mk (Below.refl _ _) rfl (fun h => by cases h))
      · intro vals w1 hb hd
        have d10 : KEq (.pointer (some ⟨g1, 3, none⟩)) (vals 10) w1 := hd 10 (by kernel_rfl)
        rw [show vals 10 = _ from d10]
        obtain ⟨e0, e1, e2, e3, e4, e5⟩ := row6 (heap_below BX1.out hb)
        refine stepOK_value (v := .agg #[.bool s2x, .slice o2x n2x c2x, .slice a2x m2x d2x]) (w' := w1) (by go_simp) (leaves_mk (Below.refl _ _) rfl (fun h => by cases h))
      · intro vals w1 hb hd
        refine stepOK_value (v := (.pointer (some ⟨g2, 0, none⟩))) (w' := w1) (by go_simp) (leaves_mk (Below.refl _ _) rfl (fun h => by cases h))
      · intro vals w1 hb hd
        have d12 : KEq (.pointer (some ⟨g2, 0, none⟩)) (vals 12) w1 := hd 12 (by kernel_rfl)
        rw [show vals 12 = _ from d12]
        obtain ⟨e0, e1, e2, e3, e4, e5⟩ := row6 (heap_below BX2.out hb)
        refine stepOK_value (v := .agg #[.bool s3, .slice o3 n3 c3, .slice a3 m3 d3]) (w' := w1) (by go_simp) (leaves_mk (Below.refl _ _) rfl (fun h => by cases h))
      · intro vals w1 hb hd
        have d11 : KEq (.agg #[.bool s2x, .slice o2x n2x c2x, .slice a2x m2x d2x]) (vals 11) w1 := hd 11 (by kernel_rfl)
        have d13 : KEq (.agg #[.bool s3, .slice o3 n3 c3, .slice a3 m3 d3]) (vals 13) w1 := hd 13 (by kernel_rfl)
        have z11 : vals 11 = _ := d11
        have z13 : vals 13 = _ := d13
        have hs := mulq_any _ ((a).2) _ ((b).1) w1 ((N1_1h.out.below hb).is (by omega)) ((N5l.out.below hb).is (by omega))
        have HS := Lib.hid hs; clear hs
        rw [z11]; clear z11
        rw [z13]; clear z13
        clear d11 d13 hd
        refine stepOK_call (by go_simp; first | done | exact ⟨⟨rfl, rfl⟩, rfl⟩) ?_
        (with_reducible refine HS.out.mono ?_); rintro e w2 ⟨v, rfl, hb2, hn⟩
        exact ⟨v, rfl, leaves_mk hb2 hn (fun h => by cases h)⟩
      · intro vals w1 hb hd
        refine stepOK_value (v := (.pointer (some ⟨g1, 3, none⟩))) (w' := w1) (by go_simp) (leaves_mk (Below.refl _ _) rfl (fun h => by cases h))
      · intro vals w1 hb hd
        have d15 : KEq (.pointer (some ⟨g1, 3, none⟩)) (vals 15) w1 := hd 15 (by kernel_rfl)
        rw [show vals 15 = _ from d15]
        obtain ⟨e0, e1, e2, e3, e4, e5⟩ := row6 (heap_below BX1.out hb)
        refine stepOK_value (v := .agg #[.bool s2x, .slice o2x n2x c2x, .slice a2x m2x d2x]) (w' := w1) (by go_simp) (leaves_mk (Below.refl _ _) rfl (fun h => by cases h))
      · intro vals w1 hb hd
        refine stepOK_value (v := (.pointer (some ⟨g2, 3, none⟩))) (w' := w1) (by go_simp) (leaves_mk (Below.refl _ _) rfl (fun h => by cases h))
      · intro vals w1 hb hd
        have d17 : KEq (.pointer (some ⟨g2, 3, none⟩)) (vals 17) w1 := hd 17 (by kernel_rfl)
        rw [show vals 17 = _ from d17]
        obtain ⟨e0, e1, e2, e3, e4, e5⟩ := row6 (heap_below BX2.out hb)
        refine stepOK_value (v := .agg #[.bool s3x, .slice o3x n3x c3x, .slice a3x m3x d3x]) (w' := w1) (by go_simp) (leaves_mk (Below.refl _ _) rfl (fun h => by cases h))
    case tl7 =>
      intro vals w8 hb8 hf hdis
      simp only [List.drop_succ_cons, List.drop_zero]
      obtain ⟨u7_4, hu4⟩ : ∃ u, u = vals 4 := ⟨_, rfl⟩
      have hn7_4 : IsR w8 (vals 4) (((a).1) * ((b).1)) := hf 4 (by decide)
      rw [← hu4] at hn7_4 ⊢; clear hu4
      obtain ⟨u7_9, hu9⟩ : ∃ u, u = vals 9 := ⟨_, rfl⟩
      have hn7_9 : IsR w8 (vals 9) (((a).1) * ((b).2)) := hf 9 (by decide)
      rw [← hu9] at hn7_9 ⊢; clear hu9
      obtain ⟨u7_14, hu14⟩ : ∃ u, u = vals 14 := ⟨_, rfl⟩
      have hn7_14 : IsR w8 (vals 14) (((a).2) * ((b).1)) := hf 14 (by decide)
      rw [← hu14] at hn7_14 ⊢; clear hu14
      have z16 : vals 16 = _ := hf 16 (by decide)
      try rw [z16]
      clear z16
      have z18 : vals 18 = _ := hf 18 (by decide)
      try rw [z18]
      clear z18
      clear hf hdis
      have HB8 := Lib.hid (HB7.out.step hb8)
      have Fa := Lib.hid (Fa.out.below hb8)
      have Fb := Lib.hid (Fb.out.below hb8)
      have N1_1 := Lib.hid (N1_1.out.below hb8)
      have N1_1l := Lib.hid (N1_1l.out.below hb8)
      have N1_1h := Lib.hid (N1_1h.out.below hb8)
      have N5 := Lib.hid (N5.out.below hb8)
      have N5l := Lib.hid (N5l.out.below hb8)
      have N5h := Lib.hid (N5h.out.below hb8)
      have BX1 := Lib.hid (heap_below BX1.out hb8)
      have BX2 := Lib.hid (heap_below BX2.out hb8)
      have BX3 := Lib.hid (heap_below BX3.out hb8)
      clear hb8
      have N7_4 := Lib.hid hn7_4; clear hn7_4
      obtain ⟨s8, o8, n8, c8, a8, m8, d8, rfl⟩ := N7_4.out.shape
      have N7_9 := Lib.hid hn7_9; clear hn7_9
      obtain ⟨s9, o9, n9, c9, a9, m9, d9, rfl⟩ := N7_9.out.shape
      have N7_14 := Lib.hid hn7_14; clear hn7_14
      obtain ⟨s10, o10, n10, c10, a10, m10, d10, rfl⟩ := N7_14.out.shape
      skip
      have k11 := rl_mul ((a).2) ((b).2)
      have hs := mulq_any _ ((a).2) _ ((b).2) w8 (N1_1h.out.is (by omega)) (N5h.out.is (by omega))
      have HS := Lib.hid hs; clear hs
      go_wp2_with (with_reducible first | refine pauseCall ?_ | refine pauseLoop ?_ | refine pauseDraw ?_ | refine pauseBody ?_ | refine pauseRounds ?_)
      refine Pause.mk ?_
      (with_reducible refine HS.out.mono ?_); rintro e w9 ⟨v9, rfl, hb9, hn9⟩
      clear HS
      have HB9 := Lib.hid (HB8.out.step hb9)
      have Fa := Lib.hid (Fa.out.below hb9)
      have Fb := Lib.hid (Fb.out.below hb9)
      have N1_1 := Lib.hid (N1_1.out.below hb9)
      have N1_1l := Lib.hid (N1_1l.out.below hb9)
      have N1_1h := Lib.hid (N1_1h.out.below hb9)
      have N5 := Lib.hid (N5.out.below hb9)
      have N5l := Lib.hid (N5l.out.below hb9)
      have N5h := Lib.hid (N5h.out.below hb9)
      have N7_4 := Lib.hid (N7_4.out.below hb9)
      have N7_9 := Lib.hid (N7_9.out.below hb9)
      have N7_14 := Lib.hid (N7_14.out.below hb9)
      have BX1 := Lib.hid (heap_below BX1.out hb9)
      have BX2 := Lib.hid (heap_below BX2.out hb9)
      have BX3 := Lib.hid (heap_below BX3.out hb9)
      have N9 := Lib.hid hn9; clear hn9
      obtain ⟨s12, o12, n12, c12, a12, m12, d12, rfl⟩ := N9.out.shape
      clear hb9
      obtain ⟨w10, hw10⟩ : ∃ w10, w10 = w9.alloc (.cells #[.bool s8, .slice o8 n8 c8, .slice a8 m8 d8, .bool s9, .slice o9 n9 c9, .slice a9 m9 d9, .bool s10, .slice o10 n10 c10, .slice a10 m10 d10, .bool s12, .slice o12 n12 c12, .slice a12 m12 d12] 24) := ⟨_, rfl⟩
      have hb10 : Below w9.heap.size w9 w10 := by rw [hw10]; exact (Below.refl _ _).alloc (Nat.le_refl _) _
      have hx10 := heap_alloc_new w9 (.cells #[.bool s8, .slice o8 n8 c8, .slice a8 m8 d8, .bool s9, .slice o9 n9 c9, .slice a9 m9 d9, .bool s10, .slice o10 n10 c10, .slice a10 m10 d10, .bool s12, .slice o12 n12 c12, .slice a12 m12 d12] 24)
      obtain ⟨g10, hg10⟩ : ∃ g, g = w9.heap.size := ⟨_, rfl⟩
      rw [← hw10, ← hg10] at hx10
      have lw10 : w.heap.size ≤ g10 := by rw [hg10]; exact HB9.out.size
      have ltBX110 : g1 < g10 := by rw [hg10]; exact below_lt BX1.out
      have ltBX210 : g2 < g10 := by rw [hg10]; exact below_lt BX2.out
      have ltBX310 : g3 < g10 := by rw [hg10]; exact below_lt BX3.out
      have HW10 := Lib.hid hw10; have HG10 := Lib.hid hg10; clear hw10 hg10
      have HB10 := Lib.hid (HB9.out.step hb10)
      have Fa := Lib.hid (Fa.out.below hb10)
      have Fb := Lib.hid (Fb.out.below hb10)
      have N1_1 := Lib.hid (N1_1.out.below hb10)
      have N1_1l := Lib.hid (N1_1l.out.below hb10)
      have N1_1h := Lib.hid (N1_1h.out.below hb10)
      have N5 := Lib.hid (N5.out.below hb10)
      have N5l := Lib.hid (N5l.out.below hb10)
      have N5h := Lib.hid (N5h.out.below hb10)
      have N7_4 := Lib.hid (N7_4.out.below hb10)
      have N7_9 := Lib.hid (N7_9.out.below hb10)
      have N7_14 := Lib.hid (N7_14.out.below hb10)
      have N9 := Lib.hid (N9.out.below hb10)
      have BX1 := Lib.hid (heap_below BX1.out hb10)
      have BX2 := Lib.hid (heap_below BX2.out hb10)
      have BX3 := Lib.hid (heap_below BX3.out hb10)
      have BX10 := Lib.hid hx10; clear hb10 hx10
      obtain ⟨k13, k14⟩ := rl_around4 (((a).1) * ((b).1)) (((a).1) * ((b).2)) (((a).2) * ((b).1)) (((a).2) * ((b).2))
      have hs := of4 w10 BX10.out (N7_4.out.is (by omega)) (by omega) (N7_9.out.is (by omega)) (by omega) (N7_14.out.is (by omega)) (by omega) (N9.out.is (by omega)) (by omega)
      have HS := Lib.hid hs; clear hs
      go_wp2_with (with_reducible first | refine pauseCall ?_ | refine pauseLoop ?_ | refine pauseDraw ?_ | refine pauseBody ?_ | refine pauseRounds ?_)
      try rw [← HW10.out]
      try rw [← HG10.out]
      refine Pause.mk ?_
      (with_reducible refine HS.out.mono ?_); rintro e w11 ⟨v11, rfl, hb11, hn11⟩
      clear HS
      have HB11 := Lib.hid (HB10.out.step hb11)
      have Fa := Lib.hid (Fa.out.below hb11)
      have Fb := Lib.hid (Fb.out.below hb11)
      have N1_1 := Lib.hid (N1_1.out.below hb11)
      have N1_1l := Lib.hid (N1_1l.out.below hb11)
      have N1_1h := Lib.hid (N1_1h.out.below hb11)
      have N5 := Lib.hid (N5.out.below hb11)
      have N5l := Lib.hid (N5l.out.below hb11)
      have N5h := Lib.hid (N5h.out.below hb11)
      have N7_4 := Lib.hid (N7_4.out.below hb11)
      have N7_9 := Lib.hid (N7_9.out.below hb11)
      have N7_14 := Lib.hid (N7_14.out.below hb11)
      have N9 := Lib.hid (N9.out.below hb11)
      have BX1 := Lib.hid (heap_below BX1.out hb11)
      have BX2 := Lib.hid (heap_below BX2.out hb11)
      have BX3 := Lib.hid (heap_below BX3.out hb11)
      have BX10 := Lib.hid (heap_below BX10.out hb11)
      clear BX10
      have N11 := Lib.hid hn11; clear hn11
      obtain ⟨s15, o15, n15, c15, a15, m15, d15, s15x, o15x, n15x, c15x, a15x, m15x, d15x, rfl⟩ := N11.out.shape
      have N11l := Lib.hid (isSp_ends N11.out).1; have N11h := Lib.hid (isSp_ends N11.out).2
      clear hb11
      go_wp2_with (with_reducible refine wpList_pauseS ?_)
      refine wpList_stL g3 0 [.bool s15, .slice o15 n15 c15, .slice a15 m15 d15, .bool s15x, .slice o15x n15x c15x, .slice a15x m15x d15x] BX3.out rfl rfl (Nat.le_of_ble_eq_true rfl) (by kernel_rfl) rfl ?_
      intro w12 hp12
      have Fa := Lib.hid (putL_SS hp12 Fa.out BX3.out noW6)
      have Fb := Lib.hid (putL_SS hp12 Fb.out BX3.out noW6)
      have N1_1 := Lib.hid (putL_SI hp12 N1_1.out BX3.out noW6)
      have N1_1l := Lib.hid (putL_I hp12 N1_1l.out BX3.out noW6)
      have N1_1h := Lib.hid (putL_I hp12 N1_1h.out BX3.out noW6)
      have N5 := Lib.hid (putL_SI hp12 N5.out BX3.out noW6)
      have N5l := Lib.hid (putL_I hp12 N5l.out BX3.out noW6)
      have N5h := Lib.hid (putL_I hp12 N5h.out BX3.out noW6)
      have N7_4 := Lib.hid (putL_I hp12 N7_4.out BX3.out noW6)
      have N7_9 := Lib.hid (putL_I hp12 N7_9.out BX3.out noW6)
      have N7_14 := Lib.hid (putL_I hp12 N7_14.out BX3.out noW6)
      have N9 := Lib.hid (putL_I hp12 N9.out BX3.out noW6)
      have N11 := Lib.hid (putL_SI hp12 N11.out BX3.out noW6)
      have N11l := Lib.hid (putL_I hp12 N11l.out BX3.out noW6)
      have N11h := Lib.hid (putL_I hp12 N11h.out BX3.out noW6)
      have BX1 := Lib.hid (putLx hp12 BX1.out (by omega))
      have BX2 := Lib.hid (putLx hp12 BX2.out (by omega))
      have nx12 : w12.heap[g3]? = some (.cells #[.bool s15, .slice o15 n15 c15, .slice a15 m15 d15, .bool s15x, .slice o15x n15x c15x, .slice a15x m15x d15x] 26) := by rw [hp12]; exact putL_6 BX3.out
      have BX3 := Lib.hid nx12; clear nx12
      have HB12 := Lib.hid (putLb hp12 HB11.out (by omega))
      clear hp12
      obtain ⟨x16_0, x16_1, x16_2, x16_3, x16_4, x16_5⟩ := row6 BX3.out
      go_wp2_with (with_reducible first | refine pauseCall ?_ | refine pauseLoop ?_ | refine pauseDraw ?_ | refine pauseBody ?_ | refine pauseRounds ?_)
      clear x16_0 x16_1 x16_2 x16_3 x16_4 x16_5
      refine Pause.mk ?_
      refine ret_span rfl g3 _ _ _ _ _ _ (by first | rfl | exact rfl) BX3.out rfl ?_
      exact ⟨_, rfl, HB12.out, N11.out⟩
theorem smul_any (va : Value) (a : Rat × Rat) (vb : Value) (b : Rat × Rat) (w : World) (ha : SpIs w va a) (hb : SpIs w vb b) (la1 : rl a.1 ≤ 19000) (la2 : rl a.2 ≤ 19000) (lb1 : rl b.1 ≤ 19000) (lb2 : rl b.2 ≤ 19000) :
    Calls Tryz.prog 12 #[va, vb] w (RetSp w (sMul a b)) := smul_raw va a vb b w ha hb la1 la2 lb1 lb2
end Go.Proofs.YtaefimegiobkmaaGreatDoor
/-
  span: what lies in what: what they hand back.
  Conditions: each theorem's own.
-/
namespace Go.Proofs.YtaefimegiobkmaaGreatDoor
open Go.RowKit Go.ChangeShapes Go.WideShapes

set_option maxRecDepth 100000 in
set_option maxHeartbeats 3200000 in
theorem contains_1 (va : Value) (a : Rat × Rat) (vx : Value) (x : Rat) (w : World) (ha : SpIs w va a) (hx : RatIs w vx x) (la1 : rl a.1 ≤ 39000) (la2 : rl a.2 ≤ 39000) (lx : rl x ≤ 39000) (h : a.1 ≤ x) :
    Calls Tryz.prog 40 #[va, vx] w (RetV w (.bool (decide (inS a x)))) := by
  have HBW := Lib.hid (Below.refl w.heap.size w)
  have kz0 : rl 0 ≤ 1 := by rw [rl_zero]; exact Nat.le_refl _
  obtain ⟨qa, oa, na, ka, pa, ma, ra, qax, oax, nax, kax, pax, max, rax, rfl⟩ := ha.shape
  have hla := ha.rl; have hoa := ha.ok; obtain ⟨hlaa, hlab⟩ := hla
  have hoa := Lib.hid hoa
  obtain ⟨sx, ox, nx, cx, ax, mx, dx, rfl⟩ := hx.shape
  have hlx := hx.rl
  obtain ⟨n1, hn1⟩ : ∃ n, n = cq ((a).1) (x) := ⟨_, rfl⟩
  obtain ⟨n2, hn2⟩ : ∃ n, n = cq (x) ((a).2) := ⟨_, rfl⟩
  have f1 : decide (n1 ≤ 0) = true := by rw [hn1]; exact decide_eq_true ((cq_le _ _).2 h)
  rw [show decide (inS a x) = decide (n2 ≤ 0) from by rw [decide_eq_decide, hn2, cq_le]; exact ⟨fun k => k.2, fun k => ⟨h, k⟩⟩]
  have HN1 := Lib.hid hn1; have HN2 := Lib.hid hn2; clear hn1 hn2 h
  have Fa := Lib.hid ha; clear ha
  have Fx := Lib.hid hx; clear hx
  obtain ⟨w1, hw1⟩ : ∃ w1, w1 = w.alloc (.cells #[.bool qa, .slice oa na ka, .slice pa ma ra, .bool qax, .slice oax nax kax, .slice pax max rax] 26) := ⟨_, rfl⟩
  have hb1 : Below w.heap.size w w1 := by rw [hw1]; exact (Below.refl _ _).alloc (Nat.le_refl _) _
  have hx1 := heap_alloc_new w (.cells #[.bool qa, .slice oa na ka, .slice pa ma ra, .bool qax, .slice oax nax kax, .slice pax max rax] 26)
  obtain ⟨g1, hg1⟩ : ∃ g, g = w.heap.size := ⟨_, rfl⟩
  rw [← hw1, ← hg1] at hx1
  have lw1 : w.heap.size ≤ g1 := by rw [hg1]; exact HBW.out.size
  have HW1 := Lib.hid hw1; have HG1 := Lib.hid hg1; clear hw1 hg1
  have HB1 := Lib.hid (HBW.out.step hb1)
  have Fa := Lib.hid (Fa.out.below hb1)
  have Fx := Lib.hid (Fx.out.below hb1)
  have BX1 := Lib.hid hx1; clear hb1 hx1
  obtain ⟨w2, hw2⟩ : ∃ w2, w2 = w1.alloc (.cells #[.bool sx, .slice ox nx cx, .slice ax mx dx] 24) := ⟨_, rfl⟩
  have hb2 : Below w1.heap.size w1 w2 := by rw [hw2]; exact (Below.refl _ _).alloc (Nat.le_refl _) _
  have hx2 := heap_alloc_new w1 (.cells #[.bool sx, .slice ox nx cx, .slice ax mx dx] 24)
  obtain ⟨g2, hg2⟩ : ∃ g, g = w1.heap.size := ⟨_, rfl⟩
  rw [← hw2, ← hg2] at hx2
  have lw2 : w.heap.size ≤ g2 := by rw [hg2]; exact HB1.out.size
  have ltBX12 : g1 < g2 := by rw [hg2]; exact below_lt BX1.out
  have hs2 : g2 = w.heap.size + 1 := by rw [hg2, HW1.out]; simp
  have HS2 := Lib.hid hs2; clear hs2
  have HW2 := Lib.hid hw2; have HG2 := Lib.hid hg2; clear hw2 hg2
  have HB2 := Lib.hid (HB1.out.step hb2)
  have Fa := Lib.hid (Fa.out.below hb2)
  have Fx := Lib.hid (Fx.out.below hb2)
  have BX1 := Lib.hid (heap_below BX1.out hb2)
  have BX2 := Lib.hid hx2; clear hb2 hx2
  go_enter Tryz.func40, Tryz.ntmps40
  obtain ⟨x1_0, x1_1, x1_2, x1_3, x1_4, x1_5⟩ := row6 BX1.out
  have hs := norm_any _ (a) w2 Fa.out
  have HS := Lib.hid hs; clear hs
  try rw [HW2.out] at x1_0
  try rw [HG2.out] at x1_0
  try rw [HW1.out] at x1_0
  try rw [HG1.out] at x1_0
  try rw [HW2.out] at x1_1
  try rw [HG2.out] at x1_1
  try rw [HW1.out] at x1_1
  try rw [HG1.out] at x1_1
  try rw [HW2.out] at x1_2
  try rw [HG2.out] at x1_2
  try rw [HW1.out] at x1_2
  try rw [HG1.out] at x1_2
  try rw [HW2.out] at x1_3
  try rw [HG2.out] at x1_3
  try rw [HW1.out] at x1_3
  try rw [HG1.out] at x1_3
  try rw [HW2.out] at x1_4
  try rw [HG2.out] at x1_4
  try rw [HW1.out] at x1_4
  try rw [HG1.out] at x1_4
  try rw [HW2.out] at x1_5
  try rw [HG2.out] at x1_5
  try rw [HW1.out] at x1_5
  try rw [HG1.out] at x1_5
  go_wp2_with (with_reducible first | refine pauseCall ?_ | refine pauseLoop ?_ | refine pauseDraw ?_ | refine pauseBody ?_ | refine pauseRounds ?_)
  try rw [← HW1.out]
  try rw [← HW2.out]
  try rw [← HS2.out]
  try rw [← HG1.out]
  try rw [← HG2.out]
  clear x1_0 x1_1 x1_2 x1_3 x1_4 x1_5
  refine Pause.mk ?_
  (with_reducible refine HS.out.mono ?_); rintro e w3 ⟨v3, rfl, hb3, hn3⟩
  clear HS
  have HB3 := Lib.hid (HB2.out.step hb3)
  have Fa := Lib.hid (Fa.out.below hb3)
  have Fx := Lib.hid (Fx.out.below hb3)
  have BX1 := Lib.hid (heap_below BX1.out hb3)
  have BX2 := Lib.hid (heap_below BX2.out hb3)
  have N3 := Lib.hid hn3; clear hn3
  obtain ⟨s2, o2, n2, c2, a2, m2, d2, s2x, o2x, n2x, c2x, a2x, m2x, d2x, rfl⟩ := N3.out.shape
  have N3l := Lib.hid (isSp_ends N3.out).1; have N3h := Lib.hid (isSp_ends N3.out).2
  clear hb3
  go_wp2_with (with_reducible refine wpList_pauseS ?_)
  refine wpList_stL g1 0 [.bool s2, .slice o2 n2 c2, .slice a2 m2 d2, .bool s2x, .slice o2x n2x c2x, .slice a2x m2x d2x] BX1.out rfl rfl (Nat.le_of_ble_eq_true rfl) (by kernel_rfl) rfl ?_
  intro w4 hp4
  have Fa := Lib.hid (putL_SS hp4 Fa.out BX1.out noW6)
  have Fx := Lib.hid (putL_R hp4 Fx.out BX1.out noW6)
  have N3 := Lib.hid (putL_SI hp4 N3.out BX1.out noW6)
  have N3l := Lib.hid (putL_I hp4 N3l.out BX1.out noW6)
  have N3h := Lib.hid (putL_I hp4 N3h.out BX1.out noW6)
  have BX2 := Lib.hid (putLx hp4 BX2.out (by omega))
  have nx4 : w4.heap[g1]? = some (.cells #[.bool s2, .slice o2 n2 c2, .slice a2 m2 d2, .bool s2x, .slice o2x n2x c2x, .slice a2x m2x d2x] 26) := by rw [hp4]; exact putL_6 BX1.out
  have BX1 := Lib.hid nx4; clear nx4
  have HB4 := Lib.hid (putLb hp4 HB3.out (by omega))
  clear hp4
  obtain ⟨x3_0, x3_1, x3_2, x3_3, x3_4, x3_5⟩ := row6 BX1.out
  obtain ⟨x4_0, x4_1, x4_2⟩ := row3 BX2.out
  have hs := cmpq_any _ ((a).1) _ (x) w4 (N3l.out.is (by omega)) Fx.out (by omega) (by omega)
  rw [← HN1.out] at hs
  have HS := Lib.hid hs; clear hs
  go_wp2_with (with_reducible first | refine pauseCall ?_ | refine pauseLoop ?_ | refine pauseDraw ?_ | refine pauseBody ?_ | refine pauseRounds ?_)
  clear x3_0 x3_1 x3_2 x3_3 x3_4 x3_5 x4_0 x4_1 x4_2
  refine Pause.mk ?_
  (with_reducible refine HS.out.mono ?_); rintro e w5 ⟨rfl, hb5⟩
  clear HS
  have HB5 := Lib.hid (HB4.out.step hb5)
  have Fa := Lib.hid (Fa.out.below hb5)
  have Fx := Lib.hid (Fx.out.below hb5)
  have N3 := Lib.hid (N3.out.below hb5)
  have N3l := Lib.hid (N3l.out.below hb5)
  have N3h := Lib.hid (N3h.out.below hb5)
  have BX1 := Lib.hid (heap_below BX1.out hb5)
  have BX2 := Lib.hid (heap_below BX2.out hb5)
  clear hb5
  obtain ⟨x5_0, x5_1, x5_2⟩ := row3 BX2.out
  obtain ⟨x6_0, x6_1, x6_2, x6_3, x6_4, x6_5⟩ := row6 BX1.out
  have hs := cmpq_any _ (x) _ ((a).2) w5 Fx.out (N3h.out.is (by omega)) (by omega) (by omega)
  rw [← HN2.out] at hs
  have HS := Lib.hid hs; clear hs
  go_wp2_with (with_reducible first | refine pauseCall ?_ | refine pauseLoop ?_ | refine pauseDraw ?_ | refine pauseBody ?_ | refine pauseRounds ?_)
  clear x5_0 x5_1 x5_2 x6_0 x6_1 x6_2 x6_3 x6_4 x6_5
  refine Pause.mk ?_
  (with_reducible refine HS.out.mono ?_); rintro e w6 ⟨rfl, hb6⟩
  clear HS
  have HB6 := Lib.hid (HB5.out.step hb6)
  have Fa := Lib.hid (Fa.out.below hb6)
  have Fx := Lib.hid (Fx.out.below hb6)
  have N3 := Lib.hid (N3.out.below hb6)
  have N3l := Lib.hid (N3l.out.below hb6)
  have N3h := Lib.hid (N3h.out.below hb6)
  have BX1 := Lib.hid (heap_below BX1.out hb6)
  have BX2 := Lib.hid (heap_below BX2.out hb6)
  clear hb6
  go_wp2_with (with_reducible first | refine pauseCall ?_ | refine pauseLoop ?_ | refine pauseDraw ?_ | refine pauseBody ?_ | refine pauseRounds ?_)
  refine Pause.mk ?_
  go_ret
  exact ⟨by first | rfl | (simp; done), HB6.out⟩
set_option maxRecDepth 100000 in
set_option maxHeartbeats 3200000 in
theorem contains_2 (va : Value) (a : Rat × Rat) (vx : Value) (x : Rat) (w : World) (ha : SpIs w va a) (hx : RatIs w vx x) (la1 : rl a.1 ≤ 39000) (la2 : rl a.2 ≤ 39000) (lx : rl x ≤ 39000) (h : ¬ a.1 ≤ x) :
    Calls Tryz.prog 40 #[va, vx] w (RetV w (.bool (decide (inS a x)))) := by
  have HBW := Lib.hid (Below.refl w.heap.size w)
  have kz0 : rl 0 ≤ 1 := by rw [rl_zero]; exact Nat.le_refl _
  obtain ⟨qa, oa, na, ka, pa, ma, ra, qax, oax, nax, kax, pax, max, rax, rfl⟩ := ha.shape
  have hla := ha.rl; have hoa := ha.ok; obtain ⟨hlaa, hlab⟩ := hla
  have hoa := Lib.hid hoa
  obtain ⟨sx, ox, nx, cx, ax, mx, dx, rfl⟩ := hx.shape
  have hlx := hx.rl
  obtain ⟨n1, hn1⟩ : ∃ n, n = cq ((a).1) (x) := ⟨_, rfl⟩
  obtain ⟨n2, hn2⟩ : ∃ n, n = cq (x) ((a).2) := ⟨_, rfl⟩
  have f1 : decide (n1 ≤ 0) = false := by rw [hn1]; exact decide_eq_false (fun k => h ((cq_le _ _).1 k))
  rw [show decide (inS a x) = false from decide_eq_false (fun k => h k.1)]
  have HN1 := Lib.hid hn1; have HN2 := Lib.hid hn2; clear hn1 hn2 h
  have Fa := Lib.hid ha; clear ha
  have Fx := Lib.hid hx; clear hx
  obtain ⟨w1, hw1⟩ : ∃ w1, w1 = w.alloc (.cells #[.bool qa, .slice oa na ka, .slice pa ma ra, .bool qax, .slice oax nax kax, .slice pax max rax] 26) := ⟨_, rfl⟩
  have hb1 : Below w.heap.size w w1 := by rw [hw1]; exact (Below.refl _ _).alloc (Nat.le_refl _) _
  have hx1 := heap_alloc_new w (.cells #[.bool qa, .slice oa na ka, .slice pa ma ra, .bool qax, .slice oax nax kax, .slice pax max rax] 26)
  obtain ⟨g1, hg1⟩ : ∃ g, g = w.heap.size := ⟨_, rfl⟩
  rw [← hw1, ← hg1] at hx1
  have lw1 : w.heap.size ≤ g1 := by rw [hg1]; exact HBW.out.size
  have HW1 := Lib.hid hw1; have HG1 := Lib.hid hg1; clear hw1 hg1
  have HB1 := Lib.hid (HBW.out.step hb1)
  have Fa := Lib.hid (Fa.out.below hb1)
  have Fx := Lib.hid (Fx.out.below hb1)
  have BX1 := Lib.hid hx1; clear hb1 hx1
  obtain ⟨w2, hw2⟩ : ∃ w2, w2 = w1.alloc (.cells #[.bool sx, .slice ox nx cx, .slice ax mx dx] 24) := ⟨_, rfl⟩
  have hb2 : Below w1.heap.size w1 w2 := by rw [hw2]; exact (Below.refl _ _).alloc (Nat.le_refl _) _
  have hx2 := heap_alloc_new w1 (.cells #[.bool sx, .slice ox nx cx, .slice ax mx dx] 24)
  obtain ⟨g2, hg2⟩ : ∃ g, g = w1.heap.size := ⟨_, rfl⟩
  rw [← hw2, ← hg2] at hx2
  have lw2 : w.heap.size ≤ g2 := by rw [hg2]; exact HB1.out.size
  have ltBX12 : g1 < g2 := by rw [hg2]; exact below_lt BX1.out
  have hs2 : g2 = w.heap.size + 1 := by rw [hg2, HW1.out]; simp
  have HS2 := Lib.hid hs2; clear hs2
  have HW2 := Lib.hid hw2; have HG2 := Lib.hid hg2; clear hw2 hg2
  have HB2 := Lib.hid (HB1.out.step hb2)
  have Fa := Lib.hid (Fa.out.below hb2)
  have Fx := Lib.hid (Fx.out.below hb2)
  have BX1 := Lib.hid (heap_below BX1.out hb2)
  have BX2 := Lib.hid hx2; clear hb2 hx2
  go_enter Tryz.func40, Tryz.ntmps40
  obtain ⟨x1_0, x1_1, x1_2, x1_3, x1_4, x1_5⟩ := row6 BX1.out
  have hs := norm_any _ (a) w2 Fa.out
  have HS := Lib.hid hs; clear hs
  try rw [HW2.out] at x1_0
  try rw [HG2.out] at x1_0
  try rw [HW1.out] at x1_0
  try rw [HG1.out] at x1_0
  try rw [HW2.out] at x1_1
  try rw [HG2.out] at x1_1
  try rw [HW1.out] at x1_1
  try rw [HG1.out] at x1_1
  try rw [HW2.out] at x1_2
  try rw [HG2.out] at x1_2
  try rw [HW1.out] at x1_2
  try rw [HG1.out] at x1_2
  try rw [HW2.out] at x1_3
  try rw [HG2.out] at x1_3
  try rw [HW1.out] at x1_3
  try rw [HG1.out] at x1_3
  try rw [HW2.out] at x1_4
  try rw [HG2.out] at x1_4
  try rw [HW1.out] at x1_4
  try rw [HG1.out] at x1_4
  try rw [HW2.out] at x1_5
  try rw [HG2.out] at x1_5
  try rw [HW1.out] at x1_5
  try rw [HG1.out] at x1_5
  go_wp2_with (with_reducible first | refine pauseCall ?_ | refine pauseLoop ?_ | refine pauseDraw ?_ | refine pauseBody ?_ | refine pauseRounds ?_)
  try rw [← HW1.out]
  try rw [← HW2.out]
  try rw [← HS2.out]
  try rw [← HG1.out]
  try rw [← HG2.out]
  clear x1_0 x1_1 x1_2 x1_3 x1_4 x1_5
  refine Pause.mk ?_
  (with_reducible refine HS.out.mono ?_); rintro e w3 ⟨v3, rfl, hb3, hn3⟩
  clear HS
  have HB3 := Lib.hid (HB2.out.step hb3)
  have Fa := Lib.hid (Fa.out.below hb3)
  have Fx := Lib.hid (Fx.out.below hb3)
  have BX1 := Lib.hid (heap_below BX1.out hb3)
  have BX2 := Lib.hid (heap_below BX2.out hb3)
  have N3 := Lib.hid hn3; clear hn3
  obtain ⟨s2, o2, n2, c2, a2, m2, d2, s2x, o2x, n2x, c2x, a2x, m2x, d2x, rfl⟩ := N3.out.shape
  have N3l := Lib.hid (isSp_ends N3.out).1; have N3h := Lib.hid (isSp_ends N3.out).2
  clear hb3
  go_wp2_with (with_reducible refine wpList_pauseS ?_)
  refine wpList_stL g1 0 [.bool s2, .slice o2 n2 c2, .slice a2 m2 d2, .bool s2x, .slice o2x n2x c2x, .slice a2x m2x d2x] BX1.out rfl rfl (Nat.le_of_ble_eq_true rfl) (by kernel_rfl) rfl ?_
  intro w4 hp4
  have Fa := Lib.hid (putL_SS hp4 Fa.out BX1.out noW6)
  have Fx := Lib.hid (putL_R hp4 Fx.out BX1.out noW6)
  have N3 := Lib.hid (putL_SI hp4 N3.out BX1.out noW6)
  have N3l := Lib.hid (putL_I hp4 N3l.out BX1.out noW6)
  have N3h := Lib.hid (putL_I hp4 N3h.out BX1.out noW6)
  have BX2 := Lib.hid (putLx hp4 BX2.out (by omega))
  have nx4 : w4.heap[g1]? = some (.cells #[.bool s2, .slice o2 n2 c2, .slice a2 m2 d2, .bool s2x, .slice o2x n2x c2x, .slice a2x m2x d2x] 26) := by rw [hp4]; exact putL_6 BX1.out
  have BX1 := Lib.hid nx4; clear nx4
  have HB4 := Lib.hid (putLb hp4 HB3.out (by omega))
  clear hp4
  obtain ⟨x3_0, x3_1, x3_2, x3_3, x3_4, x3_5⟩ := row6 BX1.out
  obtain ⟨x4_0, x4_1, x4_2⟩ := row3 BX2.out
  have hs := cmpq_any _ ((a).1) _ (x) w4 (N3l.out.is (by omega)) Fx.out (by omega) (by omega)
  rw [← HN1.out] at hs
  have HS := Lib.hid hs; clear hs
  go_wp2_with (with_reducible first | refine pauseCall ?_ | refine pauseLoop ?_ | refine pauseDraw ?_ | refine pauseBody ?_ | refine pauseRounds ?_)
  clear x3_0 x3_1 x3_2 x3_3 x3_4 x3_5 x4_0 x4_1 x4_2
  refine Pause.mk ?_
  (with_reducible refine HS.out.mono ?_); rintro e w5 ⟨rfl, hb5⟩
  clear HS
  have HB5 := Lib.hid (HB4.out.step hb5)
  have Fa := Lib.hid (Fa.out.below hb5)
  have Fx := Lib.hid (Fx.out.below hb5)
  have N3 := Lib.hid (N3.out.below hb5)
  have N3l := Lib.hid (N3l.out.below hb5)
  have N3h := Lib.hid (N3h.out.below hb5)
  have BX1 := Lib.hid (heap_below BX1.out hb5)
  have BX2 := Lib.hid (heap_below BX2.out hb5)
  clear hb5
  go_wp2_with (with_reducible first | refine pauseCall ?_ | refine pauseLoop ?_ | refine pauseDraw ?_ | refine pauseBody ?_ | refine pauseRounds ?_)
  refine Pause.mk ?_
  go_ret
  exact ⟨by first | rfl | (simp; done), HB5.out⟩
theorem contains_any (va : Value) (a : Rat × Rat) (vx : Value) (x : Rat) (w : World) (ha : SpIs w va a) (hx : RatIs w vx x) (la1 : rl a.1 ≤ 39000) (la2 : rl a.2 ≤ 39000) (lx : rl x ≤ 39000) :
    Calls Tryz.prog 40 #[va, vx] w (RetV w (.bool (decide (inS a x)))) := by
  by_cases h : a.1 ≤ x
  · exact contains_1 va a vx x w ha hx la1 la2 lx h
  · exact contains_2 va a vx x w ha hx la1 la2 lx h
end Go.Proofs.YtaefimegiobkmaaGreatDoor
/-
  span: quotients: what they hand back.
  Conditions: each theorem's own.
-/
namespace Go.Proofs.YtaefimegiobkmaaGreatDoor
open Go.RowKit Go.ChangeShapes Go.WideShapes

set_option maxRecDepth 100000 in
set_option maxHeartbeats 6400000 in
theorem sdiv_1 (va : Value) (a : Rat × Rat) (vb : Value) (b : Rat × Rat) (w : World) (ha : SpIs w va a) (hb : SpIs w vb b) (la1 : rl a.1 ≤ 9000) (la2 : rl a.2 ≤ 9000) (lb1 : rl b.1 ≤ 9000) (lb2 : rl b.2 ≤ 9000) (h : inS b 0) :
    Calls Tryz.prog 9 #[va, vb] w (RetSpE w (0, 0) (errV 8)) := by
  have HBW := Lib.hid (Below.refl w.heap.size w)
  have kz0 : rl 0 ≤ 1 := by rw [rl_zero]; exact Nat.le_refl _
  obtain ⟨qa, oa, na, ka, pa, ma, ra, qax, oax, nax, kax, pax, max, rax, rfl⟩ := ha.shape
  have hla := ha.rl; have hoa := ha.ok; obtain ⟨hlaa, hlab⟩ := hla
  have hoa := Lib.hid hoa
  obtain ⟨qb, ob, nb, kb, pb, mb, rb, qbx, obx, nbx, kbx, pbx, mbx, rbx, rfl⟩ := hb.shape
  have hlb := hb.rl; have hob := hb.ok; obtain ⟨hlba, hlbb⟩ := hlb
  have hob := Lib.hid hob
  rw [errV_pos (by decide)]
  have HI := Lib.hid (decide_eq_true h); clear h
  have Fa := Lib.hid ha; clear ha
  have Fb := Lib.hid hb; clear hb
  obtain ⟨w1, hw1⟩ : ∃ w1, w1 = w.alloc (.cells #[.bool qa, .slice oa na ka, .slice pa ma ra, .bool qax, .slice oax nax kax, .slice pax max rax] 26) := ⟨_, rfl⟩
  have hb1 : Below w.heap.size w w1 := by rw [hw1]; exact (Below.refl _ _).alloc (Nat.le_refl _) _
  have hx1 := heap_alloc_new w (.cells #[.bool qa, .slice oa na ka, .slice pa ma ra, .bool qax, .slice oax nax kax, .slice pax max rax] 26)
  obtain ⟨g1, hg1⟩ : ∃ g, g = w.heap.size := ⟨_, rfl⟩
  rw [← hw1, ← hg1] at hx1
  have lw1 : w.heap.size ≤ g1 := by rw [hg1]; exact HBW.out.size
  have HW1 := Lib.hid hw1; have HG1 := Lib.hid hg1; clear hw1 hg1
  have HB1 := Lib.hid (HBW.out.step hb1)
  have Fa := Lib.hid (Fa.out.below hb1)
  have Fb := Lib.hid (Fb.out.below hb1)
  have BX1 := Lib.hid hx1; clear hb1 hx1
  obtain ⟨w2, hw2⟩ : ∃ w2, w2 = w1.alloc (.cells #[.bool qb, .slice ob nb kb, .slice pb mb rb, .bool qbx, .slice obx nbx kbx, .slice pbx mbx rbx] 26) := ⟨_, rfl⟩
  have hb2 : Below w1.heap.size w1 w2 := by rw [hw2]; exact (Below.refl _ _).alloc (Nat.le_refl _) _
  have hx2 := heap_alloc_new w1 (.cells #[.bool qb, .slice ob nb kb, .slice pb mb rb, .bool qbx, .slice obx nbx kbx, .slice pbx mbx rbx] 26)
  obtain ⟨g2, hg2⟩ : ∃ g, g = w1.heap.size := ⟨_, rfl⟩
  rw [← hw2, ← hg2] at hx2
  have lw2 : w.heap.size ≤ g2 := by rw [hg2]; exact HB1.out.size
  have ltBX12 : g1 < g2 := by rw [hg2]; exact below_lt BX1.out
  have hs2 : g2 = w.heap.size + 1 := by rw [hg2, HW1.out]; simp
  have HS2 := Lib.hid hs2; clear hs2
  have HW2 := Lib.hid hw2; have HG2 := Lib.hid hg2; clear hw2 hg2
  have HB2 := Lib.hid (HB1.out.step hb2)
  have Fa := Lib.hid (Fa.out.below hb2)
  have Fb := Lib.hid (Fb.out.below hb2)
  have BX1 := Lib.hid (heap_below BX1.out hb2)
  have BX2 := Lib.hid hx2; clear hb2 hx2
  obtain ⟨w3, hw3⟩ : ∃ w3, w3 = w2.alloc (.cells #[.bool false, .slice none 0 0, .slice none 0 0, .bool false, .slice none 0 0, .slice none 0 0] 26) := ⟨_, rfl⟩
  have hb3 : Below w2.heap.size w2 w3 := by rw [hw3]; exact (Below.refl _ _).alloc (Nat.le_refl _) _
  have hx3 := heap_alloc_new w2 (.cells #[.bool false, .slice none 0 0, .slice none 0 0, .bool false, .slice none 0 0, .slice none 0 0] 26)
  obtain ⟨g3, hg3⟩ : ∃ g, g = w2.heap.size := ⟨_, rfl⟩
  rw [← hw3, ← hg3] at hx3
  have lw3 : w.heap.size ≤ g3 := by rw [hg3]; exact HB2.out.size
  have ltBX13 : g1 < g3 := by rw [hg3]; exact below_lt BX1.out
  have ltBX23 : g2 < g3 := by rw [hg3]; exact below_lt BX2.out
  have hs3 : g3 = w.heap.size + 2 := by rw [hg3, HW2.out, HW1.out]; simp
  have HS3 := Lib.hid hs3; clear hs3
  have HW3 := Lib.hid hw3; have HG3 := Lib.hid hg3; clear hw3 hg3
  have HB3 := Lib.hid (HB2.out.step hb3)
  have Fa := Lib.hid (Fa.out.below hb3)
  have Fb := Lib.hid (Fb.out.below hb3)
  have BX1 := Lib.hid (heap_below BX1.out hb3)
  have BX2 := Lib.hid (heap_below BX2.out hb3)
  have BX3 := Lib.hid hx3; clear hb3 hx3
  go_enter Tryz.func9, Tryz.ntmps9
  obtain ⟨x1_0, x1_1, x1_2, x1_3, x1_4, x1_5⟩ := row6 BX2.out
  have hs := norm_any _ (b) w3 Fb.out
  have HS := Lib.hid hs; clear hs
  try rw [HW3.out] at x1_0
  try rw [HG3.out] at x1_0
  try rw [HW2.out] at x1_0
  try rw [HG2.out] at x1_0
  try rw [HW1.out] at x1_0
  try rw [HG1.out] at x1_0
  try rw [HW3.out] at x1_1
  try rw [HG3.out] at x1_1
  try rw [HW2.out] at x1_1
  try rw [HG2.out] at x1_1
  try rw [HW1.out] at x1_1
  try rw [HG1.out] at x1_1
  try rw [HW3.out] at x1_2
  try rw [HG3.out] at x1_2
  try rw [HW2.out] at x1_2
  try rw [HG2.out] at x1_2
  try rw [HW1.out] at x1_2
  try rw [HG1.out] at x1_2
  try rw [HW3.out] at x1_3
  try rw [HG3.out] at x1_3
  try rw [HW2.out] at x1_3
  try rw [HG2.out] at x1_3
  try rw [HW1.out] at x1_3
  try rw [HG1.out] at x1_3
  try rw [HW3.out] at x1_4
  try rw [HG3.out] at x1_4
  try rw [HW2.out] at x1_4
  try rw [HG2.out] at x1_4
  try rw [HW1.out] at x1_4
  try rw [HG1.out] at x1_4
  try rw [HW3.out] at x1_5
  try rw [HG3.out] at x1_5
  try rw [HW2.out] at x1_5
  try rw [HG2.out] at x1_5
  try rw [HW1.out] at x1_5
  try rw [HG1.out] at x1_5
  go_wp2_with (with_reducible first | refine pauseCall ?_ | refine pauseLoop ?_ | refine pauseDraw ?_ | refine pauseBody ?_ | refine pauseRounds ?_)
  try rw [← HW1.out]
  try rw [← HW2.out]
  try rw [← HW3.out]
  try rw [← HS3.out]
  try rw [← HS2.out]
  try rw [← HG1.out]
  try rw [← HG2.out]
  try rw [← HG3.out]
  clear x1_0 x1_1 x1_2 x1_3 x1_4 x1_5
  refine Pause.mk ?_
  (with_reducible refine HS.out.mono ?_); rintro e w4 ⟨v4, rfl, hb4, hn4⟩
  clear HS
  have HB4 := Lib.hid (HB3.out.step hb4)
  have Fa := Lib.hid (Fa.out.below hb4)
  have Fb := Lib.hid (Fb.out.below hb4)
  have BX1 := Lib.hid (heap_below BX1.out hb4)
  have BX2 := Lib.hid (heap_below BX2.out hb4)
  have BX3 := Lib.hid (heap_below BX3.out hb4)
  have N4 := Lib.hid hn4; clear hn4
  obtain ⟨s2, o2, n2, c2, a2, m2, d2, s2x, o2x, n2x, c2x, a2x, m2x, d2x, rfl⟩ := N4.out.shape
  have N4l := Lib.hid (isSp_ends N4.out).1; have N4h := Lib.hid (isSp_ends N4.out).2
  clear hb4
  go_wp2_with (with_reducible refine wpList_pauseS ?_)
  refine wpList_stL g2 0 [.bool s2, .slice o2 n2 c2, .slice a2 m2 d2, .bool s2x, .slice o2x n2x c2x, .slice a2x m2x d2x] BX2.out rfl rfl (Nat.le_of_ble_eq_true rfl) (by kernel_rfl) rfl ?_
  intro w5 hp5
  have Fa := Lib.hid (putL_SS hp5 Fa.out BX2.out noW6)
  have Fb := Lib.hid (putL_SS hp5 Fb.out BX2.out noW6)
  have N4 := Lib.hid (putL_SI hp5 N4.out BX2.out noW6)
  have N4l := Lib.hid (putL_I hp5 N4l.out BX2.out noW6)
  have N4h := Lib.hid (putL_I hp5 N4h.out BX2.out noW6)
  have BX1 := Lib.hid (putLx hp5 BX1.out (by omega))
  have BX3 := Lib.hid (putLx hp5 BX3.out (by omega))
  have nx5 : w5.heap[g2]? = some (.cells #[.bool s2, .slice o2 n2 c2, .slice a2 m2 d2, .bool s2x, .slice o2x n2x c2x, .slice a2x m2x d2x] 26) := by rw [hp5]; exact putL_6 BX2.out
  have BX2 := Lib.hid nx5; clear nx5
  have HB5 := Lib.hid (putLb hp5 HB4.out (by omega))
  clear hp5
  obtain ⟨x3_0, x3_1, x3_2, x3_3, x3_4, x3_5⟩ := row6 BX2.out
  have hs := contains_any _ (b) _ (0) w5 (N4.out.is hob.out (by omega) (by omega)) ((isR_zero _).is (by rw [rl_zero]; decide)) (by omega) (by omega) (by omega)
  rw [HI.out] at hs
  have HS := Lib.hid hs; clear hs
  go_wp2_with (with_reducible first | refine pauseCall ?_ | refine pauseLoop ?_ | refine pauseDraw ?_ | refine pauseBody ?_ | refine pauseRounds ?_)
  clear x3_0 x3_1 x3_2 x3_3 x3_4 x3_5
  refine Pause.mk ?_
  (with_reducible refine HS.out.mono ?_); rintro e w6 ⟨rfl, hb6⟩
  clear HS
  have HB6 := Lib.hid (HB5.out.step hb6)
  have Fa := Lib.hid (Fa.out.below hb6)
  have Fb := Lib.hid (Fb.out.below hb6)
  have N4 := Lib.hid (N4.out.below hb6)
  have N4l := Lib.hid (N4l.out.below hb6)
  have N4h := Lib.hid (N4h.out.below hb6)
  have BX1 := Lib.hid (heap_below BX1.out hb6)
  have BX2 := Lib.hid (heap_below BX2.out hb6)
  have BX3 := Lib.hid (heap_below BX3.out hb6)
  clear hb6
  go_wp2_with (with_reducible refine wpList_pauseS ?_)
  refine wpList_stL g3 0 [.bool false, .slice none 0 0, .slice none 0 0, .bool false, .slice none 0 0, .slice none 0 0] BX3.out rfl rfl (Nat.le_of_ble_eq_true rfl) (by kernel_rfl) rfl ?_
  intro w7 hp7
  have Fa := Lib.hid (putL_SS hp7 Fa.out BX3.out noW6)
  have Fb := Lib.hid (putL_SS hp7 Fb.out BX3.out noW6)
  have N4 := Lib.hid (putL_SI hp7 N4.out BX3.out noW6)
  have N4l := Lib.hid (putL_I hp7 N4l.out BX3.out noW6)
  have N4h := Lib.hid (putL_I hp7 N4h.out BX3.out noW6)
  have BX1 := Lib.hid (putLx hp7 BX1.out (by omega))
  have BX2 := Lib.hid (putLx hp7 BX2.out (by omega))
  have nx7 : w7.heap[g3]? = some (.cells #[.bool false, .slice none 0 0, .slice none 0 0, .bool false, .slice none 0 0, .slice none 0 0] 26) := by rw [hp7]; exact putL_6 BX3.out
  have BX3 := Lib.hid nx7; clear nx7
  have HB7 := Lib.hid (putLb hp7 HB6.out (by omega))
  clear hp7
  obtain ⟨x4_0, x4_1, x4_2, x4_3, x4_4, x4_5⟩ := row6 BX3.out
  go_wp2_with (with_reducible first | refine pauseCall ?_ | refine pauseLoop ?_ | refine pauseDraw ?_ | refine pauseBody ?_ | refine pauseRounds ?_)
  clear x4_0 x4_1 x4_2 x4_3 x4_4 x4_5
  refine Pause.mk ?_
  refine ret_span2 rfl g3 _ _ _ _ _ _ (by first | rfl | exact rfl) BX3.out rfl ?_
  exact ⟨_, rfl, HB7.out, (isSp_zero _)⟩
set_option maxRecDepth 100000 in
set_option maxHeartbeats 6400000 in
theorem sdiv_2 (va : Value) (a : Rat × Rat) (vb : Value) (b : Rat × Rat) (w : World) (ha : SpIs w va a) (hb : SpIs w vb b) (la1 : rl a.1 ≤ 9000) (la2 : rl a.2 ≤ 9000) (lb1 : rl b.1 ≤ 9000) (lb2 : rl b.2 ≤ 9000) (h : ¬ inS b 0) :
    Calls Tryz.prog 9 #[va, vb] w (RetSpE w (sDiv a b) (errV 0)) := by
  have HBW := Lib.hid (Below.refl w.heap.size w)
  have kz0 : rl 0 ≤ 1 := by rw [rl_zero]; exact Nat.le_refl _
  obtain ⟨qa, oa, na, ka, pa, ma, ra, qax, oax, nax, kax, pax, max, rax, rfl⟩ := ha.shape
  have hla := ha.rl; have hoa := ha.ok; obtain ⟨hlaa, hlab⟩ := hla
  have hoa := Lib.hid hoa
  obtain ⟨qb, ob, nb, kb, pb, mb, rb, qbx, obx, nbx, kbx, pbx, mbx, rbx, rfl⟩ := hb.shape
  have hlb := hb.rl; have hob := hb.ok; obtain ⟨hlba, hlbb⟩ := hlb
  have hob := Lib.hid hob
  rw [errV_zero]
  obtain ⟨z1, z2⟩ := inS_zero_ends hb.ok h
  have HD1 := Lib.hid (show dc b.1 = 0 from if_neg z1); have HD2 := Lib.hid (show dc b.2 = 0 from if_neg z2)
  have HI := Lib.hid (decide_eq_false h); clear h z1 z2
  have Fa := Lib.hid ha; clear ha
  have Fb := Lib.hid hb; clear hb
  obtain ⟨w1, hw1⟩ : ∃ w1, w1 = w.alloc (.cells #[.bool qa, .slice oa na ka, .slice pa ma ra, .bool qax, .slice oax nax kax, .slice pax max rax] 26) := ⟨_, rfl⟩
  have hb1 : Below w.heap.size w w1 := by rw [hw1]; exact (Below.refl _ _).alloc (Nat.le_refl _) _
  have hx1 := heap_alloc_new w (.cells #[.bool qa, .slice oa na ka, .slice pa ma ra, .bool qax, .slice oax nax kax, .slice pax max rax] 26)
  obtain ⟨g1, hg1⟩ : ∃ g, g = w.heap.size := ⟨_, rfl⟩
  rw [← hw1, ← hg1] at hx1
  have lw1 : w.heap.size ≤ g1 := by rw [hg1]; exact HBW.out.size
  have HW1 := Lib.hid hw1; have HG1 := Lib.hid hg1; clear hw1 hg1
  have HB1 := Lib.hid (HBW.out.step hb1)
  have Fa := Lib.hid (Fa.out.below hb1)
  have Fb := Lib.hid (Fb.out.below hb1)
  have BX1 := Lib.hid hx1; clear hb1 hx1
  obtain ⟨w2, hw2⟩ : ∃ w2, w2 = w1.alloc (.cells #[.bool qb, .slice ob nb kb, .slice pb mb rb, .bool qbx, .slice obx nbx kbx, .slice pbx mbx rbx] 26) := ⟨_, rfl⟩
  have hb2 : Below w1.heap.size w1 w2 := by rw [hw2]; exact (Below.refl _ _).alloc (Nat.le_refl _) _
  have hx2 := heap_alloc_new w1 (.cells #[.bool qb, .slice ob nb kb, .slice pb mb rb, .bool qbx, .slice obx nbx kbx, .slice pbx mbx rbx] 26)
  obtain ⟨g2, hg2⟩ : ∃ g, g = w1.heap.size := ⟨_, rfl⟩
  rw [← hw2, ← hg2] at hx2
  have lw2 : w.heap.size ≤ g2 := by rw [hg2]; exact HB1.out.size
  have ltBX12 : g1 < g2 := by rw [hg2]; exact below_lt BX1.out
  have hs2 : g2 = w.heap.size + 1 := by rw [hg2, HW1.out]; simp
  have HS2 := Lib.hid hs2; clear hs2
  have HW2 := Lib.hid hw2; have HG2 := Lib.hid hg2; clear hw2 hg2
  have HB2 := Lib.hid (HB1.out.step hb2)
  have Fa := Lib.hid (Fa.out.below hb2)
  have Fb := Lib.hid (Fb.out.below hb2)
  have BX1 := Lib.hid (heap_below BX1.out hb2)
  have BX2 := Lib.hid hx2; clear hb2 hx2
  obtain ⟨w3, hw3⟩ : ∃ w3, w3 = w2.alloc (.cells #[.bool false, .slice none 0 0, .slice none 0 0, .bool false, .slice none 0 0, .slice none 0 0] 26) := ⟨_, rfl⟩
  have hb3 : Below w2.heap.size w2 w3 := by rw [hw3]; exact (Below.refl _ _).alloc (Nat.le_refl _) _
  have hx3 := heap_alloc_new w2 (.cells #[.bool false, .slice none 0 0, .slice none 0 0, .bool false, .slice none 0 0, .slice none 0 0] 26)
  obtain ⟨g3, hg3⟩ : ∃ g, g = w2.heap.size := ⟨_, rfl⟩
  rw [← hw3, ← hg3] at hx3
  have lw3 : w.heap.size ≤ g3 := by rw [hg3]; exact HB2.out.size
  have ltBX13 : g1 < g3 := by rw [hg3]; exact below_lt BX1.out
  have ltBX23 : g2 < g3 := by rw [hg3]; exact below_lt BX2.out
  have hs3 : g3 = w.heap.size + 2 := by rw [hg3, HW2.out, HW1.out]; simp
  have HS3 := Lib.hid hs3; clear hs3
  have HW3 := Lib.hid hw3; have HG3 := Lib.hid hg3; clear hw3 hg3
  have HB3 := Lib.hid (HB2.out.step hb3)
  have Fa := Lib.hid (Fa.out.below hb3)
  have Fb := Lib.hid (Fb.out.below hb3)
  have BX1 := Lib.hid (heap_below BX1.out hb3)
  have BX2 := Lib.hid (heap_below BX2.out hb3)
  have BX3 := Lib.hid hx3; clear hb3 hx3
  go_enter Tryz.func9, Tryz.ntmps9
  obtain ⟨x1_0, x1_1, x1_2, x1_3, x1_4, x1_5⟩ := row6 BX2.out
  have hs := norm_any _ (b) w3 Fb.out
  have HS := Lib.hid hs; clear hs
  try rw [HW3.out] at x1_0
  try rw [HG3.out] at x1_0
  try rw [HW2.out] at x1_0
  try rw [HG2.out] at x1_0
  try rw [HW1.out] at x1_0
  try rw [HG1.out] at x1_0
  try rw [HW3.out] at x1_1
  try rw [HG3.out] at x1_1
  try rw [HW2.out] at x1_1
  try rw [HG2.out] at x1_1
  try rw [HW1.out] at x1_1
  try rw [HG1.out] at x1_1
  try rw [HW3.out] at x1_2
  try rw [HG3.out] at x1_2
  try rw [HW2.out] at x1_2
  try rw [HG2.out] at x1_2
  try rw [HW1.out] at x1_2
  try rw [HG1.out] at x1_2
  try rw [HW3.out] at x1_3
  try rw [HG3.out] at x1_3
  try rw [HW2.out] at x1_3
  try rw [HG2.out] at x1_3
  try rw [HW1.out] at x1_3
  try rw [HG1.out] at x1_3
  try rw [HW3.out] at x1_4
  try rw [HG3.out] at x1_4
  try rw [HW2.out] at x1_4
  try rw [HG2.out] at x1_4
  try rw [HW1.out] at x1_4
  try rw [HG1.out] at x1_4
  try rw [HW3.out] at x1_5
  try rw [HG3.out] at x1_5
  try rw [HW2.out] at x1_5
  try rw [HG2.out] at x1_5
  try rw [HW1.out] at x1_5
  try rw [HG1.out] at x1_5
  go_wp2_with (with_reducible first | refine pauseCall ?_ | refine pauseLoop ?_ | refine pauseDraw ?_ | refine pauseBody ?_ | refine pauseRounds ?_)
  try rw [← HW1.out]
  try rw [← HW2.out]
  try rw [← HW3.out]
  try rw [← HS3.out]
  try rw [← HS2.out]
  try rw [← HG1.out]
  try rw [← HG2.out]
  try rw [← HG3.out]
  clear x1_0 x1_1 x1_2 x1_3 x1_4 x1_5
  refine Pause.mk ?_
  (with_reducible refine HS.out.mono ?_); rintro e w4 ⟨v4, rfl, hb4, hn4⟩
  clear HS
  have HB4 := Lib.hid (HB3.out.step hb4)
  have Fa := Lib.hid (Fa.out.below hb4)
  have Fb := Lib.hid (Fb.out.below hb4)
  have BX1 := Lib.hid (heap_below BX1.out hb4)
  have BX2 := Lib.hid (heap_below BX2.out hb4)
  have BX3 := Lib.hid (heap_below BX3.out hb4)
  have N4 := Lib.hid hn4; clear hn4
  obtain ⟨s2, o2, n2, c2, a2, m2, d2, s2x, o2x, n2x, c2x, a2x, m2x, d2x, rfl⟩ := N4.out.shape
  have N4l := Lib.hid (isSp_ends N4.out).1; have N4h := Lib.hid (isSp_ends N4.out).2
  clear hb4
  go_wp2_with (with_reducible refine wpList_pauseS ?_)
  refine wpList_stL g2 0 [.bool s2, .slice o2 n2 c2, .slice a2 m2 d2, .bool s2x, .slice o2x n2x c2x, .slice a2x m2x d2x] BX2.out rfl rfl (Nat.le_of_ble_eq_true rfl) (by kernel_rfl) rfl ?_
  intro w5 hp5
  have Fa := Lib.hid (putL_SS hp5 Fa.out BX2.out noW6)
  have Fb := Lib.hid (putL_SS hp5 Fb.out BX2.out noW6)
  have N4 := Lib.hid (putL_SI hp5 N4.out BX2.out noW6)
  have N4l := Lib.hid (putL_I hp5 N4l.out BX2.out noW6)
  have N4h := Lib.hid (putL_I hp5 N4h.out BX2.out noW6)
  have BX1 := Lib.hid (putLx hp5 BX1.out (by omega))
  have BX3 := Lib.hid (putLx hp5 BX3.out (by omega))
  have nx5 : w5.heap[g2]? = some (.cells #[.bool s2, .slice o2 n2 c2, .slice a2 m2 d2, .bool s2x, .slice o2x n2x c2x, .slice a2x m2x d2x] 26) := by rw [hp5]; exact putL_6 BX2.out
  have BX2 := Lib.hid nx5; clear nx5
  have HB5 := Lib.hid (putLb hp5 HB4.out (by omega))
  clear hp5
  obtain ⟨x3_0, x3_1, x3_2, x3_3, x3_4, x3_5⟩ := row6 BX2.out
  have hs := contains_any _ (b) _ (0) w5 (N4.out.is hob.out (by omega) (by omega)) ((isR_zero _).is (by rw [rl_zero]; decide)) (by omega) (by omega) (by omega)
  rw [HI.out] at hs
  have HS := Lib.hid hs; clear hs
  go_wp2_with (with_reducible first | refine pauseCall ?_ | refine pauseLoop ?_ | refine pauseDraw ?_ | refine pauseBody ?_ | refine pauseRounds ?_)
  clear x3_0 x3_1 x3_2 x3_3 x3_4 x3_5
  refine Pause.mk ?_
  (with_reducible refine HS.out.mono ?_); rintro e w6 ⟨rfl, hb6⟩
  clear HS
  have HB6 := Lib.hid (HB5.out.step hb6)
  have Fa := Lib.hid (Fa.out.below hb6)
  have Fb := Lib.hid (Fb.out.below hb6)
  have N4 := Lib.hid (N4.out.below hb6)
  have N4l := Lib.hid (N4l.out.below hb6)
  have N4h := Lib.hid (N4h.out.below hb6)
  have BX1 := Lib.hid (heap_below BX1.out hb6)
  have BX2 := Lib.hid (heap_below BX2.out hb6)
  have BX3 := Lib.hid (heap_below BX3.out hb6)
  clear hb6
  have k4 : rl ((1 : Int) : Rat) ≤ 2 := rl_small (by decide) (by decide)
  have hs := ofq_any 1 w6 (by decide) (by decide)
  have HS := Lib.hid hs; clear hs
  go_wp2_with (with_reducible first | refine pauseCall ?_ | refine pauseLoop ?_ | refine pauseDraw ?_ | refine pauseBody ?_ | refine pauseRounds ?_)
  refine Pause.mk ?_
  (with_reducible refine HS.out.mono ?_); rintro e w7 ⟨v7, rfl, hb7, hn7⟩
  clear HS
  have HB7 := Lib.hid (HB6.out.step hb7)
  have Fa := Lib.hid (Fa.out.below hb7)
  have Fb := Lib.hid (Fb.out.below hb7)
  have N4 := Lib.hid (N4.out.below hb7)
  have N4l := Lib.hid (N4l.out.below hb7)
  have N4h := Lib.hid (N4h.out.below hb7)
  have BX1 := Lib.hid (heap_below BX1.out hb7)
  have BX2 := Lib.hid (heap_below BX2.out hb7)
  have BX3 := Lib.hid (heap_below BX3.out hb7)
  have N7 := Lib.hid hn7; clear hn7
  obtain ⟨s5, o5, n5, c5, a5, m5, d5, rfl⟩ := N7.out.shape
  clear hb7
  obtain ⟨w8, hw8⟩ : ∃ w8, w8 = w7.alloc (.cells #[.bool s5, .slice o5 n5 c5, .slice a5 m5 d5] 24) := ⟨_, rfl⟩
  have hb8 : Below w7.heap.size w7 w8 := by rw [hw8]; exact (Below.refl _ _).alloc (Nat.le_refl _) _
  have hx8 := heap_alloc_new w7 (.cells #[.bool s5, .slice o5 n5 c5, .slice a5 m5 d5] 24)
  obtain ⟨g8, hg8⟩ : ∃ g, g = w7.heap.size := ⟨_, rfl⟩
  rw [← hw8, ← hg8] at hx8
  have lw8 : w.heap.size ≤ g8 := by rw [hg8]; exact HB7.out.size
  have ltBX18 : g1 < g8 := by rw [hg8]; exact below_lt BX1.out
  have ltBX28 : g2 < g8 := by rw [hg8]; exact below_lt BX2.out
  have ltBX38 : g3 < g8 := by rw [hg8]; exact below_lt BX3.out
  have HW8 := Lib.hid hw8; have HG8 := Lib.hid hg8; clear hw8 hg8
  have HB8 := Lib.hid (HB7.out.step hb8)
  have Fa := Lib.hid (Fa.out.below hb8)
  have Fb := Lib.hid (Fb.out.below hb8)
  have N4 := Lib.hid (N4.out.below hb8)
  have N4l := Lib.hid (N4l.out.below hb8)
  have N4h := Lib.hid (N4h.out.below hb8)
  have N7 := Lib.hid (N7.out.below hb8)
  have BX1 := Lib.hid (heap_below BX1.out hb8)
  have BX2 := Lib.hid (heap_below BX2.out hb8)
  have BX3 := Lib.hid (heap_below BX3.out hb8)
  have BX8 := Lib.hid hx8; clear hb8 hx8
  obtain ⟨x6_0, x6_1, x6_2⟩ := row3 BX8.out
  obtain ⟨x7_0, x7_1, x7_2, x7_3, x7_4, x7_5⟩ := row6 BX2.out
  have k8 := rl_div' (((1 : Int) : Rat)) ((b).1)
  have hs := divq_any _ (((1 : Int) : Rat)) _ ((b).1) w8 (N7.out.is (by omega)) (N4l.out.is (by omega))
  rw [HD1.out, errV_zero] at hs
  have HS := Lib.hid hs; clear hs
  try rw [HW8.out] at x6_0
  try rw [HG8.out] at x6_0
  try rw [HW8.out] at x6_1
  try rw [HG8.out] at x6_1
  try rw [HW8.out] at x6_2
  try rw [HG8.out] at x6_2
  try rw [HW8.out] at x7_0
  try rw [HG8.out] at x7_0
  try rw [HW8.out] at x7_1
  try rw [HG8.out] at x7_1
  try rw [HW8.out] at x7_2
  try rw [HG8.out] at x7_2
  try rw [HW8.out] at x7_3
  try rw [HG8.out] at x7_3
  try rw [HW8.out] at x7_4
  try rw [HG8.out] at x7_4
  try rw [HW8.out] at x7_5
  try rw [HG8.out] at x7_5
  go_wp2_with (with_reducible first | refine pauseCall ?_ | refine pauseLoop ?_ | refine pauseDraw ?_ | refine pauseBody ?_ | refine pauseRounds ?_)
  try rw [← HW8.out]
  try rw [← HG8.out]
  clear x6_0 x6_1 x6_2 x7_0 x7_1 x7_2 x7_3 x7_4 x7_5
  refine Pause.mk ?_
  (with_reducible refine HS.out.mono ?_); rintro e w9 ⟨v9, rfl, hb9, hn9⟩
  clear HS
  have HB9 := Lib.hid (HB8.out.step hb9)
  have Fa := Lib.hid (Fa.out.below hb9)
  have Fb := Lib.hid (Fb.out.below hb9)
  have N4 := Lib.hid (N4.out.below hb9)
  have N4l := Lib.hid (N4l.out.below hb9)
  have N4h := Lib.hid (N4h.out.below hb9)
  have N7 := Lib.hid (N7.out.below hb9)
  have BX1 := Lib.hid (heap_below BX1.out hb9)
  have BX2 := Lib.hid (heap_below BX2.out hb9)
  have BX3 := Lib.hid (heap_below BX3.out hb9)
  have BX8 := Lib.hid (heap_below BX8.out hb9)
  have N9 := Lib.hid hn9; clear hn9
  obtain ⟨s9, o9, n9, c9, a9, m9, d9, rfl⟩ := N9.out.shape
  clear hb9
  obtain ⟨w10, hw10⟩ : ∃ w10, w10 = w9.alloc (.cells #[.bool s9, .slice o9 n9 c9, .slice a9 m9 d9] 24) := ⟨_, rfl⟩
  have hb10 : Below w9.heap.size w9 w10 := by rw [hw10]; exact (Below.refl _ _).alloc (Nat.le_refl _) _
  have hx10 := heap_alloc_new w9 (.cells #[.bool s9, .slice o9 n9 c9, .slice a9 m9 d9] 24)
  obtain ⟨g10, hg10⟩ : ∃ g, g = w9.heap.size := ⟨_, rfl⟩
  rw [← hw10, ← hg10] at hx10
  have lw10 : w.heap.size ≤ g10 := by rw [hg10]; exact HB9.out.size
  have ltBX110 : g1 < g10 := by rw [hg10]; exact below_lt BX1.out
  have ltBX210 : g2 < g10 := by rw [hg10]; exact below_lt BX2.out
  have ltBX310 : g3 < g10 := by rw [hg10]; exact below_lt BX3.out
  have ltBX810 : g8 < g10 := by rw [hg10]; exact below_lt BX8.out
  have HW10 := Lib.hid hw10; have HG10 := Lib.hid hg10; clear hw10 hg10
  have HB10 := Lib.hid (HB9.out.step hb10)
  have Fa := Lib.hid (Fa.out.below hb10)
  have Fb := Lib.hid (Fb.out.below hb10)
  have N4 := Lib.hid (N4.out.below hb10)
  have N4l := Lib.hid (N4l.out.below hb10)
  have N4h := Lib.hid (N4h.out.below hb10)
  have N7 := Lib.hid (N7.out.below hb10)
  have N9 := Lib.hid (N9.out.below hb10)
  have BX1 := Lib.hid (heap_below BX1.out hb10)
  have BX2 := Lib.hid (heap_below BX2.out hb10)
  have BX3 := Lib.hid (heap_below BX3.out hb10)
  have BX8 := Lib.hid (heap_below BX8.out hb10)
  have BX10 := Lib.hid hx10; clear hb10 hx10
  obtain ⟨x10_0, x10_1, x10_2⟩ := row3 BX8.out
  obtain ⟨x11_0, x11_1, x11_2, x11_3, x11_4, x11_5⟩ := row6 BX2.out
  have k12 := rl_div' (((1 : Int) : Rat)) ((b).2)
  have hs := divq_any _ (((1 : Int) : Rat)) _ ((b).2) w10 (N7.out.is (by omega)) (N4h.out.is (by omega))
  rw [HD2.out, errV_zero] at hs
  have HS := Lib.hid hs; clear hs
  try rw [HW10.out] at x10_0
  try rw [HG10.out] at x10_0
  try rw [HW10.out] at x10_1
  try rw [HG10.out] at x10_1
  try rw [HW10.out] at x10_2
  try rw [HG10.out] at x10_2
  try rw [HW10.out] at x11_0
  try rw [HG10.out] at x11_0
  try rw [HW10.out] at x11_1
  try rw [HG10.out] at x11_1
  try rw [HW10.out] at x11_2
  try rw [HG10.out] at x11_2
  try rw [HW10.out] at x11_3
  try rw [HG10.out] at x11_3
  try rw [HW10.out] at x11_4
  try rw [HG10.out] at x11_4
  try rw [HW10.out] at x11_5
  try rw [HG10.out] at x11_5
  go_wp2_with (with_reducible first | refine pauseCall ?_ | refine pauseLoop ?_ | refine pauseDraw ?_ | refine pauseBody ?_ | refine pauseRounds ?_)
  try rw [← HW10.out]
  try rw [← HG10.out]
  clear x10_0 x10_1 x10_2 x11_0 x11_1 x11_2 x11_3 x11_4 x11_5
  refine Pause.mk ?_
  (with_reducible refine HS.out.mono ?_); rintro e w11 ⟨v11, rfl, hb11, hn11⟩
  clear HS
  have HB11 := Lib.hid (HB10.out.step hb11)
  have Fa := Lib.hid (Fa.out.below hb11)
  have Fb := Lib.hid (Fb.out.below hb11)
  have N4 := Lib.hid (N4.out.below hb11)
  have N4l := Lib.hid (N4l.out.below hb11)
  have N4h := Lib.hid (N4h.out.below hb11)
  have N7 := Lib.hid (N7.out.below hb11)
  have N9 := Lib.hid (N9.out.below hb11)
  have BX1 := Lib.hid (heap_below BX1.out hb11)
  have BX2 := Lib.hid (heap_below BX2.out hb11)
  have BX3 := Lib.hid (heap_below BX3.out hb11)
  have BX8 := Lib.hid (heap_below BX8.out hb11)
  have BX10 := Lib.hid (heap_below BX10.out hb11)
  have N11 := Lib.hid hn11; clear hn11
  obtain ⟨s13, o13, n13, c13, a13, m13, d13, rfl⟩ := N11.out.shape
  clear hb11
  obtain ⟨w12, hw12⟩ : ∃ w12, w12 = w11.alloc (.cells #[.bool s13, .slice o13 n13 c13, .slice a13 m13 d13] 24) := ⟨_, rfl⟩
  have hb12 : Below w11.heap.size w11 w12 := by rw [hw12]; exact (Below.refl _ _).alloc (Nat.le_refl _) _
  have hx12 := heap_alloc_new w11 (.cells #[.bool s13, .slice o13 n13 c13, .slice a13 m13 d13] 24)
  obtain ⟨g12, hg12⟩ : ∃ g, g = w11.heap.size := ⟨_, rfl⟩
  rw [← hw12, ← hg12] at hx12
  have lw12 : w.heap.size ≤ g12 := by rw [hg12]; exact HB11.out.size
  have ltBX112 : g1 < g12 := by rw [hg12]; exact below_lt BX1.out
  have ltBX212 : g2 < g12 := by rw [hg12]; exact below_lt BX2.out
  have ltBX312 : g3 < g12 := by rw [hg12]; exact below_lt BX3.out
  have ltBX812 : g8 < g12 := by rw [hg12]; exact below_lt BX8.out
  have ltBX1012 : g10 < g12 := by rw [hg12]; exact below_lt BX10.out
  have HW12 := Lib.hid hw12; have HG12 := Lib.hid hg12; clear hw12 hg12
  have HB12 := Lib.hid (HB11.out.step hb12)
  have Fa := Lib.hid (Fa.out.below hb12)
  have Fb := Lib.hid (Fb.out.below hb12)
  have N4 := Lib.hid (N4.out.below hb12)
  have N4l := Lib.hid (N4l.out.below hb12)
  have N4h := Lib.hid (N4h.out.below hb12)
  have N7 := Lib.hid (N7.out.below hb12)
  have N9 := Lib.hid (N9.out.below hb12)
  have N11 := Lib.hid (N11.out.below hb12)
  have BX1 := Lib.hid (heap_below BX1.out hb12)
  have BX2 := Lib.hid (heap_below BX2.out hb12)
  have BX3 := Lib.hid (heap_below BX3.out hb12)
  have BX8 := Lib.hid (heap_below BX8.out hb12)
  have BX10 := Lib.hid (heap_below BX10.out hb12)
  have BX12 := Lib.hid hx12; clear hb12 hx12
  go_wp2_with (with_reducible first | refine pauseCall ?_ | refine pauseLoop ?_ | refine pauseDraw ?_ | refine pauseBody ?_ | refine pauseRounds ?_)
  try rw [← HW12.out]
  try rw [← HG12.out]
  refine Pause.mk ?_
  obtain ⟨k14, k15⟩ := rl_around2 ((((1 : Int) : Rat)) / ((b).1)) ((((1 : Int) : Rat)) / ((b).2))
  refine wp_region_facts (A := ?aa16) (w := w12) 5 [] (by kernel_rfl) (Fl [KEq (.agg #[.bool qa, .slice oa na ka, .slice pa ma ra, .bool qax, .slice oax nax kax, .slice pax max rax]), KEq (.agg #[.bool s9, .slice o9 n9 c9, .slice a9 m9 d9]), KEq (.agg #[.bool s13, .slice o13 n13 c13, .slice a13 m13 d13]), KLst w12.heap.size 2 #[.bool s9, .slice o9 n9 c9, .slice a9 m9 d9, .bool s13, .slice o13 n13 c13, .slice a13 m13 d13] 24, KSp (around2 ((((1 : Int) : Rat)) / ((b).1)) ((((1 : Int) : Rat)) / ((b).2)))]) (fun i => false) (by kernel_rfl) ?hq16 (monoL (monoC (kEq _) (monoC (kEq _) (monoC (kEq _) (monoC (kLst _ _ _ _) (monoC (kSp _) monoN)))))) ?ha16 ?st16 ?tl16
  case hq16 =>
    intro c a d v w h
    first | (simp only [Exit.then] at h ⊢; exact h) | (simp only [Exit.inBlock, Exit.then] at h ⊢; exact h) | exact h
  case ha16 =>
    intro vals
    simp only [putsTo, dstOf, if_true, Act.put, List.setIfInBounds_toArray, List.set_cons_zero, List.set_cons_succ, List.getElem?_toArray, List.getElem?_cons_zero, List.getElem?_cons_succ, Option.bind_some]
    exact rfl
  case st16 =>
    simp only [List.take_succ_cons, List.take_zero]
    refine stepsOK_cons rfl rfl ?_ (stepsOK_cons rfl rfl ?_ (stepsOK_cons rfl rfl ?_ (stepsOK_cons rfl rfl ?_ (stepsOK_cons rfl rfl ?_ (stepsOK_nil)))))
    · intro vals w1 hb hd
      obtain ⟨e0, e1, e2, e3, e4, e5⟩ := row6 (heap_below BX1.out hb)
      refine stepOK_value (v := .agg #[.bool qa, .slice oa na ka, .slice pa ma ra, .bool qax, .slice oax nax kax, .slice pax max rax]) (w' := w1) (by go_simp) (leaves_mk (Below.refl _ _) rfl (fun h => by cases h))
    · intro vals w1 hb hd
      obtain ⟨e0, e1, e2⟩ := row3 (heap_below BX10.out hb)
      refine stepOK_value (v := .agg #[.bool s9, .slice o9 n9 c9, .slice a9 m9 d9]) (w' := w1) (by go_simp) (leaves_mk (Below.refl _ _) rfl (fun h => by cases h))
    · intro vals w1 hb hd
      obtain ⟨e0, e1, e2⟩ := row3 (heap_below BX12.out hb)
      refine stepOK_value (v := .agg #[.bool s13, .slice o13 n13 c13, .slice a13 m13 d13]) (w' := w1) (by go_simp) (leaves_mk (Below.refl _ _) rfl (fun h => by cases h))
    · intro vals w1 hb hd
      have d1 : KEq (.agg #[.bool s9, .slice o9 n9 c9, .slice a9 m9 d9]) (vals 1) w1 := hd 1 (by kernel_rfl)
      have d2 : KEq (.agg #[.bool s13, .slice o13 n13 c13, .slice a13 m13 d13]) (vals 2) w1 := hd 2 (by kernel_rfl)
      rw [show vals 1 = _ from d1]
      rw [show vals 2 = _ from d2]
      refine stepOK_value (v := .slice (some ⟨w1.heap.size, 0, none⟩) 2 2) (w' := w1.alloc (.cells #[.bool s9, .slice o9 n9 c9, .slice a9 m9 d9, .bool s13, .slice o13 n13 c13, .slice a13 m13 d13] 24)) (by go_simp) (leaves_mk ((Below.refl _ _).alloc (Nat.le_refl _) _) ⟨_, hb.size, rfl, heap_alloc_new _ _⟩ (fun h => by cases h))
    · intro vals w1 hb hd
      have d3 : KLst w12.heap.size 2 #[.bool s9, .slice o9 n9 c9, .slice a9 m9 d9, .bool s13, .slice o13 n13 c13, .slice a13 m13 d13] 24 (vals 3) w1 := hd 3 (by kernel_rfl)
      obtain ⟨gL3, _, hvL3, hzL3⟩ := d3
      rw [hvL3]; clear hvL3
      have hs := of2 w1 hzL3 ((N9.out.below hb).is (by omega)) (by omega) ((N11.out.below hb).is (by omega)) (by omega)
      have HS := Lib.hid hs; clear hs
      clear hd
      refine stepOK_call (by go_simp; first | done | exact ⟨⟨rfl, rfl⟩, rfl⟩) ?_
      (with_reducible refine HS.out.mono ?_); rintro e w2 ⟨v, rfl, hb2, hn⟩
      exact ⟨v, rfl, leaves_mk hb2 hn (fun h => by cases h)⟩
  case tl16 =>
    intro vals w13 hb13 hf hdis
    simp only [List.drop_succ_cons, List.drop_zero]
    have z0 : vals 0 = _ := hf 0 (by decide)
    try rw [z0]
    clear z0
    obtain ⟨u16_4, hu4⟩ : ∃ u, u = vals 4 := ⟨_, rfl⟩
    have hn16_4 : IsSp w13 (vals 4) (around2 ((((1 : Int) : Rat)) / ((b).1)) ((((1 : Int) : Rat)) / ((b).2))) := hf 4 (by decide)
    rw [← hu4] at hn16_4 ⊢; clear hu4
    clear hf hdis
    have HB13 := Lib.hid (HB12.out.step hb13)
    have Fa := Lib.hid (Fa.out.below hb13)
    have Fb := Lib.hid (Fb.out.below hb13)
    have N4 := Lib.hid (N4.out.below hb13)
    have N4l := Lib.hid (N4l.out.below hb13)
    have N4h := Lib.hid (N4h.out.below hb13)
    have N7 := Lib.hid (N7.out.below hb13)
    have N9 := Lib.hid (N9.out.below hb13)
    have N11 := Lib.hid (N11.out.below hb13)
    have BX1 := Lib.hid (heap_below BX1.out hb13)
    have BX2 := Lib.hid (heap_below BX2.out hb13)
    have BX3 := Lib.hid (heap_below BX3.out hb13)
    have BX8 := Lib.hid (heap_below BX8.out hb13)
    have BX10 := Lib.hid (heap_below BX10.out hb13)
    have BX12 := Lib.hid (heap_below BX12.out hb13)
    clear hb13
    have N16_4 := Lib.hid hn16_4; clear hn16_4
    obtain ⟨s17, o17, n17, c17, a17, m17, d17, s17x, o17x, n17x, c17x, a17x, m17x, d17x, rfl⟩ := N16_4.out.shape
    have N16_4l := Lib.hid (isSp_ends N16_4.out).1; have N16_4h := Lib.hid (isSp_ends N16_4.out).2
    skip
    obtain ⟨k18, k19⟩ := rl_sMul (a) (around2 ((((1 : Int) : Rat)) / ((b).1)) ((((1 : Int) : Rat)) / ((b).2)))
    have hs := smul_any _ (a) _ (around2 ((((1 : Int) : Rat)) / ((b).1)) ((((1 : Int) : Rat)) / ((b).2))) w13 Fa.out (N16_4.out.is (around2_ok _ _) (by omega) (by omega)) (by omega) (by omega) (by omega) (by omega)
    have HS := Lib.hid hs; clear hs
    go_wp2_with (with_reducible first | refine pauseCall ?_ | refine pauseLoop ?_ | refine pauseDraw ?_ | refine pauseBody ?_ | refine pauseRounds ?_)
    refine Pause.mk ?_
    (with_reducible refine HS.out.mono ?_); rintro e w14 ⟨v14, rfl, hb14, hn14⟩
    clear HS
    have HB14 := Lib.hid (HB13.out.step hb14)
    have Fa := Lib.hid (Fa.out.below hb14)
    have Fb := Lib.hid (Fb.out.below hb14)
    have N4 := Lib.hid (N4.out.below hb14)
    have N4l := Lib.hid (N4l.out.below hb14)
    have N4h := Lib.hid (N4h.out.below hb14)
    have N7 := Lib.hid (N7.out.below hb14)
    have N9 := Lib.hid (N9.out.below hb14)
    have N11 := Lib.hid (N11.out.below hb14)
    have N16_4 := Lib.hid (N16_4.out.below hb14)
    have N16_4l := Lib.hid (N16_4l.out.below hb14)
    have N16_4h := Lib.hid (N16_4h.out.below hb14)
    have BX1 := Lib.hid (heap_below BX1.out hb14)
    have BX2 := Lib.hid (heap_below BX2.out hb14)
    have BX3 := Lib.hid (heap_below BX3.out hb14)
    have BX8 := Lib.hid (heap_below BX8.out hb14)
    have BX10 := Lib.hid (heap_below BX10.out hb14)
    have BX12 := Lib.hid (heap_below BX12.out hb14)
    have N14 := Lib.hid hn14; clear hn14
    obtain ⟨s20, o20, n20, c20, a20, m20, d20, s20x, o20x, n20x, c20x, a20x, m20x, d20x, rfl⟩ := N14.out.shape
    have N14l := Lib.hid (isSp_ends N14.out).1; have N14h := Lib.hid (isSp_ends N14.out).2
    clear hb14
    go_wp2_with (with_reducible refine wpList_pauseS ?_)
    refine wpList_stL g3 0 [.bool s20, .slice o20 n20 c20, .slice a20 m20 d20, .bool s20x, .slice o20x n20x c20x, .slice a20x m20x d20x] BX3.out rfl rfl (Nat.le_of_ble_eq_true rfl) (by kernel_rfl) rfl ?_
    intro w15 hp15
    have Fa := Lib.hid (putL_SS hp15 Fa.out BX3.out noW6)
    have Fb := Lib.hid (putL_SS hp15 Fb.out BX3.out noW6)
    have N4 := Lib.hid (putL_SI hp15 N4.out BX3.out noW6)
    have N4l := Lib.hid (putL_I hp15 N4l.out BX3.out noW6)
    have N4h := Lib.hid (putL_I hp15 N4h.out BX3.out noW6)
    have N7 := Lib.hid (putL_I hp15 N7.out BX3.out noW6)
    have N9 := Lib.hid (putL_I hp15 N9.out BX3.out noW6)
    have N11 := Lib.hid (putL_I hp15 N11.out BX3.out noW6)
    have N16_4 := Lib.hid (putL_SI hp15 N16_4.out BX3.out noW6)
    have N16_4l := Lib.hid (putL_I hp15 N16_4l.out BX3.out noW6)
    have N16_4h := Lib.hid (putL_I hp15 N16_4h.out BX3.out noW6)
    have N14 := Lib.hid (putL_SI hp15 N14.out BX3.out noW6)
    have N14l := Lib.hid (putL_I hp15 N14l.out BX3.out noW6)
    have N14h := Lib.hid (putL_I hp15 N14h.out BX3.out noW6)
    have BX1 := Lib.hid (putLx hp15 BX1.out (by omega))
    have BX2 := Lib.hid (putLx hp15 BX2.out (by omega))
    have BX8 := Lib.hid (putLx hp15 BX8.out (by omega))
    have BX10 := Lib.hid (putLx hp15 BX10.out (by omega))
    have BX12 := Lib.hid (putLx hp15 BX12.out (by omega))
    have nx15 : w15.heap[g3]? = some (.cells #[.bool s20, .slice o20 n20 c20, .slice a20 m20 d20, .bool s20x, .slice o20x n20x c20x, .slice a20x m20x d20x] 26) := by rw [hp15]; exact putL_6 BX3.out
    have BX3 := Lib.hid nx15; clear nx15
    have HB15 := Lib.hid (putLb hp15 HB14.out (by omega))
    clear hp15
    obtain ⟨x21_0, x21_1, x21_2, x21_3, x21_4, x21_5⟩ := row6 BX3.out
    go_wp2_with (with_reducible first | refine pauseCall ?_ | refine pauseLoop ?_ | refine pauseDraw ?_ | refine pauseBody ?_ | refine pauseRounds ?_)
    clear x21_0 x21_1 x21_2 x21_3 x21_4 x21_5
    refine Pause.mk ?_
    refine ret_span2 rfl g3 _ _ _ _ _ _ (by first | rfl | exact rfl) BX3.out rfl ?_
    exact ⟨_, rfl, HB15.out, N14.out⟩
theorem sdiv_any (va : Value) (a : Rat × Rat) (vb : Value) (b : Rat × Rat) (w : World) (ha : SpIs w va a) (hb : SpIs w vb b) (la1 : rl a.1 ≤ 9000) (la2 : rl a.2 ≤ 9000) (lb1 : rl b.1 ≤ 9000) (lb2 : rl b.2 ≤ 9000) :
    Calls Tryz.prog 9 #[va, vb] w (RetSpE w (sdV a b) (errV (sdC b))) := by
  unfold sdV sdC
  by_cases h : inS b 0
  · rw [if_pos h, if_pos h]; exact sdiv_1 va a vb b w ha hb la1 la2 lb1 lb2 h
  · rw [if_neg h, if_neg h]; exact sdiv_2 va a vb b w ha hb la1 la2 lb1 lb2 h
end Go.Proofs.YtaefimegiobkmaaGreatDoor
/-
  faultlinelaw03.awake: the document's examples.
  Conditions: each theorem's own.
-/
namespace Go.Proofs.YtaefimegiobkmaaGreatDoor
open Go.RowKit Go.ChangeShapes Go.WideShapes

theorem awk3_1 : stx (sMul (((-1 : Int) : Rat), ((2 : Int) : Rat)) (((-3 : Int) : Rat), ((1 : Int) : Rat))) = [45, 54, 46, 46, 51] := by kernel_rfl
theorem awk3_2 : stx (sdV (((1 : Int) : Rat), ((2 : Int) : Rat)) (((2 : Int) : Rat), ((4 : Int) : Rat))) = [49, 47, 52, 46, 46, 49] := by kernel_rfl
theorem awk3_3 : sdC (((2 : Int) : Rat), ((4 : Int) : Rat)) = 0 := by kernel_rfl
set_option maxRecDepth 100000 in
set_option maxHeartbeats 6400000 in
theorem awake03  (w : World)   :
    Calls Tryz.prog 7 #[] w (RetV w (.bool true)) := by
  have HBW := Lib.hid (Below.refl w.heap.size w)
  have kz0 : rl 0 ≤ 1 := by rw [rl_zero]; exact Nat.le_refl _
  have HD := Lib.hid awk3_3
  go_enter Tryz.func7, Tryz.ntmps7
  have k1 : rl (((-1) : Int) : Rat) ≤ 2 := rl_small (by decide) (by decide)
  have hs := rofq_any (-1) w (by decide) (by decide)
  have HS := Lib.hid hs; clear hs
  go_wp2_with (with_reducible first | refine pauseCall ?_ | refine pauseLoop ?_ | refine pauseDraw ?_ | refine pauseBody ?_ | refine pauseRounds ?_)
  refine Pause.mk ?_
  (with_reducible refine HS.out.mono ?_); rintro e w1 ⟨v1, rfl, hb1, hn1⟩
  clear HS
  have HB1 := Lib.hid (HBW.out.step hb1)
  have N1 := Lib.hid hn1; clear hn1
  obtain ⟨s2, o2, n2, c2, a2, m2, d2, rfl⟩ := N1.out.shape
  clear hb1
  have k3 : rl ((2 : Int) : Rat) ≤ 2 := rl_small (by decide) (by decide)
  have hs := rofq_any 2 w1 (by decide) (by decide)
  have HS := Lib.hid hs; clear hs
  go_wp2_with (with_reducible first | refine pauseCall ?_ | refine pauseLoop ?_ | refine pauseDraw ?_ | refine pauseBody ?_ | refine pauseRounds ?_)
  refine Pause.mk ?_
  (with_reducible refine HS.out.mono ?_); rintro e w2 ⟨v2, rfl, hb2, hn2⟩
  clear HS
  have HB2 := Lib.hid (HB1.out.step hb2)
  have N1 := Lib.hid (N1.out.below hb2)
  have N2 := Lib.hid hn2; clear hn2
  obtain ⟨s4, o4, n4, c4, a4, m4, d4, rfl⟩ := N2.out.shape
  clear hb2
  obtain ⟨w3, hw3⟩ : ∃ w3, w3 = w2.alloc (.cells #[.bool s2, .slice o2 n2 c2, .slice a2 m2 d2, .bool s4, .slice o4 n4 c4, .slice a4 m4 d4] 26) := ⟨_, rfl⟩
  have hb3 : Below w2.heap.size w2 w3 := by rw [hw3]; exact (Below.refl _ _).alloc (Nat.le_refl _) _
  have hx3 := heap_alloc_new w2 (.cells #[.bool s2, .slice o2 n2 c2, .slice a2 m2 d2, .bool s4, .slice o4 n4 c4, .slice a4 m4 d4] 26)
  obtain ⟨g3, hg3⟩ : ∃ g, g = w2.heap.size := ⟨_, rfl⟩
  rw [← hw3, ← hg3] at hx3
  have lw3 : w.heap.size ≤ g3 := by rw [hg3]; exact HB2.out.size
  have HW3 := Lib.hid hw3; have HG3 := Lib.hid hg3; clear hw3 hg3
  have HB3 := Lib.hid (HB2.out.step hb3)
  have N1 := Lib.hid (N1.out.below hb3)
  have N2 := Lib.hid (N2.out.below hb3)
  have BX3 := Lib.hid hx3; clear hb3 hx3
  have k5 : rl (((-3) : Int) : Rat) ≤ 2 := rl_small (by decide) (by decide)
  have hs := rofq_any (-3) w3 (by decide) (by decide)
  have HS := Lib.hid hs; clear hs
  go_wp2_with (with_reducible first | refine pauseCall ?_ | refine pauseLoop ?_ | refine pauseDraw ?_ | refine pauseBody ?_ | refine pauseRounds ?_)
  try rw [← HW3.out]
  try rw [← HG3.out]
  refine Pause.mk ?_
  (with_reducible refine HS.out.mono ?_); rintro e w4 ⟨v4, rfl, hb4, hn4⟩
  clear HS
  have HB4 := Lib.hid (HB3.out.step hb4)
  have N1 := Lib.hid (N1.out.below hb4)
  have N2 := Lib.hid (N2.out.below hb4)
  have BX3 := Lib.hid (heap_below BX3.out hb4)
  have N4 := Lib.hid hn4; clear hn4
  obtain ⟨s6, o6, n6, c6, a6, m6, d6, rfl⟩ := N4.out.shape
  clear hb4
  have k7 : rl ((1 : Int) : Rat) ≤ 2 := rl_small (by decide) (by decide)
  have hs := rofq_any 1 w4 (by decide) (by decide)
  have HS := Lib.hid hs; clear hs
  go_wp2_with (with_reducible first | refine pauseCall ?_ | refine pauseLoop ?_ | refine pauseDraw ?_ | refine pauseBody ?_ | refine pauseRounds ?_)
  refine Pause.mk ?_
  (with_reducible refine HS.out.mono ?_); rintro e w5 ⟨v5, rfl, hb5, hn5⟩
  clear HS
  have HB5 := Lib.hid (HB4.out.step hb5)
  have N1 := Lib.hid (N1.out.below hb5)
  have N2 := Lib.hid (N2.out.below hb5)
  have N4 := Lib.hid (N4.out.below hb5)
  have BX3 := Lib.hid (heap_below BX3.out hb5)
  have N5 := Lib.hid hn5; clear hn5
  obtain ⟨s8, o8, n8, c8, a8, m8, d8, rfl⟩ := N5.out.shape
  clear hb5
  obtain ⟨w6, hw6⟩ : ∃ w6, w6 = w5.alloc (.cells #[.bool s6, .slice o6 n6 c6, .slice a6 m6 d6, .bool s8, .slice o8 n8 c8, .slice a8 m8 d8] 26) := ⟨_, rfl⟩
  have hb6 : Below w5.heap.size w5 w6 := by rw [hw6]; exact (Below.refl _ _).alloc (Nat.le_refl _) _
  have hx6 := heap_alloc_new w5 (.cells #[.bool s6, .slice o6 n6 c6, .slice a6 m6 d6, .bool s8, .slice o8 n8 c8, .slice a8 m8 d8] 26)
  obtain ⟨g6, hg6⟩ : ∃ g, g = w5.heap.size := ⟨_, rfl⟩
  rw [← hw6, ← hg6] at hx6
  have lw6 : w.heap.size ≤ g6 := by rw [hg6]; exact HB5.out.size
  have ltBX36 : g3 < g6 := by rw [hg6]; exact below_lt BX3.out
  have HW6 := Lib.hid hw6; have HG6 := Lib.hid hg6; clear hw6 hg6
  have HB6 := Lib.hid (HB5.out.step hb6)
  have N1 := Lib.hid (N1.out.below hb6)
  have N2 := Lib.hid (N2.out.below hb6)
  have N4 := Lib.hid (N4.out.below hb6)
  have N5 := Lib.hid (N5.out.below hb6)
  have BX3 := Lib.hid (heap_below BX3.out hb6)
  have BX6 := Lib.hid hx6; clear hb6 hx6
  have k9 : rl ((1 : Int) : Rat) ≤ 2 := rl_small (by decide) (by decide)
  have hs := rofq_any 1 w6 (by decide) (by decide)
  have HS := Lib.hid hs; clear hs
  go_wp2_with (with_reducible first | refine pauseCall ?_ | refine pauseLoop ?_ | refine pauseDraw ?_ | refine pauseBody ?_ | refine pauseRounds ?_)
  try rw [← HW6.out]
  try rw [← HG6.out]
  refine Pause.mk ?_
  (with_reducible refine HS.out.mono ?_); rintro e w7 ⟨v7, rfl, hb7, hn7⟩
  clear HS
  have HB7 := Lib.hid (HB6.out.step hb7)
  have N1 := Lib.hid (N1.out.below hb7)
  have N2 := Lib.hid (N2.out.below hb7)
  have N4 := Lib.hid (N4.out.below hb7)
  have N5 := Lib.hid (N5.out.below hb7)
  have BX3 := Lib.hid (heap_below BX3.out hb7)
  have BX6 := Lib.hid (heap_below BX6.out hb7)
  have N7 := Lib.hid hn7; clear hn7
  obtain ⟨s10, o10, n10, c10, a10, m10, d10, rfl⟩ := N7.out.shape
  clear hb7
  have k11 : rl ((2 : Int) : Rat) ≤ 2 := rl_small (by decide) (by decide)
  have hs := rofq_any 2 w7 (by decide) (by decide)
  have HS := Lib.hid hs; clear hs
  go_wp2_with (with_reducible first | refine pauseCall ?_ | refine pauseLoop ?_ | refine pauseDraw ?_ | refine pauseBody ?_ | refine pauseRounds ?_)
  refine Pause.mk ?_
  (with_reducible refine HS.out.mono ?_); rintro e w8 ⟨v8, rfl, hb8, hn8⟩
  clear HS
  have HB8 := Lib.hid (HB7.out.step hb8)
  have N1 := Lib.hid (N1.out.below hb8)
  have N2 := Lib.hid (N2.out.below hb8)
  have N4 := Lib.hid (N4.out.below hb8)
  have N5 := Lib.hid (N5.out.below hb8)
  have N7 := Lib.hid (N7.out.below hb8)
  have BX3 := Lib.hid (heap_below BX3.out hb8)
  have BX6 := Lib.hid (heap_below BX6.out hb8)
  have N8 := Lib.hid hn8; clear hn8
  obtain ⟨s12, o12, n12, c12, a12, m12, d12, rfl⟩ := N8.out.shape
  clear hb8
  have k13 : rl ((2 : Int) : Rat) ≤ 2 := rl_small (by decide) (by decide)
  have hs := rofq_any 2 w8 (by decide) (by decide)
  have HS := Lib.hid hs; clear hs
  go_wp2_with (with_reducible first | refine pauseCall ?_ | refine pauseLoop ?_ | refine pauseDraw ?_ | refine pauseBody ?_ | refine pauseRounds ?_)
  refine Pause.mk ?_
  (with_reducible refine HS.out.mono ?_); rintro e w9 ⟨v9, rfl, hb9, hn9⟩
  clear HS
  have HB9 := Lib.hid (HB8.out.step hb9)
  have N1 := Lib.hid (N1.out.below hb9)
  have N2 := Lib.hid (N2.out.below hb9)
  have N4 := Lib.hid (N4.out.below hb9)
  have N5 := Lib.hid (N5.out.below hb9)
  have N7 := Lib.hid (N7.out.below hb9)
  have N8 := Lib.hid (N8.out.below hb9)
  have BX3 := Lib.hid (heap_below BX3.out hb9)
  have BX6 := Lib.hid (heap_below BX6.out hb9)
  have N9 := Lib.hid hn9; clear hn9
  obtain ⟨s14, o14, n14, c14, a14, m14, d14, rfl⟩ := N9.out.shape
  clear hb9
  have k15 : rl ((4 : Int) : Rat) ≤ 2 := rl_small (by decide) (by decide)
  have hs := rofq_any 4 w9 (by decide) (by decide)
  have HS := Lib.hid hs; clear hs
  go_wp2_with (with_reducible first | refine pauseCall ?_ | refine pauseLoop ?_ | refine pauseDraw ?_ | refine pauseBody ?_ | refine pauseRounds ?_)
  refine Pause.mk ?_
  (with_reducible refine HS.out.mono ?_); rintro e w10 ⟨v10, rfl, hb10, hn10⟩
  clear HS
  have HB10 := Lib.hid (HB9.out.step hb10)
  have N1 := Lib.hid (N1.out.below hb10)
  have N2 := Lib.hid (N2.out.below hb10)
  have N4 := Lib.hid (N4.out.below hb10)
  have N5 := Lib.hid (N5.out.below hb10)
  have N7 := Lib.hid (N7.out.below hb10)
  have N8 := Lib.hid (N8.out.below hb10)
  have N9 := Lib.hid (N9.out.below hb10)
  have BX3 := Lib.hid (heap_below BX3.out hb10)
  have BX6 := Lib.hid (heap_below BX6.out hb10)
  have N10 := Lib.hid hn10; clear hn10
  obtain ⟨s16, o16, n16, c16, a16, m16, d16, rfl⟩ := N10.out.shape
  clear hb10
  obtain ⟨kp19, kp19x⟩ : rl (((((1 : Int) : Rat)), (((2 : Int) : Rat))) : Rat × Rat).1 ≤ rl (((1 : Int) : Rat)) ∧ rl (((((1 : Int) : Rat)), (((2 : Int) : Rat))) : Rat × Rat).2 ≤ rl (((2 : Int) : Rat)) := ⟨Nat.le_refl _, Nat.le_refl _⟩
  obtain ⟨kp20, kp20x⟩ : rl (((((2 : Int) : Rat)), (((4 : Int) : Rat))) : Rat × Rat).1 ≤ rl (((2 : Int) : Rat)) ∧ rl (((((2 : Int) : Rat)), (((4 : Int) : Rat))) : Rat × Rat).2 ≤ rl (((4 : Int) : Rat)) := ⟨Nat.le_refl _, Nat.le_refl _⟩
  obtain ⟨k17, k18⟩ := rl_sdV (((((1 : Int) : Rat)), (((2 : Int) : Rat)))) (((((2 : Int) : Rat)), (((4 : Int) : Rat))))
  have hs := sdiv_any _ (((((1 : Int) : Rat)), (((2 : Int) : Rat)))) _ (((((2 : Int) : Rat)), (((4 : Int) : Rat)))) w10 ((isSp_of N7.out N8.out).is (Rat.intCast_le_intCast.2 (by decide)) (by omega) (by omega)) ((isSp_of N9.out N10.out).is (Rat.intCast_le_intCast.2 (by decide)) (by omega) (by omega)) (by omega) (by omega) (by omega) (by omega)
  rw [HD.out, errV_zero] at hs
  have HS := Lib.hid hs; clear hs
  go_wp2_with (with_reducible first | refine pauseCall ?_ | refine pauseLoop ?_ | refine pauseDraw ?_ | refine pauseBody ?_ | refine pauseRounds ?_)
  refine Pause.mk ?_
  (with_reducible refine HS.out.mono ?_); rintro e w11 ⟨v11, rfl, hb11, hn11⟩
  clear HS
  have HB11 := Lib.hid (HB10.out.step hb11)
  have N1 := Lib.hid (N1.out.below hb11)
  have N2 := Lib.hid (N2.out.below hb11)
  have N4 := Lib.hid (N4.out.below hb11)
  have N5 := Lib.hid (N5.out.below hb11)
  have N7 := Lib.hid (N7.out.below hb11)
  have N8 := Lib.hid (N8.out.below hb11)
  have N9 := Lib.hid (N9.out.below hb11)
  have N10 := Lib.hid (N10.out.below hb11)
  have BX3 := Lib.hid (heap_below BX3.out hb11)
  have BX6 := Lib.hid (heap_below BX6.out hb11)
  have N11 := Lib.hid hn11; clear hn11
  obtain ⟨s21, o21, n21, c21, a21, m21, d21, s21x, o21x, n21x, c21x, a21x, m21x, d21x, rfl⟩ := N11.out.shape
  have N11l := Lib.hid (isSp_ends N11.out).1; have N11h := Lib.hid (isSp_ends N11.out).2
  clear hb11
  obtain ⟨w12, hw12⟩ : ∃ w12, w12 = w11.alloc (.cells #[.bool s21, .slice o21 n21 c21, .slice a21 m21 d21, .bool s21x, .slice o21x n21x c21x, .slice a21x m21x d21x] 26) := ⟨_, rfl⟩
  have hb12 : Below w11.heap.size w11 w12 := by rw [hw12]; exact (Below.refl _ _).alloc (Nat.le_refl _) _
  have hx12 := heap_alloc_new w11 (.cells #[.bool s21, .slice o21 n21 c21, .slice a21 m21 d21, .bool s21x, .slice o21x n21x c21x, .slice a21x m21x d21x] 26)
  obtain ⟨g12, hg12⟩ : ∃ g, g = w11.heap.size := ⟨_, rfl⟩
  rw [← hw12, ← hg12] at hx12
  have lw12 : w.heap.size ≤ g12 := by rw [hg12]; exact HB11.out.size
  have ltBX312 : g3 < g12 := by rw [hg12]; exact below_lt BX3.out
  have ltBX612 : g6 < g12 := by rw [hg12]; exact below_lt BX6.out
  have HW12 := Lib.hid hw12; have HG12 := Lib.hid hg12; clear hw12 hg12
  have HB12 := Lib.hid (HB11.out.step hb12)
  have N1 := Lib.hid (N1.out.below hb12)
  have N2 := Lib.hid (N2.out.below hb12)
  have N4 := Lib.hid (N4.out.below hb12)
  have N5 := Lib.hid (N5.out.below hb12)
  have N7 := Lib.hid (N7.out.below hb12)
  have N8 := Lib.hid (N8.out.below hb12)
  have N9 := Lib.hid (N9.out.below hb12)
  have N10 := Lib.hid (N10.out.below hb12)
  have N11 := Lib.hid (N11.out.below hb12)
  have N11l := Lib.hid (N11l.out.below hb12)
  have N11h := Lib.hid (N11h.out.below hb12)
  have BX3 := Lib.hid (heap_below BX3.out hb12)
  have BX6 := Lib.hid (heap_below BX6.out hb12)
  have BX12 := Lib.hid hx12; clear hb12 hx12
  obtain ⟨x22_0, x22_1, x22_2, x22_3, x22_4, x22_5⟩ := row6 BX3.out
  obtain ⟨x23_0, x23_1, x23_2, x23_3, x23_4, x23_5⟩ := row6 BX6.out
  obtain ⟨kp26, kp26x⟩ : rl ((((((-1) : Int) : Rat)), (((2 : Int) : Rat))) : Rat × Rat).1 ≤ rl ((((-1) : Int) : Rat)) ∧ rl ((((((-1) : Int) : Rat)), (((2 : Int) : Rat))) : Rat × Rat).2 ≤ rl (((2 : Int) : Rat)) := ⟨Nat.le_refl _, Nat.le_refl _⟩
  obtain ⟨kp27, kp27x⟩ : rl ((((((-3) : Int) : Rat)), (((1 : Int) : Rat))) : Rat × Rat).1 ≤ rl ((((-3) : Int) : Rat)) ∧ rl ((((((-3) : Int) : Rat)), (((1 : Int) : Rat))) : Rat × Rat).2 ≤ rl (((1 : Int) : Rat)) := ⟨Nat.le_refl _, Nat.le_refl _⟩
  obtain ⟨k24, k25⟩ := rl_sMul ((((((-1) : Int) : Rat)), (((2 : Int) : Rat)))) ((((((-3) : Int) : Rat)), (((1 : Int) : Rat))))
  have hs := smul_any _ ((((((-1) : Int) : Rat)), (((2 : Int) : Rat)))) _ ((((((-3) : Int) : Rat)), (((1 : Int) : Rat)))) w12 ((isSp_of N1.out N2.out).is (Rat.intCast_le_intCast.2 (by decide)) (by omega) (by omega)) ((isSp_of N4.out N5.out).is (Rat.intCast_le_intCast.2 (by decide)) (by omega) (by omega)) (by omega) (by omega) (by omega) (by omega)
  have HS := Lib.hid hs; clear hs
  try rw [HW12.out] at x22_0
  try rw [HG12.out] at x22_0
  try rw [HW12.out] at x22_1
  try rw [HG12.out] at x22_1
  try rw [HW12.out] at x22_2
  try rw [HG12.out] at x22_2
  try rw [HW12.out] at x22_3
  try rw [HG12.out] at x22_3
  try rw [HW12.out] at x22_4
  try rw [HG12.out] at x22_4
  try rw [HW12.out] at x22_5
  try rw [HG12.out] at x22_5
  try rw [HW12.out] at x23_0
  try rw [HG12.out] at x23_0
  try rw [HW12.out] at x23_1
  try rw [HG12.out] at x23_1
  try rw [HW12.out] at x23_2
  try rw [HG12.out] at x23_2
  try rw [HW12.out] at x23_3
  try rw [HG12.out] at x23_3
  try rw [HW12.out] at x23_4
  try rw [HG12.out] at x23_4
  try rw [HW12.out] at x23_5
  try rw [HG12.out] at x23_5
  go_wp2_with (with_reducible first | refine pauseCall ?_ | refine pauseLoop ?_ | refine pauseDraw ?_ | refine pauseBody ?_ | refine pauseRounds ?_)
  try rw [← HW12.out]
  try rw [← HG12.out]
  clear x22_0 x22_1 x22_2 x22_3 x22_4 x22_5 x23_0 x23_1 x23_2 x23_3 x23_4 x23_5
  refine Pause.mk ?_
  (with_reducible refine HS.out.mono ?_); rintro e w13 ⟨v13, rfl, hb13, hn13⟩
  clear HS
  have HB13 := Lib.hid (HB12.out.step hb13)
  have N1 := Lib.hid (N1.out.below hb13)
  have N2 := Lib.hid (N2.out.below hb13)
  have N4 := Lib.hid (N4.out.below hb13)
  have N5 := Lib.hid (N5.out.below hb13)
  have N7 := Lib.hid (N7.out.below hb13)
  have N8 := Lib.hid (N8.out.below hb13)
  have N9 := Lib.hid (N9.out.below hb13)
  have N10 := Lib.hid (N10.out.below hb13)
  have N11 := Lib.hid (N11.out.below hb13)
  have N11l := Lib.hid (N11l.out.below hb13)
  have N11h := Lib.hid (N11h.out.below hb13)
  have BX3 := Lib.hid (heap_below BX3.out hb13)
  have BX6 := Lib.hid (heap_below BX6.out hb13)
  have BX12 := Lib.hid (heap_below BX12.out hb13)
  have N13 := Lib.hid hn13; clear hn13
  obtain ⟨s28, o28, n28, c28, a28, m28, d28, s28x, o28x, n28x, c28x, a28x, m28x, d28x, rfl⟩ := N13.out.shape
  have N13l := Lib.hid (isSp_ends N13.out).1; have N13h := Lib.hid (isSp_ends N13.out).2
  clear hb13
  have hs := stext_any _ (sMul ((((((-1) : Int) : Rat)), (((2 : Int) : Rat)))) ((((((-3) : Int) : Rat)), (((1 : Int) : Rat))))) w13 (N13.out.is (around4_ok _ _ _ _) (by omega) (by omega)) (by omega) (by omega)
  rw [show stx (sMul ((((((-1) : Int) : Rat)), (((2 : Int) : Rat)))) ((((((-3) : Int) : Rat)), (((1 : Int) : Rat))))) = _ from awk3_1] at hs
  have HS := Lib.hid hs; clear hs
  go_wp2_with (with_reducible first | refine pauseCall ?_ | refine pauseLoop ?_ | refine pauseDraw ?_ | refine pauseBody ?_ | refine pauseRounds ?_)
  refine Pause.mk ?_
  (with_reducible refine HS.out.mono ?_); rintro e w14 ⟨rfl, hb14⟩
  clear HS
  have HB14 := Lib.hid (HB13.out.step hb14)
  have N1 := Lib.hid (N1.out.below hb14)
  have N2 := Lib.hid (N2.out.below hb14)
  have N4 := Lib.hid (N4.out.below hb14)
  have N5 := Lib.hid (N5.out.below hb14)
  have N7 := Lib.hid (N7.out.below hb14)
  have N8 := Lib.hid (N8.out.below hb14)
  have N9 := Lib.hid (N9.out.below hb14)
  have N10 := Lib.hid (N10.out.below hb14)
  have N11 := Lib.hid (N11.out.below hb14)
  have N11l := Lib.hid (N11l.out.below hb14)
  have N11h := Lib.hid (N11h.out.below hb14)
  have N13 := Lib.hid (N13.out.below hb14)
  have N13l := Lib.hid (N13l.out.below hb14)
  have N13h := Lib.hid (N13h.out.below hb14)
  have BX3 := Lib.hid (heap_below BX3.out hb14)
  have BX6 := Lib.hid (heap_below BX6.out hb14)
  have BX12 := Lib.hid (heap_below BX12.out hb14)
  clear hb14
  obtain ⟨x29_0, x29_1, x29_2, x29_3, x29_4, x29_5⟩ := row6 BX12.out
  have hs := stext_any _ (sdV (((((1 : Int) : Rat)), (((2 : Int) : Rat)))) (((((2 : Int) : Rat)), (((4 : Int) : Rat))))) w14 (N11.out.is (sdV_ok _ _) (by omega) (by omega)) (by omega) (by omega)
  rw [show stx (sdV (((((1 : Int) : Rat)), (((2 : Int) : Rat)))) (((((2 : Int) : Rat)), (((4 : Int) : Rat))))) = _ from awk3_2] at hs
  have HS := Lib.hid hs; clear hs
  go_wp2_with (with_reducible first | refine pauseCall ?_ | refine pauseLoop ?_ | refine pauseDraw ?_ | refine pauseBody ?_ | refine pauseRounds ?_)
  clear x29_0 x29_1 x29_2 x29_3 x29_4 x29_5
  refine Pause.mk ?_
  (with_reducible refine HS.out.mono ?_); rintro e w15 ⟨rfl, hb15⟩
  clear HS
  have HB15 := Lib.hid (HB14.out.step hb15)
  have N1 := Lib.hid (N1.out.below hb15)
  have N2 := Lib.hid (N2.out.below hb15)
  have N4 := Lib.hid (N4.out.below hb15)
  have N5 := Lib.hid (N5.out.below hb15)
  have N7 := Lib.hid (N7.out.below hb15)
  have N8 := Lib.hid (N8.out.below hb15)
  have N9 := Lib.hid (N9.out.below hb15)
  have N10 := Lib.hid (N10.out.below hb15)
  have N11 := Lib.hid (N11.out.below hb15)
  have N11l := Lib.hid (N11l.out.below hb15)
  have N11h := Lib.hid (N11h.out.below hb15)
  have N13 := Lib.hid (N13.out.below hb15)
  have N13l := Lib.hid (N13l.out.below hb15)
  have N13h := Lib.hid (N13h.out.below hb15)
  have BX3 := Lib.hid (heap_below BX3.out hb15)
  have BX6 := Lib.hid (heap_below BX6.out hb15)
  have BX12 := Lib.hid (heap_below BX12.out hb15)
  clear hb15
  go_wp2_with (with_reducible first | refine pauseCall ?_ | refine pauseLoop ?_ | refine pauseDraw ?_ | refine pauseBody ?_ | refine pauseRounds ?_)
  refine Pause.mk ?_
  go_ret
  exact ⟨by first | rfl | (simp; done), HB15.out⟩
end Go.Proofs.YtaefimegiobkmaaGreatDoor
/-
  The reference's intervals: sums, complements, hulls, widths, what lies in what, common parts: what they hand back.
  Conditions: each theorem's own.
-/
namespace Go.Proofs.YtaefimegiobkmaaGreatDoor
open Go.RowKit Go.ChangeShapes Go.WideShapes

set_option maxRecDepth 100000 in
set_option maxHeartbeats 3200000 in
theorem rcontains_1 (va : Value) (a : Rat × Rat) (vx : Value) (x : Rat) (w : World) (ha : SpIs w va a) (hx : RatIs w vx x) (la1 : rl a.1 ≤ 39000) (la2 : rl a.2 ≤ 39000) (lx : rl x ≤ 39000) (h : a.1 ≤ x) :
    Calls Tryz.prog 41 #[va, vx] w (RetV w (.bool (decide (inS a x)))) := by
  have HBW := Lib.hid (Below.refl w.heap.size w)
  have kz0 : rl 0 ≤ 1 := by rw [rl_zero]; exact Nat.le_refl _
  obtain ⟨qa, oa, na, ka, pa, ma, ra, qax, oax, nax, kax, pax, max, rax, rfl⟩ := ha.shape
  have hla := ha.rl; have hoa := ha.ok; obtain ⟨hlaa, hlab⟩ := hla
  have hoa := Lib.hid hoa
  obtain ⟨sx, ox, nx, cx, ax, mx, dx, rfl⟩ := hx.shape
  have hlx := hx.rl
  obtain ⟨n1, hn1⟩ : ∃ n, n = cq ((a).1) (x) := ⟨_, rfl⟩
  obtain ⟨n2, hn2⟩ : ∃ n, n = cq (x) ((a).2) := ⟨_, rfl⟩
  have f1 : decide (n1 ≤ 0) = true := by rw [hn1]; exact decide_eq_true ((cq_le _ _).2 h)
  rw [show decide (inS a x) = decide (n2 ≤ 0) from by rw [decide_eq_decide, hn2, cq_le]; exact ⟨fun k => k.2, fun k => ⟨h, k⟩⟩]
  have HN1 := Lib.hid hn1; have HN2 := Lib.hid hn2; clear hn1 hn2 h
  have Fa := Lib.hid ha; clear ha
  have Fx := Lib.hid hx; clear hx
  obtain ⟨w1, hw1⟩ : ∃ w1, w1 = w.alloc (.cells #[.bool qa, .slice oa na ka, .slice pa ma ra, .bool qax, .slice oax nax kax, .slice pax max rax] 26) := ⟨_, rfl⟩
  have hb1 : Below w.heap.size w w1 := by rw [hw1]; exact (Below.refl _ _).alloc (Nat.le_refl _) _
  have hx1 := heap_alloc_new w (.cells #[.bool qa, .slice oa na ka, .slice pa ma ra, .bool qax, .slice oax nax kax, .slice pax max rax] 26)
  obtain ⟨g1, hg1⟩ : ∃ g, g = w.heap.size := ⟨_, rfl⟩
  rw [← hw1, ← hg1] at hx1
  have lw1 : w.heap.size ≤ g1 := by rw [hg1]; exact HBW.out.size
  have HW1 := Lib.hid hw1; have HG1 := Lib.hid hg1; clear hw1 hg1
  have HB1 := Lib.hid (HBW.out.step hb1)
  have Fa := Lib.hid (Fa.out.below hb1)
  have Fx := Lib.hid (Fx.out.below hb1)
  have BX1 := Lib.hid hx1; clear hb1 hx1
  obtain ⟨w2, hw2⟩ : ∃ w2, w2 = w1.alloc (.cells #[.bool sx, .slice ox nx cx, .slice ax mx dx] 24) := ⟨_, rfl⟩
  have hb2 : Below w1.heap.size w1 w2 := by rw [hw2]; exact (Below.refl _ _).alloc (Nat.le_refl _) _
  have hx2 := heap_alloc_new w1 (.cells #[.bool sx, .slice ox nx cx, .slice ax mx dx] 24)
  obtain ⟨g2, hg2⟩ : ∃ g, g = w1.heap.size := ⟨_, rfl⟩
  rw [← hw2, ← hg2] at hx2
  have lw2 : w.heap.size ≤ g2 := by rw [hg2]; exact HB1.out.size
  have ltBX12 : g1 < g2 := by rw [hg2]; exact below_lt BX1.out
  have hs2 : g2 = w.heap.size + 1 := by rw [hg2, HW1.out]; simp
  have HS2 := Lib.hid hs2; clear hs2
  have HW2 := Lib.hid hw2; have HG2 := Lib.hid hg2; clear hw2 hg2
  have HB2 := Lib.hid (HB1.out.step hb2)
  have Fa := Lib.hid (Fa.out.below hb2)
  have Fx := Lib.hid (Fx.out.below hb2)
  have BX1 := Lib.hid (heap_below BX1.out hb2)
  have BX2 := Lib.hid hx2; clear hb2 hx2
  go_enter Tryz.func41, Tryz.ntmps41
  obtain ⟨x1_0, x1_1, x1_2, x1_3, x1_4, x1_5⟩ := row6 BX1.out
  have hs := arg_any _ (a) w2 Fa.out
  have HS := Lib.hid hs; clear hs
  try rw [HW2.out] at x1_0
  try rw [HG2.out] at x1_0
  try rw [HW1.out] at x1_0
  try rw [HG1.out] at x1_0
  try rw [HW2.out] at x1_1
  try rw [HG2.out] at x1_1
  try rw [HW1.out] at x1_1
  try rw [HG1.out] at x1_1
  try rw [HW2.out] at x1_2
  try rw [HG2.out] at x1_2
  try rw [HW1.out] at x1_2
  try rw [HG1.out] at x1_2
  try rw [HW2.out] at x1_3
  try rw [HG2.out] at x1_3
  try rw [HW1.out] at x1_3
  try rw [HG1.out] at x1_3
  try rw [HW2.out] at x1_4
  try rw [HG2.out] at x1_4
  try rw [HW1.out] at x1_4
  try rw [HG1.out] at x1_4
  try rw [HW2.out] at x1_5
  try rw [HG2.out] at x1_5
  try rw [HW1.out] at x1_5
  try rw [HG1.out] at x1_5
  go_wp2_with (with_reducible first | refine pauseCall ?_ | refine pauseLoop ?_ | refine pauseDraw ?_ | refine pauseBody ?_ | refine pauseRounds ?_)
  try rw [← HW1.out]
  try rw [← HW2.out]
  try rw [← HS2.out]
  try rw [← HG1.out]
  try rw [← HG2.out]
  clear x1_0 x1_1 x1_2 x1_3 x1_4 x1_5
  refine Pause.mk ?_
  (with_reducible refine HS.out.mono ?_); rintro e w3 ⟨v3, rfl, hb3, hn3⟩
  clear HS
  have HB3 := Lib.hid (HB2.out.step hb3)
  have Fa := Lib.hid (Fa.out.below hb3)
  have Fx := Lib.hid (Fx.out.below hb3)
  have BX1 := Lib.hid (heap_below BX1.out hb3)
  have BX2 := Lib.hid (heap_below BX2.out hb3)
  have N3 := Lib.hid hn3; clear hn3
  obtain ⟨s2, o2, n2, c2, a2, m2, d2, s2x, o2x, n2x, c2x, a2x, m2x, d2x, rfl⟩ := N3.out.shape
  have N3l := Lib.hid (isSp_ends N3.out).1; have N3h := Lib.hid (isSp_ends N3.out).2
  clear hb3
  go_wp2_with (with_reducible refine wpList_pauseS ?_)
  refine wpList_stL g1 0 [.bool s2, .slice o2 n2 c2, .slice a2 m2 d2, .bool s2x, .slice o2x n2x c2x, .slice a2x m2x d2x] BX1.out rfl rfl (Nat.le_of_ble_eq_true rfl) (by kernel_rfl) rfl ?_
  intro w4 hp4
  have Fa := Lib.hid (putL_SS hp4 Fa.out BX1.out noW6)
  have Fx := Lib.hid (putL_R hp4 Fx.out BX1.out noW6)
  have N3 := Lib.hid (putL_SI hp4 N3.out BX1.out noW6)
  have N3l := Lib.hid (putL_I hp4 N3l.out BX1.out noW6)
  have N3h := Lib.hid (putL_I hp4 N3h.out BX1.out noW6)
  have BX2 := Lib.hid (putLx hp4 BX2.out (by omega))
  have nx4 : w4.heap[g1]? = some (.cells #[.bool s2, .slice o2 n2 c2, .slice a2 m2 d2, .bool s2x, .slice o2x n2x c2x, .slice a2x m2x d2x] 26) := by rw [hp4]; exact putL_6 BX1.out
  have BX1 := Lib.hid nx4; clear nx4
  have HB4 := Lib.hid (putLb hp4 HB3.out (by omega))
  clear hp4
  obtain ⟨x3_0, x3_1, x3_2, x3_3, x3_4, x3_5⟩ := row6 BX1.out
  obtain ⟨x4_0, x4_1, x4_2⟩ := row3 BX2.out
  have hs := rcmpq_any _ ((a).1) _ (x) w4 (N3l.out.is (by omega)) Fx.out (by omega) (by omega)
  rw [← HN1.out] at hs
  have HS := Lib.hid hs; clear hs
  go_wp2_with (with_reducible first | refine pauseCall ?_ | refine pauseLoop ?_ | refine pauseDraw ?_ | refine pauseBody ?_ | refine pauseRounds ?_)
  clear x3_0 x3_1 x3_2 x3_3 x3_4 x3_5 x4_0 x4_1 x4_2
  refine Pause.mk ?_
  (with_reducible refine HS.out.mono ?_); rintro e w5 ⟨rfl, hb5⟩
  clear HS
  have HB5 := Lib.hid (HB4.out.step hb5)
  have Fa := Lib.hid (Fa.out.below hb5)
  have Fx := Lib.hid (Fx.out.below hb5)
  have N3 := Lib.hid (N3.out.below hb5)
  have N3l := Lib.hid (N3l.out.below hb5)
  have N3h := Lib.hid (N3h.out.below hb5)
  have BX1 := Lib.hid (heap_below BX1.out hb5)
  have BX2 := Lib.hid (heap_below BX2.out hb5)
  clear hb5
  obtain ⟨x5_0, x5_1, x5_2⟩ := row3 BX2.out
  obtain ⟨x6_0, x6_1, x6_2, x6_3, x6_4, x6_5⟩ := row6 BX1.out
  have hs := rcmpq_any _ (x) _ ((a).2) w5 Fx.out (N3h.out.is (by omega)) (by omega) (by omega)
  rw [← HN2.out] at hs
  have HS := Lib.hid hs; clear hs
  go_wp2_with (with_reducible first | refine pauseCall ?_ | refine pauseLoop ?_ | refine pauseDraw ?_ | refine pauseBody ?_ | refine pauseRounds ?_)
  clear x5_0 x5_1 x5_2 x6_0 x6_1 x6_2 x6_3 x6_4 x6_5
  refine Pause.mk ?_
  (with_reducible refine HS.out.mono ?_); rintro e w6 ⟨rfl, hb6⟩
  clear HS
  have HB6 := Lib.hid (HB5.out.step hb6)
  have Fa := Lib.hid (Fa.out.below hb6)
  have Fx := Lib.hid (Fx.out.below hb6)
  have N3 := Lib.hid (N3.out.below hb6)
  have N3l := Lib.hid (N3l.out.below hb6)
  have N3h := Lib.hid (N3h.out.below hb6)
  have BX1 := Lib.hid (heap_below BX1.out hb6)
  have BX2 := Lib.hid (heap_below BX2.out hb6)
  clear hb6
  go_wp2_with (with_reducible first | refine pauseCall ?_ | refine pauseLoop ?_ | refine pauseDraw ?_ | refine pauseBody ?_ | refine pauseRounds ?_)
  refine Pause.mk ?_
  go_ret
  exact ⟨by first | rfl | (simp; done), HB6.out⟩
set_option maxRecDepth 100000 in
set_option maxHeartbeats 3200000 in
theorem rcontains_2 (va : Value) (a : Rat × Rat) (vx : Value) (x : Rat) (w : World) (ha : SpIs w va a) (hx : RatIs w vx x) (la1 : rl a.1 ≤ 39000) (la2 : rl a.2 ≤ 39000) (lx : rl x ≤ 39000) (h : ¬ a.1 ≤ x) :
    Calls Tryz.prog 41 #[va, vx] w (RetV w (.bool (decide (inS a x)))) := by
  have HBW := Lib.hid (Below.refl w.heap.size w)
  have kz0 : rl 0 ≤ 1 := by rw [rl_zero]; exact Nat.le_refl _
  obtain ⟨qa, oa, na, ka, pa, ma, ra, qax, oax, nax, kax, pax, max, rax, rfl⟩ := ha.shape
  have hla := ha.rl; have hoa := ha.ok; obtain ⟨hlaa, hlab⟩ := hla
  have hoa := Lib.hid hoa
  obtain ⟨sx, ox, nx, cx, ax, mx, dx, rfl⟩ := hx.shape
  have hlx := hx.rl
  obtain ⟨n1, hn1⟩ : ∃ n, n = cq ((a).1) (x) := ⟨_, rfl⟩
  obtain ⟨n2, hn2⟩ : ∃ n, n = cq (x) ((a).2) := ⟨_, rfl⟩
  have f1 : decide (n1 ≤ 0) = false := by rw [hn1]; exact decide_eq_false (fun k => h ((cq_le _ _).1 k))
  rw [show decide (inS a x) = false from decide_eq_false (fun k => h k.1)]
  have HN1 := Lib.hid hn1; have HN2 := Lib.hid hn2; clear hn1 hn2 h
  have Fa := Lib.hid ha; clear ha
  have Fx := Lib.hid hx; clear hx
  obtain ⟨w1, hw1⟩ : ∃ w1, w1 = w.alloc (.cells #[.bool qa, .slice oa na ka, .slice pa ma ra, .bool qax, .slice oax nax kax, .slice pax max rax] 26) := ⟨_, rfl⟩
  have hb1 : Below w.heap.size w w1 := by rw [hw1]; exact (Below.refl _ _).alloc (Nat.le_refl _) _
  have hx1 := heap_alloc_new w (.cells #[.bool qa, .slice oa na ka, .slice pa ma ra, .bool qax, .slice oax nax kax, .slice pax max rax] 26)
  obtain ⟨g1, hg1⟩ : ∃ g, g = w.heap.size := ⟨_, rfl⟩
  rw [← hw1, ← hg1] at hx1
  have lw1 : w.heap.size ≤ g1 := by rw [hg1]; exact HBW.out.size
  have HW1 := Lib.hid hw1; have HG1 := Lib.hid hg1; clear hw1 hg1
  have HB1 := Lib.hid (HBW.out.step hb1)
  have Fa := Lib.hid (Fa.out.below hb1)
  have Fx := Lib.hid (Fx.out.below hb1)
  have BX1 := Lib.hid hx1; clear hb1 hx1
  obtain ⟨w2, hw2⟩ : ∃ w2, w2 = w1.alloc (.cells #[.bool sx, .slice ox nx cx, .slice ax mx dx] 24) := ⟨_, rfl⟩
  have hb2 : Below w1.heap.size w1 w2 := by rw [hw2]; exact (Below.refl _ _).alloc (Nat.le_refl _) _
  have hx2 := heap_alloc_new w1 (.cells #[.bool sx, .slice ox nx cx, .slice ax mx dx] 24)
  obtain ⟨g2, hg2⟩ : ∃ g, g = w1.heap.size := ⟨_, rfl⟩
  rw [← hw2, ← hg2] at hx2
  have lw2 : w.heap.size ≤ g2 := by rw [hg2]; exact HB1.out.size
  have ltBX12 : g1 < g2 := by rw [hg2]; exact below_lt BX1.out
  have hs2 : g2 = w.heap.size + 1 := by rw [hg2, HW1.out]; simp
  have HS2 := Lib.hid hs2; clear hs2
  have HW2 := Lib.hid hw2; have HG2 := Lib.hid hg2; clear hw2 hg2
  have HB2 := Lib.hid (HB1.out.step hb2)
  have Fa := Lib.hid (Fa.out.below hb2)
  have Fx := Lib.hid (Fx.out.below hb2)
  have BX1 := Lib.hid (heap_below BX1.out hb2)
  have BX2 := Lib.hid hx2; clear hb2 hx2
  go_enter Tryz.func41, Tryz.ntmps41
  obtain ⟨x1_0, x1_1, x1_2, x1_3, x1_4, x1_5⟩ := row6 BX1.out
  have hs := arg_any _ (a) w2 Fa.out
  have HS := Lib.hid hs; clear hs
  try rw [HW2.out] at x1_0
  try rw [HG2.out] at x1_0
  try rw [HW1.out] at x1_0
  try rw [HG1.out] at x1_0
  try rw [HW2.out] at x1_1
  try rw [HG2.out] at x1_1
  try rw [HW1.out] at x1_1
  try rw [HG1.out] at x1_1
  try rw [HW2.out] at x1_2
  try rw [HG2.out] at x1_2
  try rw [HW1.out] at x1_2
  try rw [HG1.out] at x1_2
  try rw [HW2.out] at x1_3
  try rw [HG2.out] at x1_3
  try rw [HW1.out] at x1_3
  try rw [HG1.out] at x1_3
  try rw [HW2.out] at x1_4
  try rw [HG2.out] at x1_4
  try rw [HW1.out] at x1_4
  try rw [HG1.out] at x1_4
  try rw [HW2.out] at x1_5
  try rw [HG2.out] at x1_5
  try rw [HW1.out] at x1_5
  try rw [HG1.out] at x1_5
  go_wp2_with (with_reducible first | refine pauseCall ?_ | refine pauseLoop ?_ | refine pauseDraw ?_ | refine pauseBody ?_ | refine pauseRounds ?_)
  try rw [← HW1.out]
  try rw [← HW2.out]
  try rw [← HS2.out]
  try rw [← HG1.out]
  try rw [← HG2.out]
  clear x1_0 x1_1 x1_2 x1_3 x1_4 x1_5
  refine Pause.mk ?_
  (with_reducible refine HS.out.mono ?_); rintro e w3 ⟨v3, rfl, hb3, hn3⟩
  clear HS
  have HB3 := Lib.hid (HB2.out.step hb3)
  have Fa := Lib.hid (Fa.out.below hb3)
  have Fx := Lib.hid (Fx.out.below hb3)
  have BX1 := Lib.hid (heap_below BX1.out hb3)
  have BX2 := Lib.hid (heap_below BX2.out hb3)
  have N3 := Lib.hid hn3; clear hn3
  obtain ⟨s2, o2, n2, c2, a2, m2, d2, s2x, o2x, n2x, c2x, a2x, m2x, d2x, rfl⟩ := N3.out.shape
  have N3l := Lib.hid (isSp_ends N3.out).1; have N3h := Lib.hid (isSp_ends N3.out).2
  clear hb3
  go_wp2_with (with_reducible refine wpList_pauseS ?_)
  refine wpList_stL g1 0 [.bool s2, .slice o2 n2 c2, .slice a2 m2 d2, .bool s2x, .slice o2x n2x c2x, .slice a2x m2x d2x] BX1.out rfl rfl (Nat.le_of_ble_eq_true rfl) (by kernel_rfl) rfl ?_
  intro w4 hp4
  have Fa := Lib.hid (putL_SS hp4 Fa.out BX1.out noW6)
  have Fx := Lib.hid (putL_R hp4 Fx.out BX1.out noW6)
  have N3 := Lib.hid (putL_SI hp4 N3.out BX1.out noW6)
  have N3l := Lib.hid (putL_I hp4 N3l.out BX1.out noW6)
  have N3h := Lib.hid (putL_I hp4 N3h.out BX1.out noW6)
  have BX2 := Lib.hid (putLx hp4 BX2.out (by omega))
  have nx4 : w4.heap[g1]? = some (.cells #[.bool s2, .slice o2 n2 c2, .slice a2 m2 d2, .bool s2x, .slice o2x n2x c2x, .slice a2x m2x d2x] 26) := by rw [hp4]; exact putL_6 BX1.out
  have BX1 := Lib.hid nx4; clear nx4
  have HB4 := Lib.hid (putLb hp4 HB3.out (by omega))
  clear hp4
  obtain ⟨x3_0, x3_1, x3_2, x3_3, x3_4, x3_5⟩ := row6 BX1.out
  obtain ⟨x4_0, x4_1, x4_2⟩ := row3 BX2.out
  have hs := rcmpq_any _ ((a).1) _ (x) w4 (N3l.out.is (by omega)) Fx.out (by omega) (by omega)
  rw [← HN1.out] at hs
  have HS := Lib.hid hs; clear hs
  go_wp2_with (with_reducible first | refine pauseCall ?_ | refine pauseLoop ?_ | refine pauseDraw ?_ | refine pauseBody ?_ | refine pauseRounds ?_)
  clear x3_0 x3_1 x3_2 x3_3 x3_4 x3_5 x4_0 x4_1 x4_2
  refine Pause.mk ?_
  (with_reducible refine HS.out.mono ?_); rintro e w5 ⟨rfl, hb5⟩
  clear HS
  have HB5 := Lib.hid (HB4.out.step hb5)
  have Fa := Lib.hid (Fa.out.below hb5)
  have Fx := Lib.hid (Fx.out.below hb5)
  have N3 := Lib.hid (N3.out.below hb5)
  have N3l := Lib.hid (N3l.out.below hb5)
  have N3h := Lib.hid (N3h.out.below hb5)
  have BX1 := Lib.hid (heap_below BX1.out hb5)
  have BX2 := Lib.hid (heap_below BX2.out hb5)
  clear hb5
  go_wp2_with (with_reducible first | refine pauseCall ?_ | refine pauseLoop ?_ | refine pauseDraw ?_ | refine pauseBody ?_ | refine pauseRounds ?_)
  refine Pause.mk ?_
  go_ret
  exact ⟨by first | rfl | (simp; done), HB5.out⟩
theorem rcontains_any (va : Value) (a : Rat × Rat) (vx : Value) (x : Rat) (w : World) (ha : SpIs w va a) (hx : RatIs w vx x) (la1 : rl a.1 ≤ 39000) (la2 : rl a.2 ≤ 39000) (lx : rl x ≤ 39000) :
    Calls Tryz.prog 41 #[va, vx] w (RetV w (.bool (decide (inS a x)))) := by
  by_cases h : a.1 ≤ x
  · exact rcontains_1 va a vx x w ha hx la1 la2 lx h
  · exact rcontains_2 va a vx x w ha hx la1 la2 lx h
end Go.Proofs.YtaefimegiobkmaaGreatDoor
