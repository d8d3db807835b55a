/-
  The texts Rat12, Rat14, RatLaw0, NatMath13, NatLaw0, Rat13, ShelfR, Cut, RatMath3, RatMath4, Trim, Nat24, one behind the other.
  Conditions: each theorem's own.
-/
import Derived.Shelf.Strings.SlTrimAscii
import Derived.Laws.IdiomStrings
import Derived.Test.YtkedjammeoaciaaGreatDoorM4
/-
  The reference: size, Make, Of, Floor, Round: what they hand back.
  Conditions: each theorem's own.
-/
namespace Go.Proofs.YtkedjammeoaciaaGreatDoor
open Go.RowKit Go.ChangeShapes Go.WideShapes

/-- two words of a number -/
def RetTwo (w : World) (n : Nat) (e : Ending) (w' : World) : Prop := ∃ v l, e = .returned v ∧ Below w.heap.size w w' ∧ Num w' v l ∧ val l = n ∧ l.length = 2
theorem two_words (n : Nat) : val [n % 4294967296, n / 4294967296] = n := by
  simp only [val]; omega
set_option maxRecDepth 100000 in
set_option maxHeartbeats 800000 in
theorem rsize_any (n : Int) (w : World) (h0 : -9223372036854775808 ≤ n) (h1 : n < 9223372036854775808) :
    Calls Tryz.prog 140 #[.int .i64 n] w (RetTwo w n.natAbs) := by
  obtain ⟨m, hm⟩ : ∃ m, m = n.natAbs := ⟨_, rfl⟩
  rw [← hm]
  have hmb : m ≤ 9223372036854775808 := by omega
  have hlo := num_lit w 75 #[.int .u32 ((m % 4294967296 : Nat) : Int), .int .u32 ((m / 4294967296 : Nat) : Int)] [m % 4294967296, m / 4294967296] 2 (U32.cons (by omega) (U32.cons (by omega) U32.nil)) rfl (by simp) rfl
  have HLO := Lib.hid hlo
  have e0 : ((m % 4294967296 : Nat) : Int) = (m : Int) % 4294967296 := by omega
  have e1 : ((m / 4294967296 : Nat) : Int) = (m : Int) / 4294967296 := by omega
  rw [e0, e1] at HLO
  by_cases h : n < 0
  · have hn : n = -(m : Int) := by omega
    subst hn
    have f1 : decide (-(m : Int) < 0) = true := decide_eq_true h
    have f2 : decide (0 < m) = true := decide_eq_true (by omega)
    have hwr : IntKind.u64.wrap (-IntKind.u64.wrap (-(m : Int))) = (m : Int) := by
      have e : ∀ n : Int, IntKind.u64.wrap n = n % 18446744073709551616 := fun n => rfl
      rw [e, e]; omega
    clear hm hlo e0 e1
    go_enter Tryz.func140, Tryz.ntmps140
    go_wp2_with fail
    go_ret
    exact ⟨_, _, rfl, (Below.refl _ _).alloc (Nat.le_refl _) _, HLO.out, two_words m, rfl⟩
  · have hn : n = (m : Int) := by omega
    subst hn
    have f1 : decide ((m : Int) < 0) = false := decide_eq_false h
    clear hm hlo e0 e1
    go_enter Tryz.func140, Tryz.ntmps140
    go_wp2_with fail
    go_ret
    exact ⟨_, _, rfl, (Below.refl _ _).alloc (Nat.le_refl _) _, HLO.out, two_words m, rfl⟩
set_option maxRecDepth 100000 in
set_option maxHeartbeats 3200000 in
theorem rmake_any (n : Int) (d : Int) (w : World)  (h0 : -9223372036854775808 ≤ n) (h1 : n < 9223372036854775808) (g0 : -9223372036854775808 ≤ d) (g1 : d < 9223372036854775808) :
    Calls Tryz.prog 111 #[.int .i64 n, .int .i64 d] w (RetRE w ((n : Rat) / (d : Rat)) (.int .i64 (zc d.natAbs : Nat))) := by
  have hb0 := ((Below.refl w.heap.size w).alloc (by first | (simp; done) | (simp; omega)) (.cells #[.bool false, .slice none 0 0, .slice none 0 0] 24))
  have hxR := nest1_0 w (.cells #[.bool false, .slice none 0 0, .slice none 0 0] 24)
  obtain ⟨w0, hw0⟩ : ∃ w0, w0 = (w.alloc (.cells #[.bool false, .slice none 0 0, .slice none 0 0] 24)) := ⟨_, rfl⟩
  rw [← hw0] at hb0 hxR
  have HB0 := Lib.hid hb0; have HW0 := Lib.hid hw0
  have BXR := Lib.hid hxR
  clear hb0 hw0 hxR
  have BD := Lib.hid (And.intro h0 h1); have BG := Lib.hid (And.intro g0 g1)
  obtain ⟨z, hz⟩ : ∃ z, z = zc d.natAbs := ⟨_, rfl⟩
  rw [← hz]
  have HZ := Lib.hid hz; clear hz
  go_enter Tryz.func111, Tryz.ntmps111
  have hs := rsize_any n w0 BD.out.1 BD.out.2
  have HS := Lib.hid hs; clear hs
  go_wp2_with fail
  rw [← HW0.out]
  (with_reducible refine HS.out.mono ?_); rintro e w1 ⟨v1, l1, rfl, hb1, hn1, hv1, hl1⟩
  clear HS
  have HB1 := Lib.hid (HB0.out.step hb1)
  have BXR := Lib.hid (heap_below BXR.out hb1)
  have N := Lib.hid hn1; have VN := Lib.hid hv1; have LN := Lib.hid hl1; clear hn1 hb1 hv1 hl1
  have hs := rsize_any d w1 BG.out.1 BG.out.2
  have HS := Lib.hid hs; clear hs
  go_wp2_with fail
  (with_reducible refine HS.out.mono ?_); rintro e w2 ⟨v2, l2, rfl, hb2, hn2, hv2, hl2⟩
  clear HS
  have HB2 := Lib.hid (HB1.out.step hb2)
  have N := Lib.hid (N.out.below hb2)
  have BXR := Lib.hid (heap_below BXR.out hb2)
  have D := Lib.hid hn2; have VD := Lib.hid hv2; have LD := Lib.hid hl2; clear hn2 hb2 hv2 hl2
  have hs := rfrom_any (!(decide (n < 0) == decide (d < 0))) _ _ _ _ w2 N.out D.out (by rw [LN.out]; decide) (by rw [LD.out]; decide)
  rw [VN.out, VD.out, q_ints, ← HZ.out] at hs
  have HS := Lib.hid hs; clear hs
  go_wp2_with fail
  (with_reducible refine HS.out.mono ?_); rintro e w3 ⟨v3, rfl, hb3, hn3⟩
  clear HS
  have HB3 := Lib.hid (HB2.out.step hb3)
  have N := Lib.hid (N.out.below hb3)
  have D := Lib.hid (D.out.below hb3)
  have BXR := Lib.hid (heap_below BXR.out hb3)
  have Q := Lib.hid hn3; clear hn3
  clear hb3
  obtain ⟨sQ, oQ, nQ, cQ, aQ, mQ, dQ, rfl⟩ := Q.out.shape
  obtain ⟨eR0, eR1, eR2⟩ := row3 BXR.out
  obtain ⟨fR0, fR1, fR2⟩ := froz3 BXR.out
  go_wp2_with fail
  refine ret_rat2 rfl w.heap.size _ _ _ rfl (put3_heap BXR.out) rfl ?_
  exact ⟨_, rfl, put3_below HB3.out (by omega) _ _ _, isR_put Q.out BXR.out⟩
set_option maxRecDepth 100000 in
set_option maxHeartbeats 3200000 in
theorem rofq_any (n : Int) (w : World)  (h0 : -9223372036854775808 ≤ n) (h1 : n < 9223372036854775808) :
    Calls Tryz.prog 72 #[.int .i64 n] w (RetR w (n : Rat)) := by
  have hb0 := ((Below.refl w.heap.size w).alloc (by first | (simp; done) | (simp; omega)) (.cells #[.bool false, .slice none 0 0, .slice none 0 0] 24))
  have hxR := nest1_0 w (.cells #[.bool false, .slice none 0 0, .slice none 0 0] 24)
  obtain ⟨w0, hw0⟩ : ∃ w0, w0 = (w.alloc (.cells #[.bool false, .slice none 0 0, .slice none 0 0] 24)) := ⟨_, rfl⟩
  rw [← hw0] at hb0 hxR
  have HB0 := Lib.hid hb0; have HW0 := Lib.hid hw0
  have BXR := Lib.hid hxR
  clear hb0 hw0 hxR
  have BD := Lib.hid (And.intro h0 h1)
  have hq1 : (n : Rat) / ((1 : Int) : Rat) = (n : Rat) := by rw [show ((1 : Int) : Rat) = 1 from rfl]; grind
  have HQ1 := Lib.hid hq1; clear hq1
  go_enter Tryz.func72, Tryz.ntmps72
  have hs := rmake_any n 1 w0 BD.out.1 BD.out.2 (by decide) (by decide)
  rw [HQ1.out, show zc (1 : Int).natAbs = 0 from rfl] at hs
  have HS := Lib.hid hs; clear hs
  go_wp2_with fail
  rw [← HW0.out]
  (with_reducible refine HS.out.mono ?_); rintro e w1 ⟨v1, rfl, hb1, hn1⟩
  clear HS
  have HB1 := Lib.hid (HB0.out.step hb1)
  have BXR := Lib.hid (heap_below BXR.out hb1)
  have Q := Lib.hid hn1; clear hn1
  clear hb1
  obtain ⟨sQ, oQ, nQ, cQ, aQ, mQ, dQ, rfl⟩ := Q.out.shape
  have hal : Below w1.heap.size w1 (w1.alloc (.cells #[.bool sQ, .slice oQ nQ cQ, .slice aQ mQ dQ] 24)) := (Below.refl _ _).alloc (Nat.le_refl _) _
  have HXA := Lib.hid (heap_below BXR.out hal); have HAL := Lib.hid hal; clear hal
  obtain ⟨eR0, eR1, eR2⟩ := row3 HXA.out
  obtain ⟨fR0, fR1, fR2⟩ := froz3 HXA.out
  go_wp2_with fail
  refine ret_rat rfl w.heap.size _ _ _ rfl (put3_heap HXA.out) rfl ?_
  exact ⟨_, rfl, put3_below (HB1.out.step HAL.out) (by omega) _ _ _, isR_put (Q.out.below HAL.out) HXA.out⟩
end Go.Proofs.YtkedjammeoaciaaGreatDoor
/-
  Min, Max and the reference's: what they hand back.
  Conditions: each theorem's own.
-/
namespace Go.Proofs.YtkedjammeoaciaaGreatDoor
open Go.RowKit Go.ChangeShapes Go.WideShapes

theorem mx_neg (p q : Rat) : -(mn (-p) (-q)) = mx p q := by unfold mn mx; grind
set_option maxRecDepth 100000 in
set_option maxHeartbeats 3200000 in
theorem minq_a (vp : Value) (p : Rat) (vu : Value) (u : Rat) (w : World) (hp : RatIs w vp p) (hu : RatIs w vu u) (hp2 : rl p ≤ 40000) (hu2 : rl u ≤ 40000) (hc : p ≤ u) :
    Calls Tryz.prog 23 #[vp, vu] w (RetR w p) := by
  obtain ⟨sp, op, np, cp, ap, mp, dp, rfl⟩ := hp.shape
  have hlp := hp.rl
  obtain ⟨su, ou, nu, cu, au, mu, du, rfl⟩ := hu.shape
  have hlu := hu.rl
  have hb0 := ((((Below.refl w.heap.size w).alloc (by first | (simp; done) | (simp; omega)) (.cells #[.bool sp, .slice op np cp, .slice ap mp dp] 24)).alloc (by first | (simp; done) | (simp; omega)) (.cells #[.bool su, .slice ou nu cu, .slice au mu du] 24)).alloc (by first | (simp; done) | (simp; omega)) (.cells #[.bool false, .slice none 0 0, .slice none 0 0] 24))
  have hxp := nest3_0 w (.cells #[.bool sp, .slice op np cp, .slice ap mp dp] 24) (.cells #[.bool su, .slice ou nu cu, .slice au mu du] 24) (.cells #[.bool false, .slice none 0 0, .slice none 0 0] 24)
  have hxu := nest3_1 w (.cells #[.bool sp, .slice op np cp, .slice ap mp dp] 24) (.cells #[.bool su, .slice ou nu cu, .slice au mu du] 24) (.cells #[.bool false, .slice none 0 0, .slice none 0 0] 24)
  have hxR := nest3_2 w (.cells #[.bool sp, .slice op np cp, .slice ap mp dp] 24) (.cells #[.bool su, .slice ou nu cu, .slice au mu du] 24) (.cells #[.bool false, .slice none 0 0, .slice none 0 0] 24)
  have hpp := hp.below hb0
  have hpu := hu.below hb0
  obtain ⟨w0, hw0⟩ : ∃ w0, w0 = (((w.alloc (.cells #[.bool sp, .slice op np cp, .slice ap mp dp] 24)).alloc (.cells #[.bool su, .slice ou nu cu, .slice au mu du] 24)).alloc (.cells #[.bool false, .slice none 0 0, .slice none 0 0] 24)) := ⟨_, rfl⟩
  rw [← hw0] at hb0 hxp hxu hxR hpp hpu
  have HB0 := Lib.hid hb0; have HW0 := Lib.hid hw0
  have BXp := Lib.hid hxp
  have BXu := Lib.hid hxu
  have BXR := Lib.hid hxR
  have Fp := Lib.hid hpp
  have Fu := Lib.hid hpu
  clear hb0 hw0 hxp hxu hxR hpp hp hpu hu
  have hc2 : cq p u ≤ 0 := by rw [cq_le]; exact hc
  obtain ⟨n, hn⟩ : ∃ n, n = cq p u := ⟨_, rfl⟩
  rw [← hn] at hc2
  have f1 : decide (n ≤ 0) = true := decide_eq_true hc2
  have HN := Lib.hid hn; clear hn hc hc2
  go_enter Tryz.func23, Tryz.ntmps23
  have hs := cmpq_any _ p _ u w0 Fp.out Fu.out hp2 hu2
  rw [← HN.out] at hs
  have HS := Lib.hid hs; clear hs
  go_wp2_with fail
  rw [← HW0.out]
  (with_reducible refine HS.out.mono ?_); rintro e w1 ⟨rfl, hb1⟩
  clear HS
  have HB1 := Lib.hid (HB0.out.step hb1)
  have Fp := Lib.hid (Fp.out.below hb1)
  have Fu := Lib.hid (Fu.out.below hb1)
  have BXp := Lib.hid (heap_below BXp.out hb1)
  have BXu := Lib.hid (heap_below BXu.out hb1)
  have BXR := Lib.hid (heap_below BXR.out hb1)
  clear hb1
  have hs := same_any _ p w1 Fp.out
  have HS := Lib.hid hs; clear hs
  obtain ⟨ep0, ep1, ep2⟩ := row3 BXp.out
  go_wp2_with fail
  clear ep0 ep1 ep2
  (with_reducible refine HS.out.mono ?_); rintro e w2 ⟨v2, rfl, hb2, hn2⟩
  clear HS
  have HB2 := Lib.hid (HB1.out.step hb2)
  have Fp := Lib.hid (Fp.out.below hb2)
  have Fu := Lib.hid (Fu.out.below hb2)
  have BXp := Lib.hid (heap_below BXp.out hb2)
  have BXu := Lib.hid (heap_below BXu.out hb2)
  have BXR := Lib.hid (heap_below BXR.out hb2)
  have Q := Lib.hid hn2; clear hn2
  clear hb2
  obtain ⟨sQ, oQ, nQ, cQ, aQ, mQ, dQ, rfl⟩ := Q.out.shape
  obtain ⟨eR0, eR1, eR2⟩ := row3 BXR.out
  obtain ⟨fR0, fR1, fR2⟩ := froz3 BXR.out
  go_wp2_with fail
  clear eR0 eR1 eR2 fR0 fR1 fR2
  refine ret_rat rfl (w.heap.size + 2) _ _ _ rfl (put3_heap BXR.out) rfl ?_
  exact ⟨_, rfl, put3_below HB2.out (by omega) _ _ _, isR_put Q.out BXR.out⟩
set_option maxRecDepth 100000 in
set_option maxHeartbeats 3200000 in
theorem minq_b (vp : Value) (p : Rat) (vu : Value) (u : Rat) (w : World) (hp : RatIs w vp p) (hu : RatIs w vu u) (hp2 : rl p ≤ 40000) (hu2 : rl u ≤ 40000) (hc : ¬ p ≤ u) :
    Calls Tryz.prog 23 #[vp, vu] w (RetR w u) := by
  obtain ⟨sp, op, np, cp, ap, mp, dp, rfl⟩ := hp.shape
  have hlp := hp.rl
  obtain ⟨su, ou, nu, cu, au, mu, du, rfl⟩ := hu.shape
  have hlu := hu.rl
  have hb0 := ((((Below.refl w.heap.size w).alloc (by first | (simp; done) | (simp; omega)) (.cells #[.bool sp, .slice op np cp, .slice ap mp dp] 24)).alloc (by first | (simp; done) | (simp; omega)) (.cells #[.bool su, .slice ou nu cu, .slice au mu du] 24)).alloc (by first | (simp; done) | (simp; omega)) (.cells #[.bool false, .slice none 0 0, .slice none 0 0] 24))
  have hxp := nest3_0 w (.cells #[.bool sp, .slice op np cp, .slice ap mp dp] 24) (.cells #[.bool su, .slice ou nu cu, .slice au mu du] 24) (.cells #[.bool false, .slice none 0 0, .slice none 0 0] 24)
  have hxu := nest3_1 w (.cells #[.bool sp, .slice op np cp, .slice ap mp dp] 24) (.cells #[.bool su, .slice ou nu cu, .slice au mu du] 24) (.cells #[.bool false, .slice none 0 0, .slice none 0 0] 24)
  have hxR := nest3_2 w (.cells #[.bool sp, .slice op np cp, .slice ap mp dp] 24) (.cells #[.bool su, .slice ou nu cu, .slice au mu du] 24) (.cells #[.bool false, .slice none 0 0, .slice none 0 0] 24)
  have hpp := hp.below hb0
  have hpu := hu.below hb0
  obtain ⟨w0, hw0⟩ : ∃ w0, w0 = (((w.alloc (.cells #[.bool sp, .slice op np cp, .slice ap mp dp] 24)).alloc (.cells #[.bool su, .slice ou nu cu, .slice au mu du] 24)).alloc (.cells #[.bool false, .slice none 0 0, .slice none 0 0] 24)) := ⟨_, rfl⟩
  rw [← hw0] at hb0 hxp hxu hxR hpp hpu
  have HB0 := Lib.hid hb0; have HW0 := Lib.hid hw0
  have BXp := Lib.hid hxp
  have BXu := Lib.hid hxu
  have BXR := Lib.hid hxR
  have Fp := Lib.hid hpp
  have Fu := Lib.hid hpu
  clear hb0 hw0 hxp hxu hxR hpp hp hpu hu
  have hc2 : ¬ cq p u ≤ 0 := by rw [cq_le]; exact hc
  obtain ⟨n, hn⟩ : ∃ n, n = cq p u := ⟨_, rfl⟩
  rw [← hn] at hc2
  have f1 : decide (n ≤ 0) = false := decide_eq_false hc2
  have HN := Lib.hid hn; clear hn hc hc2
  go_enter Tryz.func23, Tryz.ntmps23
  have hs := cmpq_any _ p _ u w0 Fp.out Fu.out hp2 hu2
  rw [← HN.out] at hs
  have HS := Lib.hid hs; clear hs
  go_wp2_with fail
  rw [← HW0.out]
  (with_reducible refine HS.out.mono ?_); rintro e w1 ⟨rfl, hb1⟩
  clear HS
  have HB1 := Lib.hid (HB0.out.step hb1)
  have Fp := Lib.hid (Fp.out.below hb1)
  have Fu := Lib.hid (Fu.out.below hb1)
  have BXp := Lib.hid (heap_below BXp.out hb1)
  have BXu := Lib.hid (heap_below BXu.out hb1)
  have BXR := Lib.hid (heap_below BXR.out hb1)
  clear hb1
  have hs := same_any _ u w1 Fu.out
  have HS := Lib.hid hs; clear hs
  obtain ⟨eu0, eu1, eu2⟩ := row3 BXu.out
  go_wp2_with fail
  clear eu0 eu1 eu2
  (with_reducible refine HS.out.mono ?_); rintro e w2 ⟨v2, rfl, hb2, hn2⟩
  clear HS
  have HB2 := Lib.hid (HB1.out.step hb2)
  have Fp := Lib.hid (Fp.out.below hb2)
  have Fu := Lib.hid (Fu.out.below hb2)
  have BXp := Lib.hid (heap_below BXp.out hb2)
  have BXu := Lib.hid (heap_below BXu.out hb2)
  have BXR := Lib.hid (heap_below BXR.out hb2)
  have Q := Lib.hid hn2; clear hn2
  clear hb2
  obtain ⟨sQ, oQ, nQ, cQ, aQ, mQ, dQ, rfl⟩ := Q.out.shape
  obtain ⟨eR0, eR1, eR2⟩ := row3 BXR.out
  obtain ⟨fR0, fR1, fR2⟩ := froz3 BXR.out
  go_wp2_with fail
  clear eR0 eR1 eR2 fR0 fR1 fR2
  refine ret_rat rfl (w.heap.size + 2) _ _ _ rfl (put3_heap BXR.out) rfl ?_
  exact ⟨_, rfl, put3_below HB2.out (by omega) _ _ _, isR_put Q.out BXR.out⟩
theorem minq_any (vp : Value) (p : Rat) (vu : Value) (u : Rat) (w : World) (hp : RatIs w vp p) (hu : RatIs w vu u) (hlp2 : rl p ≤ 40000) (hlu2 : rl u ≤ 40000) :
    Calls Tryz.prog 23 #[vp, vu] w (RetR w (mn p u)) := by
  unfold mn
  by_cases h : p ≤ u
  · rw [if_pos h]; exact minq_a vp p vu u w hp hu hlp2 hlu2 h
  · rw [if_neg h]; exact minq_b vp p vu u w hp hu hlp2 hlu2 h
set_option maxRecDepth 100000 in
set_option maxHeartbeats 3200000 in
theorem maxq_a (vp : Value) (p : Rat) (vu : Value) (u : Rat) (w : World) (hp : RatIs w vp p) (hu : RatIs w vu u) (hp2 : rl p ≤ 40000) (hu2 : rl u ≤ 40000) (hc : u ≤ p) :
    Calls Tryz.prog 25 #[vp, vu] w (RetR w p) := by
  obtain ⟨sp, op, np, cp, ap, mp, dp, rfl⟩ := hp.shape
  have hlp := hp.rl
  obtain ⟨su, ou, nu, cu, au, mu, du, rfl⟩ := hu.shape
  have hlu := hu.rl
  have hb0 := ((((Below.refl w.heap.size w).alloc (by first | (simp; done) | (simp; omega)) (.cells #[.bool sp, .slice op np cp, .slice ap mp dp] 24)).alloc (by first | (simp; done) | (simp; omega)) (.cells #[.bool su, .slice ou nu cu, .slice au mu du] 24)).alloc (by first | (simp; done) | (simp; omega)) (.cells #[.bool false, .slice none 0 0, .slice none 0 0] 24))
  have hxp := nest3_0 w (.cells #[.bool sp, .slice op np cp, .slice ap mp dp] 24) (.cells #[.bool su, .slice ou nu cu, .slice au mu du] 24) (.cells #[.bool false, .slice none 0 0, .slice none 0 0] 24)
  have hxu := nest3_1 w (.cells #[.bool sp, .slice op np cp, .slice ap mp dp] 24) (.cells #[.bool su, .slice ou nu cu, .slice au mu du] 24) (.cells #[.bool false, .slice none 0 0, .slice none 0 0] 24)
  have hxR := nest3_2 w (.cells #[.bool sp, .slice op np cp, .slice ap mp dp] 24) (.cells #[.bool su, .slice ou nu cu, .slice au mu du] 24) (.cells #[.bool false, .slice none 0 0, .slice none 0 0] 24)
  have hpp := hp.below hb0
  have hpu := hu.below hb0
  obtain ⟨w0, hw0⟩ : ∃ w0, w0 = (((w.alloc (.cells #[.bool sp, .slice op np cp, .slice ap mp dp] 24)).alloc (.cells #[.bool su, .slice ou nu cu, .slice au mu du] 24)).alloc (.cells #[.bool false, .slice none 0 0, .slice none 0 0] 24)) := ⟨_, rfl⟩
  rw [← hw0] at hb0 hxp hxu hxR hpp hpu
  have HB0 := Lib.hid hb0; have HW0 := Lib.hid hw0
  have BXp := Lib.hid hxp
  have BXu := Lib.hid hxu
  have BXR := Lib.hid hxR
  have Fp := Lib.hid hpp
  have Fu := Lib.hid hpu
  clear hb0 hw0 hxp hxu hxR hpp hp hpu hu
  have hc2 : 0 ≤ cq p u := by rw [cq_ge]; exact hc
  obtain ⟨n, hn⟩ : ∃ n, n = cq p u := ⟨_, rfl⟩
  rw [← hn] at hc2
  have f1 : decide (0 ≤ n) = true := decide_eq_true hc2
  have HN := Lib.hid hn; clear hn hc hc2
  go_enter Tryz.func25, Tryz.ntmps25
  have hs := cmpq_any _ p _ u w0 Fp.out Fu.out hp2 hu2
  rw [← HN.out] at hs
  have HS := Lib.hid hs; clear hs
  go_wp2_with fail
  rw [← HW0.out]
  (with_reducible refine HS.out.mono ?_); rintro e w1 ⟨rfl, hb1⟩
  clear HS
  have HB1 := Lib.hid (HB0.out.step hb1)
  have Fp := Lib.hid (Fp.out.below hb1)
  have Fu := Lib.hid (Fu.out.below hb1)
  have BXp := Lib.hid (heap_below BXp.out hb1)
  have BXu := Lib.hid (heap_below BXu.out hb1)
  have BXR := Lib.hid (heap_below BXR.out hb1)
  clear hb1
  have hs := same_any _ p w1 Fp.out
  have HS := Lib.hid hs; clear hs
  obtain ⟨ep0, ep1, ep2⟩ := row3 BXp.out
  go_wp2_with fail
  clear ep0 ep1 ep2
  (with_reducible refine HS.out.mono ?_); rintro e w2 ⟨v2, rfl, hb2, hn2⟩
  clear HS
  have HB2 := Lib.hid (HB1.out.step hb2)
  have Fp := Lib.hid (Fp.out.below hb2)
  have Fu := Lib.hid (Fu.out.below hb2)
  have BXp := Lib.hid (heap_below BXp.out hb2)
  have BXu := Lib.hid (heap_below BXu.out hb2)
  have BXR := Lib.hid (heap_below BXR.out hb2)
  have Q := Lib.hid hn2; clear hn2
  clear hb2
  obtain ⟨sQ, oQ, nQ, cQ, aQ, mQ, dQ, rfl⟩ := Q.out.shape
  obtain ⟨eR0, eR1, eR2⟩ := row3 BXR.out
  obtain ⟨fR0, fR1, fR2⟩ := froz3 BXR.out
  go_wp2_with fail
  clear eR0 eR1 eR2 fR0 fR1 fR2
  refine ret_rat rfl (w.heap.size + 2) _ _ _ rfl (put3_heap BXR.out) rfl ?_
  exact ⟨_, rfl, put3_below HB2.out (by omega) _ _ _, isR_put Q.out BXR.out⟩
set_option maxRecDepth 100000 in
set_option maxHeartbeats 3200000 in
theorem maxq_b (vp : Value) (p : Rat) (vu : Value) (u : Rat) (w : World) (hp : RatIs w vp p) (hu : RatIs w vu u) (hp2 : rl p ≤ 40000) (hu2 : rl u ≤ 40000) (hc : ¬ u ≤ p) :
    Calls Tryz.prog 25 #[vp, vu] w (RetR w u) := by
  obtain ⟨sp, op, np, cp, ap, mp, dp, rfl⟩ := hp.shape
  have hlp := hp.rl
  obtain ⟨su, ou, nu, cu, au, mu, du, rfl⟩ := hu.shape
  have hlu := hu.rl
  have hb0 := ((((Below.refl w.heap.size w).alloc (by first | (simp; done) | (simp; omega)) (.cells #[.bool sp, .slice op np cp, .slice ap mp dp] 24)).alloc (by first | (simp; done) | (simp; omega)) (.cells #[.bool su, .slice ou nu cu, .slice au mu du] 24)).alloc (by first | (simp; done) | (simp; omega)) (.cells #[.bool false, .slice none 0 0, .slice none 0 0] 24))
  have hxp := nest3_0 w (.cells #[.bool sp, .slice op np cp, .slice ap mp dp] 24) (.cells #[.bool su, .slice ou nu cu, .slice au mu du] 24) (.cells #[.bool false, .slice none 0 0, .slice none 0 0] 24)
  have hxu := nest3_1 w (.cells #[.bool sp, .slice op np cp, .slice ap mp dp] 24) (.cells #[.bool su, .slice ou nu cu, .slice au mu du] 24) (.cells #[.bool false, .slice none 0 0, .slice none 0 0] 24)
  have hxR := nest3_2 w (.cells #[.bool sp, .slice op np cp, .slice ap mp dp] 24) (.cells #[.bool su, .slice ou nu cu, .slice au mu du] 24) (.cells #[.bool false, .slice none 0 0, .slice none 0 0] 24)
  have hpp := hp.below hb0
  have hpu := hu.below hb0
  obtain ⟨w0, hw0⟩ : ∃ w0, w0 = (((w.alloc (.cells #[.bool sp, .slice op np cp, .slice ap mp dp] 24)).alloc (.cells #[.bool su, .slice ou nu cu, .slice au mu du] 24)).alloc (.cells #[.bool false, .slice none 0 0, .slice none 0 0] 24)) := ⟨_, rfl⟩
  rw [← hw0] at hb0 hxp hxu hxR hpp hpu
  have HB0 := Lib.hid hb0; have HW0 := Lib.hid hw0
  have BXp := Lib.hid hxp
  have BXu := Lib.hid hxu
  have BXR := Lib.hid hxR
  have Fp := Lib.hid hpp
  have Fu := Lib.hid hpu
  clear hb0 hw0 hxp hxu hxR hpp hp hpu hu
  have hc2 : ¬ 0 ≤ cq p u := by rw [cq_ge]; exact hc
  obtain ⟨n, hn⟩ : ∃ n, n = cq p u := ⟨_, rfl⟩
  rw [← hn] at hc2
  have f1 : decide (0 ≤ n) = false := decide_eq_false hc2
  have HN := Lib.hid hn; clear hn hc hc2
  go_enter Tryz.func25, Tryz.ntmps25
  have hs := cmpq_any _ p _ u w0 Fp.out Fu.out hp2 hu2
  rw [← HN.out] at hs
  have HS := Lib.hid hs; clear hs
  go_wp2_with fail
  rw [← HW0.out]
  (with_reducible refine HS.out.mono ?_); rintro e w1 ⟨rfl, hb1⟩
  clear HS
  have HB1 := Lib.hid (HB0.out.step hb1)
  have Fp := Lib.hid (Fp.out.below hb1)
  have Fu := Lib.hid (Fu.out.below hb1)
  have BXp := Lib.hid (heap_below BXp.out hb1)
  have BXu := Lib.hid (heap_below BXu.out hb1)
  have BXR := Lib.hid (heap_below BXR.out hb1)
  clear hb1
  have hs := same_any _ u w1 Fu.out
  have HS := Lib.hid hs; clear hs
  obtain ⟨eu0, eu1, eu2⟩ := row3 BXu.out
  go_wp2_with fail
  clear eu0 eu1 eu2
  (with_reducible refine HS.out.mono ?_); rintro e w2 ⟨v2, rfl, hb2, hn2⟩
  clear HS
  have HB2 := Lib.hid (HB1.out.step hb2)
  have Fp := Lib.hid (Fp.out.below hb2)
  have Fu := Lib.hid (Fu.out.below hb2)
  have BXp := Lib.hid (heap_below BXp.out hb2)
  have BXu := Lib.hid (heap_below BXu.out hb2)
  have BXR := Lib.hid (heap_below BXR.out hb2)
  have Q := Lib.hid hn2; clear hn2
  clear hb2
  obtain ⟨sQ, oQ, nQ, cQ, aQ, mQ, dQ, rfl⟩ := Q.out.shape
  obtain ⟨eR0, eR1, eR2⟩ := row3 BXR.out
  obtain ⟨fR0, fR1, fR2⟩ := froz3 BXR.out
  go_wp2_with fail
  clear eR0 eR1 eR2 fR0 fR1 fR2
  refine ret_rat rfl (w.heap.size + 2) _ _ _ rfl (put3_heap BXR.out) rfl ?_
  exact ⟨_, rfl, put3_below HB2.out (by omega) _ _ _, isR_put Q.out BXR.out⟩
theorem maxq_any (vp : Value) (p : Rat) (vu : Value) (u : Rat) (w : World) (hp : RatIs w vp p) (hu : RatIs w vu u) (hlp2 : rl p ≤ 40000) (hlu2 : rl u ≤ 40000) :
    Calls Tryz.prog 25 #[vp, vu] w (RetR w (mx p u)) := by
  unfold mx
  by_cases h : u ≤ p
  · rw [if_pos h]; exact maxq_a vp p vu u w hp hu hlp2 hlu2 h
  · rw [if_neg h]; exact maxq_b vp p vu u w hp hu hlp2 hlu2 h
set_option maxRecDepth 100000 in
set_option maxHeartbeats 3200000 in
theorem rminq_a (vp : Value) (p : Rat) (vu : Value) (u : Rat) (w : World) (hp : RatIs w vp p) (hu : RatIs w vu u) (hp2 : rl p ≤ 40000) (hu2 : rl u ≤ 40000) (hc : p ≤ u) :
    Calls Tryz.prog 24 #[vp, vu] w (RetR w p) := by
  obtain ⟨sp, op, np, cp, ap, mp, dp, rfl⟩ := hp.shape
  have hlp := hp.rl
  obtain ⟨su, ou, nu, cu, au, mu, du, rfl⟩ := hu.shape
  have hlu := hu.rl
  have hb0 := ((((Below.refl w.heap.size w).alloc (by first | (simp; done) | (simp; omega)) (.cells #[.bool sp, .slice op np cp, .slice ap mp dp] 24)).alloc (by first | (simp; done) | (simp; omega)) (.cells #[.bool su, .slice ou nu cu, .slice au mu du] 24)).alloc (by first | (simp; done) | (simp; omega)) (.cells #[.bool false, .slice none 0 0, .slice none 0 0] 24))
  have hxp := nest3_0 w (.cells #[.bool sp, .slice op np cp, .slice ap mp dp] 24) (.cells #[.bool su, .slice ou nu cu, .slice au mu du] 24) (.cells #[.bool false, .slice none 0 0, .slice none 0 0] 24)
  have hxu := nest3_1 w (.cells #[.bool sp, .slice op np cp, .slice ap mp dp] 24) (.cells #[.bool su, .slice ou nu cu, .slice au mu du] 24) (.cells #[.bool false, .slice none 0 0, .slice none 0 0] 24)
  have hxR := nest3_2 w (.cells #[.bool sp, .slice op np cp, .slice ap mp dp] 24) (.cells #[.bool su, .slice ou nu cu, .slice au mu du] 24) (.cells #[.bool false, .slice none 0 0, .slice none 0 0] 24)
  have hpp := hp.below hb0
  have hpu := hu.below hb0
  obtain ⟨w0, hw0⟩ : ∃ w0, w0 = (((w.alloc (.cells #[.bool sp, .slice op np cp, .slice ap mp dp] 24)).alloc (.cells #[.bool su, .slice ou nu cu, .slice au mu du] 24)).alloc (.cells #[.bool false, .slice none 0 0, .slice none 0 0] 24)) := ⟨_, rfl⟩
  rw [← hw0] at hb0 hxp hxu hxR hpp hpu
  have HB0 := Lib.hid hb0; have HW0 := Lib.hid hw0
  have BXp := Lib.hid hxp
  have BXu := Lib.hid hxu
  have BXR := Lib.hid hxR
  have Fp := Lib.hid hpp
  have Fu := Lib.hid hpu
  clear hb0 hw0 hxp hxu hxR hpp hp hpu hu
  have hc2 : ¬ 0 < cq p u := by rw [cq_gt]; grind
  obtain ⟨n, hn⟩ : ∃ n, n = cq p u := ⟨_, rfl⟩
  rw [← hn] at hc2
  have f1 : decide (0 < n) = false := decide_eq_false hc2
  have HN := Lib.hid hn; clear hn hc hc2
  go_enter Tryz.func24, Tryz.ntmps24
  have hs := rcmpq_any _ p _ u w0 Fp.out Fu.out hp2 hu2
  rw [← HN.out] at hs
  have HS := Lib.hid hs; clear hs
  go_wp2_with fail
  rw [← HW0.out]
  (with_reducible refine HS.out.mono ?_); rintro e w1 ⟨rfl, hb1⟩
  clear HS
  have HB1 := Lib.hid (HB0.out.step hb1)
  have Fp := Lib.hid (Fp.out.below hb1)
  have Fu := Lib.hid (Fu.out.below hb1)
  have BXp := Lib.hid (heap_below BXp.out hb1)
  have BXu := Lib.hid (heap_below BXu.out hb1)
  have BXR := Lib.hid (heap_below BXR.out hb1)
  clear hb1
  have hs := raddq_any _ p _ 0 w1 Fp.out ((isR_zero w1).is (by rw [rl_zero]; decide))
  rw [Rat.add_zero] at hs
  have HS := Lib.hid hs; clear hs
  obtain ⟨ep0, ep1, ep2⟩ := row3 BXp.out
  go_wp2_with fail
  clear ep0 ep1 ep2
  (with_reducible refine HS.out.mono ?_); rintro e w2 ⟨v2, rfl, hb2, hn2⟩
  clear HS
  have HB2 := Lib.hid (HB1.out.step hb2)
  have Fp := Lib.hid (Fp.out.below hb2)
  have Fu := Lib.hid (Fu.out.below hb2)
  have BXp := Lib.hid (heap_below BXp.out hb2)
  have BXu := Lib.hid (heap_below BXu.out hb2)
  have BXR := Lib.hid (heap_below BXR.out hb2)
  have Q := Lib.hid hn2; clear hn2
  clear hb2
  obtain ⟨sQ, oQ, nQ, cQ, aQ, mQ, dQ, rfl⟩ := Q.out.shape
  obtain ⟨eR0, eR1, eR2⟩ := row3 BXR.out
  obtain ⟨fR0, fR1, fR2⟩ := froz3 BXR.out
  go_wp2_with fail
  clear eR0 eR1 eR2 fR0 fR1 fR2
  refine ret_rat rfl (w.heap.size + 2) _ _ _ rfl (put3_heap BXR.out) rfl ?_
  exact ⟨_, rfl, put3_below HB2.out (by omega) _ _ _, isR_put Q.out BXR.out⟩
set_option maxRecDepth 100000 in
set_option maxHeartbeats 3200000 in
theorem rminq_b (vp : Value) (p : Rat) (vu : Value) (u : Rat) (w : World) (hp : RatIs w vp p) (hu : RatIs w vu u) (hp2 : rl p ≤ 40000) (hu2 : rl u ≤ 40000) (hc : ¬ p ≤ u) :
    Calls Tryz.prog 24 #[vp, vu] w (RetR w u) := by
  obtain ⟨sp, op, np, cp, ap, mp, dp, rfl⟩ := hp.shape
  have hlp := hp.rl
  obtain ⟨su, ou, nu, cu, au, mu, du, rfl⟩ := hu.shape
  have hlu := hu.rl
  have hb0 := ((((Below.refl w.heap.size w).alloc (by first | (simp; done) | (simp; omega)) (.cells #[.bool sp, .slice op np cp, .slice ap mp dp] 24)).alloc (by first | (simp; done) | (simp; omega)) (.cells #[.bool su, .slice ou nu cu, .slice au mu du] 24)).alloc (by first | (simp; done) | (simp; omega)) (.cells #[.bool false, .slice none 0 0, .slice none 0 0] 24))
  have hxp := nest3_0 w (.cells #[.bool sp, .slice op np cp, .slice ap mp dp] 24) (.cells #[.bool su, .slice ou nu cu, .slice au mu du] 24) (.cells #[.bool false, .slice none 0 0, .slice none 0 0] 24)
  have hxu := nest3_1 w (.cells #[.bool sp, .slice op np cp, .slice ap mp dp] 24) (.cells #[.bool su, .slice ou nu cu, .slice au mu du] 24) (.cells #[.bool false, .slice none 0 0, .slice none 0 0] 24)
  have hxR := nest3_2 w (.cells #[.bool sp, .slice op np cp, .slice ap mp dp] 24) (.cells #[.bool su, .slice ou nu cu, .slice au mu du] 24) (.cells #[.bool false, .slice none 0 0, .slice none 0 0] 24)
  have hpp := hp.below hb0
  have hpu := hu.below hb0
  obtain ⟨w0, hw0⟩ : ∃ w0, w0 = (((w.alloc (.cells #[.bool sp, .slice op np cp, .slice ap mp dp] 24)).alloc (.cells #[.bool su, .slice ou nu cu, .slice au mu du] 24)).alloc (.cells #[.bool false, .slice none 0 0, .slice none 0 0] 24)) := ⟨_, rfl⟩
  rw [← hw0] at hb0 hxp hxu hxR hpp hpu
  have HB0 := Lib.hid hb0; have HW0 := Lib.hid hw0
  have BXp := Lib.hid hxp
  have BXu := Lib.hid hxu
  have BXR := Lib.hid hxR
  have Fp := Lib.hid hpp
  have Fu := Lib.hid hpu
  clear hb0 hw0 hxp hxu hxR hpp hp hpu hu
  have hc2 : 0 < cq p u := by rw [cq_gt]; grind
  obtain ⟨n, hn⟩ : ∃ n, n = cq p u := ⟨_, rfl⟩
  rw [← hn] at hc2
  have f1 : decide (0 < n) = true := decide_eq_true hc2
  have HN := Lib.hid hn; clear hn hc hc2
  go_enter Tryz.func24, Tryz.ntmps24
  have hs := rcmpq_any _ p _ u w0 Fp.out Fu.out hp2 hu2
  rw [← HN.out] at hs
  have HS := Lib.hid hs; clear hs
  go_wp2_with fail
  rw [← HW0.out]
  (with_reducible refine HS.out.mono ?_); rintro e w1 ⟨rfl, hb1⟩
  clear HS
  have HB1 := Lib.hid (HB0.out.step hb1)
  have Fp := Lib.hid (Fp.out.below hb1)
  have Fu := Lib.hid (Fu.out.below hb1)
  have BXp := Lib.hid (heap_below BXp.out hb1)
  have BXu := Lib.hid (heap_below BXu.out hb1)
  have BXR := Lib.hid (heap_below BXR.out hb1)
  clear hb1
  obtain ⟨eu0, eu1, eu2⟩ := row3 BXu.out
  have lwp := below_lt BXp.out; have lwu := below_lt BXu.out; have lwR := below_lt BXR.out
  obtain ⟨ep0, ep1, ep2⟩ := row3 BXp.out
  obtain ⟨fp0, fp1, fp2⟩ := froz3 BXp.out
  obtain ⟨w2, hw2⟩ : ∃ w2, w2 = ((w1.setCell ⟨w.heap.size, 0, none⟩ (.bool su)).setCell ⟨w.heap.size, 1, none⟩ (.slice ou nu cu)).setCell ⟨w.heap.size, 2, none⟩ (.slice au mu du) := ⟨_, rfl⟩
  have hp2 : w2 = put3 w1 (w.heap.size) (.bool su) (.slice ou nu cu) (.slice au mu du) := hw2
  first | have Fp := Lib.hid (putkI hp2 Fp.out BXp.out) | have Fp := Lib.hid (putkR hp2 Fp.out BXp.out) | have Fp := Lib.hid (putkV hp2 Fp.out BXp.out)
  first | have Fu := Lib.hid (putkI hp2 Fu.out BXp.out) | have Fu := Lib.hid (putkR hp2 Fu.out BXp.out) | have Fu := Lib.hid (putkV hp2 Fu.out BXp.out)
  have nxp : w2.heap[w.heap.size]? = some (.cells #[.bool su, .slice ou nu cu, .slice au mu du] 24) := by rw [hp2]; exact put3_heap BXp.out
  have BXu := Lib.hid (putx hp2 BXu.out (by first | omega | (have := below_lt BXu.out; omega)))
  have BXR := Lib.hid (putx hp2 BXR.out (by first | omega | (have := below_lt BXR.out; omega)))
  have BXp := Lib.hid nxp; clear nxp
  have HB2 := Lib.hid (putb hp2 HB1.out (by omega))
  have HW2 := Lib.hid hw2; clear hw2 hp2
  have hs := raddq_any _ u _ 0 w2 Fu.out ((isR_zero w2).is (by rw [rl_zero]; decide))
  rw [Rat.add_zero] at hs
  have HS := Lib.hid hs; clear hs
  go_wp2_with fail
  rw [← HW2.out]
  clear eu0 eu1 eu2 ep0 ep1 ep2 fp0 fp1 fp2
  (with_reducible refine HS.out.mono ?_); rintro e w3 ⟨v3, rfl, hb3, hn3⟩
  clear HS
  have HB3 := Lib.hid (HB2.out.step hb3)
  have Fp := Lib.hid (Fp.out.below hb3)
  have Fu := Lib.hid (Fu.out.below hb3)
  have BXp := Lib.hid (heap_below BXp.out hb3)
  have BXu := Lib.hid (heap_below BXu.out hb3)
  have BXR := Lib.hid (heap_below BXR.out hb3)
  have Q := Lib.hid hn3; clear hn3
  clear hb3
  obtain ⟨sQ, oQ, nQ, cQ, aQ, mQ, dQ, rfl⟩ := Q.out.shape
  obtain ⟨eR0, eR1, eR2⟩ := row3 BXR.out
  obtain ⟨fR0, fR1, fR2⟩ := froz3 BXR.out
  go_wp2_with fail
  clear eR0 eR1 eR2 fR0 fR1 fR2
  refine ret_rat rfl (w.heap.size + 2) _ _ _ rfl (put3_heap BXR.out) rfl ?_
  exact ⟨_, rfl, put3_below HB3.out (by omega) _ _ _, isR_put Q.out BXR.out⟩
theorem rminq_any (vp : Value) (p : Rat) (vu : Value) (u : Rat) (w : World) (hp : RatIs w vp p) (hu : RatIs w vu u) (hlp2 : rl p ≤ 40000) (hlu2 : rl u ≤ 40000) :
    Calls Tryz.prog 24 #[vp, vu] w (RetR w (mn p u)) := by
  unfold mn
  by_cases h : p ≤ u
  · rw [if_pos h]; exact rminq_a vp p vu u w hp hu hlp2 hlu2 h
  · rw [if_neg h]; exact rminq_b vp p vu u w hp hu hlp2 hlu2 h
set_option maxRecDepth 100000 in
set_option maxHeartbeats 3200000 in
theorem rmaxq_any (vp : Value) (p : Rat) (vu : Value) (u : Rat) (w : World) (hp : RatIs w vp p) (hu : RatIs w vu u) (hp2 : rl p ≤ 40000) (hu2 : rl u ≤ 40000) :
    Calls Tryz.prog 26 #[vp, vu] w (RetR w (mx p u)) := by
  obtain ⟨sp, op, np, cp, ap, mp, dp, rfl⟩ := hp.shape
  have hlp := hp.rl
  obtain ⟨su, ou, nu, cu, au, mu, du, rfl⟩ := hu.shape
  have hlu := hu.rl
  have hb0 := ((((Below.refl w.heap.size w).alloc (by first | (simp; done) | (simp; omega)) (.cells #[.bool sp, .slice op np cp, .slice ap mp dp] 24)).alloc (by first | (simp; done) | (simp; omega)) (.cells #[.bool su, .slice ou nu cu, .slice au mu du] 24)).alloc (by first | (simp; done) | (simp; omega)) (.cells #[.bool false, .slice none 0 0, .slice none 0 0] 24))
  have hxp := nest3_0 w (.cells #[.bool sp, .slice op np cp, .slice ap mp dp] 24) (.cells #[.bool su, .slice ou nu cu, .slice au mu du] 24) (.cells #[.bool false, .slice none 0 0, .slice none 0 0] 24)
  have hxu := nest3_1 w (.cells #[.bool sp, .slice op np cp, .slice ap mp dp] 24) (.cells #[.bool su, .slice ou nu cu, .slice au mu du] 24) (.cells #[.bool false, .slice none 0 0, .slice none 0 0] 24)
  have hxR := nest3_2 w (.cells #[.bool sp, .slice op np cp, .slice ap mp dp] 24) (.cells #[.bool su, .slice ou nu cu, .slice au mu du] 24) (.cells #[.bool false, .slice none 0 0, .slice none 0 0] 24)
  have hpp := hp.below hb0
  have hpu := hu.below hb0
  obtain ⟨w0, hw0⟩ : ∃ w0, w0 = (((w.alloc (.cells #[.bool sp, .slice op np cp, .slice ap mp dp] 24)).alloc (.cells #[.bool su, .slice ou nu cu, .slice au mu du] 24)).alloc (.cells #[.bool false, .slice none 0 0, .slice none 0 0] 24)) := ⟨_, rfl⟩
  rw [← hw0] at hb0 hxp hxu hxR hpp hpu
  have HB0 := Lib.hid hb0; have HW0 := Lib.hid hw0
  have BXp := Lib.hid hxp
  have BXu := Lib.hid hxu
  have BXR := Lib.hid hxR
  have Fp := Lib.hid hpp
  have Fu := Lib.hid hpu
  clear hb0 hw0 hxp hxu hxR hpp hp hpu hu
  have k1 := rl_neg p; have k2 := rl_neg u; have k3 := rl_mn (-p) (-u)
  have hm := mx_neg p u
  obtain ⟨M, hM⟩ : ∃ M, M = mx p u := ⟨_, rfl⟩
  rw [← hM] at hm ⊢; have HM := Lib.hid hm; clear hm hM
  go_enter Tryz.func26, Tryz.ntmps26
  go_wp2_with fail
  rw [← HW0.out]
  have lwp := below_lt BXp.out
  have lwu := below_lt BXu.out
  have lwR := below_lt BXR.out
  refine wp_region_facts (A := ?aa0) (w := w0) 6 [] (by kernel_rfl) (Fl [KEq (.agg #[.bool sp, .slice op np cp, .slice ap mp dp]), KIs (-p), KEq (.agg #[.bool su, .slice ou nu cu, .slice au mu du]), KIs (-u), KIs (mn (-p) (-u)), KIs (M)]) (fun i => false) (by kernel_rfl) (fun _ _ _ _ _ h => h) (monoL (monoC (kEq _) (monoC (kIs _) (monoC (kEq _) (monoC (kIs _) (monoC (kIs _) (monoC (kIs _) monoN))))))) ?ha0 ?st0 ?tl0
  case ha0 =>
    intro vals
    simp only [putsTo, dstOf, if_true, Act.put, List.setIfInBounds_toArray, List.set_cons_zero, List.set_cons_succ, List.getElem?_toArray, List.getElem?_cons_zero, List.getElem?_cons_succ, Option.bind_some]
    exact rfl
  case st0 =>
    simp only [List.take_succ_cons, List.take_zero]
    refine stepsOK_cons rfl rfl ?_ (stepsOK_cons rfl rfl ?_ (stepsOK_cons rfl rfl ?_ (stepsOK_cons rfl rfl ?_ (stepsOK_cons rfl rfl ?_ (stepsOK_cons rfl rfl ?_ (stepsOK_nil))))))
    · intro vals w1 hb hd
      obtain ⟨e0, e1, e2⟩ := row3 (heap_below BXp.out hb)
      refine stepOK_value (v := .agg #[.bool sp, .slice op np cp, .slice ap mp dp]) (w' := w1) (by go_simp) (leaves_mk (Below.refl _ _) rfl (fun h => by cases h))
    · intro vals w1 hb hd
      have d0 : KEq (.agg #[.bool sp, .slice op np cp, .slice ap mp dp]) (vals 0) w1 := hd 0 (by kernel_rfl)
      have r0 : RatIs w1 (vals 0) (p) := by rw [show vals 0 = _ from d0]; exact Fp.out.below hb
      have hs := rneg_any _ p w1 r0
      have HS := Lib.hid hs; clear hs
      clear d0 hd
      refine stepOK_call (by go_simp; first | done | exact ⟨⟨rfl, rfl⟩, rfl⟩) ?_
      (with_reducible refine HS.out.mono ?_); rintro e w2 ⟨v, rfl, hb2, hn⟩
      exact ⟨v, rfl, leaves_mk hb2 hn (fun h => by cases h)⟩
    · intro vals w1 hb hd
      obtain ⟨e0, e1, e2⟩ := row3 (heap_below BXu.out hb)
      refine stepOK_value (v := .agg #[.bool su, .slice ou nu cu, .slice au mu du]) (w' := w1) (by go_simp) (leaves_mk (Below.refl _ _) rfl (fun h => by cases h))
    · intro vals w1 hb hd
      have d2 : KEq (.agg #[.bool su, .slice ou nu cu, .slice au mu du]) (vals 2) w1 := hd 2 (by kernel_rfl)
      have r2 : RatIs w1 (vals 2) (u) := by rw [show vals 2 = _ from d2]; exact Fu.out.below hb
      have hs := rneg_any _ u w1 r2
      have HS := Lib.hid hs; clear hs
      clear d2 hd
      refine stepOK_call (by go_simp; first | done | exact ⟨⟨rfl, rfl⟩, rfl⟩) ?_
      (with_reducible refine HS.out.mono ?_); rintro e w2 ⟨v, rfl, hb2, hn⟩
      exact ⟨v, rfl, leaves_mk hb2 hn (fun h => by cases h)⟩
    · intro vals w1 hb hd
      have d1 : KIs (-p) (vals 1) w1 := hd 1 (by kernel_rfl)
      have r1 : RatIs w1 (vals 1) (-p) := IsR.is d1 (by omega)
      have d3 : KIs (-u) (vals 3) w1 := hd 3 (by kernel_rfl)
      have r3 : RatIs w1 (vals 3) (-u) := IsR.is d3 (by omega)
      have hs := rminq_any _ (-p) _ (-u) w1 r1 r3 (by omega) (by omega)
      have HS := Lib.hid hs; clear hs
      clear d1 d3 hd
      refine stepOK_call (by go_simp; first | done | exact ⟨⟨rfl, rfl⟩, rfl⟩) ?_
      (with_reducible refine HS.out.mono ?_); rintro e w2 ⟨v, rfl, hb2, hn⟩
      exact ⟨v, rfl, leaves_mk hb2 hn (fun h => by cases h)⟩
    · intro vals w1 hb hd
      have d4 : KIs (mn (-p) (-u)) (vals 4) w1 := hd 4 (by kernel_rfl)
      have r4 : RatIs w1 (vals 4) (mn (-p) (-u)) := IsR.is d4 (by omega)
      have hs := rneg_any _ (mn (-p) (-u)) w1 r4
      rw [HM.out] at hs
      have HS := Lib.hid hs; clear hs
      clear d4 hd
      refine stepOK_call (by go_simp; first | done | exact ⟨⟨rfl, rfl⟩, rfl⟩) ?_
      (with_reducible refine HS.out.mono ?_); rintro e w2 ⟨v, rfl, hb2, hn⟩
      exact ⟨v, rfl, leaves_mk hb2 hn (fun h => by cases h)⟩
  case tl0 =>
    intro vals w1 hb1 hf hdis
    simp only [List.drop_succ_cons, List.drop_zero]
    have hnQ : IsR w1 (vals 5) (M) := hf 5 (by decide)
    clear hf hdis
    have HB1 := Lib.hid (HB0.out.step hb1)
    have Fp := Lib.hid (Fp.out.below hb1)
    have Fu := Lib.hid (Fu.out.below hb1)
    have BXp := Lib.hid (heap_below BXp.out hb1)
    have BXu := Lib.hid (heap_below BXu.out hb1)
    have BXR := Lib.hid (heap_below BXR.out hb1)
    obtain ⟨uQ, huQ⟩ : ∃ u, u = vals 5 := ⟨_, rfl⟩
    rw [← huQ] at hnQ ⊢; clear huQ
    have Q := Lib.hid hnQ; clear hnQ
    obtain ⟨sQ, oQ, nQ, cQ, aQ, mQ, dQ, rfl⟩ := Q.out.shape
    clear hb1
    obtain ⟨eR0, eR1, eR2⟩ := row3 BXR.out
    obtain ⟨fR0, fR1, fR2⟩ := froz3 BXR.out
    obtain ⟨w2, hw2⟩ : ∃ w2, w2 = ((w1.setCell ⟨(w.heap.size + 2), 0, none⟩ (.bool sQ)).setCell ⟨(w.heap.size + 2), 1, none⟩ (.slice oQ nQ cQ)).setCell ⟨(w.heap.size + 2), 2, none⟩ (.slice aQ mQ dQ) := ⟨_, rfl⟩
    have hp2 : w2 = put3 w1 ((w.heap.size + 2)) (.bool sQ) (.slice oQ nQ cQ) (.slice aQ mQ dQ) := hw2
    first | have Fp := Lib.hid (putkI hp2 Fp.out BXR.out) | have Fp := Lib.hid (putkR hp2 Fp.out BXR.out) | have Fp := Lib.hid (putkV hp2 Fp.out BXR.out)
    first | have Fu := Lib.hid (putkI hp2 Fu.out BXR.out) | have Fu := Lib.hid (putkR hp2 Fu.out BXR.out) | have Fu := Lib.hid (putkV hp2 Fu.out BXR.out)
    first | have Q := Lib.hid (putkI hp2 Q.out BXR.out) | have Q := Lib.hid (putkR hp2 Q.out BXR.out) | have Q := Lib.hid (putkV hp2 Q.out BXR.out)
    have BXp := Lib.hid (putx hp2 BXp.out (by first | omega | (have := below_lt BXp.out; omega)))
    have BXu := Lib.hid (putx hp2 BXu.out (by first | omega | (have := below_lt BXu.out; omega)))
    have nxR : w2.heap[(w.heap.size + 2)]? = some (.cells #[.bool sQ, .slice oQ nQ cQ, .slice aQ mQ dQ] 24) := by rw [hp2]; exact put3_heap BXR.out
    have BXR := Lib.hid nxR; clear nxR
    have HB2 := Lib.hid (putb hp2 HB1.out (by omega))
    have HW2 := Lib.hid hw2; clear hw2 hp2
    go_wp2_with fail
    rw [← HW2.out]
    clear eR0 eR1 eR2 fR0 fR1 fR2
    refine ret_rat rfl (w.heap.size + 2) _ _ _ rfl BXR.out rfl ?_
    exact ⟨_, rfl, HB2.out, Q.out⟩
end Go.Proofs.YtkedjammeoaciaaGreatDoor
/-
  faultlinelaw02.large: whether one of some fractions has too many words.
  Conditions: each theorem's own.
-/
namespace Go.Proofs.YtkedjammeoaciaaGreatDoor
open Go.RowKit Go.ChangeShapes Go.WideShapes

/-- one of the first n fractions has more than 12 words -/
def bigR (ln ld : Nat → Nat) : Nat → Bool
  | 0 => false
  | n + 1 => bigR ln ld n || (decide (12 < ln n) || decide (12 < ld n))
theorem bigR_mono {ln ld : Nat → Nat} {k n : Nat} (h : bigR ln ld k = true) (hkn : k ≤ n) : bigR ln ld n = true := by
  obtain ⟨d, rfl⟩ : ∃ d, n = k + d := ⟨n - k, by omega⟩
  clear hkn
  induction d with
  | zero => exact h
  | succ d ih => rw [← Nat.add_assoc]; simp only [bigR]; rw [ih, Bool.true_or]
set_option maxRecDepth 100000 in
set_option maxHeartbeats 1600000 in
theorem rlarge_any (g n : Nat) (ln ld : Nat → Nat) (w : World) (hn : n ≤ 1000000) (hg : g < w.heap.size) (hln : ∀ j, ln j ≤ 9223372036854775807) (hld : ∀ j, ld j ≤ 9223372036854775807)
    (hV : ∀ j, j < n → ∃ s ao cp bo cq, w.cell? ⟨g, j * 3, none⟩ = some (.bool s) ∧ w.cell? ⟨g, j * 3 + 1, none⟩ = some (.slice ao (ln j) cp) ∧ w.cell? ⟨g, j * 3 + 2, none⟩ = some (.slice bo (ld j) cq)) :
    Calls Tryz.prog 10 #[.slice (some ⟨g, 0, none⟩) n n] w (RetV w (.bool (bigR ln ld n))) := by
  have HV := Lib.hid hV; have HLN := Lib.hid hln; have HLD := Lib.hid hld; clear hV hln hld
  obtain ⟨r, hr⟩ : ∃ r, r = bigR ln ld n := ⟨_, rfl⟩
  rw [← hr]
  have HR := Lib.hid hr; clear hr
  go_enter Tryz.func10, Tryz.ntmps10
  go_wp2_with fail
  go_loopw [7] (fun iv wr => ∃ k : Nat, k ≤ n ∧ iv = .int .i64 k ∧ Hid (bigR ln ld k = false) ∧ Below w.heap.size w wr) (fun iv _ => n - (intOf iv).toNat)
  case atStart => exact ⟨0, Nat.zero_le _, rfl, Lib.hid rfl, Below.refl _ _⟩
  case round =>
    obtain ⟨k, hk, rfl, hno, hBr⟩ := hrel
    have HBR := Lib.hid hBr; clear hBr
    by_cases hkn : k < n
    · obtain ⟨s, ao, cp, bo, cq, h0, h1, h2⟩ := HV.out k hkn
      have hc0 := (HBR.out.cell (p := ⟨g, k * 3, none⟩) hg).trans h0
      have hc1 := (HBR.out.cell (p := ⟨g, k * 3 + 1, none⟩) hg).trans h1
      have hc2 := (HBR.out.cell (p := ⟨g, k * 3 + 2, none⟩) hg).trans h2
      have hl := HLN.out k
      have hl' := HLD.out k
      obtain ⟨m, hm⟩ : ∃ m, m = ln k := ⟨_, rfl⟩
      obtain ⟨d, hd⟩ : ∃ d, d = ld k := ⟨_, rfl⟩
      rw [← hm] at hc1 hl
      rw [← hd] at hc2 hl'
      clear h0 h1 h2
      have HM := Lib.hid hm; have HD := Lib.hid hd; clear hm hd
      have hal : Below w.heap.size w (wr.alloc (.cells #[.bool s, .slice ao m cp, .slice bo d cq] 24)) := HBR.out.alloc HBR.out.size _
      have HAL := Lib.hid hal; clear hal
      by_cases hb : 12 < m ∨ 12 < d
      · have hv : r = true := by
          rw [HR.out]
          refine bigR_mono (k := k + 1) ?_ hkn
          simp only [bigR]; rw [← HM.out, ← HD.out]
          rcases hb with h | h
          · rw [decide_eq_true h, Bool.true_or, Bool.or_true]
          · rw [decide_eq_true h, Bool.or_true, Bool.or_true]
        have HVV := Lib.hid hv; clear hv
        by_cases h12 : 12 < m
        · have f1 : decide ((12 : Int) < (m : Int)) = true := decide_eq_true (by omega)
          clear hb h12
          go_wp2_with fail
          go_ret
          exact ⟨by rw [HVV.out]; rfl, HAL.out⟩
        · have f1 : decide ((12 : Int) < (m : Int)) = false := decide_eq_false (by omega)
          have f2 : decide ((12 : Int) < (d : Int)) = true := decide_eq_true (by omega)
          clear hb h12
          go_wp2_with fail
          go_ret
          exact ⟨by rw [HVV.out]; rfl, HAL.out⟩
      · have f1 : decide ((12 : Int) < (m : Int)) = false := decide_eq_false (by omega)
        have f2 : decide ((12 : Int) < (d : Int)) = false := decide_eq_false (by omega)
        have hno2 : bigR ln ld (k + 1) = false := by
          simp only [bigR]; rw [hno.out, ← HM.out, ← HD.out, decide_eq_false (by omega), decide_eq_false (by omega)]; rfl
        have HNO := Lib.hid hno2; clear hno2 hb
        go_wp2_with fail
        go_roundw
        case rel => exact ⟨k + 1, by omega, by go_num, HNO, HAL.out⟩
        case measure => simp [intOf]; omega
    · obtain rfl : k = n := by omega
      have hv : r = false := by rw [HR.out]; exact hno.out
      have HVV := Lib.hid hv; clear hv
      go_wp2_with fail
      go_ret
      exact ⟨by rw [HVV.out]; rfl, HBR.out⟩
end Go.Proofs.YtkedjammeoaciaaGreatDoor
/-
  Decimal texts there and back.
  Conditions: none.
-/
namespace Go.Proofs.YtkedjammeoaciaaGreatDoor

/-- the decimal text of a number, as a list -/
def decL (n : Nat) : List UInt8 := if n = 0 then [48] else (digD n).reverse
theorem decB_decL (n : Nat) : decB n = ⟨(decL n).toArray⟩ := by
  unfold decB decL; split <;> rfl
theorem decN_decL (n : Nat) : decN (decL n) = n := by
  unfold decL; split
  · rename_i h; rw [h]; rfl
  · exact decN_digD n
theorem isDig_digB (n : Nat) : isDig (digB n) = true := by
  unfold isDig
  rw [digB_toNat, Bool.and_eq_true]
  exact ⟨decide_eq_true (by omega), decide_eq_true (by omega)⟩
theorem all_digD (n : Nat) : (digD n).all isDig = true := by
  induction n using Nat.strongRecOn with
  | _ n ih =>
    by_cases h : n = 0
    · subst h; rw [digD_zero]; rfl
    · rw [digD_pos h, List.all_cons, isDig_digB, ih _ (Nat.div_lt_self (by omega) (by decide))]; rfl
theorem all_decL (n : Nat) : (decL n).all isDig = true := by
  unfold decL; split
  · rfl
  · rw [List.all_reverse]; exact all_digD n
theorem decL_head (n : Nat) : ¬ (decL n = [] ∨ ((decL n).head? = some 48 ∧ 1 < (decL n).length)) := by
  unfold decL; split
  · rintro (h | ⟨_, h⟩)
    · cases h
    · simp at h
  · rename_i h0
    obtain ⟨l, x, h1, h2⟩ := digD_last n h0
    rw [h1, List.reverse_append]
    rintro (h | ⟨h, _⟩)
    · simp at h
    · simp at h; exact h2 h
theorem parC_decL {n : Nat} (h : (decL n).length ≤ 65536) : parC (decL n) = 0 ∧ parV (decL n) = n := by
  have h1 : parC (decL n) = 0 := by
    unfold parC; rw [if_neg (by omega), if_neg (decL_head n), if_pos (all_decL n)]
  exact ⟨h1, by unfold parV; rw [if_pos h1, decN_decL]⟩
theorem decL_parV {l : List UInt8} (h : parC l = 0) : decL (parV l) = l := by
  have hv : parV l = decN l := by unfold parV; rw [if_pos h]
  rw [hv]
  unfold parC at h
  split at h
  · cases h
  · split at h
    · cases h
    · rename_i h1 h2
      split at h
      · rename_i h3
        have key : ∀ m : List UInt8, m.reverse = l → (∀ x, m.getLast? = some x → x ≠ 48) → decL (decN l) = l := by
          intro m hm hx
          subst hm
          have h4 := digD_rev m (by rwa [List.all_reverse] at h3) hx
          unfold decL
          by_cases h5 : decN m.reverse = 0
          · rw [h5, digD_zero] at h4
            subst h4
            exact absurd (.inl rfl) h2
          · rw [if_neg h5, h4]
        by_cases h6 : l = [48]
        · subst h6; rfl
        · refine key l.reverse (List.reverse_reverse l) ?_
          intro x hx
          rw [List.getLast?_reverse] at hx
          intro e
          subst e
          refine h2 (.inr ⟨hx, ?_⟩)
          cases l with
          | nil => cases hx
          | cons y l =>
            cases l with
            | nil => simp at hx; subst hx; exact absurd rfl h6
            | cons z l => simp
      · cases h
theorem parV_zero {l : List UInt8} (h : parC l ≠ 0) : parV l = 0 := by unfold parV; rw [if_neg h]
theorem decL_len {n k : Nat} (h : n < 10 ^ k) (hk : 0 < k) : (decL n).length ≤ k := by
  unfold decL; split
  · exact hk
  · rw [List.length_reverse]; exact digD_len h
/-- the length of the text of a number of few words -/
theorem decL_words {n k : Nat} (h : (wd n).length ≤ k) (hk : 0 < k) : (decL n).length ≤ 10 * k := by
  refine decL_len (Nat.lt_of_lt_of_le (m := 4294967296 ^ k) ?_ (pow_ten k)) (by omega)
  have h1 := val_lt (u32_wd n)
  rw [val_wd] at h1
  exact Nat.lt_of_lt_of_le h1 (Nat.pow_le_pow_right (by decide) h)
end Go.Proofs.YtkedjammeoaciaaGreatDoor
/-
  Small functions of the statements: words that are equal, numbers that are too long, errors by their numbers, the document's examples.
  Conditions: each theorem's own.
-/
namespace Go.Proofs.YtkedjammeoaciaaGreatDoor
open Go.RowKit Go.ChangeShapes Go.WideShapes

theorem assert_yes (c : Int) (w : World) : (Instr.typeAssert (.iface 65 (.int .i64 c)) 28 65 true).run Tryz.prog w = .ok (.tuple #[.int .i64 c, .bool true]) w := by kernel_rfl
theorem assert_no (w : World) : (Instr.typeAssert .nilIface 28 65 true).run Tryz.prog w = .ok (.tuple #[.int .i64 0, .bool false]) w := by kernel_rfl
set_option maxRecDepth 100000 in
theorem num_any (c : Nat) (w : World) (hc : c < 1000) : Calls Tryz.prog 18 #[errV c] w (RetS w (.int .i64 c)) := by
  by_cases h0 : c = 0
  · subst h0
    rw [errV_zero]
    go_enter Tryz.func18, Tryz.ntmps18
    go_wp2
    go_ret
    exact ⟨rfl, rfl⟩
  · have ha := assert_yes c
    rw [errV_pos h0]
    go_enter Tryz.func18, Tryz.ntmps18
    go_wp2
    go_ret
    exact ⟨rfl, rfl⟩
theorem is_eq (c k : Nat) : (((c : Int) == (k : Int)) : Bool) = decide (c = k) := by rw [Bool.eq_iff_iff]; simp; omega
set_option maxRecDepth 100000 in
set_option maxHeartbeats 1600000 in
theorem words_any (va vb : Value) (a b : List Nat) (w : World) (ha : Num w va a) (hb : Num w vb b) (hla : a.length ≤ 1000000) :
    Calls Tryz.prog 81 #[va, vb] w (RetV w (.bool (decide (a = b)))) := by
  obtain ⟨ao, ca, rfl, hca, hca2, _⟩ := ha.shape
  obtain ⟨bo, cb, rfl, hcb, hcb2, _⟩ := hb.shape
  by_cases hlen : a.length = b.length
  · obtain ⟨n, hn⟩ : ∃ n, n = a.length := ⟨_, rfl⟩
    have hnb : n = b.length := by omega
    rw [← hn] at hca hla ⊢
    rw [← hnb] at hcb ⊢
    rw [← hn] at ha
    rw [← hnb] at hb
    have HA := Lib.hid ha; have HB := Lib.hid hb; have HN := Lib.hid hn; have HNB := Lib.hid hnb
    clear ha hb hn hnb hlen
    obtain ⟨r, hr⟩ : ∃ r, r = decide (a = b) := ⟨_, rfl⟩
    rw [← hr]
    have HR := Lib.hid hr; clear hr
    go_enter Tryz.func81, Tryz.ntmps81
    go_wp2_with fail
    go_loopw [13] (fun iv wr => ∃ k : Nat, k ≤ n ∧ iv = .int .i64 k ∧ Hid (∀ j, j < k → gd a j = gd b j) ∧ Below w.heap.size w wr) (fun iv _ => n - (intOf iv).toNat)
    case atStart => exact ⟨0, Nat.zero_le _, rfl, Lib.hid (fun j hj => by omega), Below.refl _ _⟩
    case round =>
      obtain ⟨k, hk, rfl, hsame, hBr⟩ := hrel
      by_cases hkn : k < n
      · obtain ⟨b1, o1, rfl, _, hc1⟩ := (HA.out.below hBr).at (by omega)
        obtain ⟨b2, o2, rfl, _, hc2⟩ := (HB.out.below hBr).at (by omega)
        have hx1 := hc1 k (by omega)
        have hx2 := hc2 k (by omega)
        obtain ⟨x, hx⟩ : ∃ x, x = gd a k := ⟨_, rfl⟩
        obtain ⟨y, hy⟩ : ∃ y, y = gd b k := ⟨_, rfl⟩
        rw [← hx] at hx1
        rw [← hy] at hx2
        have HX := Lib.hid hx; have HY := Lib.hid hy
        clear hc1 hc2 hx hy
        by_cases hxy : x = y
        · subst hxy
          have hs2 : ∀ j, j < k + 1 → gd a j = gd b j := fun j hj => by
            by_cases hjk : j = k
            · rw [hjk, ← HX.out, ← HY.out]
            · exact hsame.out j (by omega)
          have HS2 := Lib.hid hs2; clear hs2
          go_wp2_with fail
          go_quiet (fail)
          go_wp2_with fail
          go_roundw
          case rel => exact ⟨k + 1, by omega, by go_num, HS2, below_drewN hBr _⟩
          case measure => simp [intOf]; omega
        · have hne : (bne (x : Int) (y : Int)) = true := by simp; omega
          have hv : r = false := by
            rw [HR.out]
            apply decide_eq_false
            intro h
            apply hxy
            rw [HX.out, HY.out, h]
          have HV := Lib.hid hv; clear hv hxy
          go_wp2_with fail
          go_quiet (fail)
          go_wp2_with fail
          go_ret
          exact ⟨by rw [HV.out]; rfl, below_drewN hBr _⟩
      · obtain rfl : k = n := by omega
        have hv : r = true := by
          rw [HR.out]
          apply decide_eq_true
          exact gd_ext (by rw [← HN.out, ← HNB.out]) (fun j hj => hsame.out j (by rw [HN.out]; exact hj))
        have HV := Lib.hid hv; clear hv
        go_wp2_with fail
        go_ret
        exact ⟨by rw [HV.out]; rfl, hBr⟩
  · have hne : (bne (a.length : Int) (b.length : Int)) = true := by simp; omega
    have hv : decide (a = b) = false := decide_eq_false fun h => hlen (by rw [h])
    rw [hv]
    clear hv hlen ha hb
    go_enter Tryz.func81, Tryz.ntmps81
    go_wp2_with fail
    go_ret
    exact ⟨rfl, Below.refl _ _⟩
theorem words_same (va vb : Value) (n : Nat) (w : World) (ha : Num w va (wd n)) (hb : Num w vb (wd n)) (hl : (wd n).length ≤ 1000000) :
    Calls Tryz.prog 81 #[va, vb] w (RetV w (.bool true)) := by
  have h := words_any va vb _ _ w ha hb hl
  rw [decide_eq_true rfl] at h; exact h

/-- one of the first n lengths is above 40 -/
def anyBig (ln : Nat → Nat) : Nat → Bool
  | 0 => false
  | n + 1 => anyBig ln n || decide (40 < ln n)
end Go.Proofs.YtkedjammeoaciaaGreatDoor
/-
  Text of a fraction; whether two fractions have the same fields.
  Conditions: each theorem's own.
-/
namespace Go.Proofs.YtkedjammeoaciaaGreatDoor
open Go.RowKit Go.ChangeShapes Go.WideShapes

/-- the text of a number -/
def rtx (p : Rat) : List UInt8 := (if ng p then [45] else []) ++ decL (nn p) ++ (if p.den = 1 then [] else 47 :: decL p.den)
theorem decB_size {n : Nat} (h : (wd n).length ≤ 100000) : (decB n).size ≤ 1000000 := by
  rw [decB_decL]
  have := decL_words h (by decide)
  simp [ByteArray.size]; omega
theorem bytes_app (a b : List UInt8) : (⟨a.toArray⟩ : ByteArray) ++ ⟨b.toArray⟩ = ⟨(a ++ b).toArray⟩ := by
  apply ByteArray.ext; simp
theorem cmpN_zero {m n : Nat} (h : cmpN m n = 0) : m = n := by
  unfold cmpN at h; split at h
  · cases h
  · split at h
    · cases h
    · omega
set_option maxRecDepth 100000 in
set_option maxHeartbeats 3200000 in
theorem text_f1 (vp : Value) (p : Rat) (w : World) (hp : RatIs w vp p) (hs : ng p = false) (hd : p.den = 1) :
    Calls Tryz.prog 66 #[vp] w (RetV w (.string ⟨(rtx p).toArray⟩)) := by
  obtain ⟨sp, op, np, cp, ap, mp, dp, rfl⟩ := hp.shape
  have hlp := hp.rl
  have hb0 := ((Below.refl w.heap.size w).alloc (by first | (simp; done) | (simp; omega)) (.cells #[.bool sp, .slice op np cp, .slice ap mp dp] 24))
  have hxp := nest1_0 w (.cells #[.bool sp, .slice op np cp, .slice ap mp dp] 24)
  have hpp := hp.below hb0
  obtain ⟨w0, hw0⟩ : ∃ w0, w0 = (w.alloc (.cells #[.bool sp, .slice op np cp, .slice ap mp dp] 24)) := ⟨_, rfl⟩
  rw [← hw0] at hb0 hxp hpp
  have HB0 := Lib.hid hb0; have HW0 := Lib.hid hw0
  have BXp := Lib.hid hxp
  have Fp := Lib.hid hpp
  clear hb0 hw0 hxp hpp hp
  have l1 := rl_n p; have l2 := rl_d p
  have hz1 := decB_size (n := nn p) (by omega); have hz2 := decB_size (n := p.den) (by omega)
  have heq : (⟨(rtx p).toArray⟩ : ByteArray) = decB (nn p) := by
    unfold rtx; rw [hs, if_pos hd, decB_decL]; apply ByteArray.ext; simp
  rw [heq]
  have hlo : (wd 1).length ≤ 1 := by rw [wd_one_len]; exact Nat.le_refl _
  obtain ⟨c, hc⟩ : ∃ c, c = cmpN p.den 1 := ⟨_, rfl⟩
  have hc0 : c = 0 := by rw [hc]; exact cmpN_eq hd
  have hcb : (c == 0) = true := by rw [hc0]; rfl
  have HC := Lib.hid hc; have HS := Lib.hid hs; have HSP := Lib.hid hs; clear hc hs heq hd hc0
  have ht1 := fun v wx (h : Num wx v (wd (nn p))) => text_any v _ wx h (by omega)
  rw [val_wd] at ht1
  obtain ⟨B, hB⟩ : ∃ B, B = decB (nn p) := ⟨_, rfl⟩; obtain ⟨D, hD⟩ : ∃ D, D = decB p.den := ⟨_, rfl⟩
  rw [← hB] at ht1 hz1 ⊢
  rw [← hD] at hz2
  have HT1 := Lib.hid ht1; clear ht1 hB hD
  go_enter Tryz.func66, Tryz.ntmps66
  have hs := parts_any _ p w0 Fp.out
  have HS := Lib.hid hs; clear hs
  go_wp2_with fail
  rw [← HW0.out]
  (with_reducible refine HS.out.mono ?_); rintro e w1 ⟨v1, u1, rfl, hb1, hn1, hm1⟩
  clear HS
  rw [HSP.out]
  have HB1 := Lib.hid (HB0.out.step hb1)
  have Fp := Lib.hid (Fp.out.below hb1)
  have BXp := Lib.hid (heap_below BXp.out hb1)
  have N := Lib.hid hn1
  have D0 := Lib.hid hm1
  clear hn1 hm1
  clear hb1
  have hs := HT1.out _ w1 N.out
  have HS := Lib.hid hs; clear hs
  go_wp2_with fail
  (with_reducible refine HS.out.mono ?_); rintro e w2 ⟨rfl, hb2⟩
  clear HS
  have HB2 := Lib.hid (HB1.out.step hb2)
  have Fp := Lib.hid (Fp.out.below hb2)
  have N := Lib.hid (N.out.below hb2)
  have D0 := Lib.hid (D0.out.below hb2)
  have BXp := Lib.hid (heap_below BXp.out hb2)
  clear hb2
  have hs := one_any w2
  have HS := Lib.hid hs; clear hs
  go_wp2_with fail
  (with_reducible refine HS.out.mono ?_); rintro e w3 ⟨v3, rfl, hb3, hn3⟩
  clear HS
  have HB3 := Lib.hid (HB2.out.step hb3)
  have Fp := Lib.hid (Fp.out.below hb3)
  have N := Lib.hid (N.out.below hb3)
  have D0 := Lib.hid (D0.out.below hb3)
  have BXp := Lib.hid (heap_below BXp.out hb3)
  have ONE := Lib.hid hn3; clear hn3
  clear hb3
  have hs := cmpN_ D0.out ONE.out (by omega) (by omega)
  rw [← HC.out] at hs
  have HS := Lib.hid hs; clear hs
  go_wp2_with fail
  (with_reducible refine HS.out.mono ?_); rintro e w4 ⟨rfl, hb4⟩
  clear HS
  have HB4 := Lib.hid (HB3.out.step hb4)
  have Fp := Lib.hid (Fp.out.below hb4)
  have N := Lib.hid (N.out.below hb4)
  have D0 := Lib.hid (D0.out.below hb4)
  have ONE := Lib.hid (ONE.out.below hb4)
  have BXp := Lib.hid (heap_below BXp.out hb4)
  clear hb4
  go_wp2_with fail
  all_goals first | (go_ret; exact ⟨by first | rfl | (simp; done), HB4.out⟩) | (rename_i h; exact absurd h (by simp; omega))
set_option maxRecDepth 100000 in
set_option maxHeartbeats 3200000 in
theorem text_f0 (vp : Value) (p : Rat) (w : World) (hp : RatIs w vp p) (hs : ng p = false) (hd : p.den ≠ 1) :
    Calls Tryz.prog 66 #[vp] w (RetV w (.string ⟨(rtx p).toArray⟩)) := by
  obtain ⟨sp, op, np, cp, ap, mp, dp, rfl⟩ := hp.shape
  have hlp := hp.rl
  have hb0 := ((Below.refl w.heap.size w).alloc (by first | (simp; done) | (simp; omega)) (.cells #[.bool sp, .slice op np cp, .slice ap mp dp] 24))
  have hxp := nest1_0 w (.cells #[.bool sp, .slice op np cp, .slice ap mp dp] 24)
  have hpp := hp.below hb0
  obtain ⟨w0, hw0⟩ : ∃ w0, w0 = (w.alloc (.cells #[.bool sp, .slice op np cp, .slice ap mp dp] 24)) := ⟨_, rfl⟩
  rw [← hw0] at hb0 hxp hpp
  have HB0 := Lib.hid hb0; have HW0 := Lib.hid hw0
  have BXp := Lib.hid hxp
  have Fp := Lib.hid hpp
  clear hb0 hw0 hxp hpp hp
  have l1 := rl_n p; have l2 := rl_d p
  have hz1 := decB_size (n := nn p) (by omega); have hz2 := decB_size (n := p.den) (by omega)
  have heq : (⟨(rtx p).toArray⟩ : ByteArray) = decB (nn p) ++ (⟨#[47]⟩ ++ decB p.den) := by
    unfold rtx; rw [hs, if_neg hd, decB_decL, decB_decL]; apply ByteArray.ext; simp
  rw [heq]
  have hlo : (wd 1).length ≤ 1 := by rw [wd_one_len]; exact Nat.le_refl _
  obtain ⟨c, hc⟩ : ∃ c, c = cmpN p.den 1 := ⟨_, rfl⟩
  have hcb : (c == 0) = false := by rw [hc, beq_eq_false_iff_ne]; exact fun e => hd (cmpN_zero e)
  have HC := Lib.hid hc; have HS := Lib.hid hs; have HSP := Lib.hid hs; clear hc hs heq hd
  have ht1 := fun v wx (h : Num wx v (wd (nn p))) => text_any v _ wx h (by omega)
  rw [val_wd] at ht1
  obtain ⟨B, hB⟩ : ∃ B, B = decB (nn p) := ⟨_, rfl⟩; obtain ⟨D, hD⟩ : ∃ D, D = decB p.den := ⟨_, rfl⟩
  rw [← hB] at ht1 hz1 ⊢
  rw [← hD] at hz2 ⊢
  have ht2 := fun v wx (h : Num wx v (wd p.den)) => text_any v _ wx h (by omega)
  rw [val_wd, ← hD] at ht2
  have HT2 := Lib.hid ht2; clear ht2
  have HT1 := Lib.hid ht1; clear ht1 hB hD
  go_enter Tryz.func66, Tryz.ntmps66
  have hs := parts_any _ p w0 Fp.out
  have HS := Lib.hid hs; clear hs
  go_wp2_with fail
  rw [← HW0.out]
  (with_reducible refine HS.out.mono ?_); rintro e w1 ⟨v1, u1, rfl, hb1, hn1, hm1⟩
  clear HS
  rw [HSP.out]
  have HB1 := Lib.hid (HB0.out.step hb1)
  have Fp := Lib.hid (Fp.out.below hb1)
  have BXp := Lib.hid (heap_below BXp.out hb1)
  have N := Lib.hid hn1
  have D0 := Lib.hid hm1
  clear hn1 hm1
  clear hb1
  have hs := HT1.out _ w1 N.out
  have HS := Lib.hid hs; clear hs
  go_wp2_with fail
  (with_reducible refine HS.out.mono ?_); rintro e w2 ⟨rfl, hb2⟩
  clear HS
  have HB2 := Lib.hid (HB1.out.step hb2)
  have Fp := Lib.hid (Fp.out.below hb2)
  have N := Lib.hid (N.out.below hb2)
  have D0 := Lib.hid (D0.out.below hb2)
  have BXp := Lib.hid (heap_below BXp.out hb2)
  clear hb2
  have hs := one_any w2
  have HS := Lib.hid hs; clear hs
  go_wp2_with fail
  (with_reducible refine HS.out.mono ?_); rintro e w3 ⟨v3, rfl, hb3, hn3⟩
  clear HS
  have HB3 := Lib.hid (HB2.out.step hb3)
  have Fp := Lib.hid (Fp.out.below hb3)
  have N := Lib.hid (N.out.below hb3)
  have D0 := Lib.hid (D0.out.below hb3)
  have BXp := Lib.hid (heap_below BXp.out hb3)
  have ONE := Lib.hid hn3; clear hn3
  clear hb3
  have hs := cmpN_ D0.out ONE.out (by omega) (by omega)
  rw [← HC.out] at hs
  have HS := Lib.hid hs; clear hs
  go_wp2_with fail
  (with_reducible refine HS.out.mono ?_); rintro e w4 ⟨rfl, hb4⟩
  clear HS
  have HB4 := Lib.hid (HB3.out.step hb4)
  have Fp := Lib.hid (Fp.out.below hb4)
  have N := Lib.hid (N.out.below hb4)
  have D0 := Lib.hid (D0.out.below hb4)
  have ONE := Lib.hid (ONE.out.below hb4)
  have BXp := Lib.hid (heap_below BXp.out hb4)
  clear hb4
  have hs := HT2.out _ w4 D0.out
  have HS := Lib.hid hs; clear hs
  go_wp2_with fail
  (with_reducible refine HS.out.mono ?_); rintro e w5 ⟨rfl, hb5⟩
  clear HS
  have HB5 := Lib.hid (HB4.out.step hb5)
  have Fp := Lib.hid (Fp.out.below hb5)
  have N := Lib.hid (N.out.below hb5)
  have D0 := Lib.hid (D0.out.below hb5)
  have ONE := Lib.hid (ONE.out.below hb5)
  have BXp := Lib.hid (heap_below BXp.out hb5)
  clear hb5
  go_wp2_with fail
  all_goals first | (go_ret; exact ⟨by first | rfl | (simp; done), HB5.out⟩) | (rename_i h; exact absurd h (by simp; omega))
set_option maxRecDepth 100000 in
set_option maxHeartbeats 3200000 in
theorem text_t1 (vp : Value) (p : Rat) (w : World) (hp : RatIs w vp p) (hs : ng p = true) (hd : p.den = 1) :
    Calls Tryz.prog 66 #[vp] w (RetV w (.string ⟨(rtx p).toArray⟩)) := by
  obtain ⟨sp, op, np, cp, ap, mp, dp, rfl⟩ := hp.shape
  have hlp := hp.rl
  have hb0 := ((Below.refl w.heap.size w).alloc (by first | (simp; done) | (simp; omega)) (.cells #[.bool sp, .slice op np cp, .slice ap mp dp] 24))
  have hxp := nest1_0 w (.cells #[.bool sp, .slice op np cp, .slice ap mp dp] 24)
  have hpp := hp.below hb0
  obtain ⟨w0, hw0⟩ : ∃ w0, w0 = (w.alloc (.cells #[.bool sp, .slice op np cp, .slice ap mp dp] 24)) := ⟨_, rfl⟩
  rw [← hw0] at hb0 hxp hpp
  have HB0 := Lib.hid hb0; have HW0 := Lib.hid hw0
  have BXp := Lib.hid hxp
  have Fp := Lib.hid hpp
  clear hb0 hw0 hxp hpp hp
  have l1 := rl_n p; have l2 := rl_d p
  have hz1 := decB_size (n := nn p) (by omega); have hz2 := decB_size (n := p.den) (by omega)
  have heq : (⟨(rtx p).toArray⟩ : ByteArray) = ⟨#[45]⟩ ++ decB (nn p) := by
    unfold rtx; rw [hs, if_pos hd, decB_decL]; apply ByteArray.ext; simp
  rw [heq]
  have hlo : (wd 1).length ≤ 1 := by rw [wd_one_len]; exact Nat.le_refl _
  obtain ⟨c, hc⟩ : ∃ c, c = cmpN p.den 1 := ⟨_, rfl⟩
  have hc0 : c = 0 := by rw [hc]; exact cmpN_eq hd
  have hcb : (c == 0) = true := by rw [hc0]; rfl
  have HC := Lib.hid hc; have HS := Lib.hid hs; have HSP := Lib.hid hs; clear hc hs heq hd hc0
  have ht1 := fun v wx (h : Num wx v (wd (nn p))) => text_any v _ wx h (by omega)
  rw [val_wd] at ht1
  obtain ⟨B, hB⟩ : ∃ B, B = decB (nn p) := ⟨_, rfl⟩; obtain ⟨D, hD⟩ : ∃ D, D = decB p.den := ⟨_, rfl⟩
  rw [← hB] at ht1 hz1 ⊢
  rw [← hD] at hz2
  have HT1 := Lib.hid ht1; clear ht1 hB hD
  go_enter Tryz.func66, Tryz.ntmps66
  have hs := parts_any _ p w0 Fp.out
  have HS := Lib.hid hs; clear hs
  go_wp2_with fail
  rw [← HW0.out]
  (with_reducible refine HS.out.mono ?_); rintro e w1 ⟨v1, u1, rfl, hb1, hn1, hm1⟩
  clear HS
  rw [HSP.out]
  have HB1 := Lib.hid (HB0.out.step hb1)
  have Fp := Lib.hid (Fp.out.below hb1)
  have BXp := Lib.hid (heap_below BXp.out hb1)
  have N := Lib.hid hn1
  have D0 := Lib.hid hm1
  clear hn1 hm1
  clear hb1
  have hs := HT1.out _ w1 N.out
  have HS := Lib.hid hs; clear hs
  go_wp2_with fail
  (with_reducible refine HS.out.mono ?_); rintro e w2 ⟨rfl, hb2⟩
  clear HS
  have HB2 := Lib.hid (HB1.out.step hb2)
  have Fp := Lib.hid (Fp.out.below hb2)
  have N := Lib.hid (N.out.below hb2)
  have D0 := Lib.hid (D0.out.below hb2)
  have BXp := Lib.hid (heap_below BXp.out hb2)
  clear hb2
  have hs := one_any w2
  have HS := Lib.hid hs; clear hs
  go_wp2_with fail
  (with_reducible refine HS.out.mono ?_); rintro e w3 ⟨v3, rfl, hb3, hn3⟩
  clear HS
  have HB3 := Lib.hid (HB2.out.step hb3)
  have Fp := Lib.hid (Fp.out.below hb3)
  have N := Lib.hid (N.out.below hb3)
  have D0 := Lib.hid (D0.out.below hb3)
  have BXp := Lib.hid (heap_below BXp.out hb3)
  have ONE := Lib.hid hn3; clear hn3
  clear hb3
  have hs := cmpN_ D0.out ONE.out (by omega) (by omega)
  rw [← HC.out] at hs
  have HS := Lib.hid hs; clear hs
  go_wp2_with fail
  (with_reducible refine HS.out.mono ?_); rintro e w4 ⟨rfl, hb4⟩
  clear HS
  have HB4 := Lib.hid (HB3.out.step hb4)
  have Fp := Lib.hid (Fp.out.below hb4)
  have N := Lib.hid (N.out.below hb4)
  have D0 := Lib.hid (D0.out.below hb4)
  have ONE := Lib.hid (ONE.out.below hb4)
  have BXp := Lib.hid (heap_below BXp.out hb4)
  clear hb4
  go_wp2_with fail
  all_goals first | (go_ret; exact ⟨by first | rfl | (simp; done), HB4.out⟩) | (rename_i h; exact absurd h (by simp; omega))
set_option maxRecDepth 100000 in
set_option maxHeartbeats 3200000 in
theorem text_t0 (vp : Value) (p : Rat) (w : World) (hp : RatIs w vp p) (hs : ng p = true) (hd : p.den ≠ 1) :
    Calls Tryz.prog 66 #[vp] w (RetV w (.string ⟨(rtx p).toArray⟩)) := by
  obtain ⟨sp, op, np, cp, ap, mp, dp, rfl⟩ := hp.shape
  have hlp := hp.rl
  have hb0 := ((Below.refl w.heap.size w).alloc (by first | (simp; done) | (simp; omega)) (.cells #[.bool sp, .slice op np cp, .slice ap mp dp] 24))
  have hxp := nest1_0 w (.cells #[.bool sp, .slice op np cp, .slice ap mp dp] 24)
  have hpp := hp.below hb0
  obtain ⟨w0, hw0⟩ : ∃ w0, w0 = (w.alloc (.cells #[.bool sp, .slice op np cp, .slice ap mp dp] 24)) := ⟨_, rfl⟩
  rw [← hw0] at hb0 hxp hpp
  have HB0 := Lib.hid hb0; have HW0 := Lib.hid hw0
  have BXp := Lib.hid hxp
  have Fp := Lib.hid hpp
  clear hb0 hw0 hxp hpp hp
  have l1 := rl_n p; have l2 := rl_d p
  have hz1 := decB_size (n := nn p) (by omega); have hz2 := decB_size (n := p.den) (by omega)
  have heq : (⟨(rtx p).toArray⟩ : ByteArray) = ⟨#[45]⟩ ++ decB (nn p) ++ (⟨#[47]⟩ ++ decB p.den) := by
    unfold rtx; rw [hs, if_neg hd, decB_decL, decB_decL]; apply ByteArray.ext; simp
  rw [heq]
  have hlo : (wd 1).length ≤ 1 := by rw [wd_one_len]; exact Nat.le_refl _
  obtain ⟨c, hc⟩ : ∃ c, c = cmpN p.den 1 := ⟨_, rfl⟩
  have hcb : (c == 0) = false := by rw [hc, beq_eq_false_iff_ne]; exact fun e => hd (cmpN_zero e)
  have HC := Lib.hid hc; have HS := Lib.hid hs; have HSP := Lib.hid hs; clear hc hs heq hd
  have ht1 := fun v wx (h : Num wx v (wd (nn p))) => text_any v _ wx h (by omega)
  rw [val_wd] at ht1
  obtain ⟨B, hB⟩ : ∃ B, B = decB (nn p) := ⟨_, rfl⟩; obtain ⟨D, hD⟩ : ∃ D, D = decB p.den := ⟨_, rfl⟩
  rw [← hB] at ht1 hz1 ⊢
  rw [← hD] at hz2 ⊢
  have ht2 := fun v wx (h : Num wx v (wd p.den)) => text_any v _ wx h (by omega)
  rw [val_wd, ← hD] at ht2
  have HT2 := Lib.hid ht2; clear ht2
  have HT1 := Lib.hid ht1; clear ht1 hB hD
  go_enter Tryz.func66, Tryz.ntmps66
  have hs := parts_any _ p w0 Fp.out
  have HS := Lib.hid hs; clear hs
  go_wp2_with fail
  rw [← HW0.out]
  (with_reducible refine HS.out.mono ?_); rintro e w1 ⟨v1, u1, rfl, hb1, hn1, hm1⟩
  clear HS
  rw [HSP.out]
  have HB1 := Lib.hid (HB0.out.step hb1)
  have Fp := Lib.hid (Fp.out.below hb1)
  have BXp := Lib.hid (heap_below BXp.out hb1)
  have N := Lib.hid hn1
  have D0 := Lib.hid hm1
  clear hn1 hm1
  clear hb1
  have hs := HT1.out _ w1 N.out
  have HS := Lib.hid hs; clear hs
  go_wp2_with fail
  (with_reducible refine HS.out.mono ?_); rintro e w2 ⟨rfl, hb2⟩
  clear HS
  have HB2 := Lib.hid (HB1.out.step hb2)
  have Fp := Lib.hid (Fp.out.below hb2)
  have N := Lib.hid (N.out.below hb2)
  have D0 := Lib.hid (D0.out.below hb2)
  have BXp := Lib.hid (heap_below BXp.out hb2)
  clear hb2
  have hs := one_any w2
  have HS := Lib.hid hs; clear hs
  go_wp2_with fail
  (with_reducible refine HS.out.mono ?_); rintro e w3 ⟨v3, rfl, hb3, hn3⟩
  clear HS
  have HB3 := Lib.hid (HB2.out.step hb3)
  have Fp := Lib.hid (Fp.out.below hb3)
  have N := Lib.hid (N.out.below hb3)
  have D0 := Lib.hid (D0.out.below hb3)
  have BXp := Lib.hid (heap_below BXp.out hb3)
  have ONE := Lib.hid hn3; clear hn3
  clear hb3
  have hs := cmpN_ D0.out ONE.out (by omega) (by omega)
  rw [← HC.out] at hs
  have HS := Lib.hid hs; clear hs
  go_wp2_with fail
  (with_reducible refine HS.out.mono ?_); rintro e w4 ⟨rfl, hb4⟩
  clear HS
  have HB4 := Lib.hid (HB3.out.step hb4)
  have Fp := Lib.hid (Fp.out.below hb4)
  have N := Lib.hid (N.out.below hb4)
  have D0 := Lib.hid (D0.out.below hb4)
  have ONE := Lib.hid (ONE.out.below hb4)
  have BXp := Lib.hid (heap_below BXp.out hb4)
  clear hb4
  have hs := HT2.out _ w4 D0.out
  have HS := Lib.hid hs; clear hs
  go_wp2_with fail
  (with_reducible refine HS.out.mono ?_); rintro e w5 ⟨rfl, hb5⟩
  clear HS
  have HB5 := Lib.hid (HB4.out.step hb5)
  have Fp := Lib.hid (Fp.out.below hb5)
  have N := Lib.hid (N.out.below hb5)
  have D0 := Lib.hid (D0.out.below hb5)
  have ONE := Lib.hid (ONE.out.below hb5)
  have BXp := Lib.hid (heap_below BXp.out hb5)
  clear hb5
  go_wp2_with fail
  all_goals first | (go_ret; exact ⟨by first | rfl | (simp; done), HB5.out⟩) | (rename_i h; exact absurd h (by simp; omega))
theorem textq_any (vp : Value) (p : Rat) (w : World) (hp : RatIs w vp p) : Calls Tryz.prog 66 #[vp] w (RetV w (.string ⟨(rtx p).toArray⟩)) := by
  by_cases h : ng p = true
  · by_cases h2 : p.den = 1
    · exact text_t1 vp p w hp h h2
    · exact text_t0 vp p w hp h h2
  · have h := Bool.eq_false_iff.2 h
    by_cases h2 : p.den = 1
    · exact text_f1 vp p w hp h h2
    · exact text_f0 vp p w hp h h2
set_option maxRecDepth 100000 in
set_option maxHeartbeats 3200000 in
theorem rtext_f1 (vp : Value) (p : Rat) (w : World) (hp : RatIs w vp p) (hs : ng p = false) (hd : p.den = 1) :
    Calls Tryz.prog 99 #[vp] w (RetV w (.string ⟨(rtx p).toArray⟩)) := by
  obtain ⟨sp, op, np, cp, ap, mp, dp, rfl⟩ := hp.shape
  have hlp := hp.rl
  have hb0 := ((Below.refl w.heap.size w).alloc (by first | (simp; done) | (simp; omega)) (.cells #[.bool sp, .slice op np cp, .slice ap mp dp] 24))
  have hxp := nest1_0 w (.cells #[.bool sp, .slice op np cp, .slice ap mp dp] 24)
  have hpp := hp.below hb0
  obtain ⟨w0, hw0⟩ : ∃ w0, w0 = (w.alloc (.cells #[.bool sp, .slice op np cp, .slice ap mp dp] 24)) := ⟨_, rfl⟩
  rw [← hw0] at hb0 hxp hpp
  have HB0 := Lib.hid hb0; have HW0 := Lib.hid hw0
  have BXp := Lib.hid hxp
  have Fp := Lib.hid hpp
  clear hb0 hw0 hxp hpp hp
  have l1 := rl_n p; have l2 := rl_d p
  have hz1 := decB_size (n := nn p) (by omega); have hz2 := decB_size (n := p.den) (by omega)
  have heq : (⟨(rtx p).toArray⟩ : ByteArray) = decB (nn p) := by
    unfold rtx; rw [hs, if_pos hd, decB_decL]; apply ByteArray.ext; simp
  rw [heq]
  have hlo : (wd 1).length ≤ 1 := by rw [wd_one_len]; exact Nat.le_refl _
  obtain ⟨c, hc⟩ : ∃ c, c = cmpN p.den 1 := ⟨_, rfl⟩
  have hc0 : c = 0 := by rw [hc]; exact cmpN_eq hd
  have hcb : (c == 0) = true := by rw [hc0]; rfl
  have HC := Lib.hid hc; have HS := Lib.hid hs; have HSP := Lib.hid hs; clear hc hs heq hd hc0
  have ht1 := fun v wx (h : Num wx v (wd (nn p))) => rtext_any v _ wx h (by omega)
  rw [val_wd] at ht1
  obtain ⟨B, hB⟩ : ∃ B, B = decB (nn p) := ⟨_, rfl⟩; obtain ⟨D, hD⟩ : ∃ D, D = decB p.den := ⟨_, rfl⟩
  rw [← hB] at ht1 hz1 ⊢
  rw [← hD] at hz2
  have HT1 := Lib.hid ht1; clear ht1 hB hD
  go_enter Tryz.func99, Tryz.ntmps99
  have hs := rparts_any _ p w0 Fp.out
  have HS := Lib.hid hs; clear hs
  go_wp2_with fail
  rw [← HW0.out]
  (with_reducible refine HS.out.mono ?_); rintro e w1 ⟨v1, u1, rfl, hb1, hn1, hm1⟩
  clear HS
  rw [HSP.out]
  have HB1 := Lib.hid (HB0.out.step hb1)
  have Fp := Lib.hid (Fp.out.below hb1)
  have BXp := Lib.hid (heap_below BXp.out hb1)
  have N := Lib.hid hn1
  have D0 := Lib.hid hm1
  clear hn1 hm1
  clear hb1
  have hs := HT1.out _ w1 N.out
  have HS := Lib.hid hs; clear hs
  go_wp2_with fail
  (with_reducible refine HS.out.mono ?_); rintro e w2 ⟨rfl, hb2⟩
  clear HS
  have HB2 := Lib.hid (HB1.out.step hb2)
  have Fp := Lib.hid (Fp.out.below hb2)
  have N := Lib.hid (N.out.below hb2)
  have D0 := Lib.hid (D0.out.below hb2)
  have BXp := Lib.hid (heap_below BXp.out hb2)
  clear hb2
  have hb90 : Below w2.heap.size w2 (w2.alloc (.cells #[.int .u32 1] 75)) := (Below.refl _ _).alloc (Nat.le_refl _) _
  have hs := rcmpN_ (D0.out.below hb90) (num_one1 w2) (by omega) (by omega)
  rw [← HC.out] at hs
  have HS := Lib.hid hs; clear hs
  go_wp2_with fail
  (with_reducible refine HS.out.mono ?_); rintro e wx ⟨rfl, rfl⟩
  clear HS
  obtain ⟨w90, hw90⟩ : ∃ w90, w90 = w2.alloc (.cells #[.int .u32 1] 75) := ⟨_, rfl⟩
  rw [← hw90] at hb90 ⊢
  have HB90 := Lib.hid (HB2.out.step hb90)
  have Fp := Lib.hid (Fp.out.below hb90)
  have N := Lib.hid (N.out.below hb90)
  have D0 := Lib.hid (D0.out.below hb90)
  have BXp := Lib.hid (heap_below BXp.out hb90)
  clear hw90 hb90
  go_wp2_with fail
  all_goals first | (go_ret; exact ⟨by first | rfl | (simp; done), HB90.out⟩) | (rename_i h; exact absurd h (by simp; omega))
set_option maxRecDepth 100000 in
set_option maxHeartbeats 3200000 in
theorem rtext_f0 (vp : Value) (p : Rat) (w : World) (hp : RatIs w vp p) (hs : ng p = false) (hd : p.den ≠ 1) :
    Calls Tryz.prog 99 #[vp] w (RetV w (.string ⟨(rtx p).toArray⟩)) := by
  obtain ⟨sp, op, np, cp, ap, mp, dp, rfl⟩ := hp.shape
  have hlp := hp.rl
  have hb0 := ((Below.refl w.heap.size w).alloc (by first | (simp; done) | (simp; omega)) (.cells #[.bool sp, .slice op np cp, .slice ap mp dp] 24))
  have hxp := nest1_0 w (.cells #[.bool sp, .slice op np cp, .slice ap mp dp] 24)
  have hpp := hp.below hb0
  obtain ⟨w0, hw0⟩ : ∃ w0, w0 = (w.alloc (.cells #[.bool sp, .slice op np cp, .slice ap mp dp] 24)) := ⟨_, rfl⟩
  rw [← hw0] at hb0 hxp hpp
  have HB0 := Lib.hid hb0; have HW0 := Lib.hid hw0
  have BXp := Lib.hid hxp
  have Fp := Lib.hid hpp
  clear hb0 hw0 hxp hpp hp
  have l1 := rl_n p; have l2 := rl_d p
  have hz1 := decB_size (n := nn p) (by omega); have hz2 := decB_size (n := p.den) (by omega)
  have heq : (⟨(rtx p).toArray⟩ : ByteArray) = decB (nn p) ++ (⟨#[47]⟩ ++ decB p.den) := by
    unfold rtx; rw [hs, if_neg hd, decB_decL, decB_decL]; apply ByteArray.ext; simp
  rw [heq]
  have hlo : (wd 1).length ≤ 1 := by rw [wd_one_len]; exact Nat.le_refl _
  obtain ⟨c, hc⟩ : ∃ c, c = cmpN p.den 1 := ⟨_, rfl⟩
  have hcb : (c == 0) = false := by rw [hc, beq_eq_false_iff_ne]; exact fun e => hd (cmpN_zero e)
  have HC := Lib.hid hc; have HS := Lib.hid hs; have HSP := Lib.hid hs; clear hc hs heq hd
  have ht1 := fun v wx (h : Num wx v (wd (nn p))) => rtext_any v _ wx h (by omega)
  rw [val_wd] at ht1
  obtain ⟨B, hB⟩ : ∃ B, B = decB (nn p) := ⟨_, rfl⟩; obtain ⟨D, hD⟩ : ∃ D, D = decB p.den := ⟨_, rfl⟩
  rw [← hB] at ht1 hz1 ⊢
  rw [← hD] at hz2 ⊢
  have ht2 := fun v wx (h : Num wx v (wd p.den)) => rtext_any v _ wx h (by omega)
  rw [val_wd, ← hD] at ht2
  have HT2 := Lib.hid ht2; clear ht2
  have HT1 := Lib.hid ht1; clear ht1 hB hD
  go_enter Tryz.func99, Tryz.ntmps99
  have hs := rparts_any _ p w0 Fp.out
  have HS := Lib.hid hs; clear hs
  go_wp2_with fail
  rw [← HW0.out]
  (with_reducible refine HS.out.mono ?_); rintro e w1 ⟨v1, u1, rfl, hb1, hn1, hm1⟩
  clear HS
  rw [HSP.out]
  have HB1 := Lib.hid (HB0.out.step hb1)
  have Fp := Lib.hid (Fp.out.below hb1)
  have BXp := Lib.hid (heap_below BXp.out hb1)
  have N := Lib.hid hn1
  have D0 := Lib.hid hm1
  clear hn1 hm1
  clear hb1
  have hs := HT1.out _ w1 N.out
  have HS := Lib.hid hs; clear hs
  go_wp2_with fail
  (with_reducible refine HS.out.mono ?_); rintro e w2 ⟨rfl, hb2⟩
  clear HS
  have HB2 := Lib.hid (HB1.out.step hb2)
  have Fp := Lib.hid (Fp.out.below hb2)
  have N := Lib.hid (N.out.below hb2)
  have D0 := Lib.hid (D0.out.below hb2)
  have BXp := Lib.hid (heap_below BXp.out hb2)
  clear hb2
  have hb90 : Below w2.heap.size w2 (w2.alloc (.cells #[.int .u32 1] 75)) := (Below.refl _ _).alloc (Nat.le_refl _) _
  have hs := rcmpN_ (D0.out.below hb90) (num_one1 w2) (by omega) (by omega)
  rw [← HC.out] at hs
  have HS := Lib.hid hs; clear hs
  go_wp2_with fail
  (with_reducible refine HS.out.mono ?_); rintro e wx ⟨rfl, rfl⟩
  clear HS
  obtain ⟨w90, hw90⟩ : ∃ w90, w90 = w2.alloc (.cells #[.int .u32 1] 75) := ⟨_, rfl⟩
  rw [← hw90] at hb90 ⊢
  have HB90 := Lib.hid (HB2.out.step hb90)
  have Fp := Lib.hid (Fp.out.below hb90)
  have N := Lib.hid (N.out.below hb90)
  have D0 := Lib.hid (D0.out.below hb90)
  have BXp := Lib.hid (heap_below BXp.out hb90)
  clear hw90 hb90
  have hs := HT2.out _ w90 D0.out
  have HS := Lib.hid hs; clear hs
  go_wp2_with fail
  (with_reducible refine HS.out.mono ?_); rintro e w4 ⟨rfl, hb4⟩
  clear HS
  have HB4 := Lib.hid (HB90.out.step hb4)
  have Fp := Lib.hid (Fp.out.below hb4)
  have N := Lib.hid (N.out.below hb4)
  have D0 := Lib.hid (D0.out.below hb4)
  have BXp := Lib.hid (heap_below BXp.out hb4)
  clear hb4
  go_wp2_with fail
  all_goals first | (go_ret; exact ⟨by first | rfl | (simp; done), HB4.out⟩) | (rename_i h; exact absurd h (by simp; omega))
set_option maxRecDepth 100000 in
set_option maxHeartbeats 3200000 in
theorem rtext_t1 (vp : Value) (p : Rat) (w : World) (hp : RatIs w vp p) (hs : ng p = true) (hd : p.den = 1) :
    Calls Tryz.prog 99 #[vp] w (RetV w (.string ⟨(rtx p).toArray⟩)) := by
  obtain ⟨sp, op, np, cp, ap, mp, dp, rfl⟩ := hp.shape
  have hlp := hp.rl
  have hb0 := ((Below.refl w.heap.size w).alloc (by first | (simp; done) | (simp; omega)) (.cells #[.bool sp, .slice op np cp, .slice ap mp dp] 24))
  have hxp := nest1_0 w (.cells #[.bool sp, .slice op np cp, .slice ap mp dp] 24)
  have hpp := hp.below hb0
  obtain ⟨w0, hw0⟩ : ∃ w0, w0 = (w.alloc (.cells #[.bool sp, .slice op np cp, .slice ap mp dp] 24)) := ⟨_, rfl⟩
  rw [← hw0] at hb0 hxp hpp
  have HB0 := Lib.hid hb0; have HW0 := Lib.hid hw0
  have BXp := Lib.hid hxp
  have Fp := Lib.hid hpp
  clear hb0 hw0 hxp hpp hp
  have l1 := rl_n p; have l2 := rl_d p
  have hz1 := decB_size (n := nn p) (by omega); have hz2 := decB_size (n := p.den) (by omega)
  have heq : (⟨(rtx p).toArray⟩ : ByteArray) = ⟨#[45]⟩ ++ decB (nn p) := by
    unfold rtx; rw [hs, if_pos hd, decB_decL]; apply ByteArray.ext; simp
  rw [heq]
  have hlo : (wd 1).length ≤ 1 := by rw [wd_one_len]; exact Nat.le_refl _
  obtain ⟨c, hc⟩ : ∃ c, c = cmpN p.den 1 := ⟨_, rfl⟩
  have hc0 : c = 0 := by rw [hc]; exact cmpN_eq hd
  have hcb : (c == 0) = true := by rw [hc0]; rfl
  have HC := Lib.hid hc; have HS := Lib.hid hs; have HSP := Lib.hid hs; clear hc hs heq hd hc0
  have ht1 := fun v wx (h : Num wx v (wd (nn p))) => rtext_any v _ wx h (by omega)
  rw [val_wd] at ht1
  obtain ⟨B, hB⟩ : ∃ B, B = decB (nn p) := ⟨_, rfl⟩; obtain ⟨D, hD⟩ : ∃ D, D = decB p.den := ⟨_, rfl⟩
  rw [← hB] at ht1 hz1 ⊢
  rw [← hD] at hz2
  have HT1 := Lib.hid ht1; clear ht1 hB hD
  go_enter Tryz.func99, Tryz.ntmps99
  have hs := rparts_any _ p w0 Fp.out
  have HS := Lib.hid hs; clear hs
  go_wp2_with fail
  rw [← HW0.out]
  (with_reducible refine HS.out.mono ?_); rintro e w1 ⟨v1, u1, rfl, hb1, hn1, hm1⟩
  clear HS
  rw [HSP.out]
  have HB1 := Lib.hid (HB0.out.step hb1)
  have Fp := Lib.hid (Fp.out.below hb1)
  have BXp := Lib.hid (heap_below BXp.out hb1)
  have N := Lib.hid hn1
  have D0 := Lib.hid hm1
  clear hn1 hm1
  clear hb1
  have hs := HT1.out _ w1 N.out
  have HS := Lib.hid hs; clear hs
  go_wp2_with fail
  (with_reducible refine HS.out.mono ?_); rintro e w2 ⟨rfl, hb2⟩
  clear HS
  have HB2 := Lib.hid (HB1.out.step hb2)
  have Fp := Lib.hid (Fp.out.below hb2)
  have N := Lib.hid (N.out.below hb2)
  have D0 := Lib.hid (D0.out.below hb2)
  have BXp := Lib.hid (heap_below BXp.out hb2)
  clear hb2
  have hb90 : Below w2.heap.size w2 (w2.alloc (.cells #[.int .u32 1] 75)) := (Below.refl _ _).alloc (Nat.le_refl _) _
  have hs := rcmpN_ (D0.out.below hb90) (num_one1 w2) (by omega) (by omega)
  rw [← HC.out] at hs
  have HS := Lib.hid hs; clear hs
  go_wp2_with fail
  (with_reducible refine HS.out.mono ?_); rintro e wx ⟨rfl, rfl⟩
  clear HS
  obtain ⟨w90, hw90⟩ : ∃ w90, w90 = w2.alloc (.cells #[.int .u32 1] 75) := ⟨_, rfl⟩
  rw [← hw90] at hb90 ⊢
  have HB90 := Lib.hid (HB2.out.step hb90)
  have Fp := Lib.hid (Fp.out.below hb90)
  have N := Lib.hid (N.out.below hb90)
  have D0 := Lib.hid (D0.out.below hb90)
  have BXp := Lib.hid (heap_below BXp.out hb90)
  clear hw90 hb90
  go_wp2_with fail
  all_goals first | (go_ret; exact ⟨by first | rfl | (simp; done), HB90.out⟩) | (rename_i h; exact absurd h (by simp; omega))
set_option maxRecDepth 100000 in
set_option maxHeartbeats 3200000 in
theorem rtext_t0 (vp : Value) (p : Rat) (w : World) (hp : RatIs w vp p) (hs : ng p = true) (hd : p.den ≠ 1) :
    Calls Tryz.prog 99 #[vp] w (RetV w (.string ⟨(rtx p).toArray⟩)) := by
  obtain ⟨sp, op, np, cp, ap, mp, dp, rfl⟩ := hp.shape
  have hlp := hp.rl
  have hb0 := ((Below.refl w.heap.size w).alloc (by first | (simp; done) | (simp; omega)) (.cells #[.bool sp, .slice op np cp, .slice ap mp dp] 24))
  have hxp := nest1_0 w (.cells #[.bool sp, .slice op np cp, .slice ap mp dp] 24)
  have hpp := hp.below hb0
  obtain ⟨w0, hw0⟩ : ∃ w0, w0 = (w.alloc (.cells #[.bool sp, .slice op np cp, .slice ap mp dp] 24)) := ⟨_, rfl⟩
  rw [← hw0] at hb0 hxp hpp
  have HB0 := Lib.hid hb0; have HW0 := Lib.hid hw0
  have BXp := Lib.hid hxp
  have Fp := Lib.hid hpp
  clear hb0 hw0 hxp hpp hp
  have l1 := rl_n p; have l2 := rl_d p
  have hz1 := decB_size (n := nn p) (by omega); have hz2 := decB_size (n := p.den) (by omega)
  have heq : (⟨(rtx p).toArray⟩ : ByteArray) = ⟨#[45]⟩ ++ decB (nn p) ++ (⟨#[47]⟩ ++ decB p.den) := by
    unfold rtx; rw [hs, if_neg hd, decB_decL, decB_decL]; apply ByteArray.ext; simp
  rw [heq]
  have hlo : (wd 1).length ≤ 1 := by rw [wd_one_len]; exact Nat.le_refl _
  obtain ⟨c, hc⟩ : ∃ c, c = cmpN p.den 1 := ⟨_, rfl⟩
  have hcb : (c == 0) = false := by rw [hc, beq_eq_false_iff_ne]; exact fun e => hd (cmpN_zero e)
  have HC := Lib.hid hc; have HS := Lib.hid hs; have HSP := Lib.hid hs; clear hc hs heq hd
  have ht1 := fun v wx (h : Num wx v (wd (nn p))) => rtext_any v _ wx h (by omega)
  rw [val_wd] at ht1
  obtain ⟨B, hB⟩ : ∃ B, B = decB (nn p) := ⟨_, rfl⟩; obtain ⟨D, hD⟩ : ∃ D, D = decB p.den := ⟨_, rfl⟩
  rw [← hB] at ht1 hz1 ⊢
  rw [← hD] at hz2 ⊢
  have ht2 := fun v wx (h : Num wx v (wd p.den)) => rtext_any v _ wx h (by omega)
  rw [val_wd, ← hD] at ht2
  have HT2 := Lib.hid ht2; clear ht2
  have HT1 := Lib.hid ht1; clear ht1 hB hD
  go_enter Tryz.func99, Tryz.ntmps99
  have hs := rparts_any _ p w0 Fp.out
  have HS := Lib.hid hs; clear hs
  go_wp2_with fail
  rw [← HW0.out]
  (with_reducible refine HS.out.mono ?_); rintro e w1 ⟨v1, u1, rfl, hb1, hn1, hm1⟩
  clear HS
  rw [HSP.out]
  have HB1 := Lib.hid (HB0.out.step hb1)
  have Fp := Lib.hid (Fp.out.below hb1)
  have BXp := Lib.hid (heap_below BXp.out hb1)
  have N := Lib.hid hn1
  have D0 := Lib.hid hm1
  clear hn1 hm1
  clear hb1
  have hs := HT1.out _ w1 N.out
  have HS := Lib.hid hs; clear hs
  go_wp2_with fail
  (with_reducible refine HS.out.mono ?_); rintro e w2 ⟨rfl, hb2⟩
  clear HS
  have HB2 := Lib.hid (HB1.out.step hb2)
  have Fp := Lib.hid (Fp.out.below hb2)
  have N := Lib.hid (N.out.below hb2)
  have D0 := Lib.hid (D0.out.below hb2)
  have BXp := Lib.hid (heap_below BXp.out hb2)
  clear hb2
  have hb90 : Below w2.heap.size w2 (w2.alloc (.cells #[.int .u32 1] 75)) := (Below.refl _ _).alloc (Nat.le_refl _) _
  have hs := rcmpN_ (D0.out.below hb90) (num_one1 w2) (by omega) (by omega)
  rw [← HC.out] at hs
  have HS := Lib.hid hs; clear hs
  go_wp2_with fail
  (with_reducible refine HS.out.mono ?_); rintro e wx ⟨rfl, rfl⟩
  clear HS
  obtain ⟨w90, hw90⟩ : ∃ w90, w90 = w2.alloc (.cells #[.int .u32 1] 75) := ⟨_, rfl⟩
  rw [← hw90] at hb90 ⊢
  have HB90 := Lib.hid (HB2.out.step hb90)
  have Fp := Lib.hid (Fp.out.below hb90)
  have N := Lib.hid (N.out.below hb90)
  have D0 := Lib.hid (D0.out.below hb90)
  have BXp := Lib.hid (heap_below BXp.out hb90)
  clear hw90 hb90
  have hs := HT2.out _ w90 D0.out
  have HS := Lib.hid hs; clear hs
  go_wp2_with fail
  (with_reducible refine HS.out.mono ?_); rintro e w4 ⟨rfl, hb4⟩
  clear HS
  have HB4 := Lib.hid (HB90.out.step hb4)
  have Fp := Lib.hid (Fp.out.below hb4)
  have N := Lib.hid (N.out.below hb4)
  have D0 := Lib.hid (D0.out.below hb4)
  have BXp := Lib.hid (heap_below BXp.out hb4)
  clear hb4
  go_wp2_with fail
  all_goals first | (go_ret; exact ⟨by first | rfl | (simp; done), HB4.out⟩) | (rename_i h; exact absurd h (by simp; omega))
theorem rtextq_any (vp : Value) (p : Rat) (w : World) (hp : RatIs w vp p) : Calls Tryz.prog 99 #[vp] w (RetV w (.string ⟨(rtx p).toArray⟩)) := by
  by_cases h : ng p = true
  · by_cases h2 : p.den = 1
    · exact rtext_t1 vp p w hp h h2
    · exact rtext_t0 vp p w hp h h2
  · have h := Bool.eq_false_iff.2 h
    by_cases h2 : p.den = 1
    · exact rtext_f1 vp p w hp h h2
    · exact rtext_f0 vp p w hp h h2
theorem IsR.fields {w : World} {s : Bool} {x y : Value} {q : Rat} (h : IsR w (.agg #[.bool s, x, y]) q) : s = ng q ∧ Num w x (wd (nn q)) ∧ Num w y (wd (dn q)) := by
  obtain ⟨va, vb, e, h1, h2⟩ := h
  cases e
  exact ⟨rfl, h1, h2⟩
theorem wd_inj {m n : Nat} (h : wd m = wd n) : m = n := by
  have := congrArg val h
  rwa [val_wd, val_wd] at this
set_option maxRecDepth 100000 in
set_option maxHeartbeats 3200000 in
theorem same_rat0 (vp : Value) (p : Rat) (vq : Value) (q : Rat) (w : World) (hp : RatIs w vp p) (hq : RatIs w vq q) (gp : IsR w vp p) (gq : IsR w vq q) (hs : ng p ≠ ng q) :
    Calls Tryz.prog 15 #[vp, vq] w (RetV w (.bool (decide (p = q)))) := by
  obtain ⟨sp, op, np, cp, ap, mp, dp, rfl⟩ := hp.shape
  have hlp := hp.rl
  obtain ⟨sq, oq, nq, cq, aq, mq, dq, rfl⟩ := hq.shape
  have hlq := hq.rl
  obtain ⟨e1, g1, g2⟩ := gp.fields
  obtain ⟨e2, g3, g4⟩ := gq.fields
  have hb0 := (((Below.refl w.heap.size w).alloc (by first | (simp; done) | (simp; omega)) (.cells #[.bool sp, .slice op np cp, .slice ap mp dp] 24)).alloc (by first | (simp; done) | (simp; omega)) (.cells #[.bool sq, .slice oq nq cq, .slice aq mq dq] 24))
  have hxp := nest2_0 w (.cells #[.bool sp, .slice op np cp, .slice ap mp dp] 24) (.cells #[.bool sq, .slice oq nq cq, .slice aq mq dq] 24)
  have hxq := nest2_1 w (.cells #[.bool sp, .slice op np cp, .slice ap mp dp] 24) (.cells #[.bool sq, .slice oq nq cq, .slice aq mq dq] 24)
  have hpp := hp.below hb0
  have hpq := hq.below hb0
  obtain ⟨w0, hw0⟩ : ∃ w0, w0 = ((w.alloc (.cells #[.bool sp, .slice op np cp, .slice ap mp dp] 24)).alloc (.cells #[.bool sq, .slice oq nq cq, .slice aq mq dq] 24)) := ⟨_, rfl⟩
  rw [← hw0] at hb0 hxp hxq hpp hpq
  have HB0 := Lib.hid hb0; have HW0 := Lib.hid hw0
  have BXp := Lib.hid hxp
  have BXq := Lib.hid hxq
  have Fp := Lib.hid hpp
  have Fq := Lib.hid hpq
  clear hb0 hw0 hxp hxq hpp hp hpq hq
  have N := Lib.hid (g1.below HB0.out)
  have D := Lib.hid (g2.below HB0.out)
  have M := Lib.hid (g3.below HB0.out)
  have E := Lib.hid (g4.below HB0.out)
  have l1 := rl_n p; have l2 := dn_len p
  have hd : decide (p = q) = false := decide_eq_false fun e => hs (by rw [e])
  rw [hd]
  have f1 : (sp == sq) = false := by rw [e1, e2, beq_eq_false_iff_ne]; exact hs
  clear hs e1 e2 hd gp gq g1 g2 g3 g4
  go_enter Tryz.func15, Tryz.ntmps15
  go_wp2_with fail
  rw [← HW0.out]
  go_ret
  exact ⟨by first | rfl | (simp; done), HB0.out⟩
set_option maxRecDepth 100000 in
set_option maxHeartbeats 3200000 in
theorem same_rat1 (vp : Value) (p : Rat) (vq : Value) (q : Rat) (w : World) (hp : RatIs w vp p) (hq : RatIs w vq q) (gp : IsR w vp p) (gq : IsR w vq q) (hs : ng p = ng q) (hn : nn p ≠ nn q) :
    Calls Tryz.prog 15 #[vp, vq] w (RetV w (.bool (decide (p = q)))) := by
  obtain ⟨sp, op, np, cp, ap, mp, dp, rfl⟩ := hp.shape
  have hlp := hp.rl
  obtain ⟨sq, oq, nq, cq, aq, mq, dq, rfl⟩ := hq.shape
  have hlq := hq.rl
  obtain ⟨e1, g1, g2⟩ := gp.fields
  obtain ⟨e2, g3, g4⟩ := gq.fields
  have hb0 := (((Below.refl w.heap.size w).alloc (by first | (simp; done) | (simp; omega)) (.cells #[.bool sp, .slice op np cp, .slice ap mp dp] 24)).alloc (by first | (simp; done) | (simp; omega)) (.cells #[.bool sq, .slice oq nq cq, .slice aq mq dq] 24))
  have hxp := nest2_0 w (.cells #[.bool sp, .slice op np cp, .slice ap mp dp] 24) (.cells #[.bool sq, .slice oq nq cq, .slice aq mq dq] 24)
  have hxq := nest2_1 w (.cells #[.bool sp, .slice op np cp, .slice ap mp dp] 24) (.cells #[.bool sq, .slice oq nq cq, .slice aq mq dq] 24)
  have hpp := hp.below hb0
  have hpq := hq.below hb0
  obtain ⟨w0, hw0⟩ : ∃ w0, w0 = ((w.alloc (.cells #[.bool sp, .slice op np cp, .slice ap mp dp] 24)).alloc (.cells #[.bool sq, .slice oq nq cq, .slice aq mq dq] 24)) := ⟨_, rfl⟩
  rw [← hw0] at hb0 hxp hxq hpp hpq
  have HB0 := Lib.hid hb0; have HW0 := Lib.hid hw0
  have BXp := Lib.hid hxp
  have BXq := Lib.hid hxq
  have Fp := Lib.hid hpp
  have Fq := Lib.hid hpq
  clear hb0 hw0 hxp hxq hpp hp hpq hq
  have N := Lib.hid (g1.below HB0.out)
  have D := Lib.hid (g2.below HB0.out)
  have M := Lib.hid (g3.below HB0.out)
  have E := Lib.hid (g4.below HB0.out)
  have l1 := rl_n p; have l2 := dn_len p
  have f1 : (sp == sq) = true := by rw [e1, e2, beq_iff_eq]; exact hs
  have hd : decide (p = q) = false := decide_eq_false fun e => hn (by rw [e])
  rw [hd]
  have hw : decide (wd (nn p) = wd (nn q)) = false := decide_eq_false fun e => hn (wd_inj e)
  have HW := Lib.hid hw; clear hw
  clear hs e1 e2 hd gp gq g1 g2 g3 g4 hn
  go_enter Tryz.func15, Tryz.ntmps15
  have hs := words_any _ _ _ _ w0 N.out M.out (by omega)
  rw [HW.out] at hs
  have HS := Lib.hid hs; clear hs
  go_wp2_with fail
  rw [← HW0.out]
  (with_reducible refine HS.out.mono ?_); rintro e w1 ⟨rfl, hb1⟩
  clear HS
  have HB1 := Lib.hid (HB0.out.step hb1)
  have Fp := Lib.hid (Fp.out.below hb1)
  have Fq := Lib.hid (Fq.out.below hb1)
  have N := Lib.hid (N.out.below hb1)
  have D := Lib.hid (D.out.below hb1)
  have M := Lib.hid (M.out.below hb1)
  have E := Lib.hid (E.out.below hb1)
  have BXp := Lib.hid (heap_below BXp.out hb1)
  have BXq := Lib.hid (heap_below BXq.out hb1)
  clear hb1
  go_wp2_with fail
  go_ret
  exact ⟨by first | rfl | (simp; done), HB1.out⟩
set_option maxRecDepth 100000 in
set_option maxHeartbeats 3200000 in
theorem same_rat2 (vp : Value) (p : Rat) (vq : Value) (q : Rat) (w : World) (hp : RatIs w vp p) (hq : RatIs w vq q) (gp : IsR w vp p) (gq : IsR w vq q) (hs : ng p = ng q) (hn : nn p = nn q) :
    Calls Tryz.prog 15 #[vp, vq] w (RetV w (.bool (decide (p = q)))) := by
  obtain ⟨sp, op, np, cp, ap, mp, dp, rfl⟩ := hp.shape
  have hlp := hp.rl
  obtain ⟨sq, oq, nq, cq, aq, mq, dq, rfl⟩ := hq.shape
  have hlq := hq.rl
  obtain ⟨e1, g1, g2⟩ := gp.fields
  obtain ⟨e2, g3, g4⟩ := gq.fields
  have hb0 := (((Below.refl w.heap.size w).alloc (by first | (simp; done) | (simp; omega)) (.cells #[.bool sp, .slice op np cp, .slice ap mp dp] 24)).alloc (by first | (simp; done) | (simp; omega)) (.cells #[.bool sq, .slice oq nq cq, .slice aq mq dq] 24))
  have hxp := nest2_0 w (.cells #[.bool sp, .slice op np cp, .slice ap mp dp] 24) (.cells #[.bool sq, .slice oq nq cq, .slice aq mq dq] 24)
  have hxq := nest2_1 w (.cells #[.bool sp, .slice op np cp, .slice ap mp dp] 24) (.cells #[.bool sq, .slice oq nq cq, .slice aq mq dq] 24)
  have hpp := hp.below hb0
  have hpq := hq.below hb0
  obtain ⟨w0, hw0⟩ : ∃ w0, w0 = ((w.alloc (.cells #[.bool sp, .slice op np cp, .slice ap mp dp] 24)).alloc (.cells #[.bool sq, .slice oq nq cq, .slice aq mq dq] 24)) := ⟨_, rfl⟩
  rw [← hw0] at hb0 hxp hxq hpp hpq
  have HB0 := Lib.hid hb0; have HW0 := Lib.hid hw0
  have BXp := Lib.hid hxp
  have BXq := Lib.hid hxq
  have Fp := Lib.hid hpp
  have Fq := Lib.hid hpq
  clear hb0 hw0 hxp hxq hpp hp hpq hq
  have N := Lib.hid (g1.below HB0.out)
  have D := Lib.hid (g2.below HB0.out)
  have M := Lib.hid (g3.below HB0.out)
  have E := Lib.hid (g4.below HB0.out)
  have l1 := rl_n p; have l2 := dn_len p
  have f1 : (sp == sq) = true := by rw [e1, e2, beq_iff_eq]; exact hs
  have hw : decide (wd (nn p) = wd (nn q)) = true := decide_eq_true (by rw [hn])
  have HW := Lib.hid hw; clear hw
  have hd : decide (p = q) = decide (wd (dn p) = wd (dn q)) := by rw [decide_eq_decide]; exact ⟨fun e => by rw [e], fun e => ext_fields hs hn (wd_inj e)⟩
  rw [hd]
  obtain ⟨r, hr⟩ : ∃ r, r = decide (wd (dn p) = wd (dn q)) := ⟨_, rfl⟩
  rw [← hr]
  have HR := Lib.hid hr; clear hr
  clear hs e1 e2 hd gp gq g1 g2 g3 g4 hn
  go_enter Tryz.func15, Tryz.ntmps15
  have hs := words_any _ _ _ _ w0 N.out M.out (by omega)
  rw [HW.out] at hs
  have HS := Lib.hid hs; clear hs
  go_wp2_with fail
  rw [← HW0.out]
  (with_reducible refine HS.out.mono ?_); rintro e w1 ⟨rfl, hb1⟩
  clear HS
  have HB1 := Lib.hid (HB0.out.step hb1)
  have Fp := Lib.hid (Fp.out.below hb1)
  have Fq := Lib.hid (Fq.out.below hb1)
  have N := Lib.hid (N.out.below hb1)
  have D := Lib.hid (D.out.below hb1)
  have M := Lib.hid (M.out.below hb1)
  have E := Lib.hid (E.out.below hb1)
  have BXp := Lib.hid (heap_below BXp.out hb1)
  have BXq := Lib.hid (heap_below BXq.out hb1)
  clear hb1
  have hs := words_any _ _ _ _ w1 D.out E.out (by omega)
  rw [← HR.out] at hs
  have HS := Lib.hid hs; clear hs
  obtain ⟨ep0, ep1, ep2⟩ := row3 BXp.out
  obtain ⟨eq0, eq1, eq2⟩ := row3 BXq.out
  go_wp2_with fail
  (with_reducible refine HS.out.mono ?_); rintro e w2 ⟨rfl, hb2⟩
  clear HS
  have HB2 := Lib.hid (HB1.out.step hb2)
  have Fp := Lib.hid (Fp.out.below hb2)
  have Fq := Lib.hid (Fq.out.below hb2)
  have N := Lib.hid (N.out.below hb2)
  have D := Lib.hid (D.out.below hb2)
  have M := Lib.hid (M.out.below hb2)
  have E := Lib.hid (E.out.below hb2)
  have BXp := Lib.hid (heap_below BXp.out hb2)
  have BXq := Lib.hid (heap_below BXq.out hb2)
  clear hb2
  go_wp2_with fail
  go_ret
  exact ⟨by first | rfl | (simp; done), HB2.out⟩
theorem rat_any (vp : Value) (p : Rat) (vq : Value) (q : Rat) (w : World) (hp : IsR w vp p) (hq : IsR w vq q) (lp : rl p ≤ 100000) (lq : rl q ≤ 100000) :
    Calls Tryz.prog 15 #[vp, vq] w (RetV w (.bool (decide (p = q)))) := by
  by_cases h : ng p = ng q
  · by_cases h2 : nn p = nn q
    · exact same_rat2 vp p vq q w (hp.is lp) (hq.is lq) hp hq h h2
    · exact same_rat1 vp p vq q w (hp.is lp) (hq.is lq) hp hq h h2
  · exact same_rat0 vp p vq q w (hp.is lp) (hq.is lq) hp hq h
theorem rat_same (vp : Value) (vq : Value) (q : Rat) (w : World) (hp : IsR w vp q) (hq : IsR w vq q) (lq : rl q ≤ 100000) :
    Calls Tryz.prog 15 #[vp, vq] w (RetV w (.bool true)) := by
  have h := rat_any vp q vq q w hp hq lq lq
  rw [decide_eq_true rfl] at h; exact h
end Go.Proofs.YtkedjammeoaciaaGreatDoor
/-
  DERIVED: THE SHELF's CONTRACTS AT THIS DUMP, IN PLAIN WORDS (tools/lay-plain.mjs out of 'TryzShelfPick.lean', which tools/lay-shelf.mjs wrote): THE SAME DECLARATIONS UNDER THE SAME NAMES: 'import', 'namespace', 'open', 'def', 'theorem' AND NOTHING ELSE: no command of the shelf's: FOR A HAND-IN. Each laying: the table of numbers ('.._ren') and one theorem, a field a fact of the dump's own or the kernel's comparison; each contract: ONE APPLICATION.
-/
namespace Go.Proofs
open Go.Shelf
def Tryz.lays160_ren : Go.Shelf.Ren := ⟨fun | 160 => 134 | 232 => 145 | 231 => 144 | 227 => 146 | 234 => 148 | 233 => 147 | 236 => 150 | 235 => 149 | 228 => 156 | 271 => 159 | 151 => 158 | 197 => 157 | 120 => 165 | 152 => 164 | 260 => 163 | 137 => 166 | 119 => 167 | 224 => 154 | 225 => 153 | 217 => 152 | 266 => 161 | n => n, fun | 9 => 9 | 4 => 4 | 3 => 3 | 5 => 5 | 117 => 127 | 116 => 126 | 0 => 0 | 124 => 130 | 21 => 21 | 105 => 136 | 46 => 101 | 119 => 144 | 139 => 147 | 138 => 146 | n => n, fun | 3 => 1 | 4 => 2 | n => n⟩
theorem Tryz.lays160 : Go.Proofs.Lays.n160 Tryz.prog Tryz.lays160_ren := {
  mixed := by kernel_rfl
  f119 := Tryz.func167.trans (congrArg some (by kernel_rfl))
  f120 := Tryz.func165.trans (congrArg some (by kernel_rfl))
  f137 := Tryz.func166.trans (congrArg some (by kernel_rfl))
  f151 := Tryz.func158.trans (congrArg some (by kernel_rfl))
  f152 := Tryz.func164.trans (congrArg some (by kernel_rfl))
  f160 := Tryz.func134.trans (congrArg some (by kernel_rfl))
  f197 := Tryz.func157.trans (congrArg some (by kernel_rfl))
  f217 := Tryz.func152.trans (congrArg some (by kernel_rfl))
  f224 := Tryz.func154.trans (congrArg some (by kernel_rfl))
  f225 := Tryz.func153.trans (congrArg some (by kernel_rfl))
  f227 := Tryz.func146.trans (congrArg some (by kernel_rfl))
  f228 := Tryz.func156.trans (congrArg some (by kernel_rfl))
  f231 := Tryz.func144.trans (congrArg some (by kernel_rfl))
  f232 := Tryz.func145.trans (congrArg some (by kernel_rfl))
  f233 := Tryz.func147.trans (congrArg some (by kernel_rfl))
  f234 := Tryz.func148.trans (congrArg some (by kernel_rfl))
  f235 := Tryz.func149.trans (congrArg some (by kernel_rfl))
  f236 := Tryz.func150.trans (congrArg some (by kernel_rfl))
  f260 := Tryz.func163.trans (congrArg some (by kernel_rfl))
  f266 := Tryz.func161.trans (congrArg some (by kernel_rfl))
  f271 := Tryz.func159.trans (congrArg some (by kernel_rfl))
  t0 := Tryz.underlying0
  a0 := Tryz.isAgg0
  z0 := Tryz.sizeOf0
  v0 := Tryz.zeroValue0
  t3 := Tryz.underlying3
  a3 := Tryz.isAgg3
  z3 := Tryz.sizeOf3
  v3 := Tryz.zeroValue3
  t4 := Tryz.underlying4
  a4 := Tryz.isAgg4
  z4 := Tryz.sizeOf4
  v4 := Tryz.zeroValue4
  t5 := Tryz.underlying5
  a5 := Tryz.isAgg5
  z5 := Tryz.sizeOf5
  v5 := Tryz.zeroValue5
  t9 := Tryz.underlying9
  a9 := Tryz.isAgg9
  z9 := Tryz.sizeOf9
  v9 := Tryz.zeroValue9
  t21 := Tryz.underlying21
  a21 := Tryz.isAgg21
  z21 := Tryz.sizeOf21
  v21 := Tryz.zeroValue21
  t46 := Tryz.underlying101
  a46 := Tryz.isAgg101
  z46 := Tryz.sizeOf101
  v46 := Tryz.zeroValue101
  t105 := Tryz.underlying136
  a105 := Tryz.isAgg136
  z105 := Tryz.sizeOf136
  v105 := Tryz.zeroValue136
  t116 := Tryz.underlying126
  a116 := Tryz.isAgg126
  z116 := Tryz.sizeOf126
  t117 := Tryz.underlying127
  a117 := Tryz.isAgg127
  z117 := Tryz.sizeOf127
  v117 := Tryz.zeroValue127
  t119 := Tryz.underlying144
  a119 := Tryz.isAgg144
  z119 := Tryz.sizeOf144
  t124 := Tryz.underlying130
  a124 := Tryz.isAgg130
  z124 := Tryz.sizeOf130
  v124 := Tryz.zeroValue130
  t138 := Tryz.underlying146
  a138 := Tryz.isAgg146
  z138 := Tryz.sizeOf146
  v138 := Tryz.zeroValue146
  t139 := Tryz.underlying147
  a139 := Tryz.isAgg147
  z139 := Tryz.sizeOf147
  v139 := Tryz.zeroValue147
  g3 := by kernel_rfl
  g4 := by kernel_rfl }
open Go.RowKit in
/-- strings.Trim: "Trim returns a slice of the string s with all leading and trailing Unicode code points contained in cutset removed.": AT A cutset OF ONE ASCII BYTE. THE WORLD BEHIND IT: as it was, or (where s is not empty) with ONE DRAW MORE off the tape: the statement 'return trimLeftByte(trimRightByte(s, c), c)' draws its order of evaluation. (LAID: no walk: one application.) -/
theorem Tryz.strings_Trim_one (s : ByteArray) (c : UInt8) (hc : c.toNat < 128) (w : World) (hs : s.size ≤ 9223372036854775807) :
    Calls Tryz.prog 134 #[.string s, .string ⟨#[c]⟩] w fun e w' => e = .returned (.string ⟨(Lib.trimB s.data.toList c).toArray⟩) ∧ (w' = w ∨ w' = w.drew) := Any.strings_Trim_one Tryz.lays160 s c hc w hs
def Tryz.lays219_ren : Go.Shelf.Ren := ⟨fun | 219 => 143 | 217 => 152 | 225 => 153 | 224 => 154 | 267 => 155 | 266 => 161 | 314 => 162 | n => n, fun | 9 => 9 | 3 => 3 | 4 => 4 | 5 => 5 | 46 => 101 | 146 => 141 | 51 => 75 | n => n, fun | 1 => 0 | n => n⟩
theorem Tryz.lays219 : Go.Proofs.Lays.n219 Tryz.prog Tryz.lays219_ren := {
  mixed := by kernel_rfl
  f217 := Tryz.func152.trans (congrArg some (by kernel_rfl))
  f219 := Tryz.func143.trans (congrArg some (by kernel_rfl))
  f224 := Tryz.func154.trans (congrArg some (by kernel_rfl))
  f225 := Tryz.func153.trans (congrArg some (by kernel_rfl))
  f266 := Tryz.func161.trans (congrArg some (by kernel_rfl))
  f267 := Tryz.func155.trans (congrArg some (by kernel_rfl))
  f314 := Tryz.func162.trans (congrArg some (by kernel_rfl))
  t3 := Tryz.underlying3
  a3 := Tryz.isAgg3
  z3 := Tryz.sizeOf3
  v3 := Tryz.zeroValue3
  t4 := Tryz.underlying4
  a4 := Tryz.isAgg4
  z4 := Tryz.sizeOf4
  v4 := Tryz.zeroValue4
  t5 := Tryz.underlying5
  a5 := Tryz.isAgg5
  z5 := Tryz.sizeOf5
  v5 := Tryz.zeroValue5
  t9 := Tryz.underlying9
  a9 := Tryz.isAgg9
  z9 := Tryz.sizeOf9
  v9 := Tryz.zeroValue9
  t46 := Tryz.underlying101
  a46 := Tryz.isAgg101
  z46 := Tryz.sizeOf101
  v46 := Tryz.zeroValue101
  t51 := Tryz.underlying75
  a51 := Tryz.isAgg75
  z51 := Tryz.sizeOf75
  v51 := Tryz.zeroValue75
  t146 := Tryz.underlying141
  a146 := Tryz.isAgg141
  z146 := Tryz.sizeOf141
  v146 := Tryz.zeroValue141
  g1 := by kernel_rfl }
open Go.RowKit Go.Lib in
/-- internal/stringslite.Index (what strings.Index calls) AT A substr OF ONE BYTE c: IT RETURNS 'Lib.indexByte s c'; the world is as it was. (LAID: no walk: one application.) -/
theorem Tryz.stringslite_Index_one (s : ByteArray) (c : UInt8) (w : World) :
    Calls Tryz.prog 143 #[.string s, .string ⟨#[c]⟩] w fun e w' => e = .returned (.int .i64 (Lib.indexByte s.data.toList c)) ∧ w' = w := Any.stringslite_Index_one Tryz.lays219 s c w
end Go.Proofs
/-
  strings.CutPrefix and strings.Cut at one byte: what they hand back.
  Conditions: the texts are no longer than a machine's.
-/
namespace Go.Proofs.YtkedjammeoaciaaGreatDoor
open Go.RowKit Go.ChangeShapes Go.WideShapes

/-- what lies ahead of the first byte c, and what lies behind it -/
def cutL (c : UInt8) : List UInt8 → Option (List UInt8 × List UInt8)
  | [] => none
  | x :: l => if x = c then some ([], l) else (cutL c l).map fun p => (x :: p.1, p.2)
/-- the text without a leading byte c, and whether it had one -/
def preL (c : UInt8) (l : List UInt8) : List UInt8 × Bool := if l.head? = some c then (l.tail, true) else (l, false)
theorem cutL_index (c : UInt8) (l : List UInt8) : (cutL c l = none ∧ Lib.indexByte l c = -1) ∨ (∃ i : Nat, i < l.length ∧ cutL c l = some (l.take i, l.drop (i + 1)) ∧ Lib.indexByte l c = (i : Int)) := by
  induction l with
  | nil => exact .inl ⟨rfl, rfl⟩
  | cons x l ih =>
    unfold cutL Lib.indexByte
    by_cases h : x = c
    · right
      subst h
      exact ⟨0, by simp, by simp, by simp⟩
    · have hb : (x == c) = false := by rw [beq_eq_false_iff_ne]; exact h
      rw [if_neg h, if_neg (by simp [hb])]
      rcases ih with ⟨h1, h2⟩ | ⟨i, h0, h1, h2⟩
      · left; rw [h1, h2]; exact ⟨rfl, rfl⟩
      · right
        refine ⟨i + 1, by simpa using h0, by rw [h1]; rfl, ?_⟩
        rw [h2, if_neg (by first | (simp; done) | (simp; omega))]; omega

set_option maxRecDepth 100000 in
set_option maxHeartbeats 400000 in
theorem prefix_nil (c : UInt8) (w : World) : Calls Tryz.prog 142 #[.string ⟨([] : List UInt8).toArray⟩, .string ⟨#[c]⟩] w (RetS w (.bool false)) := by
  go_enter Tryz.func142, Tryz.ntmps142
  go_wp2_with fail
  go_ret
  exact ⟨rfl, rfl⟩
set_option maxRecDepth 100000 in
set_option maxHeartbeats 400000 in
theorem prefix_cons (c x : UInt8) (l : List UInt8) (w : World) (hl : l.length < 9223372036854775807) :
    Calls Tryz.prog 142 #[.string ⟨(x :: l).toArray⟩, .string ⟨#[c]⟩] w (RetS w (.bool (decide (x = c)))) := by
  obtain ⟨S, hS⟩ : ∃ S : ByteArray, S = ⟨(x :: l).toArray⟩ := ⟨_, rfl⟩
  have hsz : S.size = l.length + 1 := by rw [hS]; simp [ByteArray.size]
  have hsl : ∀ wx : World, (Instr.slice 9 (.string S) none (some (.int .i64 1)) none).run Tryz.prog wx = .ok (.string ⟨#[x]⟩) wx := fun wx => by
    rw [run_slice_string_to_if (P := Tryz.prog) wx 9 S .i64 1 Tryz.underlying9, if_pos (by omega)]
    have e : S.extract 0 (1 : Int).toNat = ⟨#[x]⟩ := by rw [hS]; apply ByteArray.ext; simp [ByteArray.data_extract]
    rw [e]
  rw [← hS]
  have f1 : decide ((1 : Int) ≤ (S.size : Int)) = true := decide_eq_true (by omega)
  clear hS
  go_enter Tryz.func142, Tryz.ntmps142
  go_wp2_with fail
  go_ret
  refine ⟨ret_bool ?_, rfl⟩
  by_cases h : x = c
  · subst h; simp
  · rw [decide_eq_false h]; simp [h]
/-- a text cut around the first byte c: ahead, behind, whether there is one -/
def cut3 (c : UInt8) (l : List UInt8) : List UInt8 × List UInt8 × Bool := match cutL c l with | some p => (p.1, p.2, true) | none => (l, [], false)
set_option maxRecDepth 100000 in
set_option maxHeartbeats 400000 in
theorem lcutPrefix_any (c : UInt8) (l : List UInt8) (w : World) (hl : l.length ≤ 9223372036854775807) :
    Calls Tryz.prog 132 #[.string ⟨l.toArray⟩, .string ⟨#[c]⟩] w (RetS w (.tuple #[.string ⟨(preL c l).1.toArray⟩, .bool (preL c l).2])) := by
  cases l with
  | nil =>
    have e : preL c [] = ([], false) := rfl
    rw [e]
    have HP := Lib.hid (prefix_nil c)
    clear e
    go_enter Tryz.func132, Tryz.ntmps132
    go_wp2_with fail
    (with_reducible refine (HP.out _).mono ?_); rintro e wx ⟨rfl, rfl⟩
    go_wp2_with fail
    go_ret2
    exact ⟨rfl, rfl⟩
  | cons x l =>
    have HP := Lib.hid (fun wx => prefix_cons c x l wx (by simp at hl; omega))
    by_cases h : x = c
    · have e : preL c (x :: l) = (l, true) := by unfold preL; rw [if_pos (by simp [h])]; rfl
      rw [e]
      have hd : decide (x = c) = true := decide_eq_true h
      rw [hd] at HP
      obtain ⟨S, hS⟩ : ∃ S : ByteArray, S = ⟨(x :: l).toArray⟩ := ⟨_, rfl⟩
      have hsz : S.size = l.length + 1 := by rw [hS]; simp [ByteArray.size]
      have hsl : ∀ wx : World, (Instr.slice 9 (.string S) (some (.int .i64 1)) none none).run Tryz.prog wx = .ok (.string ⟨l.toArray⟩) wx := fun wx => by
        rw [run_slice_string_from_if (P := Tryz.prog) wx 9 S .i64 1 Tryz.underlying9, if_pos (by omega)]
        have e : S.extract (1 : Int).toNat S.size = ⟨l.toArray⟩ := by rw [hsz, hS]; apply ByteArray.ext; simp [ByteArray.data_extract]
        rw [e]
      rw [← hS] at HP ⊢
      clear hS e hd h
      go_enter Tryz.func132, Tryz.ntmps132
      go_wp2_with fail
      (with_reducible refine (HP.out _).mono ?_); rintro e wx ⟨rfl, rfl⟩
      go_wp2_with fail
      go_ret2
      exact ⟨rfl, rfl⟩
    · have e : preL c (x :: l) = (x :: l, false) := by unfold preL; rw [if_neg (by simp [h])]
      rw [e]
      have hd : decide (x = c) = false := decide_eq_false h
      rw [hd] at HP
      obtain ⟨S, hS⟩ : ∃ S : ByteArray, S = ⟨(x :: l).toArray⟩ := ⟨_, rfl⟩
      have HSS := Lib.hid hS
      rw [← hS] at HP
      clear e hd h
      rw [← hS]
      clear hS
      go_enter Tryz.func132, Tryz.ntmps132
      go_wp2_with fail
      (with_reducible refine (HP.out _).mono ?_); rintro e wx ⟨rfl, rfl⟩
      go_wp2_with fail
      go_ret2
      exact ⟨by first | rfl | (rw [HSS.out]; rfl), rfl⟩
set_option maxRecDepth 100000 in
set_option maxHeartbeats 400000 in
theorem cutPrefix_any (c : UInt8) (l : List UInt8) (w : World) (hl : l.length ≤ 9223372036854775807) :
    Calls Tryz.prog 103 #[.string ⟨l.toArray⟩, .string ⟨#[c]⟩] w (RetS w (.tuple #[.string ⟨(preL c l).1.toArray⟩, .bool (preL c l).2])) := by
  have HP := Lib.hid (lcutPrefix_any c l w hl)
  obtain ⟨a, ha⟩ : ∃ a : ByteArray, a = ⟨(preL c l).1.toArray⟩ := ⟨_, rfl⟩
  obtain ⟨b, hb⟩ : ∃ b, b = (preL c l).2 := ⟨_, rfl⟩
  obtain ⟨S, hS⟩ : ∃ S : ByteArray, S = ⟨l.toArray⟩ := ⟨_, rfl⟩
  rw [← ha, ← hb, ← hS] at HP ⊢
  clear ha hb hS
  go_enter Tryz.func103, Tryz.ntmps103
  go_wp2_with fail
  (with_reducible refine HP.out.mono ?_); rintro e wx ⟨rfl, rfl⟩
  go_wp2_with fail
  go_ret2
  exact ⟨rfl, rfl⟩
/-- a cut: nothing changes but the count of draws -/
def RetCut (w : World) (c : UInt8) (l : List UInt8) (e : Ending) (w' : World) : Prop :=
  e = .returned (.tuple #[.string ⟨(cut3 c l).1.toArray⟩, .string ⟨(cut3 c l).2.1.toArray⟩, .bool (cut3 c l).2.2]) ∧ Below w.heap.size w w'
set_option maxRecDepth 100000 in
set_option maxHeartbeats 800000 in
theorem lcut_any (c : UInt8) (l : List UInt8) (w : World) (hl : l.length ≤ 4611686018427387904) :
    Calls Tryz.prog 133 #[.string ⟨l.toArray⟩, .string ⟨#[c]⟩] w (RetCut w c l) := by
  have hix := Tryz.stringslite_Index_one ⟨l.toArray⟩ c w
  rw [show (⟨l.toArray⟩ : ByteArray).data.toList = l from rfl] at hix
  obtain ⟨S, hS⟩ : ∃ S : ByteArray, S = ⟨l.toArray⟩ := ⟨_, rfl⟩
  have hsz : S.size = l.length := by rw [hS]; simp [ByteArray.size]
  rcases cutL_index c l with ⟨h1, h2⟩ | ⟨i, h0, h1, h2⟩
  · rw [h2] at hix
    have e : cut3 c l = (l, [], false) := by unfold cut3; rw [h1]
    unfold RetCut
    rw [e]
    have HSS := Lib.hid hS
    rw [← hS] at hix
    have HIX := Lib.hid hix
    clear hix h1 h2 e
    rw [← hS]
    clear hS
    go_enter Tryz.func133, Tryz.ntmps133
    go_wp2_with fail
    (with_reducible refine HIX.out.mono ?_); rintro e wx ⟨rfl, rfl⟩
    go_wp2_with fail
    go_ret3
    exact ⟨rfl, Below.refl _ _⟩
  · rw [h2] at hix
    have e : cut3 c l = (l.take i, l.drop (i + 1), true) := by unfold cut3; rw [h1]
    unfold RetCut
    rw [e]
    have hs1 : ∀ wx : World, (Instr.slice 9 (.string S) none (some (.int .i64 (i : Int))) none).run Tryz.prog wx = .ok (.string ⟨(l.take i).toArray⟩) wx := fun wx => by
      rw [run_slice_string_to_if (P := Tryz.prog) wx 9 S .i64 i Tryz.underlying9, if_pos (by omega)]
      have e : S.extract 0 (i : Int).toNat = ⟨(l.take i).toArray⟩ := by rw [hS]; apply ByteArray.ext; simp [ByteArray.data_extract]
      rw [e]
    have hs2 : ∀ wx : World, (Instr.slice 9 (.string S) (some (.int .i64 ((i : Int) + 1))) none none).run Tryz.prog wx = .ok (.string ⟨(l.drop (i + 1)).toArray⟩) wx := fun wx => by
      rw [run_slice_string_from_if (P := Tryz.prog) wx 9 S .i64 _ Tryz.underlying9, if_pos (by omega)]
      have e : S.extract ((i : Int) + 1).toNat S.size = ⟨(l.drop (i + 1)).toArray⟩ := by
        rw [hsz, show ((i : Int) + 1).toNat = i + 1 by omega, hS]; apply ByteArray.ext; simp [ByteArray.data_extract, List.extract_eq_take_drop]
        exact List.take_of_length_le (by rw [List.length_drop]; exact Nat.le_refl _)
      rw [e]
    obtain ⟨a, ha⟩ : ∃ a : ByteArray, a = ⟨(l.take i).toArray⟩ := ⟨_, rfl⟩
    obtain ⟨b, hb⟩ : ∃ b : ByteArray, b = ⟨(l.drop (i + 1)).toArray⟩ := ⟨_, rfl⟩
    rw [← ha] at hs1; rw [← hb] at hs2
    show Calls _ _ _ _ fun e' w' => e' = .returned (.tuple #[.string ⟨(l.take i).toArray⟩, .string ⟨(l.drop (i + 1)).toArray⟩, .bool true]) ∧ Below w.heap.size w w'
    rw [← hS] at hix ⊢
    rw [← ha, ← hb]
    have HIX := Lib.hid hix
    have f1 : decide ((0 : Int) ≤ (i : Int)) = true := decide_eq_true (by omega)
    clear hix h1 h2 e hS ha hb
    go_enter Tryz.func133, Tryz.ntmps133
    go_wp2_with fail
    (with_reducible refine HIX.out.mono ?_); rintro e wx ⟨rfl, rfl⟩
    go_wp2_with fail
    go_quiet (fail)
    go_wp2_with fail
    go_ret3
    exact ⟨rfl, below_drewN (Below.refl _ _) _⟩
set_option maxRecDepth 100000 in
set_option maxHeartbeats 400000 in
theorem cut_any (c : UInt8) (l : List UInt8) (w : World) (hl : l.length ≤ 4611686018427387904) :
    Calls Tryz.prog 104 #[.string ⟨l.toArray⟩, .string ⟨#[c]⟩] w (RetCut w c l) := by
  have HP := Lib.hid (lcut_any c l w hl)
  unfold RetCut at HP ⊢
  obtain ⟨a, ha⟩ : ∃ a : ByteArray, a = ⟨(cut3 c l).1.toArray⟩ := ⟨_, rfl⟩
  obtain ⟨b, hb⟩ : ∃ b : ByteArray, b = ⟨(cut3 c l).2.1.toArray⟩ := ⟨_, rfl⟩
  obtain ⟨f, hf⟩ : ∃ f, f = (cut3 c l).2.2 := ⟨_, rfl⟩
  obtain ⟨S, hS⟩ : ∃ S : ByteArray, S = ⟨l.toArray⟩ := ⟨_, rfl⟩
  rw [← ha, ← hb, ← hf, ← hS] at HP
  rw [← ha, ← hb, ← hf, ← hS]
  clear ha hb hf hS
  go_enter Tryz.func104, Tryz.ntmps104
  go_wp2_with fail
  (with_reducible refine HP.out.mono ?_); rintro e wx ⟨rfl, hb1⟩
  go_wp2_with fail
  go_ret3
  exact ⟨rfl, hb1⟩
end Go.Proofs.YtkedjammeoaciaaGreatDoor
/-
  The number of a text of a fraction or of a decimal number.
  Conditions: none.
-/
namespace Go.Proofs.YtkedjammeoaciaaGreatDoor

/-- the number of a decimal text: its sign, what lies ahead of the point, what lies behind it -/
def dmV (neg : Bool) (a b : List UInt8) : Option Rat :=
  if b ≠ [] ∧ b.all isDig = true ∧ parC a = 0 then some (qm neg (parV a * 10 ^ b.length + decN b) (10 ^ b.length)) else none
/-- the number of a fraction's text -/
def frV (l : List UInt8) (neg : Bool) (a : List UInt8) (b : Option (List UInt8)) : Option Rat :=
  match b with
  | none => if parC a = 0 ∧ rtx (qm neg (parV a) 1) = l then some (qm neg (parV a) 1) else none
  | some b => if parC a = 0 ∧ parC b = 0 ∧ parV b ≠ 0 ∧ rtx (qm neg (parV a) (parV b)) = l then some (qm neg (parV a) (parV b)) else none
/-- the number of a text, if it is one -/
def prV (l : List UInt8) : Option Rat :=
  match cutL 46 (preL 45 l).1 with
  | some p => if l.length ≤ 64 then dmV (preL 45 l).2 p.1 p.2 else none
  | none =>
    match cutL 47 (preL 45 l).1 with
    | some p => frV l (preL 45 l).2 p.1 (some p.2)
    | none => frV l (preL 45 l).2 (preL 45 l).1 none
/-- the number of the error, and the number -/
def prC (l : List UInt8) : Nat := if 65536 < l.length then 4 else if (prV l).isSome then 0 else 2
def prQ (l : List UInt8) : Rat := if 65536 < l.length then 0 else (prV l).getD 0
/-- a byte that is no digit makes a text no number -/
theorem parC_bad {l : List UInt8} {c : UInt8} (h : c ∈ l) (hc : isDig c = false) : parC l ≠ 0 := by
  unfold parC
  split
  · decide
  · split
    · decide
    · split
      · rename_i h2
        rw [List.all_eq_true] at h2
        have := h2 c h
        rw [hc] at this; cases this
      · decide
theorem cutL_mem {c : UInt8} {l : List UInt8} {p : List UInt8 × List UInt8} (h : cutL c l = some p) : c ∈ l ∧ l = p.1 ++ c :: p.2 := by
  induction l generalizing p with
  | nil => cases h
  | cons x l ih =>
    unfold cutL at h
    by_cases hx : x = c
    · rw [if_pos hx] at h
      cases h
      subst hx
      exact ⟨List.mem_cons_self, rfl⟩
    · rw [if_neg hx] at h
      cases h2 : cutL c l with
      | none => rw [h2] at h; cases h
      | some q =>
        rw [h2] at h
        cases h
        obtain ⟨h3, h4⟩ := ih h2
        exact ⟨List.mem_cons_of_mem _ h3, by rw [List.cons_append, ← h4]⟩
theorem cutL_none {c : UInt8} {l : List UInt8} (h : cutL c l = none) : c ∉ l := by
  induction l with
  | nil => simp
  | cons x l ih =>
    unfold cutL at h
    by_cases hx : x = c
    · rw [if_pos hx] at h; cases h
    · rw [if_neg hx] at h
      cases h2 : cutL c l with
      | none =>
        intro h3
        rcases List.mem_cons.1 h3 with h4 | h4
        · exact hx h4.symm
        · exact ih h2 h4
      | some q => rw [h2] at h; cases h
end Go.Proofs.YtkedjammeoaciaaGreatDoor
/-
  Texts of fractions there and back.
  Conditions: none.
-/
namespace Go.Proofs.YtkedjammeoaciaaGreatDoor

theorem cutL_not {c : UInt8} {l : List UInt8} (h : c ∉ l) : cutL c l = none := by
  induction l with
  | nil => rfl
  | cons x l ih =>
    unfold cutL
    rw [if_neg (fun e => h (by rw [e]; exact List.mem_cons_self)), ih (fun e => h (List.mem_cons_of_mem _ e))]; rfl
theorem cutL_at {c : UInt8} {a b : List UInt8} (h : c ∉ a) : cutL c (a ++ c :: b) = some (a, b) := by
  induction a with
  | nil => show cutL c (c :: b) = _; unfold cutL; rw [if_pos rfl]
  | cons x a ih =>
    rw [List.cons_append]
    unfold cutL
    rw [if_neg (fun e => h (by rw [e]; exact List.mem_cons_self)), ih (fun e => h (List.mem_cons_of_mem _ e))]; rfl
theorem dig_not {l : List UInt8} {c : UInt8} (h : l.all isDig = true) (hc : isDig c = false) : c ∉ l := by
  intro hm
  rw [List.all_eq_true] at h
  have := h c hm
  rw [hc] at this; cases this
theorem decL_ne (n : Nat) : decL n ≠ [] := fun h => decL_head n (.inl h)
theorem decL_not (n : Nat) {c : UInt8} (hc : isDig c = false) : c ∉ decL n := dig_not (all_decL n) hc
theorem rtx_len {q : Rat} {k : Nat} (h : rl q ≤ k) (hk : 0 < k) : (rtx q).length ≤ 20 * k + 2 := by
  unfold rtx
  have h1 := decL_words (Nat.le_trans (rl_n q) h) hk
  have h2 := decL_words (Nat.le_trans (rl_d q) h) hk
  rw [List.length_append, List.length_append]
  have e1 : (if ng q = true then [(45 : UInt8)] else []).length ≤ 1 := by split <;> simp
  have e2 : (if q.den = 1 then [] else (47 : UInt8) :: decL q.den).length ≤ 1 + (decL q.den).length := by split <;> simp; omega
  omega
theorem preL_rtx (q : Rat) : preL 45 (rtx q) = (decL (nn q) ++ (if q.den = 1 then [] else 47 :: decL q.den), ng q) := by
  unfold preL rtx
  cases h : ng q with
  | true => rfl
  | false =>
    have hne := decL_ne (nn q)
    cases hd : decL (nn q) with
    | nil => exact absurd hd hne
    | cons x l =>
      have hx : x ≠ 45 := fun e => decL_not (nn q) (c := 45) (by decide) (by rw [hd, e]; exact List.mem_cons_self)
      rw [show (if false = true then [(45 : UInt8)] else []) = [] from rfl, List.nil_append, List.cons_append, List.head?_cons, if_neg (fun e => hx (Option.some.inj e))]
/-- what is printed is parsed as the number -/
theorem prV_rtx (q : Rat) (hl : (rtx q).length ≤ 65536) : prV (rtx q) = some q := by
  have hA : (decL (nn q)).length ≤ 65536 ∧ (q.den ≠ 1 → (decL q.den).length ≤ 65536) := by
    unfold rtx at hl
    rw [List.length_append, List.length_append] at hl
    refine ⟨by omega, fun h => ?_⟩
    rw [if_neg h, List.length_cons] at hl; omega
  obtain ⟨p1, p2⟩ := parC_decL hA.1
  have hq := qm_self q
  have hp := preL_rtx q
  obtain ⟨l, hl2⟩ : ∃ l, l = rtx q := ⟨_, rfl⟩
  rw [← hl2] at hp ⊢
  unfold prV
  rw [hp]
  by_cases hd : q.den = 1
  · rw [if_pos hd, List.append_nil]
    show (match cutL 46 (decL (nn q)) with | some p => _ | none => _) = _
    rw [cutL_not (decL_not (nn q) (c := 46) (by decide))]
    show (match cutL 47 (decL (nn q)) with | some p => _ | none => _) = _
    rw [cutL_not (decL_not (nn q) (c := 47) (by decide))]
    show frV l (ng q) (decL (nn q)) none = _
    unfold frV
    rw [hd] at hq
    show (if parC (decL (nn q)) = 0 ∧ rtx (qm (ng q) (parV (decL (nn q))) 1) = l then some (qm (ng q) (parV (decL (nn q))) 1) else none) = _
    rw [p2, hq, if_pos ⟨p1, hl2.symm⟩]
  · rw [if_neg hd]
    obtain ⟨d1, d2⟩ := parC_decL (hA.2 hd)
    show (match cutL 46 (decL (nn q) ++ 47 :: decL q.den) with | some p => _ | none => _) = _
    rw [cutL_not (fun e => by
      rcases List.mem_append.1 e with e | e
      · exact decL_not (nn q) (c := 46) (by decide) e
      · rcases List.mem_cons.1 e with e | e
        · cases e
        · exact decL_not q.den (c := 46) (by decide) e)]
    show (match cutL 47 (decL (nn q) ++ 47 :: decL q.den) with | some p => _ | none => _) = _
    rw [cutL_at (decL_not (nn q) (c := 47) (by decide))]
    show frV l (ng q) (decL (nn q)) (some (decL q.den)) = _
    unfold frV
    show (if parC (decL (nn q)) = 0 ∧ parC (decL q.den) = 0 ∧ parV (decL q.den) ≠ 0 ∧ rtx (qm (ng q) (parV (decL (nn q))) (parV (decL q.den))) = l then some (qm (ng q) (parV (decL (nn q))) (parV (decL q.den))) else none) = _
    rw [p2, d2, hq, if_pos ⟨p1, d1, q.den_nz, hl2.symm⟩]
theorem prQ_rtx (q : Rat) (hl : (rtx q).length ≤ 65536) : prQ (rtx q) = q ∧ prC (rtx q) = 0 := by
  unfold prQ prC
  rw [if_neg (by omega), if_neg (by omega), prV_rtx q hl]
  exact ⟨rfl, rfl⟩
theorem preL_mem {c d : UInt8} {l : List UInt8} (h : c ∈ (preL d l).1) : c ∈ l := by
  unfold preL at h; split at h
  · exact List.mem_of_mem_tail h
  · exact h
theorem frV_text {l a : List UInt8} {neg : Bool} {b : Option (List UInt8)} {q : Rat} (h : frV l neg a b = some q) : rtx q = l := by
  unfold frV at h
  cases b with
  | none =>
    by_cases hc : parC a = 0 ∧ rtx (qm neg (parV a) 1) = l
    · have h' : (if parC a = 0 ∧ rtx (qm neg (parV a) 1) = l then some (qm neg (parV a) 1) else none) = some q := h
      rw [if_pos hc] at h'; cases h'; exact hc.2
    · have h' : (if parC a = 0 ∧ rtx (qm neg (parV a) 1) = l then some (qm neg (parV a) 1) else none) = some q := h
      rw [if_neg hc] at h'; cases h'
  | some b =>
    have h' : (if parC a = 0 ∧ parC b = 0 ∧ parV b ≠ 0 ∧ rtx (qm neg (parV a) (parV b)) = l then some (qm neg (parV a) (parV b)) else none) = some q := h
    by_cases hc : parC a = 0 ∧ parC b = 0 ∧ parV b ≠ 0 ∧ rtx (qm neg (parV a) (parV b)) = l
    · rw [if_pos hc] at h'; cases h'; exact hc.2.2.2
    · rw [if_neg hc] at h'; cases h'
/-- a text with a number has a point, or is the number's own -/
theorem prV_text {l : List UInt8} {q : Rat} (h : prV l = some q) : 46 ∈ l ∨ rtx q = l := by
  cases h1 : cutL 46 (preL 45 l).1 with
  | some p => exact .inl (preL_mem (cutL_mem h1).1)
  | none =>
    right
    unfold prV at h
    rw [h1] at h
    cases h2 : cutL 47 (preL 45 l).1 with
    | some p => rw [h2] at h; exact frV_text h
    | none => rw [h2] at h; exact frV_text h
end Go.Proofs.YtkedjammeoaciaaGreatDoor
/-
  strings.Trim at the ten digits: what it hands back.
  Conditions: the text is no longer than a machine's.
-/
namespace Go.Proofs.YtkedjammeoaciaaGreatDoor
open Go.RowKit Go.ChangeShapes Go.WideShapes

def digits10 : List UInt8 := [48, 49, 50, 51, 52, 53, 54, 55, 56, 57]
theorem digits10_mem (x : UInt8) : digits10.contains x = isDig x := by
  rw [Bool.eq_iff_iff]
  unfold isDig digits10
  rw [List.contains_iff_mem]
  simp only [List.mem_cons, List.not_mem_nil, or_false, Bool.and_eq_true, decide_eq_true_eq]
  have key : ∀ n : Nat, n < 256 → (x = UInt8.ofNat n ↔ x.toNat = n) := fun n hn => by
    rw [← UInt8.toNat_inj, UInt8.toNat_ofNat_of_lt' hn]
  rw [show (48 : UInt8) = UInt8.ofNat 48 from rfl, show (49 : UInt8) = UInt8.ofNat 49 from rfl, show (50 : UInt8) = UInt8.ofNat 50 from rfl, show (51 : UInt8) = UInt8.ofNat 51 from rfl, show (52 : UInt8) = UInt8.ofNat 52 from rfl,
    show (53 : UInt8) = UInt8.ofNat 53 from rfl, show (54 : UInt8) = UInt8.ofNat 54 from rfl, show (55 : UInt8) = UInt8.ofNat 55 from rfl, show (56 : UInt8) = UInt8.ofNat 56 from rfl, show (57 : UInt8) = UInt8.ofNat 57 from rfl,
    key 48 (by decide), key 49 (by decide), key 50 (by decide), key 51 (by decide), key 52 (by decide), key 53 (by decide), key 54 (by decide), key 55 (by decide), key 56 (by decide), key 57 (by decide)]
  omega
theorem dropWhile_nil {p : UInt8 → Bool} {l : List UInt8} : l.dropWhile p = [] ↔ ∀ x ∈ l, p x = true := by
  induction l with
  | nil => simp
  | cons x l ih =>
    rw [List.dropWhile_cons]
    by_cases h : p x = true
    · rw [if_pos h, ih]; simp [h]
    · rw [if_neg h]; simp [h]
theorem trimS_digits (l : List UInt8) : Lib.trimS l digits10 = [] ↔ l.all isDig = true := by
  unfold Lib.trimS Lib.trimLeftS Lib.trimRightS
  rw [dropWhile_nil, List.all_eq_true]
  simp only [digits10_mem]
  constructor
  · intro h
    have h2 : (l.reverse.dropWhile isDig).reverse = [] := by
      rcases hq : l.reverse.dropWhile isDig with _ | ⟨y, m⟩
      · rfl
      · have h3 := List.head?_dropWhile_not isDig l.reverse
        rw [hq] at h3 h
        have h4 := h y (by simp)
        simp at h3
        rw [h4] at h3; cases h3
    have h5 : l.reverse.dropWhile isDig = [] := by simpa using h2
    rw [dropWhile_nil] at h5
    intro x hx
    exact h5 x (by simpa using hx)
  · intro h x hx
    have h5 : l.reverse.dropWhile isDig = [] := by rw [dropWhile_nil]; intro y hy; exact h y (by simpa using hy)
    rw [h5] at hx; simp at hx
theorem trim_digits (l : List UInt8) (w : World) (hl : l.length ≤ 9223372036854775807) :
    Calls Tryz.prog 134 #[.string ⟨l.toArray⟩, .string ⟨#[48, 49, 50, 51, 52, 53, 54, 55, 56, 57]⟩] w (RetV w (.string ⟨(Lib.trimS l digits10).toArray⟩)) := by
  have h := Any.strings_Trim_laid Tryz.lays160 (by kernel_rfl) ⟨l.toArray⟩ ⟨#[48, 49, 50, 51, 52, 53, 54, 55, 56, 57]⟩ w (by simpa [ByteArray.size] using hl) (by decide) (Go.Proofs.ascii_of_all (by decide))
  exact h
end Go.Proofs.YtkedjammeoaciaaGreatDoor
/-
  natural.Parse: its short ways, its bytes.
  Conditions: each theorem's own.
-/
namespace Go.Proofs.YtkedjammeoaciaaGreatDoor
open Go.RowKit Go.ChangeShapes Go.WideShapes

theorem parC_big {l : List UInt8} (h : 65536 < l.length) : parC l = 4 ∧ parV l = 0 := by
  have h1 : parC l = 4 := by unfold parC; rw [if_pos h]
  exact ⟨h1, by unfold parV; rw [h1, if_neg (by decide)]⟩
theorem parC_form {l : List UInt8} (h : l.length ≤ 65536) (h2 : l = [] ∨ (l.head? = some 48 ∧ 1 < l.length)) : parC l = 2 ∧ parV l = 0 := by
  have h1 : parC l = 2 := by unfold parC; rw [if_neg (by omega), if_pos h2]
  exact ⟨h1, by unfold parV; rw [h1, if_neg (by decide)]⟩
theorem parC_scan {l : List UInt8} (h : l.length ≤ 65536) (h2 : ¬ (l = [] ∨ (l.head? = some 48 ∧ 1 < l.length))) : parC l = (if l.all isDig then 0 else 2) ∧ parV l = if l.all isDig then decN l else 0 := by
  have h1 : parC l = if l.all isDig then 0 else 2 := by unfold parC; rw [if_neg (by omega), if_neg h2]
  refine ⟨h1, ?_⟩
  unfold parV; rw [h1]
  by_cases h3 : l.all isDig = true
  · rw [if_pos h3, if_pos h3, if_pos rfl]
  · rw [if_neg h3, if_neg h3, if_neg (by decide)]
/-- the ways of a text -/
theorem par_cases (l : List UInt8) : 65536 < l.length ∨ l = [] ∨ (∃ y m, l = 48 :: y :: m ∧ l.length ≤ 65536) ∨ (l.length ≤ 65536 ∧ ¬ (l = [] ∨ (l.head? = some 48 ∧ 1 < l.length)) ∧ ∃ h : 0 < l.length, l[0].toNat = 48 → l.length = 1) := by
  by_cases h1 : 65536 < l.length
  · exact .inl h1
  · cases l with
    | nil => exact .inr (.inl rfl)
    | cons x l =>
      by_cases h2 : x = 48 ∧ 0 < l.length
      · obtain ⟨rfl, h3⟩ := h2
        cases l with
        | nil => simp at h3
        | cons y l => exact .inr (.inr (.inl ⟨y, l, rfl, by omega⟩))
      · refine .inr (.inr (.inr ⟨by omega, ?_, by simp, ?_⟩))
        · rintro (h | ⟨h, h4⟩)
          · cases h
          · exact h2 ⟨by simpa using h, by simp at h4; omega⟩
        · intro e
          have e1 : x = 48 := UInt8.toNat_inj.1 e
          have h5 : ¬ 0 < l.length := fun h6 => h2 ⟨e1, h6⟩
          rw [List.length_cons]; omega

/-- '[]byte(s)' -/
theorem conv_bytes (l : List UInt8) (wx : World) : ∃ c w2, (convert 9 113 (.string ⟨l.toArray⟩)).run Tryz.prog wx = .ok (.slice (some ⟨wx.heap.size, 0, none⟩) l.length c) w2 ∧ Below wx.heap.size wx w2 ∧
    ∀ k (h : k < l.length), w2.cell? ⟨wx.heap.size, k, none⟩ = some (.int .u8 ((l[k]).toNat : Nat)) := by
  have h := run_bytes_of_string (P := Tryz.prog) wx 9 113 5 ⟨l.toArray⟩ Tryz.underlying9 Tryz.underlying113 Tryz.underlying5
  have hs : (ByteArray.mk l.toArray).size = l.length := by simp [ByteArray.size]
  refine ⟨_, _, h.trans (by rw [hs]), (Below.refl _ _).drew.alloc (by simp) _, ?_⟩
  intro k hk
  have e : wx.heap.size = wx.drew.heap.size := by simp
  rw [e, cell_of_row _ _ _ _ _ _ (heap_alloc_new _ _)]
  unfold bytesRow
  rw [Array.getElem?_append_left (by simp; exact hk)]
  simp [hk]
set_option maxRecDepth 100000 in
set_option maxHeartbeats 400000 in
theorem parse_large (l : List UInt8) (w : World) (h : 65536 < l.length) (hm : l.length ≤ 9223372036854775807) :
    Calls Tryz.prog 106 #[.string ⟨l.toArray⟩] w (RetNE w 0 (errV 4)) := by
  rw [errV_pos (by decide)]
  have f1 : decide ((65536 : Int) < (l.length : Int)) = true := decide_eq_true (by omega)
  go_enter Tryz.func106, Tryz.ntmps106
  go_wp2_with fail
  go_ret2
  exact ⟨_, rfl, Below.refl _ _, by rw [wd_zero]; exact Num.nil _⟩
set_option maxRecDepth 100000 in
set_option maxHeartbeats 400000 in
theorem parse_empty (w : World) :
    Calls Tryz.prog 106 #[.string ⟨([] : List UInt8).toArray⟩] w (RetNE w 0 (errV 2)) := by
  rw [errV_pos (by decide)]
  go_enter Tryz.func106, Tryz.ntmps106
  go_wp2_with fail
  go_ret2
  exact ⟨_, rfl, Below.refl _ _, by rw [wd_zero]; exact Num.nil _⟩
set_option maxRecDepth 100000 in
set_option maxHeartbeats 400000 in
theorem parse_zero (y : UInt8) (l : List UInt8) (w : World) (h : l.length ≤ 65534) :
    Calls Tryz.prog 106 #[.string ⟨(48 :: y :: l).toArray⟩] w (RetNE w 0 (errV 2)) := by
  rw [errV_pos (by decide)]
  have f1 : decide ((65536 : Int) < (l.length : Int) + 1 + 1) = false := decide_eq_false (by omega)
  have f2 : decide ((1 : Int) < (l.length : Int) + 1 + 1) = true := decide_eq_true (by omega)
  go_enter Tryz.func106, Tryz.ntmps106
  go_wp2_with fail
  go_ret2
  exact ⟨_, rfl, Below.refl _ _, by rw [wd_zero]; exact Num.nil _⟩
end Go.Proofs.YtkedjammeoaciaaGreatDoor
