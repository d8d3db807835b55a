/-
  The texts Rat15, Rat16, Rat9, RatLaw5, OpenR, Close, one behind the other.
  Conditions: each theorem's own.
-/
import Derived.Lib.SmallJoins
import Derived.Carry
import Derived.ShutString
import Derived.OpenShut
import Derived.Test.YtkedjammeoaciaaGreatDoorM6
/-
  Int, Prob and the reference's Int, Prob: what they hand back.
  Conditions: each theorem's own.
-/
namespace Go.Proofs.YtkedjammeoaciaaGreatDoor
open Go.RowKit Go.ChangeShapes Go.WideShapes

theorem cmpN_ne {m n : Nat} (h : m ≠ n) : cmpN m n ≠ 0 := fun e => h (cmpN_zero e)
theorem ri_part {p : Rat} (h : p.den ≠ 1) : riV p = 0 ∧ riB p = false := by
  unfold riV riB; rw [if_neg (fun k => h k.1)]; exact ⟨rfl, decide_eq_false (fun k => h k.1)⟩
theorem ri_least {p : Rat} (h : p.den = 1) (hs : ng p = true) (hn : nn p = 9223372036854775808) : riV p = -9223372036854775808 ∧ riB p = true := by
  have hm := num_sgn p
  rw [hs, hn] at hm
  have hm2 : p.num = -9223372036854775808 := hm
  unfold riV riB; rw [hm2]
  exact ⟨if_pos ⟨h, by decide, by decide⟩, decide_eq_true ⟨h, by decide, by decide⟩⟩
theorem ri_in {p : Rat} (h : p.den = 1) (hn : nn p < 9223372036854775808) : riV p = sgn (ng p) (nn p) ∧ riB p = true := by
  have hm := num_sgn p
  have hb : -9223372036854775808 ≤ p.num ∧ p.num < 9223372036854775808 := by rw [hm]; unfold sgn; split <;> omega
  unfold riV riB
  rw [if_pos ⟨h, hb.1, hb.2⟩, hm]
  rw [hm] at hb
  exact ⟨rfl, decide_eq_true ⟨h, hb.1, hb.2⟩⟩
theorem ri_out {p : Rat} (h1 : 9223372036854775808 ≤ nn p) (h2 : ng p = true → nn p ≠ 9223372036854775808) : riV p = 0 ∧ riB p = false := by
  have hm := num_sgn p
  have hb : ¬ (-9223372036854775808 ≤ p.num ∧ p.num < 9223372036854775808) := by
    rw [hm]; unfold sgn
    cases hs : ng p with
    | true => have := h2 hs; simp; omega
    | false => simp; omega
  unfold riV riB
  exact ⟨if_neg (fun k => hb k.2), decide_eq_false (fun k => hb k.2)⟩
set_option maxRecDepth 100000 in
set_option maxHeartbeats 3200000 in
theorem intq_part (vp : Value) (p : Rat) (w : World) (hp : RatIs w vp p) (hd : p.den ≠ 1) :
    Calls Tryz.prog 13 #[vp] w (RetV w (.tuple #[.int .i64 (riV p), .bool (riB p)])) := by
  obtain ⟨sp, op, np, cp, ap, mp, dp, rfl⟩ := hp.shape
  have hlp := hp.rl
  have hb0 := ((Below.refl w.heap.size w).alloc (by first | (simp; done) | (simp; omega)) (.cells #[.bool sp, .slice op np cp, .slice ap mp dp] 24))
  have hxp := nest1_0 w (.cells #[.bool sp, .slice op np cp, .slice ap mp dp] 24)
  have hpp := hp.below hb0
  obtain ⟨w0, hw0⟩ : ∃ w0, w0 = (w.alloc (.cells #[.bool sp, .slice op np cp, .slice ap mp dp] 24)) := ⟨_, rfl⟩
  rw [← hw0] at hb0 hxp hpp
  have HB0 := Lib.hid hb0; have HW0 := Lib.hid hw0
  have BXp := Lib.hid hxp
  have Fp := Lib.hid hpp
  clear hb0 hw0 hxp hpp hp
  have l1 := rl_n p; have l2 := rl_d p
  have hr := ri_part hd
  rw [hr.1, hr.2]; clear hr
  obtain ⟨N, hN⟩ : ∃ N, N = nn p := ⟨_, rfl⟩
  obtain ⟨c, hc⟩ : ∃ c, c = cmpN p.den 1 := ⟨_, rfl⟩
  have g1 : (c != 0) = true := by have := cmpN_ne hd; rw [← hc] at this; simp; exact this
  rw [← hN] at l1
  have HN := Lib.hid hN; have HC := Lib.hid hc; clear hN hc hd
  go_enter Tryz.func13, Tryz.ntmps13
  have hs := parts_any _ p w0 Fp.out
  have HS := Lib.hid hs; clear hs
  go_wp2_with fail
  rw [← HW0.out]
  (with_reducible refine HS.out.mono ?_); rintro e w1 ⟨v1, u1, rfl, hb1, hn1, hm1⟩
  clear HS
  rw [← HN.out] at hn1
  have HB1 := Lib.hid (HB0.out.step hb1)
  have Fp := Lib.hid (Fp.out.below hb1)
  have BXp := Lib.hid (heap_below BXp.out hb1)
  have NW := Lib.hid hn1
  have DW := Lib.hid hm1
  clear hn1 hm1
  clear hb1
  have hs := one_any w1
  have HS := Lib.hid hs; clear hs
  go_wp2_with fail
  (with_reducible refine HS.out.mono ?_); rintro e w2 ⟨v2, rfl, hb2, hn2⟩
  clear HS
  have HB2 := Lib.hid (HB1.out.step hb2)
  have Fp := Lib.hid (Fp.out.below hb2)
  have NW := Lib.hid (NW.out.below hb2)
  have DW := Lib.hid (DW.out.below hb2)
  have BXp := Lib.hid (heap_below BXp.out hb2)
  have ONE := Lib.hid hn2; clear hn2
  clear hb2
  have hs := cmpN_ DW.out ONE.out (by omega) (by rw [wd_one_len]; decide)
  rw [← HC.out] at hs
  have HS := Lib.hid hs; clear hs
  go_wp2_with fail
  (with_reducible refine HS.out.mono ?_); rintro e w3 ⟨rfl, hb3⟩
  clear HS
  have HB3 := Lib.hid (HB2.out.step hb3)
  have Fp := Lib.hid (Fp.out.below hb3)
  have NW := Lib.hid (NW.out.below hb3)
  have DW := Lib.hid (DW.out.below hb3)
  have ONE := Lib.hid (ONE.out.below hb3)
  have BXp := Lib.hid (heap_below BXp.out hb3)
  clear hb3
  go_wp2_with fail
  go_ret2
  exact ⟨rfl, HB3.out⟩
set_option maxRecDepth 100000 in
set_option maxHeartbeats 3200000 in
theorem intq_least (vp : Value) (p : Rat) (w : World) (hp : RatIs w vp p) (hd : p.den = 1) (hs : ng p = true) (hn : nn p = 9223372036854775808) :
    Calls Tryz.prog 13 #[vp] w (RetV w (.tuple #[.int .i64 (riV p), .bool (riB p)])) := by
  obtain ⟨sp, op, np, cp, ap, mp, dp, rfl⟩ := hp.shape
  have hlp := hp.rl
  have hb0 := ((Below.refl w.heap.size w).alloc (by first | (simp; done) | (simp; omega)) (.cells #[.bool sp, .slice op np cp, .slice ap mp dp] 24))
  have hxp := nest1_0 w (.cells #[.bool sp, .slice op np cp, .slice ap mp dp] 24)
  have hpp := hp.below hb0
  obtain ⟨w0, hw0⟩ : ∃ w0, w0 = (w.alloc (.cells #[.bool sp, .slice op np cp, .slice ap mp dp] 24)) := ⟨_, rfl⟩
  rw [← hw0] at hb0 hxp hpp
  have HB0 := Lib.hid hb0; have HW0 := Lib.hid hw0
  have BXp := Lib.hid hxp
  have Fp := Lib.hid hpp
  clear hb0 hw0 hxp hpp hp
  have l1 := rl_n p; have l2 := rl_d p
  have hr := ri_least hd hs hn
  rw [hr.1, hr.2]; clear hr
  have HS0 := Lib.hid hs
  obtain ⟨N, hN⟩ : ∃ N, N = nn p := ⟨_, rfl⟩
  obtain ⟨c, hc⟩ : ∃ c, c = cmpN p.den 1 := ⟨_, rfl⟩
  have g1 : (c != 0) = false := by rw [hc, hd]; rfl
  obtain ⟨c2, hc2⟩ : ∃ c, c = cmpN N 9223372036854775808 := ⟨_, rfl⟩
  rw [← hN] at hn
  have g2 : (c2 == 0) = true := by rw [hc2, hn, beq_iff_eq]; exact cmpN_eq rfl
  have HC2 := Lib.hid hc2; clear hc2
  rw [← hN] at l1
  have HNN := Lib.hid hn; clear hn
  have HN := Lib.hid hN; have HC := Lib.hid hc; clear hN hc hd hs
  go_enter Tryz.func13, Tryz.ntmps13
  have hs := parts_any _ p w0 Fp.out
  have HS := Lib.hid hs; clear hs
  go_wp2_with fail
  rw [← HW0.out]
  (with_reducible refine HS.out.mono ?_); rintro e w1 ⟨v1, u1, rfl, hb1, hn1, hm1⟩
  clear HS
  rw [HS0.out]
  rw [← HN.out] at hn1
  have HB1 := Lib.hid (HB0.out.step hb1)
  have Fp := Lib.hid (Fp.out.below hb1)
  have BXp := Lib.hid (heap_below BXp.out hb1)
  have NW := Lib.hid hn1
  have DW := Lib.hid hm1
  clear hn1 hm1
  clear hb1
  have hs := one_any w1
  have HS := Lib.hid hs; clear hs
  go_wp2_with fail
  (with_reducible refine HS.out.mono ?_); rintro e w2 ⟨v2, rfl, hb2, hn2⟩
  clear HS
  have HB2 := Lib.hid (HB1.out.step hb2)
  have Fp := Lib.hid (Fp.out.below hb2)
  have NW := Lib.hid (NW.out.below hb2)
  have DW := Lib.hid (DW.out.below hb2)
  have BXp := Lib.hid (heap_below BXp.out hb2)
  have ONE := Lib.hid hn2; clear hn2
  clear hb2
  have hs := cmpN_ DW.out ONE.out (by omega) (by rw [wd_one_len]; decide)
  rw [← HC.out] at hs
  have HS := Lib.hid hs; clear hs
  go_wp2_with fail
  (with_reducible refine HS.out.mono ?_); rintro e w3 ⟨rfl, hb3⟩
  clear HS
  have HB3 := Lib.hid (HB2.out.step hb3)
  have Fp := Lib.hid (Fp.out.below hb3)
  have NW := Lib.hid (NW.out.below hb3)
  have DW := Lib.hid (DW.out.below hb3)
  have ONE := Lib.hid (ONE.out.below hb3)
  have BXp := Lib.hid (heap_below BXp.out hb3)
  clear hb3
  have hs := size_any (-9223372036854775808) w3 (by decide) (by decide)
  rw [show (-9223372036854775808 : Int).natAbs = 9223372036854775808 from rfl] at hs
  have HS := Lib.hid hs; clear hs
  go_wp2_with fail
  (with_reducible refine HS.out.mono ?_); rintro e w4 ⟨v4, rfl, hb4, hn4⟩
  clear HS
  have HB4 := Lib.hid (HB3.out.step hb4)
  have Fp := Lib.hid (Fp.out.below hb4)
  have NW := Lib.hid (NW.out.below hb4)
  have DW := Lib.hid (DW.out.below hb4)
  have ONE := Lib.hid (ONE.out.below hb4)
  have BXp := Lib.hid (heap_below BXp.out hb4)
  have SZ := Lib.hid hn4; clear hn4
  clear hb4
  have hs := cmpN_ NW.out SZ.out (by omega) (by have := wd_small (n := 9223372036854775808) (Nat.le_refl _); omega)
  rw [← HC2.out] at hs
  have HS := Lib.hid hs; clear hs
  go_wp2_with fail
  (with_reducible refine HS.out.mono ?_); rintro e w5 ⟨rfl, hb5⟩
  clear HS
  have HB5 := Lib.hid (HB4.out.step hb5)
  have Fp := Lib.hid (Fp.out.below hb5)
  have NW := Lib.hid (NW.out.below hb5)
  have DW := Lib.hid (DW.out.below hb5)
  have ONE := Lib.hid (ONE.out.below hb5)
  have SZ := Lib.hid (SZ.out.below hb5)
  have BXp := Lib.hid (heap_below BXp.out hb5)
  clear hb5
  go_wp2_with fail
  go_ret2
  exact ⟨rfl, HB5.out⟩
set_option maxRecDepth 100000 in
set_option maxHeartbeats 3200000 in
theorem intq_inp (vp : Value) (p : Rat) (w : World) (hp : RatIs w vp p) (hd : p.den = 1) (hs : ng p = false) (hn : nn p < 9223372036854775808) :
    Calls Tryz.prog 13 #[vp] w (RetV w (.tuple #[.int .i64 (riV p), .bool (riB p)])) := by
  obtain ⟨sp, op, np, cp, ap, mp, dp, rfl⟩ := hp.shape
  have hlp := hp.rl
  have hb0 := ((Below.refl w.heap.size w).alloc (by first | (simp; done) | (simp; omega)) (.cells #[.bool sp, .slice op np cp, .slice ap mp dp] 24))
  have hxp := nest1_0 w (.cells #[.bool sp, .slice op np cp, .slice ap mp dp] 24)
  have hpp := hp.below hb0
  obtain ⟨w0, hw0⟩ : ∃ w0, w0 = (w.alloc (.cells #[.bool sp, .slice op np cp, .slice ap mp dp] 24)) := ⟨_, rfl⟩
  rw [← hw0] at hb0 hxp hpp
  have HB0 := Lib.hid hb0; have HW0 := Lib.hid hw0
  have BXp := Lib.hid hxp
  have Fp := Lib.hid hpp
  clear hb0 hw0 hxp hpp hp
  have l1 := rl_n p; have l2 := rl_d p
  have hr := ri_in hd hn; rw [hs] at hr; have hr : riV p = (nn p : Int) ∧ riB p = true := hr
  rw [hr.1, hr.2]; clear hr
  have HS0 := Lib.hid hs
  obtain ⟨N, hN⟩ : ∃ N, N = nn p := ⟨_, rfl⟩
  obtain ⟨c, hc⟩ : ∃ c, c = cmpN p.den 1 := ⟨_, rfl⟩
  have g1 : (c != 0) = false := by rw [hc, hd]; rfl
  rw [← hN] at hn
  rw [← hN] at l1 ⊢
  have HN := Lib.hid hN; have HC := Lib.hid hc; clear hN hc hd hs
  go_enter Tryz.func13, Tryz.ntmps13
  have hs := parts_any _ p w0 Fp.out
  have HS := Lib.hid hs; clear hs
  go_wp2_with fail
  rw [← HW0.out]
  (with_reducible refine HS.out.mono ?_); rintro e w1 ⟨v1, u1, rfl, hb1, hn1, hm1⟩
  clear HS
  rw [HS0.out]
  rw [← HN.out] at hn1
  have HB1 := Lib.hid (HB0.out.step hb1)
  have Fp := Lib.hid (Fp.out.below hb1)
  have BXp := Lib.hid (heap_below BXp.out hb1)
  have NW := Lib.hid hn1
  have DW := Lib.hid hm1
  clear hn1 hm1
  clear hb1
  have hs := one_any w1
  have HS := Lib.hid hs; clear hs
  go_wp2_with fail
  (with_reducible refine HS.out.mono ?_); rintro e w2 ⟨v2, rfl, hb2, hn2⟩
  clear HS
  have HB2 := Lib.hid (HB1.out.step hb2)
  have Fp := Lib.hid (Fp.out.below hb2)
  have NW := Lib.hid (NW.out.below hb2)
  have DW := Lib.hid (DW.out.below hb2)
  have BXp := Lib.hid (heap_below BXp.out hb2)
  have ONE := Lib.hid hn2; clear hn2
  clear hb2
  have hs := cmpN_ DW.out ONE.out (by omega) (by rw [wd_one_len]; decide)
  rw [← HC.out] at hs
  have HS := Lib.hid hs; clear hs
  go_wp2_with fail
  (with_reducible refine HS.out.mono ?_); rintro e w3 ⟨rfl, hb3⟩
  clear HS
  have HB3 := Lib.hid (HB2.out.step hb3)
  have Fp := Lib.hid (Fp.out.below hb3)
  have NW := Lib.hid (NW.out.below hb3)
  have DW := Lib.hid (DW.out.below hb3)
  have ONE := Lib.hid (ONE.out.below hb3)
  have BXp := Lib.hid (heap_below BXp.out hb3)
  clear hb3
  have hs := int_yes _ _ w3 NW.out (by omega) (by rw [val_wd]; omega)
  rw [val_wd] at hs
  have HS := Lib.hid hs; clear hs
  go_wp2_with fail
  (with_reducible refine HS.out.mono ?_); rintro e wx ⟨rfl, rfl⟩
  clear HS
  go_wp2_with fail
  go_ret2
  exact ⟨by first | rfl | (simp; done), HB3.out⟩
set_option maxRecDepth 100000 in
set_option maxHeartbeats 3200000 in
theorem intq_inn (vp : Value) (p : Rat) (w : World) (hp : RatIs w vp p) (hd : p.den = 1) (hs : ng p = true) (hn : nn p < 9223372036854775808) :
    Calls Tryz.prog 13 #[vp] w (RetV w (.tuple #[.int .i64 (riV p), .bool (riB p)])) := by
  obtain ⟨sp, op, np, cp, ap, mp, dp, rfl⟩ := hp.shape
  have hlp := hp.rl
  have hb0 := ((Below.refl w.heap.size w).alloc (by first | (simp; done) | (simp; omega)) (.cells #[.bool sp, .slice op np cp, .slice ap mp dp] 24))
  have hxp := nest1_0 w (.cells #[.bool sp, .slice op np cp, .slice ap mp dp] 24)
  have hpp := hp.below hb0
  obtain ⟨w0, hw0⟩ : ∃ w0, w0 = (w.alloc (.cells #[.bool sp, .slice op np cp, .slice ap mp dp] 24)) := ⟨_, rfl⟩
  rw [← hw0] at hb0 hxp hpp
  have HB0 := Lib.hid hb0; have HW0 := Lib.hid hw0
  have BXp := Lib.hid hxp
  have Fp := Lib.hid hpp
  clear hb0 hw0 hxp hpp hp
  have l1 := rl_n p; have l2 := rl_d p
  have hr := ri_in hd hn; rw [hs] at hr; have hr : riV p = -(nn p : Int) ∧ riB p = true := hr
  rw [hr.1, hr.2]; clear hr
  have HS0 := Lib.hid hs
  obtain ⟨N, hN⟩ : ∃ N, N = nn p := ⟨_, rfl⟩
  obtain ⟨c, hc⟩ : ∃ c, c = cmpN p.den 1 := ⟨_, rfl⟩
  have g1 : (c != 0) = false := by rw [hc, hd]; rfl
  obtain ⟨c2, hc2⟩ : ∃ c, c = cmpN N 9223372036854775808 := ⟨_, rfl⟩
  rw [← hN] at hn
  have g2 : (c2 == 0) = false := by rw [hc2, beq_eq_false_iff_ne]; exact cmpN_ne (by omega)
  have HC2 := Lib.hid hc2; clear hc2
  rw [← hN] at l1 ⊢
  have HN := Lib.hid hN; have HC := Lib.hid hc; clear hN hc hd hs
  go_enter Tryz.func13, Tryz.ntmps13
  have hs := parts_any _ p w0 Fp.out
  have HS := Lib.hid hs; clear hs
  go_wp2_with fail
  rw [← HW0.out]
  (with_reducible refine HS.out.mono ?_); rintro e w1 ⟨v1, u1, rfl, hb1, hn1, hm1⟩
  clear HS
  rw [HS0.out]
  rw [← HN.out] at hn1
  have HB1 := Lib.hid (HB0.out.step hb1)
  have Fp := Lib.hid (Fp.out.below hb1)
  have BXp := Lib.hid (heap_below BXp.out hb1)
  have NW := Lib.hid hn1
  have DW := Lib.hid hm1
  clear hn1 hm1
  clear hb1
  have hs := one_any w1
  have HS := Lib.hid hs; clear hs
  go_wp2_with fail
  (with_reducible refine HS.out.mono ?_); rintro e w2 ⟨v2, rfl, hb2, hn2⟩
  clear HS
  have HB2 := Lib.hid (HB1.out.step hb2)
  have Fp := Lib.hid (Fp.out.below hb2)
  have NW := Lib.hid (NW.out.below hb2)
  have DW := Lib.hid (DW.out.below hb2)
  have BXp := Lib.hid (heap_below BXp.out hb2)
  have ONE := Lib.hid hn2; clear hn2
  clear hb2
  have hs := cmpN_ DW.out ONE.out (by omega) (by rw [wd_one_len]; decide)
  rw [← HC.out] at hs
  have HS := Lib.hid hs; clear hs
  go_wp2_with fail
  (with_reducible refine HS.out.mono ?_); rintro e w3 ⟨rfl, hb3⟩
  clear HS
  have HB3 := Lib.hid (HB2.out.step hb3)
  have Fp := Lib.hid (Fp.out.below hb3)
  have NW := Lib.hid (NW.out.below hb3)
  have DW := Lib.hid (DW.out.below hb3)
  have ONE := Lib.hid (ONE.out.below hb3)
  have BXp := Lib.hid (heap_below BXp.out hb3)
  clear hb3
  have hs := size_any (-9223372036854775808) w3 (by decide) (by decide)
  rw [show (-9223372036854775808 : Int).natAbs = 9223372036854775808 from rfl] at hs
  have HS := Lib.hid hs; clear hs
  go_wp2_with fail
  (with_reducible refine HS.out.mono ?_); rintro e w4 ⟨v4, rfl, hb4, hn4⟩
  clear HS
  have HB4 := Lib.hid (HB3.out.step hb4)
  have Fp := Lib.hid (Fp.out.below hb4)
  have NW := Lib.hid (NW.out.below hb4)
  have DW := Lib.hid (DW.out.below hb4)
  have ONE := Lib.hid (ONE.out.below hb4)
  have BXp := Lib.hid (heap_below BXp.out hb4)
  have SZ := Lib.hid hn4; clear hn4
  clear hb4
  have hs := cmpN_ NW.out SZ.out (by omega) (by have := wd_small (n := 9223372036854775808) (Nat.le_refl _); omega)
  rw [← HC2.out] at hs
  have HS := Lib.hid hs; clear hs
  go_wp2_with fail
  (with_reducible refine HS.out.mono ?_); rintro e w5 ⟨rfl, hb5⟩
  clear HS
  have HB5 := Lib.hid (HB4.out.step hb5)
  have Fp := Lib.hid (Fp.out.below hb5)
  have NW := Lib.hid (NW.out.below hb5)
  have DW := Lib.hid (DW.out.below hb5)
  have ONE := Lib.hid (ONE.out.below hb5)
  have SZ := Lib.hid (SZ.out.below hb5)
  have BXp := Lib.hid (heap_below BXp.out hb5)
  clear hb5
  have hs := int_yes _ _ w5 NW.out (by omega) (by rw [val_wd]; omega)
  rw [val_wd] at hs
  have HS := Lib.hid hs; clear hs
  go_wp2_with fail
  (with_reducible refine HS.out.mono ?_); rintro e wx ⟨rfl, rfl⟩
  clear HS
  go_wp2_with fail
  go_ret2
  exact ⟨by first | rfl | (simp; done), HB5.out⟩
set_option maxRecDepth 100000 in
set_option maxHeartbeats 3200000 in
theorem intq_outp (vp : Value) (p : Rat) (w : World) (hp : RatIs w vp p) (hd : p.den = 1) (hs : ng p = false) (hn : 9223372036854775808 ≤ nn p) :
    Calls Tryz.prog 13 #[vp] w (RetV w (.tuple #[.int .i64 (riV p), .bool (riB p)])) := by
  obtain ⟨sp, op, np, cp, ap, mp, dp, rfl⟩ := hp.shape
  have hlp := hp.rl
  have hb0 := ((Below.refl w.heap.size w).alloc (by first | (simp; done) | (simp; omega)) (.cells #[.bool sp, .slice op np cp, .slice ap mp dp] 24))
  have hxp := nest1_0 w (.cells #[.bool sp, .slice op np cp, .slice ap mp dp] 24)
  have hpp := hp.below hb0
  obtain ⟨w0, hw0⟩ : ∃ w0, w0 = (w.alloc (.cells #[.bool sp, .slice op np cp, .slice ap mp dp] 24)) := ⟨_, rfl⟩
  rw [← hw0] at hb0 hxp hpp
  have HB0 := Lib.hid hb0; have HW0 := Lib.hid hw0
  have BXp := Lib.hid hxp
  have Fp := Lib.hid hpp
  clear hb0 hw0 hxp hpp hp
  have l1 := rl_n p; have l2 := rl_d p
  have hr := ri_out hn (fun h => by rw [hs] at h; cases h)
  rw [hr.1, hr.2]; clear hr
  have HS0 := Lib.hid hs
  obtain ⟨N, hN⟩ : ∃ N, N = nn p := ⟨_, rfl⟩
  obtain ⟨c, hc⟩ : ∃ c, c = cmpN p.den 1 := ⟨_, rfl⟩
  have g1 : (c != 0) = false := by rw [hc, hd]; rfl
  rw [← hN] at hn
  rw [← hN] at l1
  have HN := Lib.hid hN; have HC := Lib.hid hc; clear hN hc hd hs
  go_enter Tryz.func13, Tryz.ntmps13
  have hs := parts_any _ p w0 Fp.out
  have HS := Lib.hid hs; clear hs
  go_wp2_with fail
  rw [← HW0.out]
  (with_reducible refine HS.out.mono ?_); rintro e w1 ⟨v1, u1, rfl, hb1, hn1, hm1⟩
  clear HS
  rw [HS0.out]
  rw [← HN.out] at hn1
  have HB1 := Lib.hid (HB0.out.step hb1)
  have Fp := Lib.hid (Fp.out.below hb1)
  have BXp := Lib.hid (heap_below BXp.out hb1)
  have NW := Lib.hid hn1
  have DW := Lib.hid hm1
  clear hn1 hm1
  clear hb1
  have hs := one_any w1
  have HS := Lib.hid hs; clear hs
  go_wp2_with fail
  (with_reducible refine HS.out.mono ?_); rintro e w2 ⟨v2, rfl, hb2, hn2⟩
  clear HS
  have HB2 := Lib.hid (HB1.out.step hb2)
  have Fp := Lib.hid (Fp.out.below hb2)
  have NW := Lib.hid (NW.out.below hb2)
  have DW := Lib.hid (DW.out.below hb2)
  have BXp := Lib.hid (heap_below BXp.out hb2)
  have ONE := Lib.hid hn2; clear hn2
  clear hb2
  have hs := cmpN_ DW.out ONE.out (by omega) (by rw [wd_one_len]; decide)
  rw [← HC.out] at hs
  have HS := Lib.hid hs; clear hs
  go_wp2_with fail
  (with_reducible refine HS.out.mono ?_); rintro e w3 ⟨rfl, hb3⟩
  clear HS
  have HB3 := Lib.hid (HB2.out.step hb3)
  have Fp := Lib.hid (Fp.out.below hb3)
  have NW := Lib.hid (NW.out.below hb3)
  have DW := Lib.hid (DW.out.below hb3)
  have ONE := Lib.hid (ONE.out.below hb3)
  have BXp := Lib.hid (heap_below BXp.out hb3)
  clear hb3
  have hs := int_no _ _ w3 NW.out (by omega) (by rw [val_wd]; omega)
  have HS := Lib.hid hs; clear hs
  go_wp2_with fail
  (with_reducible refine HS.out.mono ?_); rintro e wx ⟨rfl, rfl⟩
  clear HS
  go_wp2_with fail
  go_ret2
  exact ⟨by first | rfl | (simp; done), HB3.out⟩
set_option maxRecDepth 100000 in
set_option maxHeartbeats 3200000 in
theorem intq_outn (vp : Value) (p : Rat) (w : World) (hp : RatIs w vp p) (hd : p.den = 1) (hs : ng p = true) (hn : 9223372036854775808 < nn p) :
    Calls Tryz.prog 13 #[vp] w (RetV w (.tuple #[.int .i64 (riV p), .bool (riB p)])) := by
  obtain ⟨sp, op, np, cp, ap, mp, dp, rfl⟩ := hp.shape
  have hlp := hp.rl
  have hb0 := ((Below.refl w.heap.size w).alloc (by first | (simp; done) | (simp; omega)) (.cells #[.bool sp, .slice op np cp, .slice ap mp dp] 24))
  have hxp := nest1_0 w (.cells #[.bool sp, .slice op np cp, .slice ap mp dp] 24)
  have hpp := hp.below hb0
  obtain ⟨w0, hw0⟩ : ∃ w0, w0 = (w.alloc (.cells #[.bool sp, .slice op np cp, .slice ap mp dp] 24)) := ⟨_, rfl⟩
  rw [← hw0] at hb0 hxp hpp
  have HB0 := Lib.hid hb0; have HW0 := Lib.hid hw0
  have BXp := Lib.hid hxp
  have Fp := Lib.hid hpp
  clear hb0 hw0 hxp hpp hp
  have l1 := rl_n p; have l2 := rl_d p
  have hr := ri_out (Nat.le_of_lt hn) (fun _ => by omega)
  rw [hr.1, hr.2]; clear hr
  have HS0 := Lib.hid hs
  obtain ⟨N, hN⟩ : ∃ N, N = nn p := ⟨_, rfl⟩
  obtain ⟨c, hc⟩ : ∃ c, c = cmpN p.den 1 := ⟨_, rfl⟩
  have g1 : (c != 0) = false := by rw [hc, hd]; rfl
  obtain ⟨c2, hc2⟩ : ∃ c, c = cmpN N 9223372036854775808 := ⟨_, rfl⟩
  rw [← hN] at hn
  have g2 : (c2 == 0) = false := by rw [hc2, beq_eq_false_iff_ne]; exact cmpN_ne (by omega)
  have HC2 := Lib.hid hc2; clear hc2
  rw [← hN] at l1
  have HN := Lib.hid hN; have HC := Lib.hid hc; clear hN hc hd hs
  go_enter Tryz.func13, Tryz.ntmps13
  have hs := parts_any _ p w0 Fp.out
  have HS := Lib.hid hs; clear hs
  go_wp2_with fail
  rw [← HW0.out]
  (with_reducible refine HS.out.mono ?_); rintro e w1 ⟨v1, u1, rfl, hb1, hn1, hm1⟩
  clear HS
  rw [HS0.out]
  rw [← HN.out] at hn1
  have HB1 := Lib.hid (HB0.out.step hb1)
  have Fp := Lib.hid (Fp.out.below hb1)
  have BXp := Lib.hid (heap_below BXp.out hb1)
  have NW := Lib.hid hn1
  have DW := Lib.hid hm1
  clear hn1 hm1
  clear hb1
  have hs := one_any w1
  have HS := Lib.hid hs; clear hs
  go_wp2_with fail
  (with_reducible refine HS.out.mono ?_); rintro e w2 ⟨v2, rfl, hb2, hn2⟩
  clear HS
  have HB2 := Lib.hid (HB1.out.step hb2)
  have Fp := Lib.hid (Fp.out.below hb2)
  have NW := Lib.hid (NW.out.below hb2)
  have DW := Lib.hid (DW.out.below hb2)
  have BXp := Lib.hid (heap_below BXp.out hb2)
  have ONE := Lib.hid hn2; clear hn2
  clear hb2
  have hs := cmpN_ DW.out ONE.out (by omega) (by rw [wd_one_len]; decide)
  rw [← HC.out] at hs
  have HS := Lib.hid hs; clear hs
  go_wp2_with fail
  (with_reducible refine HS.out.mono ?_); rintro e w3 ⟨rfl, hb3⟩
  clear HS
  have HB3 := Lib.hid (HB2.out.step hb3)
  have Fp := Lib.hid (Fp.out.below hb3)
  have NW := Lib.hid (NW.out.below hb3)
  have DW := Lib.hid (DW.out.below hb3)
  have ONE := Lib.hid (ONE.out.below hb3)
  have BXp := Lib.hid (heap_below BXp.out hb3)
  clear hb3
  have hs := size_any (-9223372036854775808) w3 (by decide) (by decide)
  rw [show (-9223372036854775808 : Int).natAbs = 9223372036854775808 from rfl] at hs
  have HS := Lib.hid hs; clear hs
  go_wp2_with fail
  (with_reducible refine HS.out.mono ?_); rintro e w4 ⟨v4, rfl, hb4, hn4⟩
  clear HS
  have HB4 := Lib.hid (HB3.out.step hb4)
  have Fp := Lib.hid (Fp.out.below hb4)
  have NW := Lib.hid (NW.out.below hb4)
  have DW := Lib.hid (DW.out.below hb4)
  have ONE := Lib.hid (ONE.out.below hb4)
  have BXp := Lib.hid (heap_below BXp.out hb4)
  have SZ := Lib.hid hn4; clear hn4
  clear hb4
  have hs := cmpN_ NW.out SZ.out (by omega) (by have := wd_small (n := 9223372036854775808) (Nat.le_refl _); omega)
  rw [← HC2.out] at hs
  have HS := Lib.hid hs; clear hs
  go_wp2_with fail
  (with_reducible refine HS.out.mono ?_); rintro e w5 ⟨rfl, hb5⟩
  clear HS
  have HB5 := Lib.hid (HB4.out.step hb5)
  have Fp := Lib.hid (Fp.out.below hb5)
  have NW := Lib.hid (NW.out.below hb5)
  have DW := Lib.hid (DW.out.below hb5)
  have ONE := Lib.hid (ONE.out.below hb5)
  have SZ := Lib.hid (SZ.out.below hb5)
  have BXp := Lib.hid (heap_below BXp.out hb5)
  clear hb5
  have hs := int_no _ _ w5 NW.out (by omega) (by rw [val_wd]; omega)
  have HS := Lib.hid hs; clear hs
  go_wp2_with fail
  (with_reducible refine HS.out.mono ?_); rintro e wx ⟨rfl, rfl⟩
  clear HS
  go_wp2_with fail
  go_ret2
  exact ⟨by first | rfl | (simp; done), HB5.out⟩
theorem intq_any (vp : Value) (p : Rat) (w : World) (hp : RatIs w vp p) :
    Calls Tryz.prog 13 #[vp] w (RetV w (.tuple #[.int .i64 (riV p), .bool (riB p)])) := by
  by_cases hd : p.den = 1
  · cases hs : ng p with
    | true =>
      rcases Nat.lt_trichotomy (nn p) 9223372036854775808 with h | h | h
      · exact intq_inn vp p w hp hd hs h
      · exact intq_least vp p w hp hd hs h
      · exact intq_outn vp p w hp hd hs h
    | false =>
      rcases Nat.lt_or_ge (nn p) 9223372036854775808 with h | h
      · exact intq_inp vp p w hp hd hs h
      · exact intq_outp vp p w hp hd hs h
  · exact intq_part vp p w hp hd
set_option maxRecDepth 100000 in
set_option maxHeartbeats 3200000 in
theorem rintq_part (vp : Value) (p : Rat) (w : World) (hp : RatIs w vp p) (hd : p.den ≠ 1) :
    Calls Tryz.prog 14 #[vp] w (RetV w (.tuple #[.int .i64 (riV p), .bool (riB p)])) := by
  obtain ⟨sp, op, np, cp, ap, mp, dp, rfl⟩ := hp.shape
  have hlp := hp.rl
  have hb0 := ((Below.refl w.heap.size w).alloc (by first | (simp; done) | (simp; omega)) (.cells #[.bool sp, .slice op np cp, .slice ap mp dp] 24))
  have hxp := nest1_0 w (.cells #[.bool sp, .slice op np cp, .slice ap mp dp] 24)
  have hpp := hp.below hb0
  obtain ⟨w0, hw0⟩ : ∃ w0, w0 = (w.alloc (.cells #[.bool sp, .slice op np cp, .slice ap mp dp] 24)) := ⟨_, rfl⟩
  rw [← hw0] at hb0 hxp hpp
  have HB0 := Lib.hid hb0; have HW0 := Lib.hid hw0
  have BXp := Lib.hid hxp
  have Fp := Lib.hid hpp
  clear hb0 hw0 hxp hpp hp
  have l1 := rl_n p; have l2 := rl_d p
  have hr := ri_part hd
  rw [hr.1, hr.2]; clear hr
  obtain ⟨N, hN⟩ : ∃ N, N = nn p := ⟨_, rfl⟩
  obtain ⟨c, hc⟩ : ∃ c, c = cmpN p.den 1 := ⟨_, rfl⟩
  have g1 : (c != 0) = true := by have := cmpN_ne hd; rw [← hc] at this; simp; exact this
  rw [← hN] at l1
  have HN := Lib.hid hN; have HC := Lib.hid hc; clear hN hc hd
  go_enter Tryz.func14, Tryz.ntmps14
  have hs := rparts_any _ p w0 Fp.out
  have HS := Lib.hid hs; clear hs
  go_wp2_with fail
  rw [← HW0.out]
  (with_reducible refine HS.out.mono ?_); rintro e w1 ⟨v1, u1, rfl, hb1, hn1, hm1⟩
  clear HS
  rw [← HN.out] at hn1
  have HB1 := Lib.hid (HB0.out.step hb1)
  have Fp := Lib.hid (Fp.out.below hb1)
  have BXp := Lib.hid (heap_below BXp.out hb1)
  have NW := Lib.hid hn1
  have DW := Lib.hid hm1
  clear hn1 hm1
  clear hb1
  obtain ⟨w2, hw2⟩ : ∃ w2, w2 = w1.alloc (.cells #[.int .u32 1] 75) := ⟨_, rfl⟩
  have hb2 : Below w1.heap.size w1 w2 := by rw [hw2]; exact (Below.refl _ _).alloc (Nat.le_refl _) _
  have hxD1 := heap_alloc_new w1 (.cells #[.int .u32 1] 75)
  obtain ⟨gD1, hgD1⟩ : ∃ gD1, gD1 = w1.heap.size := ⟨_, rfl⟩
  rw [← hw2, ← hgD1] at hxD1
  have HW2 := Lib.hid hw2; have HGD1 := Lib.hid hgD1; clear hw2 hgD1
  have HB2 := Lib.hid (HB1.out.step hb2)
  have Fp := Lib.hid (Fp.out.below hb2)
  have NW := Lib.hid (NW.out.below hb2)
  have DW := Lib.hid (DW.out.below hb2)
  have BXp := Lib.hid (heap_below BXp.out hb2)
  clear hb2
  have hnD := num_one1 w1
  rw [← HW2.out, ← HGD1.out] at hnD
  have ONE := Lib.hid hnD; clear hnD hxD1
  have hs := rcmpN_ DW.out ONE.out (by omega) (by rw [wd_one_len]; decide)
  rw [← HC.out] at hs
  have HS := Lib.hid hs; clear hs
  go_wp2_with fail
  rw [← HW2.out]
  try rw [← HGD1.out]
  (with_reducible refine HS.out.mono ?_); rintro e wx ⟨rfl, rfl⟩
  clear HS
  go_wp2_with fail
  go_ret2
  exact ⟨rfl, HB2.out⟩
set_option maxRecDepth 100000 in
set_option maxHeartbeats 3200000 in
theorem rintq_least (vp : Value) (p : Rat) (w : World) (hp : RatIs w vp p) (hd : p.den = 1) (hs : ng p = true) (hn : nn p = 9223372036854775808) :
    Calls Tryz.prog 14 #[vp] w (RetV w (.tuple #[.int .i64 (riV p), .bool (riB p)])) := by
  obtain ⟨sp, op, np, cp, ap, mp, dp, rfl⟩ := hp.shape
  have hlp := hp.rl
  have hb0 := ((Below.refl w.heap.size w).alloc (by first | (simp; done) | (simp; omega)) (.cells #[.bool sp, .slice op np cp, .slice ap mp dp] 24))
  have hxp := nest1_0 w (.cells #[.bool sp, .slice op np cp, .slice ap mp dp] 24)
  have hpp := hp.below hb0
  obtain ⟨w0, hw0⟩ : ∃ w0, w0 = (w.alloc (.cells #[.bool sp, .slice op np cp, .slice ap mp dp] 24)) := ⟨_, rfl⟩
  rw [← hw0] at hb0 hxp hpp
  have HB0 := Lib.hid hb0; have HW0 := Lib.hid hw0
  have BXp := Lib.hid hxp
  have Fp := Lib.hid hpp
  clear hb0 hw0 hxp hpp hp
  have l1 := rl_n p; have l2 := rl_d p
  have hr := ri_least hd hs hn
  rw [hr.1, hr.2]; clear hr
  have HS0 := Lib.hid hs
  obtain ⟨N, hN⟩ : ∃ N, N = nn p := ⟨_, rfl⟩
  obtain ⟨c, hc⟩ : ∃ c, c = cmpN p.den 1 := ⟨_, rfl⟩
  have g1 : (c != 0) = false := by rw [hc, hd]; rfl
  obtain ⟨c2, hc2⟩ : ∃ c, c = cmpN N 9223372036854775808 := ⟨_, rfl⟩
  rw [← hN] at hn
  have g2 : (c2 == 0) = true := by rw [hc2, hn, beq_iff_eq]; exact cmpN_eq rfl
  have HC2 := Lib.hid hc2; clear hc2
  rw [← hN] at l1
  have HNN := Lib.hid hn; clear hn
  have HN := Lib.hid hN; have HC := Lib.hid hc; clear hN hc hd hs
  go_enter Tryz.func14, Tryz.ntmps14
  have hs := rparts_any _ p w0 Fp.out
  have HS := Lib.hid hs; clear hs
  go_wp2_with fail
  rw [← HW0.out]
  (with_reducible refine HS.out.mono ?_); rintro e w1 ⟨v1, u1, rfl, hb1, hn1, hm1⟩
  clear HS
  rw [HS0.out]
  rw [← HN.out] at hn1
  have HB1 := Lib.hid (HB0.out.step hb1)
  have Fp := Lib.hid (Fp.out.below hb1)
  have BXp := Lib.hid (heap_below BXp.out hb1)
  have NW := Lib.hid hn1
  have DW := Lib.hid hm1
  clear hn1 hm1
  clear hb1
  obtain ⟨w2, hw2⟩ : ∃ w2, w2 = w1.alloc (.cells #[.int .u32 1] 75) := ⟨_, rfl⟩
  have hb2 : Below w1.heap.size w1 w2 := by rw [hw2]; exact (Below.refl _ _).alloc (Nat.le_refl _) _
  have hxD1 := heap_alloc_new w1 (.cells #[.int .u32 1] 75)
  obtain ⟨gD1, hgD1⟩ : ∃ gD1, gD1 = w1.heap.size := ⟨_, rfl⟩
  rw [← hw2, ← hgD1] at hxD1
  have HW2 := Lib.hid hw2; have HGD1 := Lib.hid hgD1; clear hw2 hgD1
  have HB2 := Lib.hid (HB1.out.step hb2)
  have Fp := Lib.hid (Fp.out.below hb2)
  have NW := Lib.hid (NW.out.below hb2)
  have DW := Lib.hid (DW.out.below hb2)
  have BXp := Lib.hid (heap_below BXp.out hb2)
  clear hb2
  have hnD := num_one1 w1
  rw [← HW2.out, ← HGD1.out] at hnD
  have ONE := Lib.hid hnD; clear hnD hxD1
  have hs := rcmpN_ DW.out ONE.out (by omega) (by rw [wd_one_len]; decide)
  rw [← HC.out] at hs
  have HS := Lib.hid hs; clear hs
  go_wp2_with fail
  rw [← HW2.out]
  try rw [← HGD1.out]
  (with_reducible refine HS.out.mono ?_); rintro e wx ⟨rfl, rfl⟩
  clear HS
  obtain ⟨w4, hw4⟩ : ∃ w4, w4 = w2.alloc (.cells #[.int .u32 0, .int .u32 2147483648] 75) := ⟨_, rfl⟩
  have hb4 : Below w2.heap.size w2 w4 := by rw [hw4]; exact (Below.refl _ _).alloc (Nat.le_refl _) _
  have hxD2 := heap_alloc_new w2 (.cells #[.int .u32 0, .int .u32 2147483648] 75)
  obtain ⟨gD2, hgD2⟩ : ∃ gD2, gD2 = w2.heap.size := ⟨_, rfl⟩
  rw [← hw4, ← hgD2] at hxD2
  have HW4 := Lib.hid hw4; have HGD2 := Lib.hid hgD2; clear hw4 hgD2
  have HB4 := Lib.hid (HB2.out.step hb4)
  have Fp := Lib.hid (Fp.out.below hb4)
  have NW := Lib.hid (NW.out.below hb4)
  have DW := Lib.hid (DW.out.below hb4)
  have ONE := Lib.hid (ONE.out.below hb4)
  have BXp := Lib.hid (heap_below BXp.out hb4)
  clear hb4
  have hnD := num_lit w2 75 #[.int .u32 0, .int .u32 2147483648] [0, 2147483648] 2 (U32.cons (by decide) (U32.cons (by decide) U32.nil)) rfl (by simp) rfl
  rw [← HW4.out, ← HGD2.out, ← wd_two63] at hnD
  have SZ := Lib.hid hnD; clear hnD hxD2
  have hs := rcmpN_ NW.out SZ.out (by omega) (by have := wd_small (n := 9223372036854775808) (Nat.le_refl _); omega)
  rw [← HC2.out] at hs
  have HS := Lib.hid hs; clear hs
  go_wp2_with fail
  rw [← HW4.out]
  try rw [← HGD2.out]
  (with_reducible refine HS.out.mono ?_); rintro e wx ⟨rfl, rfl⟩
  clear HS
  go_wp2_with fail
  go_ret2
  exact ⟨rfl, HB4.out⟩
set_option maxRecDepth 100000 in
set_option maxHeartbeats 3200000 in
theorem rintq_inp (vp : Value) (p : Rat) (w : World) (hp : RatIs w vp p) (hd : p.den = 1) (hs : ng p = false) (hn : nn p < 9223372036854775808) :
    Calls Tryz.prog 14 #[vp] w (RetV w (.tuple #[.int .i64 (riV p), .bool (riB p)])) := by
  obtain ⟨sp, op, np, cp, ap, mp, dp, rfl⟩ := hp.shape
  have hlp := hp.rl
  have hb0 := ((Below.refl w.heap.size w).alloc (by first | (simp; done) | (simp; omega)) (.cells #[.bool sp, .slice op np cp, .slice ap mp dp] 24))
  have hxp := nest1_0 w (.cells #[.bool sp, .slice op np cp, .slice ap mp dp] 24)
  have hpp := hp.below hb0
  obtain ⟨w0, hw0⟩ : ∃ w0, w0 = (w.alloc (.cells #[.bool sp, .slice op np cp, .slice ap mp dp] 24)) := ⟨_, rfl⟩
  rw [← hw0] at hb0 hxp hpp
  have HB0 := Lib.hid hb0; have HW0 := Lib.hid hw0
  have BXp := Lib.hid hxp
  have Fp := Lib.hid hpp
  clear hb0 hw0 hxp hpp hp
  have l1 := rl_n p; have l2 := rl_d p
  have hr := ri_in hd hn; rw [hs] at hr; have hr : riV p = (nn p : Int) ∧ riB p = true := hr
  rw [hr.1, hr.2]; clear hr
  have HS0 := Lib.hid hs
  obtain ⟨N, hN⟩ : ∃ N, N = nn p := ⟨_, rfl⟩
  obtain ⟨c, hc⟩ : ∃ c, c = cmpN p.den 1 := ⟨_, rfl⟩
  have g1 : (c != 0) = false := by rw [hc, hd]; rfl
  rw [← hN] at hn
  rw [← hN] at l1 ⊢
  have HN := Lib.hid hN; have HC := Lib.hid hc; clear hN hc hd hs
  go_enter Tryz.func14, Tryz.ntmps14
  have hs := rparts_any _ p w0 Fp.out
  have HS := Lib.hid hs; clear hs
  go_wp2_with fail
  rw [← HW0.out]
  (with_reducible refine HS.out.mono ?_); rintro e w1 ⟨v1, u1, rfl, hb1, hn1, hm1⟩
  clear HS
  rw [HS0.out]
  rw [← HN.out] at hn1
  have HB1 := Lib.hid (HB0.out.step hb1)
  have Fp := Lib.hid (Fp.out.below hb1)
  have BXp := Lib.hid (heap_below BXp.out hb1)
  have NW := Lib.hid hn1
  have DW := Lib.hid hm1
  clear hn1 hm1
  clear hb1
  obtain ⟨w2, hw2⟩ : ∃ w2, w2 = w1.alloc (.cells #[.int .u32 1] 75) := ⟨_, rfl⟩
  have hb2 : Below w1.heap.size w1 w2 := by rw [hw2]; exact (Below.refl _ _).alloc (Nat.le_refl _) _
  have hxD1 := heap_alloc_new w1 (.cells #[.int .u32 1] 75)
  obtain ⟨gD1, hgD1⟩ : ∃ gD1, gD1 = w1.heap.size := ⟨_, rfl⟩
  rw [← hw2, ← hgD1] at hxD1
  have HW2 := Lib.hid hw2; have HGD1 := Lib.hid hgD1; clear hw2 hgD1
  have HB2 := Lib.hid (HB1.out.step hb2)
  have Fp := Lib.hid (Fp.out.below hb2)
  have NW := Lib.hid (NW.out.below hb2)
  have DW := Lib.hid (DW.out.below hb2)
  have BXp := Lib.hid (heap_below BXp.out hb2)
  clear hb2
  have hnD := num_one1 w1
  rw [← HW2.out, ← HGD1.out] at hnD
  have ONE := Lib.hid hnD; clear hnD hxD1
  have hs := rcmpN_ DW.out ONE.out (by omega) (by rw [wd_one_len]; decide)
  rw [← HC.out] at hs
  have HS := Lib.hid hs; clear hs
  go_wp2_with fail
  rw [← HW2.out]
  try rw [← HGD1.out]
  (with_reducible refine HS.out.mono ?_); rintro e wx ⟨rfl, rfl⟩
  clear HS
  have hs := rint_yes _ _ w2 NW.out (by omega) (by rw [val_wd]; omega)
  rw [val_wd] at hs
  have HS := Lib.hid hs; clear hs
  go_wp2_with fail
  (with_reducible refine HS.out.mono ?_); rintro e wx ⟨rfl, rfl⟩
  clear HS
  go_wp2_with fail
  go_ret2
  exact ⟨by first | rfl | (simp; done), HB2.out⟩
set_option maxRecDepth 100000 in
set_option maxHeartbeats 3200000 in
theorem rintq_inn (vp : Value) (p : Rat) (w : World) (hp : RatIs w vp p) (hd : p.den = 1) (hs : ng p = true) (hn : nn p < 9223372036854775808) :
    Calls Tryz.prog 14 #[vp] w (RetV w (.tuple #[.int .i64 (riV p), .bool (riB p)])) := by
  obtain ⟨sp, op, np, cp, ap, mp, dp, rfl⟩ := hp.shape
  have hlp := hp.rl
  have hb0 := ((Below.refl w.heap.size w).alloc (by first | (simp; done) | (simp; omega)) (.cells #[.bool sp, .slice op np cp, .slice ap mp dp] 24))
  have hxp := nest1_0 w (.cells #[.bool sp, .slice op np cp, .slice ap mp dp] 24)
  have hpp := hp.below hb0
  obtain ⟨w0, hw0⟩ : ∃ w0, w0 = (w.alloc (.cells #[.bool sp, .slice op np cp, .slice ap mp dp] 24)) := ⟨_, rfl⟩
  rw [← hw0] at hb0 hxp hpp
  have HB0 := Lib.hid hb0; have HW0 := Lib.hid hw0
  have BXp := Lib.hid hxp
  have Fp := Lib.hid hpp
  clear hb0 hw0 hxp hpp hp
  have l1 := rl_n p; have l2 := rl_d p
  have hr := ri_in hd hn; rw [hs] at hr; have hr : riV p = -(nn p : Int) ∧ riB p = true := hr
  rw [hr.1, hr.2]; clear hr
  have HS0 := Lib.hid hs
  obtain ⟨N, hN⟩ : ∃ N, N = nn p := ⟨_, rfl⟩
  obtain ⟨c, hc⟩ : ∃ c, c = cmpN p.den 1 := ⟨_, rfl⟩
  have g1 : (c != 0) = false := by rw [hc, hd]; rfl
  obtain ⟨c2, hc2⟩ : ∃ c, c = cmpN N 9223372036854775808 := ⟨_, rfl⟩
  rw [← hN] at hn
  have g2 : (c2 == 0) = false := by rw [hc2, beq_eq_false_iff_ne]; exact cmpN_ne (by omega)
  have HC2 := Lib.hid hc2; clear hc2
  rw [← hN] at l1 ⊢
  have HN := Lib.hid hN; have HC := Lib.hid hc; clear hN hc hd hs
  go_enter Tryz.func14, Tryz.ntmps14
  have hs := rparts_any _ p w0 Fp.out
  have HS := Lib.hid hs; clear hs
  go_wp2_with fail
  rw [← HW0.out]
  (with_reducible refine HS.out.mono ?_); rintro e w1 ⟨v1, u1, rfl, hb1, hn1, hm1⟩
  clear HS
  rw [HS0.out]
  rw [← HN.out] at hn1
  have HB1 := Lib.hid (HB0.out.step hb1)
  have Fp := Lib.hid (Fp.out.below hb1)
  have BXp := Lib.hid (heap_below BXp.out hb1)
  have NW := Lib.hid hn1
  have DW := Lib.hid hm1
  clear hn1 hm1
  clear hb1
  obtain ⟨w2, hw2⟩ : ∃ w2, w2 = w1.alloc (.cells #[.int .u32 1] 75) := ⟨_, rfl⟩
  have hb2 : Below w1.heap.size w1 w2 := by rw [hw2]; exact (Below.refl _ _).alloc (Nat.le_refl _) _
  have hxD1 := heap_alloc_new w1 (.cells #[.int .u32 1] 75)
  obtain ⟨gD1, hgD1⟩ : ∃ gD1, gD1 = w1.heap.size := ⟨_, rfl⟩
  rw [← hw2, ← hgD1] at hxD1
  have HW2 := Lib.hid hw2; have HGD1 := Lib.hid hgD1; clear hw2 hgD1
  have HB2 := Lib.hid (HB1.out.step hb2)
  have Fp := Lib.hid (Fp.out.below hb2)
  have NW := Lib.hid (NW.out.below hb2)
  have DW := Lib.hid (DW.out.below hb2)
  have BXp := Lib.hid (heap_below BXp.out hb2)
  clear hb2
  have hnD := num_one1 w1
  rw [← HW2.out, ← HGD1.out] at hnD
  have ONE := Lib.hid hnD; clear hnD hxD1
  have hs := rcmpN_ DW.out ONE.out (by omega) (by rw [wd_one_len]; decide)
  rw [← HC.out] at hs
  have HS := Lib.hid hs; clear hs
  go_wp2_with fail
  rw [← HW2.out]
  try rw [← HGD1.out]
  (with_reducible refine HS.out.mono ?_); rintro e wx ⟨rfl, rfl⟩
  clear HS
  obtain ⟨w4, hw4⟩ : ∃ w4, w4 = w2.alloc (.cells #[.int .u32 0, .int .u32 2147483648] 75) := ⟨_, rfl⟩
  have hb4 : Below w2.heap.size w2 w4 := by rw [hw4]; exact (Below.refl _ _).alloc (Nat.le_refl _) _
  have hxD2 := heap_alloc_new w2 (.cells #[.int .u32 0, .int .u32 2147483648] 75)
  obtain ⟨gD2, hgD2⟩ : ∃ gD2, gD2 = w2.heap.size := ⟨_, rfl⟩
  rw [← hw4, ← hgD2] at hxD2
  have HW4 := Lib.hid hw4; have HGD2 := Lib.hid hgD2; clear hw4 hgD2
  have HB4 := Lib.hid (HB2.out.step hb4)
  have Fp := Lib.hid (Fp.out.below hb4)
  have NW := Lib.hid (NW.out.below hb4)
  have DW := Lib.hid (DW.out.below hb4)
  have ONE := Lib.hid (ONE.out.below hb4)
  have BXp := Lib.hid (heap_below BXp.out hb4)
  clear hb4
  have hnD := num_lit w2 75 #[.int .u32 0, .int .u32 2147483648] [0, 2147483648] 2 (U32.cons (by decide) (U32.cons (by decide) U32.nil)) rfl (by simp) rfl
  rw [← HW4.out, ← HGD2.out, ← wd_two63] at hnD
  have SZ := Lib.hid hnD; clear hnD hxD2
  have hs := rcmpN_ NW.out SZ.out (by omega) (by have := wd_small (n := 9223372036854775808) (Nat.le_refl _); omega)
  rw [← HC2.out] at hs
  have HS := Lib.hid hs; clear hs
  go_wp2_with fail
  rw [← HW4.out]
  try rw [← HGD2.out]
  (with_reducible refine HS.out.mono ?_); rintro e wx ⟨rfl, rfl⟩
  clear HS
  have hs := rint_yes _ _ w4 NW.out (by omega) (by rw [val_wd]; omega)
  rw [val_wd] at hs
  have HS := Lib.hid hs; clear hs
  go_wp2_with fail
  (with_reducible refine HS.out.mono ?_); rintro e wx ⟨rfl, rfl⟩
  clear HS
  go_wp2_with fail
  go_ret2
  exact ⟨by first | rfl | (simp; done), HB4.out⟩
set_option maxRecDepth 100000 in
set_option maxHeartbeats 3200000 in
theorem rintq_outp (vp : Value) (p : Rat) (w : World) (hp : RatIs w vp p) (hd : p.den = 1) (hs : ng p = false) (hn : 9223372036854775808 ≤ nn p) :
    Calls Tryz.prog 14 #[vp] w (RetV w (.tuple #[.int .i64 (riV p), .bool (riB p)])) := by
  obtain ⟨sp, op, np, cp, ap, mp, dp, rfl⟩ := hp.shape
  have hlp := hp.rl
  have hb0 := ((Below.refl w.heap.size w).alloc (by first | (simp; done) | (simp; omega)) (.cells #[.bool sp, .slice op np cp, .slice ap mp dp] 24))
  have hxp := nest1_0 w (.cells #[.bool sp, .slice op np cp, .slice ap mp dp] 24)
  have hpp := hp.below hb0
  obtain ⟨w0, hw0⟩ : ∃ w0, w0 = (w.alloc (.cells #[.bool sp, .slice op np cp, .slice ap mp dp] 24)) := ⟨_, rfl⟩
  rw [← hw0] at hb0 hxp hpp
  have HB0 := Lib.hid hb0; have HW0 := Lib.hid hw0
  have BXp := Lib.hid hxp
  have Fp := Lib.hid hpp
  clear hb0 hw0 hxp hpp hp
  have l1 := rl_n p; have l2 := rl_d p
  have hr := ri_out hn (fun h => by rw [hs] at h; cases h)
  rw [hr.1, hr.2]; clear hr
  have HS0 := Lib.hid hs
  obtain ⟨N, hN⟩ : ∃ N, N = nn p := ⟨_, rfl⟩
  obtain ⟨c, hc⟩ : ∃ c, c = cmpN p.den 1 := ⟨_, rfl⟩
  have g1 : (c != 0) = false := by rw [hc, hd]; rfl
  rw [← hN] at hn
  rw [← hN] at l1
  have HN := Lib.hid hN; have HC := Lib.hid hc; clear hN hc hd hs
  go_enter Tryz.func14, Tryz.ntmps14
  have hs := rparts_any _ p w0 Fp.out
  have HS := Lib.hid hs; clear hs
  go_wp2_with fail
  rw [← HW0.out]
  (with_reducible refine HS.out.mono ?_); rintro e w1 ⟨v1, u1, rfl, hb1, hn1, hm1⟩
  clear HS
  rw [HS0.out]
  rw [← HN.out] at hn1
  have HB1 := Lib.hid (HB0.out.step hb1)
  have Fp := Lib.hid (Fp.out.below hb1)
  have BXp := Lib.hid (heap_below BXp.out hb1)
  have NW := Lib.hid hn1
  have DW := Lib.hid hm1
  clear hn1 hm1
  clear hb1
  obtain ⟨w2, hw2⟩ : ∃ w2, w2 = w1.alloc (.cells #[.int .u32 1] 75) := ⟨_, rfl⟩
  have hb2 : Below w1.heap.size w1 w2 := by rw [hw2]; exact (Below.refl _ _).alloc (Nat.le_refl _) _
  have hxD1 := heap_alloc_new w1 (.cells #[.int .u32 1] 75)
  obtain ⟨gD1, hgD1⟩ : ∃ gD1, gD1 = w1.heap.size := ⟨_, rfl⟩
  rw [← hw2, ← hgD1] at hxD1
  have HW2 := Lib.hid hw2; have HGD1 := Lib.hid hgD1; clear hw2 hgD1
  have HB2 := Lib.hid (HB1.out.step hb2)
  have Fp := Lib.hid (Fp.out.below hb2)
  have NW := Lib.hid (NW.out.below hb2)
  have DW := Lib.hid (DW.out.below hb2)
  have BXp := Lib.hid (heap_below BXp.out hb2)
  clear hb2
  have hnD := num_one1 w1
  rw [← HW2.out, ← HGD1.out] at hnD
  have ONE := Lib.hid hnD; clear hnD hxD1
  have hs := rcmpN_ DW.out ONE.out (by omega) (by rw [wd_one_len]; decide)
  rw [← HC.out] at hs
  have HS := Lib.hid hs; clear hs
  go_wp2_with fail
  rw [← HW2.out]
  try rw [← HGD1.out]
  (with_reducible refine HS.out.mono ?_); rintro e wx ⟨rfl, rfl⟩
  clear HS
  have hs := rint_no _ _ w2 NW.out (by omega) (by rw [val_wd]; omega)
  have HS := Lib.hid hs; clear hs
  go_wp2_with fail
  (with_reducible refine HS.out.mono ?_); rintro e wx ⟨rfl, rfl⟩
  clear HS
  go_wp2_with fail
  go_ret2
  exact ⟨by first | rfl | (simp; done), HB2.out⟩
set_option maxRecDepth 100000 in
set_option maxHeartbeats 3200000 in
theorem rintq_outn (vp : Value) (p : Rat) (w : World) (hp : RatIs w vp p) (hd : p.den = 1) (hs : ng p = true) (hn : 9223372036854775808 < nn p) :
    Calls Tryz.prog 14 #[vp] w (RetV w (.tuple #[.int .i64 (riV p), .bool (riB p)])) := by
  obtain ⟨sp, op, np, cp, ap, mp, dp, rfl⟩ := hp.shape
  have hlp := hp.rl
  have hb0 := ((Below.refl w.heap.size w).alloc (by first | (simp; done) | (simp; omega)) (.cells #[.bool sp, .slice op np cp, .slice ap mp dp] 24))
  have hxp := nest1_0 w (.cells #[.bool sp, .slice op np cp, .slice ap mp dp] 24)
  have hpp := hp.below hb0
  obtain ⟨w0, hw0⟩ : ∃ w0, w0 = (w.alloc (.cells #[.bool sp, .slice op np cp, .slice ap mp dp] 24)) := ⟨_, rfl⟩
  rw [← hw0] at hb0 hxp hpp
  have HB0 := Lib.hid hb0; have HW0 := Lib.hid hw0
  have BXp := Lib.hid hxp
  have Fp := Lib.hid hpp
  clear hb0 hw0 hxp hpp hp
  have l1 := rl_n p; have l2 := rl_d p
  have hr := ri_out (Nat.le_of_lt hn) (fun _ => by omega)
  rw [hr.1, hr.2]; clear hr
  have HS0 := Lib.hid hs
  obtain ⟨N, hN⟩ : ∃ N, N = nn p := ⟨_, rfl⟩
  obtain ⟨c, hc⟩ : ∃ c, c = cmpN p.den 1 := ⟨_, rfl⟩
  have g1 : (c != 0) = false := by rw [hc, hd]; rfl
  obtain ⟨c2, hc2⟩ : ∃ c, c = cmpN N 9223372036854775808 := ⟨_, rfl⟩
  rw [← hN] at hn
  have g2 : (c2 == 0) = false := by rw [hc2, beq_eq_false_iff_ne]; exact cmpN_ne (by omega)
  have HC2 := Lib.hid hc2; clear hc2
  rw [← hN] at l1
  have HN := Lib.hid hN; have HC := Lib.hid hc; clear hN hc hd hs
  go_enter Tryz.func14, Tryz.ntmps14
  have hs := rparts_any _ p w0 Fp.out
  have HS := Lib.hid hs; clear hs
  go_wp2_with fail
  rw [← HW0.out]
  (with_reducible refine HS.out.mono ?_); rintro e w1 ⟨v1, u1, rfl, hb1, hn1, hm1⟩
  clear HS
  rw [HS0.out]
  rw [← HN.out] at hn1
  have HB1 := Lib.hid (HB0.out.step hb1)
  have Fp := Lib.hid (Fp.out.below hb1)
  have BXp := Lib.hid (heap_below BXp.out hb1)
  have NW := Lib.hid hn1
  have DW := Lib.hid hm1
  clear hn1 hm1
  clear hb1
  obtain ⟨w2, hw2⟩ : ∃ w2, w2 = w1.alloc (.cells #[.int .u32 1] 75) := ⟨_, rfl⟩
  have hb2 : Below w1.heap.size w1 w2 := by rw [hw2]; exact (Below.refl _ _).alloc (Nat.le_refl _) _
  have hxD1 := heap_alloc_new w1 (.cells #[.int .u32 1] 75)
  obtain ⟨gD1, hgD1⟩ : ∃ gD1, gD1 = w1.heap.size := ⟨_, rfl⟩
  rw [← hw2, ← hgD1] at hxD1
  have HW2 := Lib.hid hw2; have HGD1 := Lib.hid hgD1; clear hw2 hgD1
  have HB2 := Lib.hid (HB1.out.step hb2)
  have Fp := Lib.hid (Fp.out.below hb2)
  have NW := Lib.hid (NW.out.below hb2)
  have DW := Lib.hid (DW.out.below hb2)
  have BXp := Lib.hid (heap_below BXp.out hb2)
  clear hb2
  have hnD := num_one1 w1
  rw [← HW2.out, ← HGD1.out] at hnD
  have ONE := Lib.hid hnD; clear hnD hxD1
  have hs := rcmpN_ DW.out ONE.out (by omega) (by rw [wd_one_len]; decide)
  rw [← HC.out] at hs
  have HS := Lib.hid hs; clear hs
  go_wp2_with fail
  rw [← HW2.out]
  try rw [← HGD1.out]
  (with_reducible refine HS.out.mono ?_); rintro e wx ⟨rfl, rfl⟩
  clear HS
  obtain ⟨w4, hw4⟩ : ∃ w4, w4 = w2.alloc (.cells #[.int .u32 0, .int .u32 2147483648] 75) := ⟨_, rfl⟩
  have hb4 : Below w2.heap.size w2 w4 := by rw [hw4]; exact (Below.refl _ _).alloc (Nat.le_refl _) _
  have hxD2 := heap_alloc_new w2 (.cells #[.int .u32 0, .int .u32 2147483648] 75)
  obtain ⟨gD2, hgD2⟩ : ∃ gD2, gD2 = w2.heap.size := ⟨_, rfl⟩
  rw [← hw4, ← hgD2] at hxD2
  have HW4 := Lib.hid hw4; have HGD2 := Lib.hid hgD2; clear hw4 hgD2
  have HB4 := Lib.hid (HB2.out.step hb4)
  have Fp := Lib.hid (Fp.out.below hb4)
  have NW := Lib.hid (NW.out.below hb4)
  have DW := Lib.hid (DW.out.below hb4)
  have ONE := Lib.hid (ONE.out.below hb4)
  have BXp := Lib.hid (heap_below BXp.out hb4)
  clear hb4
  have hnD := num_lit w2 75 #[.int .u32 0, .int .u32 2147483648] [0, 2147483648] 2 (U32.cons (by decide) (U32.cons (by decide) U32.nil)) rfl (by simp) rfl
  rw [← HW4.out, ← HGD2.out, ← wd_two63] at hnD
  have SZ := Lib.hid hnD; clear hnD hxD2
  have hs := rcmpN_ NW.out SZ.out (by omega) (by have := wd_small (n := 9223372036854775808) (Nat.le_refl _); omega)
  rw [← HC2.out] at hs
  have HS := Lib.hid hs; clear hs
  go_wp2_with fail
  rw [← HW4.out]
  try rw [← HGD2.out]
  (with_reducible refine HS.out.mono ?_); rintro e wx ⟨rfl, rfl⟩
  clear HS
  have hs := rint_no _ _ w4 NW.out (by omega) (by rw [val_wd]; omega)
  have HS := Lib.hid hs; clear hs
  go_wp2_with fail
  (with_reducible refine HS.out.mono ?_); rintro e wx ⟨rfl, rfl⟩
  clear HS
  go_wp2_with fail
  go_ret2
  exact ⟨by first | rfl | (simp; done), HB4.out⟩
theorem rintq_any (vp : Value) (p : Rat) (w : World) (hp : RatIs w vp p) :
    Calls Tryz.prog 14 #[vp] w (RetV w (.tuple #[.int .i64 (riV p), .bool (riB p)])) := by
  by_cases hd : p.den = 1
  · cases hs : ng p with
    | true =>
      rcases Nat.lt_trichotomy (nn p) 9223372036854775808 with h | h | h
      · exact rintq_inn vp p w hp hd hs h
      · exact rintq_least vp p w hp hd hs h
      · exact rintq_outn vp p w hp hd hs h
    | false =>
      rcases Nat.lt_or_ge (nn p) 9223372036854775808 with h | h
      · exact rintq_inp vp p w hp hd hs h
      · exact rintq_outp vp p w hp hd hs h
  · exact rintq_part vp p w hp hd
/-- whether fields are a probability -/
def prB (s : Bool) (a b : List Nat) : Bool := decide (Vld s a b ∧ 0 ≤ rq s a b ∧ rq s a b ≤ 1)
theorem prB_no {s : Bool} {a b : List Nat} (h : ¬ Vld s a b) : prB s a b = false := decide_eq_false (fun k => h k.1)
theorem prB_neg {s : Bool} {a b : List Nat} (h : rq s a b < 0) : prB s a b = false := decide_eq_false (fun k => by have := k.2.1; grind)
theorem prB_of {s : Bool} {a b : List Nat} (h : Vld s a b) (h0 : 0 ≤ rq s a b) : prB s a b = decide (cq (rq s a b) 1 ≤ 0) := by
  unfold prB; rw [decide_eq_decide, cq_le]; exact ⟨fun k => k.2.2, fun k => ⟨h, h0, k⟩⟩
theorem cmpN_cq {q : Rat} (h : 0 ≤ q) : decide (cmpN (nn q) (dn q) ≤ 0) = decide (cq q 1 ≤ 0) := by
  have hs : ng q = false := decide_eq_false (by grind)
  have hp := prob_iff q
  rw [decide_eq_decide, cq_le]
  have : cmpN (nn q) (dn q) ≤ 0 ↔ nn q ≤ dn q := by unfold cmpN; split <;> (try split) <;> omega
  rw [this]
  exact ⟨fun k => (hp.1 ⟨hs, k⟩).2, fun k => (hp.2 ⟨h, k⟩).2⟩
set_option maxRecDepth 100000 in
set_option maxHeartbeats 3200000 in
theorem prob_no (vp : Value) (p : Rat) (w : World) (hp : RatIs w vp p) {sr : Bool} {ar br : List Nat} (hr : RatV w vp sr ar br) (hla : ar.length ≤ 100000) (hlb : br.length ≤ 100000) (hpe : p = rq sr ar br) (hv : ¬ Vld sr ar br) :
    Calls Tryz.prog 27 #[vp] w (RetV w (.bool (prB sr ar br))) := by
  obtain ⟨sp, op, np, cp, ap, mp, dp, rfl⟩ := hp.shape
  have hlp := hp.rl
  have hsr : sp = sr := hr.fields.1
  subst hsr
  rw [prB_no hv]
  have HV := Lib.hid (decide_eq_false hv); clear hv hpe
  have hb0 := ((Below.refl w.heap.size w).alloc (by first | (simp; done) | (simp; omega)) (.cells #[.bool sp, .slice op np cp, .slice ap mp dp] 24))
  have hxp := nest1_0 w (.cells #[.bool sp, .slice op np cp, .slice ap mp dp] 24)
  have hpp := hp.below hb0
  have hpraw := hr.below hb0
  obtain ⟨w0, hw0⟩ : ∃ w0, w0 = (w.alloc (.cells #[.bool sp, .slice op np cp, .slice ap mp dp] 24)) := ⟨_, rfl⟩
  rw [← hw0] at hb0 hxp hpp hpraw
  have HB0 := Lib.hid hb0; have HW0 := Lib.hid hw0
  have BXp := Lib.hid hxp
  have Fp := Lib.hid hpp
  have Fraw := Lib.hid hpraw; clear hpraw hr
  clear hb0 hw0 hxp hpp hp
  go_enter Tryz.func27, Tryz.ntmps27
  have hs := valid_any _ _ ar br w0 Fraw.out (by omega) (by omega)
  rw [HV.out] at hs
  have HS := Lib.hid hs; clear hs
  go_wp2_with fail
  rw [← HW0.out]
  (with_reducible refine HS.out.mono ?_); rintro e w1 ⟨rfl, hb1⟩
  clear HS
  have HB1 := Lib.hid (HB0.out.step hb1)
  have Fp := Lib.hid (Fp.out.below hb1)
  have Fraw := Lib.hid (Fraw.out.below hb1)
  have BXp := Lib.hid (heap_below BXp.out hb1)
  clear hb1
  go_wp2_with fail
  go_ret
  exact ⟨by first | rfl | (simp; done), HB1.out⟩
set_option maxRecDepth 100000 in
set_option maxHeartbeats 3200000 in
theorem prob_neg (vp : Value) (p : Rat) (w : World) (hp : RatIs w vp p) {sr : Bool} {ar br : List Nat} (hr : RatV w vp sr ar br) (hla : ar.length ≤ 100000) (hlb : br.length ≤ 100000) (hpe : p = rq sr ar br) (hv : Vld sr ar br) (hq : p < 0) :
    Calls Tryz.prog 27 #[vp] w (RetV w (.bool (prB sr ar br))) := by
  obtain ⟨sp, op, np, cp, ap, mp, dp, rfl⟩ := hp.shape
  have hlp := hp.rl
  have hsr : sp = sr := hr.fields.1
  subst hsr
  obtain ⟨q1, q2, q3⟩ := vld_fields hr.lt.1 hr.lt.2 hv
  rw [← hpe] at q1 q2 q3
  have HV := Lib.hid (decide_eq_true hv)
  rw [prB_neg (by rw [← hpe]; exact hq)]
  have hs : sp = true := by rw [q1]; exact decide_eq_true hq
  have HS0 := Lib.hid hs; clear hs
  clear hv hpe q1 q2 q3 hq
  have hb0 := ((Below.refl w.heap.size w).alloc (by first | (simp; done) | (simp; omega)) (.cells #[.bool sp, .slice op np cp, .slice ap mp dp] 24))
  have hxp := nest1_0 w (.cells #[.bool sp, .slice op np cp, .slice ap mp dp] 24)
  have hpp := hp.below hb0
  have hpraw := hr.below hb0
  obtain ⟨w0, hw0⟩ : ∃ w0, w0 = (w.alloc (.cells #[.bool sp, .slice op np cp, .slice ap mp dp] 24)) := ⟨_, rfl⟩
  rw [← hw0] at hb0 hxp hpp hpraw
  have HB0 := Lib.hid hb0; have HW0 := Lib.hid hw0
  have BXp := Lib.hid hxp
  have Fp := Lib.hid hpp
  have Fraw := Lib.hid hpraw; clear hpraw hr
  clear hb0 hw0 hxp hpp hp
  go_enter Tryz.func27, Tryz.ntmps27
  have hs0 := HS0.out; clear HS0; subst hs0
  have hs := valid_any _ _ ar br w0 Fraw.out (by omega) (by omega)
  rw [HV.out] at hs
  have HS := Lib.hid hs; clear hs
  go_wp2_with fail
  rw [← HW0.out]
  (with_reducible refine HS.out.mono ?_); rintro e w1 ⟨rfl, hb1⟩
  clear HS
  have HB1 := Lib.hid (HB0.out.step hb1)
  have Fp := Lib.hid (Fp.out.below hb1)
  have Fraw := Lib.hid (Fraw.out.below hb1)
  have BXp := Lib.hid (heap_below BXp.out hb1)
  clear hb1
  obtain ⟨ep0, ep1, ep2⟩ := row3 BXp.out
  go_wp2_with fail
  clear ep0 ep1 ep2
  go_ret
  exact ⟨by first | rfl | (simp; done), HB1.out⟩
set_option maxRecDepth 100000 in
set_option maxHeartbeats 3200000 in
theorem prob_in (vp : Value) (p : Rat) (w : World) (hp : RatIs w vp p) {sr : Bool} {ar br : List Nat} (hr : RatV w vp sr ar br) (hla : ar.length ≤ 100000) (hlb : br.length ≤ 100000) (hpe : p = rq sr ar br) (hv : Vld sr ar br) (hq : 0 ≤ p) :
    Calls Tryz.prog 27 #[vp] w (RetV w (.bool (prB sr ar br))) := by
  obtain ⟨sp, op, np, cp, ap, mp, dp, rfl⟩ := hp.shape
  have hlp := hp.rl
  have hsr : sp = sr := hr.fields.1
  subst hsr
  obtain ⟨q1, q2, q3⟩ := vld_fields hr.lt.1 hr.lt.2 hv
  rw [← hpe] at q1 q2 q3
  have HV := Lib.hid (decide_eq_true hv)
  rw [prB_of hv (by rw [← hpe]; exact hq), ← hpe, ← cmpN_cq hq]
  have hs : sp = false := by rw [q1]; exact decide_eq_false (by grind)
  have HS0 := Lib.hid hs; clear hs
  subst q2; subst q3
  obtain ⟨c, hc⟩ : ∃ c, c = cmpN (nn p) (dn p) := ⟨_, rfl⟩
  rw [← hc]
  obtain ⟨r, hrr⟩ : ∃ r, r = decide (c ≤ 0) := ⟨_, rfl⟩
  have HR := Lib.hid hrr; have HC := Lib.hid hc; clear hc hv hpe q1 hq
  rw [← hrr]
  have hr2 : decide (c ≤ 0) = r := hrr.symm
  clear hrr
  have hb0 := ((Below.refl w.heap.size w).alloc (by first | (simp; done) | (simp; omega)) (.cells #[.bool sp, .slice op np cp, .slice ap mp dp] 24))
  have hxp := nest1_0 w (.cells #[.bool sp, .slice op np cp, .slice ap mp dp] 24)
  have hpp := hp.below hb0
  have hpraw := hr.below hb0
  obtain ⟨w0, hw0⟩ : ∃ w0, w0 = (w.alloc (.cells #[.bool sp, .slice op np cp, .slice ap mp dp] 24)) := ⟨_, rfl⟩
  rw [← hw0] at hb0 hxp hpp hpraw
  have HB0 := Lib.hid hb0; have HW0 := Lib.hid hw0
  have BXp := Lib.hid hxp
  have Fp := Lib.hid hpp
  have Fraw := Lib.hid hpraw; clear hpraw hr
  clear hb0 hw0 hxp hpp hp
  go_enter Tryz.func27, Tryz.ntmps27
  have hs0 := HS0.out; clear HS0; subst hs0
  have hs := valid_any _ _ (wd (nn p)) (wd (dn p)) w0 Fraw.out (by omega) (by omega)
  rw [HV.out] at hs
  have HS := Lib.hid hs; clear hs
  go_wp2_with fail
  rw [← HW0.out]
  (with_reducible refine HS.out.mono ?_); rintro e w1 ⟨rfl, hb1⟩
  clear HS
  have HB1 := Lib.hid (HB0.out.step hb1)
  have Fp := Lib.hid (Fp.out.below hb1)
  have Fraw := Lib.hid (Fraw.out.below hb1)
  have BXp := Lib.hid (heap_below BXp.out hb1)
  clear hb1
  have hs := cmpN_ Fraw.out.fields.2.1 Fraw.out.fields.2.2 (by omega) (by omega)
  rw [← HC.out] at hs
  have HS := Lib.hid hs; clear hs
  obtain ⟨ep0, ep1, ep2⟩ := row3 BXp.out
  go_wp2_with fail
  clear ep0 ep1 ep2
  (with_reducible refine HS.out.mono ?_); rintro e w2 ⟨rfl, hb2⟩
  clear HS
  have HB2 := Lib.hid (HB1.out.step hb2)
  have Fp := Lib.hid (Fp.out.below hb2)
  have Fraw := Lib.hid (Fraw.out.below hb2)
  have BXp := Lib.hid (heap_below BXp.out hb2)
  clear hb2
  go_wp2_with fail
  go_ret
  exact ⟨by first | rfl | (simp; done), HB2.out⟩
set_option maxRecDepth 100000 in
set_option maxHeartbeats 3200000 in
theorem rprob_no (vp : Value) (p : Rat) (w : World) (hp : RatIs w vp p) {sr : Bool} {ar br : List Nat} (hr : RatV w vp sr ar br) (hla : ar.length ≤ 100000) (hlb : br.length ≤ 100000) (_hpe : p = rq sr ar br) (hv : ¬ Vld sr ar br) (_hp2 : rl p ≤ 40000) :
    Calls Tryz.prog 28 #[vp] w (RetV w (.bool (prB sr ar br))) := by
  obtain ⟨sp, op, np, cp, ap, mp, dp, rfl⟩ := hp.shape
  have hlp := hp.rl
  rw [prB_no hv]
  have HV := Lib.hid (decide_eq_false hv); clear hv
  have hb0 := ((Below.refl w.heap.size w).alloc (by first | (simp; done) | (simp; omega)) (.cells #[.bool sp, .slice op np cp, .slice ap mp dp] 24))
  have hxp := nest1_0 w (.cells #[.bool sp, .slice op np cp, .slice ap mp dp] 24)
  have hpp := hp.below hb0
  have hpraw := hr.below hb0
  obtain ⟨w0, hw0⟩ : ∃ w0, w0 = (w.alloc (.cells #[.bool sp, .slice op np cp, .slice ap mp dp] 24)) := ⟨_, rfl⟩
  rw [← hw0] at hb0 hxp hpp hpraw
  have HB0 := Lib.hid hb0; have HW0 := Lib.hid hw0
  have BXp := Lib.hid hxp
  have Fp := Lib.hid hpp
  have Fraw := Lib.hid hpraw; clear hpraw hr
  clear hb0 hw0 hxp hpp hp
  have hr1 : rl ((1 : Int) : Rat) ≤ 2 := rl_small (by decide) (by decide)
  go_enter Tryz.func28, Tryz.ntmps28
  go_wp2_with fail
  rw [← HW0.out]
  have lwp := below_lt BXp.out
  refine wp_region_facts (A := ?aa0) (w := w0) 13 [] (by kernel_rfl) (Fl [KEq (.agg #[.bool sp, .slice op np cp, .slice ap mp dp]), KEq (.bool false), KEq (.bool false), KEq (undef), KEq (undef), KEq (undef), KEq (.bool false), KEq (.bool false), KEq (undef), KEq (undef), KEq (undef), KEq (undef), KEq (.bool false)]) (fun i => false) (by kernel_rfl) (fun _ _ _ _ _ h => h) (monoL (monoC (kEq _) (monoC (kEq _) (monoC (kEq _) (monoC (kEq _) (monoC (kEq _) (monoC (kEq _) (monoC (kEq _) (monoC (kEq _) (monoC (kEq _) (monoC (kEq _) (monoC (kEq _) (monoC (kEq _) (monoC (kEq _) monoN)))))))))))))) ?ha0 ?st0 ?tl0
  case ha0 =>
    intro vals
    simp only [putsTo, dstOf, if_true, Act.put, List.setIfInBounds_toArray, List.set_cons_zero, List.set_cons_succ, List.getElem?_toArray, List.getElem?_cons_zero, List.getElem?_cons_succ, Option.bind_some]
    exact rfl
  case st0 =>
    simp only [List.take_succ_cons, List.take_zero]
    refine stepsOK_cons rfl rfl ?_ (stepsOK_cons rfl rfl ?_ (stepsOK_cons rfl rfl ?_ (stepsOK_guard rfl ?_ (stepsOK_guard rfl ?_ (stepsOK_guard rfl ?_ (stepsOK_cons rfl rfl ?_ (stepsOK_cons rfl rfl ?_ (stepsOK_guard rfl ?_ (stepsOK_guard rfl ?_ (stepsOK_guard rfl ?_ (stepsOK_guard rfl ?_ (stepsOK_cons rfl rfl ?_ (stepsOK_nil)))))))))))))
    · intro vals w1 hb hd
      obtain ⟨e0, e1, e2⟩ := row3 (heap_below BXp.out hb)
      refine stepOK_value (v := .agg #[.bool sp, .slice op np cp, .slice ap mp dp]) (w' := w1) (by go_simp) (leaves_mk (Below.refl _ _) rfl (fun h => by cases h))
    · intro vals w1 hb hd
      have d0 : KEq (.agg #[.bool sp, .slice op np cp, .slice ap mp dp]) (vals 0) w1 := hd 0 (by kernel_rfl)
      have r0 : RatIs w1 (vals 0) (p) := by rw [show vals 0 = _ from d0]; exact Fp.out.below hb
      have hs := rvalid_any (vals 0) _ ar br w1 (by rw [show vals 0 = _ from d0]; exact Fraw.out.below hb) (by omega) (by omega)
      rw [HV.out] at hs
      have HS := Lib.hid hs; clear hs
      clear d0 hd
      refine stepOK_call (by go_simp; first | done | exact ⟨⟨rfl, rfl⟩, rfl⟩) ?_
      (with_reducible refine HS.out.mono ?_); rintro e w2 ⟨rfl, hb2⟩
      exact ⟨_, rfl, leaves_mk hb2 rfl (fun h => by cases h)⟩
    · intro vals w1 hb hd
      have d1 : KEq (.bool false) (vals 1) w1 := hd 1 (by kernel_rfl)
      rw [show vals 1 = _ from d1]
      refine stepOK_value (v := .bool false) (w' := w1) (by go_simp) (leaves_mk (Below.refl _ _) rfl (fun h => by cases h))
    · intro vals w1 hb hd
      have dg : KEq (.bool false) (vals 2) w1 := hd 2 (by kernel_rfl)
      refine stepG_no (unwanted_of rfl rfl (congrArg some dg) rfl) ?_
      clear dg
      exact leaves_mk (Below.refl _ _) rfl (fun h => by cases h)
    · intro vals w1 hb hd
      have dg : KEq (.bool false) (vals 2) w1 := hd 2 (by kernel_rfl)
      refine stepG_no (unwanted_of rfl rfl (congrArg some dg) rfl) ?_
      clear dg
      exact leaves_mk (Below.refl _ _) rfl (fun h => by cases h)
    · intro vals w1 hb hd
      have dg : KEq (.bool false) (vals 2) w1 := hd 2 (by kernel_rfl)
      refine stepG_no (unwanted_of rfl rfl (congrArg some dg) rfl) ?_
      clear dg
      exact leaves_mk (Below.refl _ _) rfl (fun h => by cases h)
    · intro vals w1 hb hd
      have d2 : KEq (.bool false) (vals 2) w1 := hd 2 (by kernel_rfl)
      rw [show vals 2 = _ from d2]
      refine stepOK_value (v := .bool false) (w' := w1) (by go_simp) (leaves_mk (Below.refl _ _) rfl (fun h => by cases h))
    · intro vals w1 hb hd
      have d6 : KEq (.bool false) (vals 6) w1 := hd 6 (by kernel_rfl)
      rw [show vals 6 = _ from d6]
      refine stepOK_value (v := .bool false) (w' := w1) (by go_simp) (leaves_mk (Below.refl _ _) rfl (fun h => by cases h))
    · intro vals w1 hb hd
      have dg : KEq (.bool false) (vals 7) w1 := hd 7 (by kernel_rfl)
      refine stepG_no (unwanted_of rfl rfl (congrArg some dg) rfl) ?_
      clear dg
      exact leaves_mk (Below.refl _ _) rfl (fun h => by cases h)
    · intro vals w1 hb hd
      have dg : KEq (.bool false) (vals 7) w1 := hd 7 (by kernel_rfl)
      refine stepG_no (unwanted_of rfl rfl (congrArg some dg) rfl) ?_
      clear dg
      exact leaves_mk (Below.refl _ _) rfl (fun h => by cases h)
    · intro vals w1 hb hd
      have dg : KEq (.bool false) (vals 7) w1 := hd 7 (by kernel_rfl)
      refine stepG_no (unwanted_of rfl rfl (congrArg some dg) rfl) ?_
      clear dg
      exact leaves_mk (Below.refl _ _) rfl (fun h => by cases h)
    · intro vals w1 hb hd
      have dg : KEq (.bool false) (vals 7) w1 := hd 7 (by kernel_rfl)
      refine stepG_no (unwanted_of rfl rfl (congrArg some dg) rfl) ?_
      clear dg
      exact leaves_mk (Below.refl _ _) rfl (fun h => by cases h)
    · intro vals w1 hb hd
      have d7 : KEq (.bool false) (vals 7) w1 := hd 7 (by kernel_rfl)
      rw [show vals 7 = _ from d7]
      refine stepOK_value (v := .bool false) (w' := w1) (by go_simp) (leaves_mk (Below.refl _ _) rfl (fun h => by cases h))
  case tl0 =>
    intro vals w1 hb1 hf hdis
    simp only [List.drop_succ_cons, List.drop_zero]
    have ee12 : vals 12 = .bool false := hf 12 (by decide)
    rw [ee12]; clear ee12
    clear hf hdis
    have HB1 := Lib.hid (HB0.out.step hb1)
    have Fp := Lib.hid (Fp.out.below hb1)
    have Fraw := Lib.hid (Fraw.out.below hb1)
    have BXp := Lib.hid (heap_below BXp.out hb1)
    clear hb1
    go_wp2_with fail
    go_ret
    exact ⟨by first | rfl | (simp; done), HB1.out⟩
set_option maxRecDepth 100000 in
set_option maxHeartbeats 3200000 in
theorem rprob_neg (vp : Value) (p : Rat) (w : World) (hp : RatIs w vp p) {sr : Bool} {ar br : List Nat} (hr : RatV w vp sr ar br) (hla : ar.length ≤ 100000) (hlb : br.length ≤ 100000) (hpe : p = rq sr ar br) (hv : Vld sr ar br) (hq : p < 0) (_hp2 : rl p ≤ 40000) :
    Calls Tryz.prog 28 #[vp] w (RetV w (.bool (prB sr ar br))) := by
  obtain ⟨sp, op, np, cp, ap, mp, dp, rfl⟩ := hp.shape
  have hlp := hp.rl
  rw [prB_neg (by rw [← hpe]; exact hq)]
  have HV := Lib.hid (decide_eq_true hv)
  have hsg : sg p = -1 := by unfold sg; rw [if_pos hq]
  have HSG := Lib.hid hsg; clear hsg hv hpe hq
  have hb0 := ((Below.refl w.heap.size w).alloc (by first | (simp; done) | (simp; omega)) (.cells #[.bool sp, .slice op np cp, .slice ap mp dp] 24))
  have hxp := nest1_0 w (.cells #[.bool sp, .slice op np cp, .slice ap mp dp] 24)
  have hpp := hp.below hb0
  have hpraw := hr.below hb0
  obtain ⟨w0, hw0⟩ : ∃ w0, w0 = (w.alloc (.cells #[.bool sp, .slice op np cp, .slice ap mp dp] 24)) := ⟨_, rfl⟩
  rw [← hw0] at hb0 hxp hpp hpraw
  have HB0 := Lib.hid hb0; have HW0 := Lib.hid hw0
  have BXp := Lib.hid hxp
  have Fp := Lib.hid hpp
  have Fraw := Lib.hid hpraw; clear hpraw hr
  clear hb0 hw0 hxp hpp hp
  have hr1 : rl ((1 : Int) : Rat) ≤ 2 := rl_small (by decide) (by decide)
  go_enter Tryz.func28, Tryz.ntmps28
  go_wp2_with fail
  rw [← HW0.out]
  have lwp := below_lt BXp.out
  refine wp_region_facts (A := ?aa0) (w := w0) 13 [] (by kernel_rfl) (Fl [KEq (.agg #[.bool sp, .slice op np cp, .slice ap mp dp]), KEq (.bool true), KEq (.bool true), KEq (.agg #[.bool sp, .slice op np cp, .slice ap mp dp]), KEq (.int .i64 (-1)), KEq (.bool false), KEq (.bool false), KEq (.bool false), KEq (undef), KEq (undef), KEq (undef), KEq (undef), KEq (.bool false)]) (fun i => false) (by kernel_rfl) (fun _ _ _ _ _ h => h) (monoL (monoC (kEq _) (monoC (kEq _) (monoC (kEq _) (monoC (kEq _) (monoC (kEq _) (monoC (kEq _) (monoC (kEq _) (monoC (kEq _) (monoC (kEq _) (monoC (kEq _) (monoC (kEq _) (monoC (kEq _) (monoC (kEq _) monoN)))))))))))))) ?ha0 ?st0 ?tl0
  case ha0 =>
    intro vals
    simp only [putsTo, dstOf, if_true, Act.put, List.setIfInBounds_toArray, List.set_cons_zero, List.set_cons_succ, List.getElem?_toArray, List.getElem?_cons_zero, List.getElem?_cons_succ, Option.bind_some]
    exact rfl
  case st0 =>
    simp only [List.take_succ_cons, List.take_zero]
    refine stepsOK_cons rfl rfl ?_ (stepsOK_cons rfl rfl ?_ (stepsOK_cons rfl rfl ?_ (stepsOK_guard rfl ?_ (stepsOK_guard rfl ?_ (stepsOK_guard rfl ?_ (stepsOK_cons rfl rfl ?_ (stepsOK_cons rfl rfl ?_ (stepsOK_guard rfl ?_ (stepsOK_guard rfl ?_ (stepsOK_guard rfl ?_ (stepsOK_guard rfl ?_ (stepsOK_cons rfl rfl ?_ (stepsOK_nil)))))))))))))
    · intro vals w1 hb hd
      obtain ⟨e0, e1, e2⟩ := row3 (heap_below BXp.out hb)
      refine stepOK_value (v := .agg #[.bool sp, .slice op np cp, .slice ap mp dp]) (w' := w1) (by go_simp) (leaves_mk (Below.refl _ _) rfl (fun h => by cases h))
    · intro vals w1 hb hd
      have d0 : KEq (.agg #[.bool sp, .slice op np cp, .slice ap mp dp]) (vals 0) w1 := hd 0 (by kernel_rfl)
      have r0 : RatIs w1 (vals 0) (p) := by rw [show vals 0 = _ from d0]; exact Fp.out.below hb
      have hs := rvalid_any (vals 0) _ ar br w1 (by rw [show vals 0 = _ from d0]; exact Fraw.out.below hb) (by omega) (by omega)
      rw [HV.out] at hs
      have HS := Lib.hid hs; clear hs
      clear d0 hd
      refine stepOK_call (by go_simp; first | done | exact ⟨⟨rfl, rfl⟩, rfl⟩) ?_
      (with_reducible refine HS.out.mono ?_); rintro e w2 ⟨rfl, hb2⟩
      exact ⟨_, rfl, leaves_mk hb2 rfl (fun h => by cases h)⟩
    · intro vals w1 hb hd
      have d1 : KEq (.bool true) (vals 1) w1 := hd 1 (by kernel_rfl)
      rw [show vals 1 = _ from d1]
      refine stepOK_value (v := .bool true) (w' := w1) (by go_simp) (leaves_mk (Below.refl _ _) rfl (fun h => by cases h))
    · intro vals w1 hb hd
      have dg : KEq (.bool true) (vals 2) w1 := hd 2 (by kernel_rfl)
      refine stepG_yes (wanted_of rfl rfl (congrArg some dg) rfl) ?_
      clear dg
      obtain ⟨e0, e1, e2⟩ := row3 (heap_below BXp.out hb)
      refine stepOK_value (v := .agg #[.bool sp, .slice op np cp, .slice ap mp dp]) (w' := w1) (by go_simp) (leaves_mk (Below.refl _ _) rfl (fun h => by cases h))
    · intro vals w1 hb hd
      have d3 : KEq (.agg #[.bool sp, .slice op np cp, .slice ap mp dp]) (vals 3) w1 := hd 3 (by kernel_rfl)
      have r3 : RatIs w1 (vals 3) (p) := by rw [show vals 3 = _ from d3]; exact Fp.out.below hb
      have dg : KEq (.bool true) (vals 2) w1 := hd 2 (by kernel_rfl)
      refine stepG_yes (wanted_of rfl rfl (congrArg some dg) rfl) ?_
      clear dg
      have hs := rsign_any _ p w1 r3
      rw [HSG.out] at hs
      have HS := Lib.hid hs; clear hs
      clear d3 hd
      refine stepOK_call (by go_simp; first | done | exact ⟨⟨rfl, rfl⟩, rfl⟩) ?_
      (with_reducible refine HS.out.mono ?_); rintro e w2 ⟨rfl, hb2⟩
      exact ⟨_, rfl, leaves_mk hb2 rfl (fun h => by cases h)⟩
    · intro vals w1 hb hd
      have d4 : KEq (.int .i64 (-1)) (vals 4) w1 := hd 4 (by kernel_rfl)
      have dg : KEq (.bool true) (vals 2) w1 := hd 2 (by kernel_rfl)
      refine stepG_yes (wanted_of rfl rfl (congrArg some dg) rfl) ?_
      clear dg
      rw [show vals 4 = _ from d4]
      refine stepOK_value (v := .bool false) (w' := w1) (by go_simp) (leaves_mk (Below.refl _ _) rfl (fun h => by cases h))
    · intro vals w1 hb hd
      have d2 : KEq (.bool true) (vals 2) w1 := hd 2 (by kernel_rfl)
      have d5 : KEq (.bool false) (vals 5) w1 := hd 5 (by kernel_rfl)
      rw [show vals 2 = _ from d2]
      rw [show vals 5 = _ from d5]
      refine stepOK_value (v := .bool false) (w' := w1) (by go_simp) (leaves_mk (Below.refl _ _) rfl (fun h => by cases h))
    · intro vals w1 hb hd
      have d6 : KEq (.bool false) (vals 6) w1 := hd 6 (by kernel_rfl)
      rw [show vals 6 = _ from d6]
      refine stepOK_value (v := .bool false) (w' := w1) (by go_simp) (leaves_mk (Below.refl _ _) rfl (fun h => by cases h))
    · intro vals w1 hb hd
      have dg : KEq (.bool false) (vals 7) w1 := hd 7 (by kernel_rfl)
      refine stepG_no (unwanted_of rfl rfl (congrArg some dg) rfl) ?_
      clear dg
      exact leaves_mk (Below.refl _ _) rfl (fun h => by cases h)
    · intro vals w1 hb hd
      have dg : KEq (.bool false) (vals 7) w1 := hd 7 (by kernel_rfl)
      refine stepG_no (unwanted_of rfl rfl (congrArg some dg) rfl) ?_
      clear dg
      exact leaves_mk (Below.refl _ _) rfl (fun h => by cases h)
    · intro vals w1 hb hd
      have dg : KEq (.bool false) (vals 7) w1 := hd 7 (by kernel_rfl)
      refine stepG_no (unwanted_of rfl rfl (congrArg some dg) rfl) ?_
      clear dg
      exact leaves_mk (Below.refl _ _) rfl (fun h => by cases h)
    · intro vals w1 hb hd
      have dg : KEq (.bool false) (vals 7) w1 := hd 7 (by kernel_rfl)
      refine stepG_no (unwanted_of rfl rfl (congrArg some dg) rfl) ?_
      clear dg
      exact leaves_mk (Below.refl _ _) rfl (fun h => by cases h)
    · intro vals w1 hb hd
      have d7 : KEq (.bool false) (vals 7) w1 := hd 7 (by kernel_rfl)
      rw [show vals 7 = _ from d7]
      refine stepOK_value (v := .bool false) (w' := w1) (by go_simp) (leaves_mk (Below.refl _ _) rfl (fun h => by cases h))
  case tl0 =>
    intro vals w1 hb1 hf hdis
    simp only [List.drop_succ_cons, List.drop_zero]
    have ee12 : vals 12 = .bool false := hf 12 (by decide)
    rw [ee12]; clear ee12
    clear hf hdis
    have HB1 := Lib.hid (HB0.out.step hb1)
    have Fp := Lib.hid (Fp.out.below hb1)
    have Fraw := Lib.hid (Fraw.out.below hb1)
    have BXp := Lib.hid (heap_below BXp.out hb1)
    clear hb1
    go_wp2_with fail
    go_ret
    exact ⟨by first | rfl | (simp; done), HB1.out⟩
set_option maxRecDepth 100000 in
set_option maxHeartbeats 3200000 in
theorem rprob_in (vp : Value) (p : Rat) (w : World) (hp : RatIs w vp p) {sr : Bool} {ar br : List Nat} (hr : RatV w vp sr ar br) (hla : ar.length ≤ 100000) (hlb : br.length ≤ 100000) (hpe : p = rq sr ar br) (hv : Vld sr ar br) (hq : 0 ≤ p) (hp2 : rl p ≤ 40000) :
    Calls Tryz.prog 28 #[vp] w (RetV w (.bool (prB sr ar br))) := by
  obtain ⟨sp, op, np, cp, ap, mp, dp, rfl⟩ := hp.shape
  have hlp := hp.rl
  rw [prB_of hv (by rw [← hpe]; exact hq), ← hpe]
  have HV := Lib.hid (decide_eq_true hv)
  have hsg : 0 ≤ sg p := by unfold sg; rw [if_neg (by grind)]; split <;> decide
  obtain ⟨s, hs⟩ : ∃ s, s = sg p := ⟨_, rfl⟩; rw [← hs] at hsg
  have t1 : decide (0 ≤ s) = true := decide_eq_true hsg
  obtain ⟨c, hc⟩ : ∃ c, c = cq p 1 := ⟨_, rfl⟩
  rw [← hc]
  obtain ⟨r, hrr⟩ : ∃ r, r = decide (c ≤ 0) := ⟨_, rfl⟩
  rw [← hrr]
  have hr2 : decide (c ≤ 0) = r := hrr.symm
  have HSG := Lib.hid hs; have HC := Lib.hid hc; clear hs hc hrr hsg hv hpe hq
  have hb0 := ((Below.refl w.heap.size w).alloc (by first | (simp; done) | (simp; omega)) (.cells #[.bool sp, .slice op np cp, .slice ap mp dp] 24))
  have hxp := nest1_0 w (.cells #[.bool sp, .slice op np cp, .slice ap mp dp] 24)
  have hpp := hp.below hb0
  have hpraw := hr.below hb0
  obtain ⟨w0, hw0⟩ : ∃ w0, w0 = (w.alloc (.cells #[.bool sp, .slice op np cp, .slice ap mp dp] 24)) := ⟨_, rfl⟩
  rw [← hw0] at hb0 hxp hpp hpraw
  have HB0 := Lib.hid hb0; have HW0 := Lib.hid hw0
  have BXp := Lib.hid hxp
  have Fp := Lib.hid hpp
  have Fraw := Lib.hid hpraw; clear hpraw hr
  clear hb0 hw0 hxp hpp hp
  have hr1 : rl ((1 : Int) : Rat) ≤ 2 := rl_small (by decide) (by decide)
  go_enter Tryz.func28, Tryz.ntmps28
  go_wp2_with fail
  rw [← HW0.out]
  have lwp := below_lt BXp.out
  refine wp_region_facts (A := ?aa0) (w := w0) 13 [] (by kernel_rfl) (Fl [KEq (.agg #[.bool sp, .slice op np cp, .slice ap mp dp]), KEq (.bool true), KEq (.bool true), KEq (.agg #[.bool sp, .slice op np cp, .slice ap mp dp]), KEq (.int .i64 s), KEq (.bool true), KEq (.bool true), KEq (.bool true), KEq (.agg #[.bool sp, .slice op np cp, .slice ap mp dp]), KIs (((1 : Int) : Rat)), KEq (.int .i64 c), KEq (.bool r), KEq (.bool r)]) (fun i => false) (by kernel_rfl) (fun _ _ _ _ _ h => h) (monoL (monoC (kEq _) (monoC (kEq _) (monoC (kEq _) (monoC (kEq _) (monoC (kEq _) (monoC (kEq _) (monoC (kEq _) (monoC (kEq _) (monoC (kEq _) (monoC (kIs _) (monoC (kEq _) (monoC (kEq _) (monoC (kEq _) monoN)))))))))))))) ?ha0 ?st0 ?tl0
  case ha0 =>
    intro vals
    simp only [putsTo, dstOf, if_true, Act.put, List.setIfInBounds_toArray, List.set_cons_zero, List.set_cons_succ, List.getElem?_toArray, List.getElem?_cons_zero, List.getElem?_cons_succ, Option.bind_some]
    exact rfl
  case st0 =>
    simp only [List.take_succ_cons, List.take_zero]
    refine stepsOK_cons rfl rfl ?_ (stepsOK_cons rfl rfl ?_ (stepsOK_cons rfl rfl ?_ (stepsOK_guard rfl ?_ (stepsOK_guard rfl ?_ (stepsOK_guard rfl ?_ (stepsOK_cons rfl rfl ?_ (stepsOK_cons rfl rfl ?_ (stepsOK_guard rfl ?_ (stepsOK_guard rfl ?_ (stepsOK_guard rfl ?_ (stepsOK_guard rfl ?_ (stepsOK_cons rfl rfl ?_ (stepsOK_nil)))))))))))))
    · intro vals w1 hb hd
      obtain ⟨e0, e1, e2⟩ := row3 (heap_below BXp.out hb)
      refine stepOK_value (v := .agg #[.bool sp, .slice op np cp, .slice ap mp dp]) (w' := w1) (by go_simp) (leaves_mk (Below.refl _ _) rfl (fun h => by cases h))
    · intro vals w1 hb hd
      have d0 : KEq (.agg #[.bool sp, .slice op np cp, .slice ap mp dp]) (vals 0) w1 := hd 0 (by kernel_rfl)
      have r0 : RatIs w1 (vals 0) (p) := by rw [show vals 0 = _ from d0]; exact Fp.out.below hb
      have hs := rvalid_any (vals 0) _ ar br w1 (by rw [show vals 0 = _ from d0]; exact Fraw.out.below hb) (by omega) (by omega)
      rw [HV.out] at hs
      have HS := Lib.hid hs; clear hs
      clear d0 hd
      refine stepOK_call (by go_simp; first | done | exact ⟨⟨rfl, rfl⟩, rfl⟩) ?_
      (with_reducible refine HS.out.mono ?_); rintro e w2 ⟨rfl, hb2⟩
      exact ⟨_, rfl, leaves_mk hb2 rfl (fun h => by cases h)⟩
    · intro vals w1 hb hd
      have d1 : KEq (.bool true) (vals 1) w1 := hd 1 (by kernel_rfl)
      rw [show vals 1 = _ from d1]
      refine stepOK_value (v := .bool true) (w' := w1) (by go_simp) (leaves_mk (Below.refl _ _) rfl (fun h => by cases h))
    · intro vals w1 hb hd
      have dg : KEq (.bool true) (vals 2) w1 := hd 2 (by kernel_rfl)
      refine stepG_yes (wanted_of rfl rfl (congrArg some dg) rfl) ?_
      clear dg
      obtain ⟨e0, e1, e2⟩ := row3 (heap_below BXp.out hb)
      refine stepOK_value (v := .agg #[.bool sp, .slice op np cp, .slice ap mp dp]) (w' := w1) (by go_simp) (leaves_mk (Below.refl _ _) rfl (fun h => by cases h))
    · intro vals w1 hb hd
      have d3 : KEq (.agg #[.bool sp, .slice op np cp, .slice ap mp dp]) (vals 3) w1 := hd 3 (by kernel_rfl)
      have r3 : RatIs w1 (vals 3) (p) := by rw [show vals 3 = _ from d3]; exact Fp.out.below hb
      have dg : KEq (.bool true) (vals 2) w1 := hd 2 (by kernel_rfl)
      refine stepG_yes (wanted_of rfl rfl (congrArg some dg) rfl) ?_
      clear dg
      have hs := rsign_any _ p w1 r3
      rw [← HSG.out] at hs
      have HS := Lib.hid hs; clear hs
      clear d3 hd
      refine stepOK_call (by go_simp; first | done | exact ⟨⟨rfl, rfl⟩, rfl⟩) ?_
      (with_reducible refine HS.out.mono ?_); rintro e w2 ⟨rfl, hb2⟩
      exact ⟨_, rfl, leaves_mk hb2 rfl (fun h => by cases h)⟩
    · intro vals w1 hb hd
      have d4 : KEq (.int .i64 s) (vals 4) w1 := hd 4 (by kernel_rfl)
      have dg : KEq (.bool true) (vals 2) w1 := hd 2 (by kernel_rfl)
      refine stepG_yes (wanted_of rfl rfl (congrArg some dg) rfl) ?_
      clear dg
      rw [show vals 4 = _ from d4]
      refine stepOK_value (v := .bool true) (w' := w1) (by go_simp) (leaves_mk (Below.refl _ _) rfl (fun h => by cases h))
    · intro vals w1 hb hd
      have d2 : KEq (.bool true) (vals 2) w1 := hd 2 (by kernel_rfl)
      have d5 : KEq (.bool true) (vals 5) w1 := hd 5 (by kernel_rfl)
      rw [show vals 2 = _ from d2]
      rw [show vals 5 = _ from d5]
      refine stepOK_value (v := .bool true) (w' := w1) (by go_simp) (leaves_mk (Below.refl _ _) rfl (fun h => by cases h))
    · intro vals w1 hb hd
      have d6 : KEq (.bool true) (vals 6) w1 := hd 6 (by kernel_rfl)
      rw [show vals 6 = _ from d6]
      refine stepOK_value (v := .bool true) (w' := w1) (by go_simp) (leaves_mk (Below.refl _ _) rfl (fun h => by cases h))
    · intro vals w1 hb hd
      have dg : KEq (.bool true) (vals 7) w1 := hd 7 (by kernel_rfl)
      refine stepG_yes (wanted_of rfl rfl (congrArg some dg) rfl) ?_
      clear dg
      obtain ⟨e0, e1, e2⟩ := row3 (heap_below BXp.out hb)
      refine stepOK_value (v := .agg #[.bool sp, .slice op np cp, .slice ap mp dp]) (w' := w1) (by go_simp) (leaves_mk (Below.refl _ _) rfl (fun h => by cases h))
    · intro vals w1 hb hd
      have dg : KEq (.bool true) (vals 7) w1 := hd 7 (by kernel_rfl)
      refine stepG_yes (wanted_of rfl rfl (congrArg some dg) rfl) ?_
      clear dg
      have hs := rofq_any 1 w1 (by decide) (by decide)
      have HS := Lib.hid hs; clear hs
      refine stepOK_call (by go_simp; first | done | exact ⟨⟨rfl, rfl⟩, rfl⟩) ?_
      (with_reducible refine HS.out.mono ?_); rintro e w2 ⟨v, rfl, hb2, hn⟩
      exact ⟨v, rfl, leaves_mk hb2 hn (fun h => by cases h)⟩
    · intro vals w1 hb hd
      have d8 : KEq (.agg #[.bool sp, .slice op np cp, .slice ap mp dp]) (vals 8) w1 := hd 8 (by kernel_rfl)
      have r8 : RatIs w1 (vals 8) (p) := by rw [show vals 8 = _ from d8]; exact Fp.out.below hb
      have d9 : KIs (((1 : Int) : Rat)) (vals 9) w1 := hd 9 (by kernel_rfl)
      have r9 : RatIs w1 (vals 9) (((1 : Int) : Rat)) := IsR.is d9 (by omega)
      have dg : KEq (.bool true) (vals 7) w1 := hd 7 (by kernel_rfl)
      refine stepG_yes (wanted_of rfl rfl (congrArg some dg) rfl) ?_
      clear dg
      have hs := rcmpq_any _ p _ 1 w1 r8 r9 hp2 (by rw [rl_one]; decide)
      rw [← HC.out] at hs
      have HS := Lib.hid hs; clear hs
      clear d8 d9 hd
      refine stepOK_call (by go_simp; first | done | exact ⟨⟨rfl, rfl⟩, rfl⟩) ?_
      (with_reducible refine HS.out.mono ?_); rintro e w2 ⟨rfl, hb2⟩
      exact ⟨_, rfl, leaves_mk hb2 rfl (fun h => by cases h)⟩
    · intro vals w1 hb hd
      have d10 : KEq (.int .i64 c) (vals 10) w1 := hd 10 (by kernel_rfl)
      have dg : KEq (.bool true) (vals 7) w1 := hd 7 (by kernel_rfl)
      refine stepG_yes (wanted_of rfl rfl (congrArg some dg) rfl) ?_
      clear dg
      rw [show vals 10 = _ from d10]
      refine stepOK_value (v := .bool r) (w' := w1) (by go_simp) (leaves_mk (Below.refl _ _) rfl (fun h => by cases h))
    · intro vals w1 hb hd
      have d7 : KEq (.bool true) (vals 7) w1 := hd 7 (by kernel_rfl)
      have d11 : KEq (.bool r) (vals 11) w1 := hd 11 (by kernel_rfl)
      rw [show vals 7 = _ from d7]
      rw [show vals 11 = _ from d11]
      refine stepOK_value (v := .bool r) (w' := w1) (by go_simp) (leaves_mk (Below.refl _ _) rfl (fun h => by cases h))
  case tl0 =>
    intro vals w1 hb1 hf hdis
    simp only [List.drop_succ_cons, List.drop_zero]
    have ee12 : vals 12 = .bool r := hf 12 (by decide)
    rw [ee12]; clear ee12
    clear hf hdis
    have HB1 := Lib.hid (HB0.out.step hb1)
    have Fp := Lib.hid (Fp.out.below hb1)
    have Fraw := Lib.hid (Fraw.out.below hb1)
    have BXp := Lib.hid (heap_below BXp.out hb1)
    clear hb1
    go_wp2_with fail
    go_ret
    exact ⟨by first | rfl | (simp; done), HB1.out⟩
theorem prob_any (v : Value) (s : Bool) (a b : List Nat) (w : World) (h : RatV w v s a b) (hla : a.length ≤ 40000) (hlb : b.length ≤ 40000) :
    Calls Tryz.prog 27 #[v] w (RetV w (.bool (prB s a b))) := by
  have hi : RatIs w v (rq s a b) := h.is (by omega) (by omega)
  skip
  by_cases hv : Vld s a b
  · by_cases hq : rq s a b < 0
    · exact prob_neg v _ w hi h (by omega) (by omega) rfl hv hq
    · exact prob_in v _ w hi h (by omega) (by omega) rfl hv (by grind)
  · exact prob_no v _ w hi h (by omega) (by omega) rfl hv
theorem rprob_any (v : Value) (s : Bool) (a b : List Nat) (w : World) (h : RatV w v s a b) (hla : a.length ≤ 40000) (hlb : b.length ≤ 40000) :
    Calls Tryz.prog 28 #[v] w (RetV w (.bool (prB s a b))) := by
  have hi : RatIs w v (rq s a b) := h.is (by omega) (by omega)
  have hl : rl (rq s a b) ≤ 40000 := rl_rq h.lt.1 h.lt.2 hla hlb (by decide)
  by_cases hv : Vld s a b
  · by_cases hq : rq s a b < 0
    · exact rprob_neg v _ w hi h (by omega) (by omega) rfl hv hq hl
    · exact rprob_in v _ w hi h (by omega) (by omega) rfl hv (by grind) hl
  · exact rprob_no v _ w hi h (by omega) (by omega) rfl hv hl
end Go.Proofs.YtkedjammeoaciaaGreatDoor
/-
  The reference: Floor, Round: what they hand back.
  Conditions: each theorem's own.
-/
namespace Go.Proofs.YtkedjammeoaciaaGreatDoor
open Go.RowKit Go.ChangeShapes Go.WideShapes

set_option maxRecDepth 100000 in
set_option maxHeartbeats 3200000 in
theorem rfloor_pos (vp : Value) (p : Rat) (w : World) (hp : RatIs w vp p) (hs : ng p = false) :
    Calls Tryz.prog 17 #[vp] w (RetR w (fl p)) := by
  obtain ⟨sp, op, np, cp, ap, mp, dp, rfl⟩ := hp.shape
  have hlp := hp.rl
  have hb0 := (((Below.refl w.heap.size w).alloc (by first | (simp; done) | (simp; omega)) (.cells #[.bool sp, .slice op np cp, .slice ap mp dp] 24)).alloc (by first | (simp; done) | (simp; omega)) (.cells #[.bool false, .slice none 0 0, .slice none 0 0] 24))
  have hxp := nest2_0 w (.cells #[.bool sp, .slice op np cp, .slice ap mp dp] 24) (.cells #[.bool false, .slice none 0 0, .slice none 0 0] 24)
  have hxR := nest2_1 w (.cells #[.bool sp, .slice op np cp, .slice ap mp dp] 24) (.cells #[.bool false, .slice none 0 0, .slice none 0 0] 24)
  have hpp := hp.below hb0
  obtain ⟨w0, hw0⟩ : ∃ w0, w0 = ((w.alloc (.cells #[.bool sp, .slice op np cp, .slice ap mp dp] 24)).alloc (.cells #[.bool false, .slice none 0 0, .slice none 0 0] 24)) := ⟨_, rfl⟩
  rw [← hw0] at hb0 hxp hxR hpp
  have HB0 := Lib.hid hb0; have HW0 := Lib.hid hw0
  have BXp := Lib.hid hxp
  have BXR := Lib.hid hxR
  have Fp := Lib.hid hpp
  clear hb0 hw0 hxp hxR hpp hp
  have l1 := rl_n p; have l2 := rl_d p
  have heq := q_floor p
  rw [hs, if_neg (by simp)] at heq
  have L1 : (wd (nn p / p.den)).length ≤ 100000 := by exact Nat.le_trans (wd_length_mono (Nat.div_le_self _ _)) (by omega)
  have L3 : (wd (1)).length ≤ 1 := by rw [wd_one_len]; exact Nat.le_refl _
  have HEQ := Lib.hid heq; have HS := Lib.hid hs; have HSP := Lib.hid hs; clear heq hs
  go_enter Tryz.func17, Tryz.ntmps17
  have hs := rparts_any _ p w0 Fp.out
  have HS := Lib.hid hs; clear hs
  go_wp2_with fail
  rw [← HW0.out]
  (with_reducible refine HS.out.mono ?_); rintro e w1 ⟨v1, u1, rfl, hb1, hn1, hm1⟩
  clear HS
  rw [HSP.out]
  have HB1 := Lib.hid (HB0.out.step hb1)
  have Fp := Lib.hid (Fp.out.below hb1)
  have BXp := Lib.hid (heap_below BXp.out hb1)
  have BXR := Lib.hid (heap_below BXR.out hb1)
  have N := Lib.hid hn1
  have D := Lib.hid hm1
  clear hn1 hm1
  clear hb1
  have hs := rdivN N.out D.out (by omega) (by omega) p.den_nz
  have HS := Lib.hid hs; clear hs
  go_wp2_with fail
  (with_reducible refine HS.out.mono ?_); rintro e w2 ⟨v2, u2, rfl, hb2, hn2, hm2⟩
  clear HS
  obtain ⟨ro, rc, rfl, _, _, _⟩ := hm2.shape
  have HB2 := Lib.hid (HB1.out.step hb2)
  have Fp := Lib.hid (Fp.out.below hb2)
  have N := Lib.hid (N.out.below hb2)
  have D := Lib.hid (D.out.below hb2)
  have BXp := Lib.hid (heap_below BXp.out hb2)
  have BXR := Lib.hid (heap_below BXR.out hb2)
  have Q := Lib.hid hn2
  have RM := Lib.hid hm2
  clear hn2 hm2
  clear hb2
  obtain ⟨w3, hw3⟩ : ∃ w3, w3 = w2.alloc (.cells #[.int .u32 1] 75) := ⟨_, rfl⟩
  have hb3 : Below w2.heap.size w2 w3 := by rw [hw3]; exact (Below.refl _ _).alloc (Nat.le_refl _) _
  have hxD1 := heap_alloc_new w2 (.cells #[.int .u32 1] 75)
  obtain ⟨gD1, hgD1⟩ : ∃ gD1, gD1 = w2.heap.size := ⟨_, rfl⟩
  rw [← hw3, ← hgD1] at hxD1
  have HW3 := Lib.hid hw3; have HGD1 := Lib.hid hgD1; clear hw3 hgD1
  have HB3 := Lib.hid (HB2.out.step hb3)
  have Fp := Lib.hid (Fp.out.below hb3)
  have N := Lib.hid (N.out.below hb3)
  have D := Lib.hid (D.out.below hb3)
  have Q := Lib.hid (Q.out.below hb3)
  have RM := Lib.hid (RM.out.below hb3)
  have BXp := Lib.hid (heap_below BXp.out hb3)
  have BXR := Lib.hid (heap_below BXR.out hb3)
  clear hb3
  have hnD := num_one1 w2
  rw [← HW3.out, ← HGD1.out] at hnD
  have ONE := Lib.hid hnD; clear hnD hxD1
  have hs := rfromK false Q.out ONE.out (by omega) (by omega) (by decide)
  rw [HEQ.out] at hs
  have HS := Lib.hid hs; clear hs
  go_wp2_with fail
  rw [← HW3.out]
  try rw [← HGD1.out]
  (with_reducible refine HS.out.mono ?_); rintro e w4 ⟨v4, rfl, hb4, hn4⟩
  clear HS
  have HB4 := Lib.hid (HB3.out.step hb4)
  have Fp := Lib.hid (Fp.out.below hb4)
  have N := Lib.hid (N.out.below hb4)
  have D := Lib.hid (D.out.below hb4)
  have Q := Lib.hid (Q.out.below hb4)
  have RM := Lib.hid (RM.out.below hb4)
  have ONE := Lib.hid (ONE.out.below hb4)
  have BXp := Lib.hid (heap_below BXp.out hb4)
  have BXR := Lib.hid (heap_below BXR.out hb4)
  have R1 := Lib.hid hn4; clear hn4
  clear hb4
  obtain ⟨sR1, oR1, nR1, cR1, aR1, mR1, dR1, rfl⟩ := R1.out.shape
  have hal : Below w4.heap.size w4 (w4.alloc (.cells #[.bool sR1, .slice oR1 nR1 cR1, .slice aR1 mR1 dR1] 24)) := (Below.refl _ _).alloc (Nat.le_refl _) _
  have HXA := Lib.hid (heap_below BXR.out hal); have HAL := Lib.hid hal; clear hal
  obtain ⟨eR0, eR1, eR2⟩ := row3 HXA.out
  obtain ⟨fR0, fR1, fR2⟩ := froz3 HXA.out
  go_wp2_with fail
  refine ret_rat rfl (w.heap.size + 1) _ _ _ rfl (put3_heap HXA.out) rfl ?_
  exact ⟨_, rfl, put3_below (HB4.out.step HAL.out) (by omega) _ _ _, isR_put (R1.out.below HAL.out) HXA.out⟩
set_option maxRecDepth 100000 in
set_option maxHeartbeats 3200000 in
theorem rfloor_whole (vp : Value) (p : Rat) (w : World) (hp : RatIs w vp p) (hs : ng p = true) (hr : nn p % p.den = 0) :
    Calls Tryz.prog 17 #[vp] w (RetR w (fl p)) := by
  obtain ⟨sp, op, np, cp, ap, mp, dp, rfl⟩ := hp.shape
  have hlp := hp.rl
  have hb0 := (((Below.refl w.heap.size w).alloc (by first | (simp; done) | (simp; omega)) (.cells #[.bool sp, .slice op np cp, .slice ap mp dp] 24)).alloc (by first | (simp; done) | (simp; omega)) (.cells #[.bool false, .slice none 0 0, .slice none 0 0] 24))
  have hxp := nest2_0 w (.cells #[.bool sp, .slice op np cp, .slice ap mp dp] 24) (.cells #[.bool false, .slice none 0 0, .slice none 0 0] 24)
  have hxR := nest2_1 w (.cells #[.bool sp, .slice op np cp, .slice ap mp dp] 24) (.cells #[.bool false, .slice none 0 0, .slice none 0 0] 24)
  have hpp := hp.below hb0
  obtain ⟨w0, hw0⟩ : ∃ w0, w0 = ((w.alloc (.cells #[.bool sp, .slice op np cp, .slice ap mp dp] 24)).alloc (.cells #[.bool false, .slice none 0 0, .slice none 0 0] 24)) := ⟨_, rfl⟩
  rw [← hw0] at hb0 hxp hxR hpp
  have HB0 := Lib.hid hb0; have HW0 := Lib.hid hw0
  have BXp := Lib.hid hxp
  have BXR := Lib.hid hxR
  have Fp := Lib.hid hpp
  clear hb0 hw0 hxp hxR hpp hp
  have l1 := rl_n p; have l2 := rl_d p
  have heq := q_floor p
  rw [hs, if_neg (by simp [hr])] at heq
  have L1 : (wd (nn p / p.den)).length ≤ 100000 := by exact Nat.le_trans (wd_length_mono (Nat.div_le_self _ _)) (by omega)
  have L3 : (wd (1)).length ≤ 1 := by rw [wd_one_len]; exact Nat.le_refl _
  have HEQ := Lib.hid heq; have HS := Lib.hid hs; have HSP := Lib.hid hs; clear heq hs
  have HR := Lib.hid hr; clear hr
  go_enter Tryz.func17, Tryz.ntmps17
  have hs := rparts_any _ p w0 Fp.out
  have HS := Lib.hid hs; clear hs
  go_wp2_with fail
  rw [← HW0.out]
  (with_reducible refine HS.out.mono ?_); rintro e w1 ⟨v1, u1, rfl, hb1, hn1, hm1⟩
  clear HS
  rw [HSP.out]
  have HB1 := Lib.hid (HB0.out.step hb1)
  have Fp := Lib.hid (Fp.out.below hb1)
  have BXp := Lib.hid (heap_below BXp.out hb1)
  have BXR := Lib.hid (heap_below BXR.out hb1)
  have N := Lib.hid hn1
  have D := Lib.hid hm1
  clear hn1 hm1
  clear hb1
  have hs := rdivN N.out D.out (by omega) (by omega) p.den_nz
  have HS := Lib.hid hs; clear hs
  go_wp2_with fail
  (with_reducible refine HS.out.mono ?_); rintro e w2 ⟨v2, u2, rfl, hb2, hn2, hm2⟩
  clear HS
  rw [HR.out, wd_zero] at hm2
  obtain ⟨ro, rc, rfl, _, _, _⟩ := hm2.shape
  rw [List.length_nil] at hm2 ⊢
  have HB2 := Lib.hid (HB1.out.step hb2)
  have Fp := Lib.hid (Fp.out.below hb2)
  have N := Lib.hid (N.out.below hb2)
  have D := Lib.hid (D.out.below hb2)
  have BXp := Lib.hid (heap_below BXp.out hb2)
  have BXR := Lib.hid (heap_below BXR.out hb2)
  have Q := Lib.hid hn2
  have RM := Lib.hid hm2
  clear hn2 hm2
  clear hb2
  obtain ⟨w3, hw3⟩ : ∃ w3, w3 = w2.alloc (.cells #[.int .u32 1] 75) := ⟨_, rfl⟩
  have hb3 : Below w2.heap.size w2 w3 := by rw [hw3]; exact (Below.refl _ _).alloc (Nat.le_refl _) _
  have hxD1 := heap_alloc_new w2 (.cells #[.int .u32 1] 75)
  obtain ⟨gD1, hgD1⟩ : ∃ gD1, gD1 = w2.heap.size := ⟨_, rfl⟩
  rw [← hw3, ← hgD1] at hxD1
  have HW3 := Lib.hid hw3; have HGD1 := Lib.hid hgD1; clear hw3 hgD1
  have HB3 := Lib.hid (HB2.out.step hb3)
  have Fp := Lib.hid (Fp.out.below hb3)
  have N := Lib.hid (N.out.below hb3)
  have D := Lib.hid (D.out.below hb3)
  have Q := Lib.hid (Q.out.below hb3)
  have RM := Lib.hid (RM.out.below hb3)
  have BXp := Lib.hid (heap_below BXp.out hb3)
  have BXR := Lib.hid (heap_below BXR.out hb3)
  clear hb3
  have hnD := num_one1 w2
  rw [← HW3.out, ← HGD1.out] at hnD
  have ONE := Lib.hid hnD; clear hnD hxD1
  have hs := rfromK true Q.out ONE.out (by omega) (by omega) (by decide)
  rw [HEQ.out] at hs
  have HS := Lib.hid hs; clear hs
  go_wp2_with fail
  rw [← HW3.out]
  try rw [← HGD1.out]
  (with_reducible refine HS.out.mono ?_); rintro e w4 ⟨v4, rfl, hb4, hn4⟩
  clear HS
  have HB4 := Lib.hid (HB3.out.step hb4)
  have Fp := Lib.hid (Fp.out.below hb4)
  have N := Lib.hid (N.out.below hb4)
  have D := Lib.hid (D.out.below hb4)
  have Q := Lib.hid (Q.out.below hb4)
  have RM := Lib.hid (RM.out.below hb4)
  have ONE := Lib.hid (ONE.out.below hb4)
  have BXp := Lib.hid (heap_below BXp.out hb4)
  have BXR := Lib.hid (heap_below BXR.out hb4)
  have R1 := Lib.hid hn4; clear hn4
  clear hb4
  obtain ⟨sR1, oR1, nR1, cR1, aR1, mR1, dR1, rfl⟩ := R1.out.shape
  have hal : Below w4.heap.size w4 (w4.alloc (.cells #[.bool sR1, .slice oR1 nR1 cR1, .slice aR1 mR1 dR1] 24)) := (Below.refl _ _).alloc (Nat.le_refl _) _
  have HXA := Lib.hid (heap_below BXR.out hal); have HAL := Lib.hid hal; clear hal
  obtain ⟨eR0, eR1, eR2⟩ := row3 HXA.out
  obtain ⟨fR0, fR1, fR2⟩ := froz3 HXA.out
  go_wp2_with fail
  refine ret_rat rfl (w.heap.size + 1) _ _ _ rfl (put3_heap HXA.out) rfl ?_
  exact ⟨_, rfl, put3_below (HB4.out.step HAL.out) (by omega) _ _ _, isR_put (R1.out.below HAL.out) HXA.out⟩
set_option maxRecDepth 100000 in
set_option maxHeartbeats 3200000 in
theorem rfloor_part (vp : Value) (p : Rat) (w : World) (hp : RatIs w vp p) (hs : ng p = true) (hr : nn p % p.den ≠ 0) :
    Calls Tryz.prog 17 #[vp] w (RetR w (fl p)) := by
  obtain ⟨sp, op, np, cp, ap, mp, dp, rfl⟩ := hp.shape
  have hlp := hp.rl
  have hb0 := (((Below.refl w.heap.size w).alloc (by first | (simp; done) | (simp; omega)) (.cells #[.bool sp, .slice op np cp, .slice ap mp dp] 24)).alloc (by first | (simp; done) | (simp; omega)) (.cells #[.bool false, .slice none 0 0, .slice none 0 0] 24))
  have hxp := nest2_0 w (.cells #[.bool sp, .slice op np cp, .slice ap mp dp] 24) (.cells #[.bool false, .slice none 0 0, .slice none 0 0] 24)
  have hxR := nest2_1 w (.cells #[.bool sp, .slice op np cp, .slice ap mp dp] 24) (.cells #[.bool false, .slice none 0 0, .slice none 0 0] 24)
  have hpp := hp.below hb0
  obtain ⟨w0, hw0⟩ : ∃ w0, w0 = ((w.alloc (.cells #[.bool sp, .slice op np cp, .slice ap mp dp] 24)).alloc (.cells #[.bool false, .slice none 0 0, .slice none 0 0] 24)) := ⟨_, rfl⟩
  rw [← hw0] at hb0 hxp hxR hpp
  have HB0 := Lib.hid hb0; have HW0 := Lib.hid hw0
  have BXp := Lib.hid hxp
  have BXR := Lib.hid hxR
  have Fp := Lib.hid hpp
  clear hb0 hw0 hxp hxR hpp hp
  have l1 := rl_n p; have l2 := rl_d p
  have heq := q_floor p
  rw [hs, if_pos ⟨rfl, hr⟩] at heq
  have L1 : (wd (nn p / p.den)).length ≤ 100000 := by exact Nat.le_trans (wd_length_mono (Nat.div_le_self _ _)) (by omega)
  have L3 : (wd (1)).length ≤ 1 := by rw [wd_one_len]; exact Nat.le_refl _
  have L2 : (wd (nn p / p.den + 1)).length ≤ 100001 := by have := wd_succ_len (nn p / p.den); omega
  have hz : decide ((0 : Int) < ((wd (nn p % p.den)).length : Int)) = true := by rw [decide_eq_true_eq]; exact Int.natCast_pos.2 (List.length_pos_iff.2 (wd_ne hr))
  obtain ⟨L, hL⟩ : ∃ L, L = (wd (nn p % p.den)).length := ⟨_, rfl⟩
  rw [← hL] at hz
  have HL := Lib.hid hL; clear hL
  have hz2 : decide (0 < L) = true := by rw [decide_eq_true_eq] at hz ⊢; omega
  have HEQ := Lib.hid heq; have HS := Lib.hid hs; have HSP := Lib.hid hs; clear heq hs hr
  go_enter Tryz.func17, Tryz.ntmps17
  have hs := rparts_any _ p w0 Fp.out
  have HS := Lib.hid hs; clear hs
  go_wp2_with fail
  rw [← HW0.out]
  (with_reducible refine HS.out.mono ?_); rintro e w1 ⟨v1, u1, rfl, hb1, hn1, hm1⟩
  clear HS
  rw [HSP.out]
  have HB1 := Lib.hid (HB0.out.step hb1)
  have Fp := Lib.hid (Fp.out.below hb1)
  have BXp := Lib.hid (heap_below BXp.out hb1)
  have BXR := Lib.hid (heap_below BXR.out hb1)
  have N := Lib.hid hn1
  have D := Lib.hid hm1
  clear hn1 hm1
  clear hb1
  have hs := rdivN N.out D.out (by omega) (by omega) p.den_nz
  have HS := Lib.hid hs; clear hs
  go_wp2_with fail
  (with_reducible refine HS.out.mono ?_); rintro e w2 ⟨v2, u2, rfl, hb2, hn2, hm2⟩
  clear HS
  obtain ⟨ro, rc, rfl, _, _, _⟩ := hm2.shape
  rw [← HL.out] at hm2 ⊢
  have HB2 := Lib.hid (HB1.out.step hb2)
  have Fp := Lib.hid (Fp.out.below hb2)
  have N := Lib.hid (N.out.below hb2)
  have D := Lib.hid (D.out.below hb2)
  have BXp := Lib.hid (heap_below BXp.out hb2)
  have BXR := Lib.hid (heap_below BXR.out hb2)
  have Q := Lib.hid hn2
  have RM := Lib.hid hm2
  clear hn2 hm2
  clear hb2
  obtain ⟨w3, hw3⟩ : ∃ w3, w3 = w2.alloc (.cells #[.int .u32 1] 75) := ⟨_, rfl⟩
  have hb3 : Below w2.heap.size w2 w3 := by rw [hw3]; exact (Below.refl _ _).alloc (Nat.le_refl _) _
  have hxD1 := heap_alloc_new w2 (.cells #[.int .u32 1] 75)
  obtain ⟨gD1, hgD1⟩ : ∃ gD1, gD1 = w2.heap.size := ⟨_, rfl⟩
  rw [← hw3, ← hgD1] at hxD1
  have HW3 := Lib.hid hw3; have HGD1 := Lib.hid hgD1; clear hw3 hgD1
  have HB3 := Lib.hid (HB2.out.step hb3)
  have Fp := Lib.hid (Fp.out.below hb3)
  have N := Lib.hid (N.out.below hb3)
  have D := Lib.hid (D.out.below hb3)
  have Q := Lib.hid (Q.out.below hb3)
  have RM := Lib.hid (RM.out.below hb3)
  have BXp := Lib.hid (heap_below BXp.out hb3)
  have BXR := Lib.hid (heap_below BXR.out hb3)
  clear hb3
  have hnD := num_one1 w2
  rw [← HW3.out, ← HGD1.out] at hnD
  have ONE := Lib.hid hnD; clear hnD hxD1
  have hs := raddN Q.out ONE.out (by omega) (by omega)
  have HS := Lib.hid hs; clear hs
  go_wp2_with fail
  rw [← HW3.out]
  try rw [← HGD1.out]
  (with_reducible refine HS.out.mono ?_); rintro e w4 ⟨v4, rfl, hb4, hn4⟩
  clear HS
  have HB4 := Lib.hid (HB3.out.step hb4)
  have Fp := Lib.hid (Fp.out.below hb4)
  have N := Lib.hid (N.out.below hb4)
  have D := Lib.hid (D.out.below hb4)
  have Q := Lib.hid (Q.out.below hb4)
  have RM := Lib.hid (RM.out.below hb4)
  have ONE := Lib.hid (ONE.out.below hb4)
  have BXp := Lib.hid (heap_below BXp.out hb4)
  have BXR := Lib.hid (heap_below BXR.out hb4)
  have Q2 := Lib.hid hn4; clear hn4
  clear hb4
  obtain ⟨w5, hw5⟩ : ∃ w5, w5 = w4.alloc (.cells #[.int .u32 1] 75) := ⟨_, rfl⟩
  have hb5 : Below w4.heap.size w4 w5 := by rw [hw5]; exact (Below.refl _ _).alloc (Nat.le_refl _) _
  have hxD2 := heap_alloc_new w4 (.cells #[.int .u32 1] 75)
  obtain ⟨gD2, hgD2⟩ : ∃ gD2, gD2 = w4.heap.size := ⟨_, rfl⟩
  rw [← hw5, ← hgD2] at hxD2
  have HW5 := Lib.hid hw5; have HGD2 := Lib.hid hgD2; clear hw5 hgD2
  have HB5 := Lib.hid (HB4.out.step hb5)
  have Fp := Lib.hid (Fp.out.below hb5)
  have N := Lib.hid (N.out.below hb5)
  have D := Lib.hid (D.out.below hb5)
  have Q := Lib.hid (Q.out.below hb5)
  have RM := Lib.hid (RM.out.below hb5)
  have ONE := Lib.hid (ONE.out.below hb5)
  have Q2 := Lib.hid (Q2.out.below hb5)
  have BXp := Lib.hid (heap_below BXp.out hb5)
  have BXR := Lib.hid (heap_below BXR.out hb5)
  clear hb5
  have hnD := num_one1 w4
  rw [← HW5.out, ← HGD2.out] at hnD
  have ON2 := Lib.hid hnD; clear hnD hxD2
  have hs := rfromK true Q2.out ON2.out (by omega) (by omega) (by decide)
  rw [HEQ.out] at hs
  have HS := Lib.hid hs; clear hs
  go_wp2_with fail
  rw [← HW5.out]
  try rw [← HGD2.out]
  (with_reducible refine HS.out.mono ?_); rintro e w6 ⟨v6, rfl, hb6, hn6⟩
  clear HS
  have HB6 := Lib.hid (HB5.out.step hb6)
  have Fp := Lib.hid (Fp.out.below hb6)
  have N := Lib.hid (N.out.below hb6)
  have D := Lib.hid (D.out.below hb6)
  have Q := Lib.hid (Q.out.below hb6)
  have RM := Lib.hid (RM.out.below hb6)
  have ONE := Lib.hid (ONE.out.below hb6)
  have Q2 := Lib.hid (Q2.out.below hb6)
  have ON2 := Lib.hid (ON2.out.below hb6)
  have BXp := Lib.hid (heap_below BXp.out hb6)
  have BXR := Lib.hid (heap_below BXR.out hb6)
  have R1 := Lib.hid hn6; clear hn6
  clear hb6
  obtain ⟨sR1, oR1, nR1, cR1, aR1, mR1, dR1, rfl⟩ := R1.out.shape
  have hal : Below w6.heap.size w6 (w6.alloc (.cells #[.bool sR1, .slice oR1 nR1 cR1, .slice aR1 mR1 dR1] 24)) := (Below.refl _ _).alloc (Nat.le_refl _) _
  have HXA := Lib.hid (heap_below BXR.out hal); have HAL := Lib.hid hal; clear hal
  obtain ⟨eR0, eR1, eR2⟩ := row3 HXA.out
  obtain ⟨fR0, fR1, fR2⟩ := froz3 HXA.out
  go_wp2_with fail
  refine ret_rat rfl (w.heap.size + 1) _ _ _ rfl (put3_heap HXA.out) rfl ?_
  exact ⟨_, rfl, put3_below (HB6.out.step HAL.out) (by omega) _ _ _, isR_put (R1.out.below HAL.out) HXA.out⟩
theorem rfloor_any (vp : Value) (p : Rat) (w : World) (hp : RatIs w vp p) : Calls Tryz.prog 17 #[vp] w (RetR w (fl p)) := by
  cases h : ng p
  · exact rfloor_pos vp p w hp h
  · by_cases h2 : nn p % p.den = 0
    · exact rfloor_whole vp p w hp h h2
    · exact rfloor_part vp p w hp h h2
set_option maxRecDepth 100000 in
set_option maxHeartbeats 3200000 in
theorem rround_low (vp : Value) (p : Rat) (d : Int) (w : World) (hp : RatIs w vp p) (h : d < 1) :
    Calls Tryz.prog 12 #[vp, .int .i64 d] w (RetRE w 0 (.int .i64 3)) := by
  obtain ⟨sp, op, np, cp, ap, mp, dp, rfl⟩ := hp.shape
  have hlp := hp.rl
  have hb0 := (((Below.refl w.heap.size w).alloc (by first | (simp; done) | (simp; omega)) (.cells #[.bool sp, .slice op np cp, .slice ap mp dp] 24)).alloc (by first | (simp; done) | (simp; omega)) (.cells #[.bool false, .slice none 0 0, .slice none 0 0] 24))
  have hxp := nest2_0 w (.cells #[.bool sp, .slice op np cp, .slice ap mp dp] 24) (.cells #[.bool false, .slice none 0 0, .slice none 0 0] 24)
  have hxR := nest2_1 w (.cells #[.bool sp, .slice op np cp, .slice ap mp dp] 24) (.cells #[.bool false, .slice none 0 0, .slice none 0 0] 24)
  have hpp := hp.below hb0
  obtain ⟨w0, hw0⟩ : ∃ w0, w0 = ((w.alloc (.cells #[.bool sp, .slice op np cp, .slice ap mp dp] 24)).alloc (.cells #[.bool false, .slice none 0 0, .slice none 0 0] 24)) := ⟨_, rfl⟩
  rw [← hw0] at hb0 hxp hxR hpp
  have HB0 := Lib.hid hb0; have HW0 := Lib.hid hw0
  have BXp := Lib.hid hxp
  have BXR := Lib.hid hxR
  have Fp := Lib.hid hpp
  clear hb0 hw0 hxp hxR hpp hp
  have f1 : decide (d < 1) = true := decide_eq_true h
  clear h
  go_enter Tryz.func12, Tryz.ntmps12
  go_wp2_with fail
  rw [← HW0.out]
  refine ret_rat2 rfl (w.heap.size + 1) _ _ _ rfl BXR.out rfl ?_
  exact ⟨_, rfl, HB0.out, isR_zero _⟩
set_option maxRecDepth 100000 in
set_option maxHeartbeats 3200000 in
theorem rround_high (vp : Value) (p : Rat) (d : Int) (w : World) (hp : RatIs w vp p) (h : 2147483648 < d) :
    Calls Tryz.prog 12 #[vp, .int .i64 d] w (RetRE w 0 (.int .i64 3)) := by
  obtain ⟨sp, op, np, cp, ap, mp, dp, rfl⟩ := hp.shape
  have hlp := hp.rl
  have hb0 := (((Below.refl w.heap.size w).alloc (by first | (simp; done) | (simp; omega)) (.cells #[.bool sp, .slice op np cp, .slice ap mp dp] 24)).alloc (by first | (simp; done) | (simp; omega)) (.cells #[.bool false, .slice none 0 0, .slice none 0 0] 24))
  have hxp := nest2_0 w (.cells #[.bool sp, .slice op np cp, .slice ap mp dp] 24) (.cells #[.bool false, .slice none 0 0, .slice none 0 0] 24)
  have hxR := nest2_1 w (.cells #[.bool sp, .slice op np cp, .slice ap mp dp] 24) (.cells #[.bool false, .slice none 0 0, .slice none 0 0] 24)
  have hpp := hp.below hb0
  obtain ⟨w0, hw0⟩ : ∃ w0, w0 = ((w.alloc (.cells #[.bool sp, .slice op np cp, .slice ap mp dp] 24)).alloc (.cells #[.bool false, .slice none 0 0, .slice none 0 0] 24)) := ⟨_, rfl⟩
  rw [← hw0] at hb0 hxp hxR hpp
  have HB0 := Lib.hid hb0; have HW0 := Lib.hid hw0
  have BXp := Lib.hid hxp
  have BXR := Lib.hid hxR
  have Fp := Lib.hid hpp
  clear hb0 hw0 hxp hxR hpp hp
  have f1 : decide (d < 1) = false := decide_eq_false (by omega)
  have f2 : decide (2147483648 < d) = true := decide_eq_true h
  clear h
  go_enter Tryz.func12, Tryz.ntmps12
  go_wp2_with fail
  rw [← HW0.out]
  refine ret_rat2 rfl (w.heap.size + 1) _ _ _ rfl BXR.out rfl ?_
  exact ⟨_, rfl, HB0.out, isR_zero _⟩
set_option maxRecDepth 100000 in
set_option maxHeartbeats 3200000 in
theorem rround_ok (vp : Value) (p : Rat) (d : Int) (w : World) (hp : RatIs w vp p) (h0 : 1 ≤ d) (h1 : d ≤ 2147483648) (hl : rl p ≤ 40000) :
    Calls Tryz.prog 12 #[vp, .int .i64 d] w (RetRE w (fl (p * (d : Rat)) / (d : Rat)) (.int .i64 0)) := by
  obtain ⟨sp, op, np, cp, ap, mp, dp, rfl⟩ := hp.shape
  have hlp := hp.rl
  have hb0 := (((Below.refl w.heap.size w).alloc (by first | (simp; done) | (simp; omega)) (.cells #[.bool sp, .slice op np cp, .slice ap mp dp] 24)).alloc (by first | (simp; done) | (simp; omega)) (.cells #[.bool false, .slice none 0 0, .slice none 0 0] 24))
  have hxp := nest2_0 w (.cells #[.bool sp, .slice op np cp, .slice ap mp dp] 24) (.cells #[.bool false, .slice none 0 0, .slice none 0 0] 24)
  have hxR := nest2_1 w (.cells #[.bool sp, .slice op np cp, .slice ap mp dp] 24) (.cells #[.bool false, .slice none 0 0, .slice none 0 0] 24)
  have hpp := hp.below hb0
  obtain ⟨w0, hw0⟩ : ∃ w0, w0 = ((w.alloc (.cells #[.bool sp, .slice op np cp, .slice ap mp dp] 24)).alloc (.cells #[.bool false, .slice none 0 0, .slice none 0 0] 24)) := ⟨_, rfl⟩
  rw [← hw0] at hb0 hxp hxR hpp
  have HB0 := Lib.hid hb0; have HW0 := Lib.hid hw0
  have BXp := Lib.hid hxp
  have BXR := Lib.hid hxR
  have Fp := Lib.hid hpp
  clear hb0 hw0 hxp hxR hpp hp
  have f1 : decide (d < 1) = false := decide_eq_false (by omega)
  have f2 : decide (2147483648 < d) = false := decide_eq_false (by omega)
  have hld := rl_small (n := d) (by omega) (by omega)
  have hd0 : (d : Rat) ≠ 0 := fun e => by have := Rat.intCast_eq_zero_iff.1 e; omega
  have hlm := rl_mul p (d : Rat)
  have hlf := rl_fl (p * (d : Rat))
  obtain ⟨D, hD⟩ : ∃ D : Rat, D = (d : Rat) := ⟨_, rfl⟩
  have hof := fun w1 => rofq_any d w1 (by omega) (by omega)
  rw [← hD] at hof hld hd0 hlm hlf ⊢
  have HOF := Lib.hid hof; clear hof hD
  obtain ⟨M, hM⟩ : ∃ M : Rat, M = p * D := ⟨_, rfl⟩
  rw [← hM] at hlm hlf ⊢
  obtain ⟨G, hG⟩ : ∃ G : Rat, G = fl M := ⟨_, rfl⟩
  rw [← hG] at hlf ⊢
  have HBC := Lib.hid ((Below.refl w0.heap.size w0).drew)
  have hc := fun vs w1 (h1 : Below w0.heap.size w0 w1) (hs : IsR w1 vs D) => rmulq_any _ p vs D w1 (Fp.out.below h1) (hs.is (by omega))
  rw [← hM] at hc
  have CMUL := Lib.hid hc; clear hc
  have hc := fun vs w1 (hs : IsR w1 vs M) => rfloor_any vs M w1 (hs.is (by omega))
  rw [← hG] at hc
  have CFLO := Lib.hid hc; clear hc
  have hc := fun us vs w1 (hu : IsR w1 us G) (hs : IsR w1 vs D) => rdivq_any us G vs D w1 (hu.is (by omega)) (hs.is (by omega))
  unfold dc at hc; rw [if_neg hd0] at hc
  have CDIV := Lib.hid hc; clear hc
  have Zp := Lib.hid (fun w1 (h1 : Below w0.heap.size w0 w1) => row3 (heap_below BXp.out h1))
  have ZR := Lib.hid (fun w1 (h1 : Below w0.heap.size w0 w1) => row3 (heap_below BXR.out h1))
  have ZF := Lib.hid (fun w1 (h1 : Below w0.heap.size w0 w1) => froz3 (heap_below BXR.out h1))
  have TOKA := Lib.hid (Nat.le_refl 0)
  have TOKB := Lib.hid (Nat.le_refl 0)
  clear hM hG hd0
  go_enter Tryz.func12, Tryz.ntmps12
  go_wp2_with fail
  rw [← HW0.out]
  obtain ⟨zp0, zp1, zp2⟩ := Zp.out _ HBC.out
  go_region_held3 (fun wx => wx.cell? ⟨w.heap.size, 0, none⟩ = some (.bool sp) ∧ wx.cell? ⟨w.heap.size, 1, none⟩ = some (.slice op np cp) ∧ wx.cell? ⟨w.heap.size, 2, none⟩ = some (.slice ap mp dp)) (first | exact ⟨zp0, zp1, zp2⟩ | exact put3c (by omega) ⟨zp0, zp1, zp2⟩) (first
    | (go_at_call 72; (clear TOKA); (with_reducible refine (HOF.out _).mono ?_); rintro e wr0 ⟨v0r, rfl, hb, hn⟩; (have HBC := Lib.hid (HBC.out.step hb)); (try have FA := Lib.hid (FA.out.below hb)); (try have FB := Lib.hid (FB.out.below hb)); (try have FM := Lib.hid (FM.out.below hb)); (try have FF := Lib.hid (FF.out.below hb)); (try have FR := Lib.hid (FR.out.below hb)); (have FA := Lib.hid hn); clear hn; clear hb; (obtain ⟨zp0, zp1, zp2⟩ := Zp.out _ HBC.out))
    | (go_at_call 72; (clear TOKB); (with_reducible refine (HOF.out _).mono ?_); rintro e wr1 ⟨v1r, rfl, hb, hn⟩; (have HBC := Lib.hid (HBC.out.step hb)); (try have FA := Lib.hid (FA.out.below hb)); (try have FB := Lib.hid (FB.out.below hb)); (try have FM := Lib.hid (FM.out.below hb)); (try have FF := Lib.hid (FF.out.below hb)); (try have FR := Lib.hid (FR.out.below hb)); (have FB := Lib.hid hn); clear hn; clear hb; (obtain ⟨zp0, zp1, zp2⟩ := Zp.out _ HBC.out))
    | (go_at_call 71; (with_reducible refine (CMUL.out _ _ HBC.out (by first | exact FA.out | exact FB.out)).mono ?_); rintro e wr2 ⟨v2r, rfl, hb, hn⟩; (have HBC := Lib.hid (HBC.out.step hb)); (try have FA := Lib.hid (FA.out.below hb)); (try have FB := Lib.hid (FB.out.below hb)); (try have FM := Lib.hid (FM.out.below hb)); (try have FF := Lib.hid (FF.out.below hb)); (try have FR := Lib.hid (FR.out.below hb)); (have FM := Lib.hid hn); clear hn; clear hb; (obtain ⟨zp0, zp1, zp2⟩ := Zp.out _ HBC.out))
    | (go_at_call 17; (with_reducible refine (CFLO.out _ _ FM.out).mono ?_); rintro e wr3 ⟨v3r, rfl, hb, hn⟩; (have HBC := Lib.hid (HBC.out.step hb)); (try have FA := Lib.hid (FA.out.below hb)); (try have FB := Lib.hid (FB.out.below hb)); (try have FM := Lib.hid (FM.out.below hb)); (try have FF := Lib.hid (FF.out.below hb)); (try have FR := Lib.hid (FR.out.below hb)); (have FF := Lib.hid hn); clear hn; clear hb; (obtain ⟨zp0, zp1, zp2⟩ := Zp.out _ HBC.out))
    | (go_at_call 70; (with_reducible refine (CDIV.out _ _ _ FF.out (by first | exact FA.out | exact FB.out)).mono ?_); rintro e wr4 ⟨v4r, rfl, hb, hn⟩; (have HBC := Lib.hid (HBC.out.step hb)); (try have FA := Lib.hid (FA.out.below hb)); (try have FB := Lib.hid (FB.out.below hb)); (try have FM := Lib.hid (FM.out.below hb)); (try have FF := Lib.hid (FF.out.below hb)); (try have FR := Lib.hid (FR.out.below hb)); (have FR := Lib.hid hn); clear hn; clear hb; (obtain ⟨zp0, zp1, zp2⟩ := Zp.out _ HBC.out); (obtain ⟨t1, t2, t3, t4, t5, t6, t7, rfl⟩ := FR.out.shape); (obtain ⟨zr0, zr1, zr2⟩ := ZR.out _ HBC.out); (obtain ⟨zf0, zf1, zf2⟩ := ZF.out _ HBC.out)))
  all_goals
    go_wp2_with fail
    have BXR2 := heap_below BXR.out HBC.out
    refine ret_rat2 rfl (w.heap.size + 1) _ _ _ rfl (put3_heap BXR2) rfl ?_
    exact ⟨_, rfl, put3_below (HB0.out.step HBC.out) (by omega) _ _ _, isR_put FR.out BXR2⟩
theorem rround_any (vp : Value) (p : Rat) (d : Int) (w : World) (hp : RatIs w vp p) (hl : rl p ≤ 40000) : Calls Tryz.prog 12 #[vp, .int .i64 d] w (RetRE w (rdV p d) (.int .i64 (rdC d : Nat))) := by
  unfold rdV rdC
  by_cases h : d < 1 ∨ 2147483648 < d
  · rw [if_pos h, if_neg (by decide)]
    rcases h with h | h
    · exact rround_low vp p d w hp h
    · exact rround_high vp p d w hp h
  · rw [if_neg h, if_pos rfl]; exact rround_ok vp p d w hp (by omega) (by omega) hl
end Go.Proofs.YtkedjammeoaciaaGreatDoor
/-
  rational.Power and the reference's: what they hand back.
  Conditions: each theorem's own.
-/
namespace Go.Proofs.YtkedjammeoaciaaGreatDoor
open Go.RowKit Go.ChangeShapes Go.WideShapes

theorem rl_pow_le {p : Rat} {k m : Nat} (hk : k ≤ m) (hm : m ≤ 64) (hp : rl p ≤ 1000) : rl (p ^ k) ≤ 64001 := by
  have h1 := rl_pow p k
  have h2 : k * rl p ≤ 64 * 1000 := Nat.mul_le_mul (by omega) hp
  omega
end Go.Proofs.YtkedjammeoaciaaGreatDoor
/-
  RationalProducts: the walk of the statement.
  Conditions: each theorem's own.
-/
namespace Go.Proofs.YtkedjammeoaciaaGreatDoor
open Go.RowKit Go.ChangeShapes Go.WideShapes

theorem dc_small (q : Rat) : dc q < 1000 := by unfold dc; split <;> omega
theorem rl_div' (p q : Rat) : rl (p / q) ≤ rl p + rl q := by
  by_cases h : q = 0
  · subst h; rw [div_zero_rat, rl_zero]; have := rl_pos p; omega
  · exact rl_div p q h
theorem rl_pwV {p : Rat} {n : Int} (h : rl p ≤ 900) : rl (pwV p n) ≤ 100000 := by
  unfold pwV
  by_cases h0 : pwC p n = 0
  · rw [if_pos h0]
    unfold pwC at h0
    by_cases h1 : n < -64 ∨ 64 < n
    · rw [if_pos h1] at h0; cases h0
    · unfold pw
      by_cases h2 : 0 ≤ n
      · rw [if_pos h2]
        have h3 := rl_pow p n.toNat
        have h4 : n.toNat * rl p ≤ 64 * 900 := Nat.mul_le_mul (by omega) h
        omega
      · rw [if_neg h2]
        have h3 := rl_pow (1 / p) (-n).toNat
        have h5 := rl_div' 1 p
        rw [rl_one] at h5
        have h4 : (-n).toNat * rl (1 / p) ≤ 64 * 901 := Nat.mul_le_mul (by omega) (by omega)
        omega
  · rw [if_neg h0, rl_zero]; omega

end Go.Proofs.YtkedjammeoaciaaGreatDoor
/-
  Arguments that are fractions.
  Conditions: none beyond each theorem's own.
-/
namespace Go.Proofs.YtkedjammeoaciaaGreatDoor
open Go.RowKit Go.ChangeShapes Go.WideShapes

/-- a field that is a slice of words -/
theorem open_words_cell {H : Type} {enc : TypeId × Value → H} {P : Program} {W : World} {t e : TypeId} {v : Value} {x : DataW H × List MemPlace} {fuel : Nat} (ht : P.underlying t = some (.slice e)) (he : P.underlying e = some (.int .u32)) (hc : P.cellsOf e = 1)
    (hf : DataW.trod enc P W 0 (fun _ => true) true fuel t [v] = some x) : ∃ l : List Nat, Num W v l := by
  rcases open_ints ht he hc hf with ⟨hcs, hx⟩ | ⟨a, len', cap', zs, hcs, _, hl, hm, hz, hx, hcell, hwz⟩
  · have hcs' : v = .slice none 0 0 := by simpa using hcs
    rw [hcs']; exact ⟨[], Num.nil W⟩
  · have hcs' : v = .slice (some a) len' cap' := by simpa using hcs
    rw [hcs']
    have hz' : len' ≤ zs.length := by rw [hz]; simp; exact hl
    have hgd : ∀ j, j < len' → gd ((zs.take len').map Int.toNat) j = (zs.getD j 0).toNat := fun j hj => by
      simp [gd, List.getD_eq_getElem?_getD, hj, show j < zs.length by omega]
    have hwf : ∀ j, j < zs.length → 0 ≤ zs.getD j 0 ∧ zs.getD j 0 < 4294967296 := fun j hj => by
      have hmem : zs.getD j 0 ∈ zs := by rw [List.getD_eq_getElem?_getD, List.getElem?_eq_getElem hj]; exact List.getElem_mem hj
      have := hwz _ hmem
      simp only [Lit.wf, Bool.and_eq_true, decide_eq_true_eq] at this
      have h1 : IntKind.u32.min = 0 := by decide
      have h2 : IntKind.u32.max = 4294967296 - 1 := by decide
      rw [h1, h2] at this; omega
    have hlen : ((zs.take len').map Int.toNat).length = len' := by rw [List.length_map, List.length_take]; omega
    refine ⟨(zs.take len').map Int.toNat, some a, cap', by rw [hlen], by omega, by unfold maxLen at hm; omega, by simp, ?_, ?_⟩
    · intro b off s hs
      obtain rfl : a = ⟨b, off, s⟩ := Option.some.inj hs
      have h0 : 0 < len' → b < W.heap.size ∧ s = none := fun h0 => by
        have := hcell 0 (by omega)
        have e0 : (⟨b, off, s⟩ : Addr).add 0 = ⟨b, off, s⟩ := by simp [Addr.add]
        rw [e0] at this
        refine ⟨World.block_lt_of_cell? W _ this, ?_⟩
        cases s with
        | none => rfl
        | some x =>
          unfold World.cell? at this
          split at this <;> simp at this
      refine ⟨fun hh => h0 (by omega), fun j hj => ?_⟩
      rw [hlen] at hj
      obtain ⟨_, rfl⟩ := h0 (by omega)
      have := hcell j (by omega)
      have e2 : (⟨b, off, none⟩ : Addr).add j = ⟨b, off + j, none⟩ := by unfold Addr.add; split <;> simp_all
      rw [e2] at this
      rw [this, hgd j hj]
      have := hwf j (by omega)
      congr 2; omega
    · intro j
      by_cases hj : j < len'
      · rw [hgd j hj]; have := hwf j (by omega); omega
      · rw [gd_over _ _ (by omega)]; omega

set_option maxRecDepth 100000 in
set_option maxHeartbeats 1600000 in
theorem open_rat {H : Type} {enc : TypeId × Value → H} {W : World} {v : Value} {d : DataW H} {p : List MemPlace} {base : Nat}
    (hv : Value.okWide Tryz.prog W .any base 24 v) (h : DataW.Trod enc Tryz.prog W 0 (fun _ => true) true 24 v d p) : ∃ s a b, RatV W v s a b := by
  obtain ⟨v0, v1, v2, y0, y1, y2, n, rfl, _, _, h0, h1, h2⟩ := Go.Joins.open_agg3 Tryz.underlying24 (by kernel_rfl) (by kernel_rfl) hv h
  obtain ⟨b', k0, _⟩ := DataW.trod_bool Tryz.underlying4 h0
  have e0 : v0 = .bool b' := by simpa using k0
  obtain ⟨a, ha⟩ := open_words_cell Tryz.underlying22 Tryz.underlying75 (by kernel_rfl) h1
  obtain ⟨b, hb⟩ := open_words_cell Tryz.underlying22 Tryz.underlying75 (by kernel_rfl) h2
  exact ⟨b', a, b, v1, v2, by rw [e0], ha, hb⟩
end Go.Proofs.YtkedjammeoaciaaGreatDoor
/-
  The last step of a law's proof: true was handed back and nothing that was there has changed, so the row's claim holds.
  Conditions: each theorem's own.
-/
namespace Go.Proofs.YtkedjammeoaciaaGreatDoor
open Go.RowKit Go.ChangeShapes Go.WideShapes

theorem trodAll_below {H : Type} {enc : TypeId × Value → H} {P : Program} (hl : laidOutB P = true) {W W' : World} (hb : Below W.heap.size W W') :
    ∀ (ts : List TypeId) (vs : List Value) (ds : List (DataW H)) (ps : List MemPlace), (ts.all fun t => P.readableRec t && decide (t < P.types.size)) = true →
      DataW.TrodAll enc P W 0 (fun _ => true) true ts vs ds ps → (∀ x ∈ ps, x.block < W.heap.size) → DataW.TrodAll enc P W' 0 (fun b => decide (b < W.heap.size)) true ts vs ds ps := by
  intro ts
  induction ts with
  | nil =>
    intro vs ds ps hr h hlt
    cases vs <;> cases ds <;> first | exact h | exact h.elim
  | cons t ts ih =>
    intro vs ds ps hr h hlt
    simp only [List.all_cons, Bool.and_eq_true, decide_eq_true_eq] at hr
    cases vs with
    | nil => cases ds <;> exact h.elim
    | cons v vs =>
      cases ds with
      | nil => exact h.elim
      | cons d ds =>
        obtain ⟨p, q, h1, h2, rfl⟩ := h
        exact ⟨p, q, Below.trod hl hr.1.1 hr.1.2 h1 hb (fun x hx => hlt x (List.mem_append_left _ hx)),
          ih vs ds q hr.2 h2 (fun x hx => hlt x (List.mem_append_right _ hx)), rfl⟩

theorem bd_u8 {n : Int} (h : (Lit.int .u8 n).wf = true) : 0 ≤ n ∧ n ≤ 255 := by
  simp only [Lit.wf, Bool.and_eq_true, decide_eq_true_eq] at h
  have h1 : IntKind.u8.min = 0 := by decide
  have h2 : IntKind.u8.max = 255 := by decide
  rw [h1, h2] at h; exact h
theorem bd_i64 {n : Int} (h : (Lit.int .i64 n).wf = true) : -9223372036854775808 ≤ n ∧ n ≤ 9223372036854775807 := by
  simp only [Lit.wf, Bool.and_eq_true, decide_eq_true_eq] at h
  have h1 : IntKind.i64.min = -9223372036854775808 := by decide
  have h2 : IntKind.i64.max = 9223372036854775807 := by decide
  rw [h1, h2] at h; exact h
theorem bd_u16 {n : Int} (h : (Lit.int .u16 n).wf = true) : 0 ≤ n ∧ n ≤ 65535 := by
  simp only [Lit.wf, Bool.and_eq_true, decide_eq_true_eq] at h
  have h1 : IntKind.u16.min = 0 := by decide
  have h2 : IntKind.u16.max = 65535 := by decide
  rw [h1, h2] at h; exact h

theorem law_close {H : Type} {enc : TypeId × Value → H} {P : Program} {f : Func} {s : ChangeSpec} {W W' : World} {args : Array Value} {ds gs : List (DataW H)} {before : List MemPlace} {tb : TypeId}
    (hl : laidOutB P = true) (hrd : (f.params.toList.all fun t => P.readableRec t && decide (t < P.types.size)) = true) (hvars : s.vars = []) (hr : f.resultTypes = #[tb]) (hbool : P.underlying tb = some .bool)
    (hres : (s.fn H (ds ++ gs)).results = [.lit (.bool true)]) (hargs : (s.fn H (ds ++ gs)).args = ds) (hvs : (s.fn H (ds ++ gs)).vars = [])
    (hW : DataW.Whole enc P f.params.toList s.vars false W args.toList ds gs before) (hb : Below W.heap.size W W') :
    s.post enc P f false true false false W args (.bool true) W' := by
  have hlt := hW.lt
  have hW' := hW
  obtain ⟨p, q, hA, hV, rfl, hz, hn⟩ := hW
  rw [hvars] at hV
  obtain ⟨rfl, rfl⟩ := trodVars_none hV
  refine ⟨ds, [], p ++ [], [], p, [], hW', ?_, ?_, ?_, hb.frame _, fun h => by cases h⟩
  · rw [hres, hr]
    exact ⟨[], [], shut_bool hbool true, rfl, rfl⟩
  · rw [hargs]
    exact trodAll_below hl hb _ _ _ _ hrd hA (fun x hx => by simpa using hlt x (List.mem_append_left _ hx))
  · rw [hvs, hvars]; rfl
end Go.Proofs.YtkedjammeoaciaaGreatDoor
