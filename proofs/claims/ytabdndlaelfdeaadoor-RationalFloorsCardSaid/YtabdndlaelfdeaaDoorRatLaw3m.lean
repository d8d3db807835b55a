/-
  RationalMakes: the walk of the statement.
  Conditions: each theorem's own.
-/
import Derived.Test.YtabdndlaelfdeaaDoorRatLaw2m
import Derived.Test.YtabdndlaelfdeaaDoorM7
namespace Go.Proofs.YtabdndlaelfdeaaDoor
open Go.RowKit Go.ChangeShapes Go.WideShapes

theorem RatV.fields {w : World} {s s' : Bool} {x y : Value} {a b : List Nat} (h : RatV w (.agg #[.bool s, x, y]) s' a b) : s = s' ∧ Num w x a ∧ Num w y b := by
  obtain ⟨va, vb, he, h1, h2⟩ := h
  cases he; exact ⟨rfl, h1, h2⟩
theorem rl_qm' {s : Bool} {n d L : Nat} (h1 : (wd n).length ≤ L) (h2 : (wd d).length ≤ L) (hL : 1 ≤ L) : rl (qm s n d) ≤ L := by
  by_cases hd : d = 0
  · subst hd; rw [qm_den0, rl_zero]; exact hL
  · exact rl_qm hd h1 h2
theorem rl_quo {n d : Int} (h0 : -9223372036854775808 ≤ n) (h1 : n < 9223372036854775808) (g0 : -9223372036854775808 ≤ d) (g1 : d < 9223372036854775808) : rl ((n : Rat) / (d : Rat)) ≤ 4 := by
  by_cases hd : d = 0
  · subst hd; rw [show ((0 : Int) : Rat) = 0 from rfl, div_zero_rat, rl_zero]; decide
  · have k1 := rl_small h0 h1
    have k2 := rl_small g0 g1
    have := rl_div (n : Rat) (d : Rat) (fun e => hd (Rat.intCast_eq_zero_iff.1 e)); omega
theorem zc_small (d : Nat) : zc d < 1000 := by unfold zc; split <;> omega

set_option maxRecDepth 100000 in
set_option maxHeartbeats 12800000 in
theorem makes_small (vp : Value) (p : Rat) (n : Int) (d : Int) (w : World) (hp : RatIs w vp p) (lp : rl p ≤ 12) (zp : (szR vp).1 ≤ 12 ∧ (szR vp).2 ≤ 12) {sr : Bool} {ar br : List Nat} (hr : RatV w vp sr ar br) (hla : ar.length ≤ 12) (hlb : br.length ≤ 12) (n0 : -9223372036854775808 ≤ n) (n1 : n < 9223372036854775808) (d0 : -9223372036854775808 ≤ d) (d1 : d < 9223372036854775808) :
    Calls Tryd.prog 4 #[vp, .int .i64 n, .int .i64 d] w (RetV w (.bool true)) := by
  obtain ⟨sp, op, np, cp, ap, mp, dp, rfl⟩ := hp.shape
  have hlp := hp.rl
  have hsr : sp = sr := hr.fields.1
  subst hsr
  have hua := wd_length_le hr.lt.1; have hub := wd_length_le hr.lt.2
  have kz : rl (qm sp (val ar) (val br)) ≤ 12 := rl_qm' (by omega) (by omega) (by decide)
  have kx := rl_quo n0 n1 d0 d1
  have ko := rl_small n0 n1
  have e1 := zc_small d.natAbs; have e2 := zc_small (val br)
  obtain ⟨X, hX⟩ : ∃ X : Rat, X = (n : Rat) / (d : Rat) := ⟨_, rfl⟩; obtain ⟨O, hO⟩ : ∃ O : Rat, O = (n : Rat) := ⟨_, rfl⟩; obtain ⟨Z, hZ⟩ : ∃ Z : Rat, Z = qm sp (val ar) (val br) := ⟨_, rfl⟩
  obtain ⟨E1, hE1⟩ : ∃ E1, E1 = zc d.natAbs := ⟨_, rfl⟩; obtain ⟨E2, hE2⟩ : ∃ E2, E2 = zc (val br) := ⟨_, rfl⟩; obtain ⟨vb, hvb⟩ : ∃ vb, vb = decide (Vld sp ar br) := ⟨_, rfl⟩
  rw [← hX] at kx; rw [← hO] at ko; rw [← hZ] at kz; rw [← hE1] at e1; rw [← hE2] at e2
  have HX := Lib.hid hX; have HO := Lib.hid hO; have HZ := Lib.hid hZ; have HE1 := Lib.hid hE1; have HE2 := Lib.hid hE2; have HVB := Lib.hid hvb; clear hX hO hZ hE1 hE2 hvb hua hub
  have hb0 := ((Below.refl w.heap.size w).alloc (by first | (simp; done) | (simp; omega)) (.cells #[.bool sp, .slice op np cp, .slice ap mp dp] 24))
  have hxp := nest1_0 w (.cells #[.bool sp, .slice op np cp, .slice ap mp dp] 24)
  have hpp := hp.below hb0
  have hpraw := hr.below hb0
  obtain ⟨w0, hw0⟩ : ∃ w0, w0 = (w.alloc (.cells #[.bool sp, .slice op np cp, .slice ap mp dp] 24)) := ⟨_, rfl⟩
  rw [← hw0] at hb0 hxp hpp hpraw
  have HB0 := Lib.hid hb0; have HW0 := Lib.hid hw0
  have BXp := Lib.hid hxp
  have Fp := Lib.hid hpp
  have Fraw := Lib.hid hpraw; clear hpraw hr
  clear hb0 hw0 hxp hpp hp
  have zzp : np ≤ 12 ∧ mp ≤ 12 := zp; clear zp
  have _lp := lp
  go_enter Tryd.func4, Tryd.ntmps4
  have hs := awake02 w0
  have HS := Lib.hid hs; clear hs
  go_wp2_with fail
  rw [← HW0.out]
  (with_reducible refine HS.out.mono ?_); rintro e w1 ⟨rfl, hb1⟩
  clear HS
  have HB1 := Lib.hid (HB0.out.step hb1)
  have Fp := Lib.hid (Fp.out.below hb1)
  have Fraw := Lib.hid (Fraw.out.below hb1)
  have BXp := Lib.hid (heap_below BXp.out hb1)
  clear hb1
  obtain ⟨ep0, ep1, ep2⟩ := row3 BXp.out
  obtain ⟨w2, hw2⟩ : ∃ w2, w2 = w1.alloc (.cells #[.bool sp, .slice op np cp, .slice ap mp dp] 24) := ⟨_, rfl⟩
  have hb2 : Below w1.heap.size w1 w2 := by rw [hw2]; exact (Below.refl _ _).alloc (Nat.le_refl _) _
  have hxLS := heap_alloc_new w1 (.cells #[.bool sp, .slice op np cp, .slice ap mp dp] 24)
  obtain ⟨gLS, hgLS⟩ : ∃ gLS, gLS = w1.heap.size := ⟨_, rfl⟩
  rw [← hw2, ← hgLS] at hxLS
  have HW2 := Lib.hid hw2; have HGLS := Lib.hid hgLS; clear hw2 hgLS
  have HB2 := Lib.hid (HB1.out.step hb2)
  have Fp := Lib.hid (Fp.out.below hb2)
  have Fraw := Lib.hid (Fraw.out.below hb2)
  have BXp := Lib.hid (heap_below BXp.out hb2)
  clear hb2
  have BXLS := Lib.hid hxLS; clear hxLS
  have hs := rlarge1s BXLS.out zzp
  have HS := Lib.hid hs; clear hs
  go_wp2_with fail
  rw [← HW2.out]
  try rw [← HGLS.out]
  (with_reducible refine HS.out.mono ?_); rintro e w3 ⟨rfl, hb3⟩
  clear HS
  have HB3 := Lib.hid (HB2.out.step hb3)
  have Fp := Lib.hid (Fp.out.below hb3)
  have Fraw := Lib.hid (Fraw.out.below hb3)
  have BXp := Lib.hid (heap_below BXp.out hb3)
  clear hb3
  clear BXLS
  have hs := make_any n d w3 n0 n1 d0 d1
  rw [← HX.out, ← HE1.out] at hs
  have HS := Lib.hid hs; clear hs
  go_wp2_with fail
  (with_reducible refine HS.out.mono ?_); rintro e w4 ⟨v4, rfl, hb4, hn4⟩
  clear HS
  have HB4 := Lib.hid (HB3.out.step hb4)
  have Fp := Lib.hid (Fp.out.below hb4)
  have Fraw := Lib.hid (Fraw.out.below hb4)
  have BXp := Lib.hid (heap_below BXp.out hb4)
  have X1 := Lib.hid hn4; clear hn4
  clear hb4
  obtain ⟨sX1, oX1, nX1, cX1, aX1, mX1, dX1, rfl⟩ := X1.out.shape
  obtain ⟨w5, hw5⟩ : ∃ w5, w5 = w4.alloc (.cells #[.bool sX1, .slice oX1 nX1 cX1, .slice aX1 mX1 dX1] 24) := ⟨_, rfl⟩
  have hb5 : Below w4.heap.size w4 w5 := by rw [hw5]; exact (Below.refl _ _).alloc (Nat.le_refl _) _
  have hxx := heap_alloc_new w4 (.cells #[.bool sX1, .slice oX1 nX1 cX1, .slice aX1 mX1 dX1] 24)
  obtain ⟨gx, hgx⟩ : ∃ gx, gx = w4.heap.size := ⟨_, rfl⟩
  rw [← hw5, ← hgx] at hxx
  have HW5 := Lib.hid hw5; have HGx := Lib.hid hgx; clear hw5 hgx
  have HB5 := Lib.hid (HB4.out.step hb5)
  have Fp := Lib.hid (Fp.out.below hb5)
  have Fraw := Lib.hid (Fraw.out.below hb5)
  have X1 := Lib.hid (X1.out.below hb5)
  have BXp := Lib.hid (heap_below BXp.out hb5)
  clear hb5
  have BXx := Lib.hid hxx; clear hxx
  have hs := rmake_any n d w5 n0 n1 d0 d1
  rw [← HX.out, ← HE1.out] at hs
  have HS := Lib.hid hs; clear hs
  go_wp2_with fail
  rw [← HW5.out]
  try rw [← HGx.out]
  (with_reducible refine HS.out.mono ?_); rintro e w6 ⟨v6, rfl, hb6, hn6⟩
  clear HS
  have HB6 := Lib.hid (HB5.out.step hb6)
  have Fp := Lib.hid (Fp.out.below hb6)
  have Fraw := Lib.hid (Fraw.out.below hb6)
  have X1 := Lib.hid (X1.out.below hb6)
  have BXp := Lib.hid (heap_below BXp.out hb6)
  have BXx := Lib.hid (heap_below BXx.out hb6)
  have X2 := Lib.hid hn6; clear hn6
  clear hb6
  obtain ⟨sX2, oX2, nX2, cX2, aX2, mX2, dX2, rfl⟩ := X2.out.shape
  obtain ⟨w7, hw7⟩ : ∃ w7, w7 = w6.alloc (.cells #[.bool sX2, .slice oX2 nX2 cX2, .slice aX2 mX2 dX2] 24) := ⟨_, rfl⟩
  have hb7 : Below w6.heap.size w6 w7 := by rw [hw7]; exact (Below.refl _ _).alloc (Nat.le_refl _) _
  have hxy := heap_alloc_new w6 (.cells #[.bool sX2, .slice oX2 nX2 cX2, .slice aX2 mX2 dX2] 24)
  obtain ⟨gy, hgy⟩ : ∃ gy, gy = w6.heap.size := ⟨_, rfl⟩
  rw [← hw7, ← hgy] at hxy
  have HW7 := Lib.hid hw7; have HGy := Lib.hid hgy; clear hw7 hgy
  have HB7 := Lib.hid (HB6.out.step hb7)
  have Fp := Lib.hid (Fp.out.below hb7)
  have Fraw := Lib.hid (Fraw.out.below hb7)
  have X1 := Lib.hid (X1.out.below hb7)
  have X2 := Lib.hid (X2.out.below hb7)
  have BXp := Lib.hid (heap_below BXp.out hb7)
  have BXx := Lib.hid (heap_below BXx.out hb7)
  clear hb7
  have BXy := Lib.hid hxy; clear hxy
  have hs := from_any sp _ _ ar br w7 Fraw.out.fields.2.1 Fraw.out.fields.2.2 (by omega) (by omega)
  rw [← HZ.out, ← HE2.out] at hs
  have HS := Lib.hid hs; clear hs
  obtain ⟨ep0, ep1, ep2⟩ := row3 BXp.out
  rw [HW7.out] at ep0
  rw [HW7.out] at ep1
  rw [HW7.out] at ep2
  go_wp2_with fail
  rw [← HW7.out]
  try rw [← HGy.out]
  clear ep0 ep1 ep2
  (with_reducible refine HS.out.mono ?_); rintro e w8 ⟨v8, rfl, hb8, hn8⟩
  clear HS
  have HB8 := Lib.hid (HB7.out.step hb8)
  have Fp := Lib.hid (Fp.out.below hb8)
  have Fraw := Lib.hid (Fraw.out.below hb8)
  have X1 := Lib.hid (X1.out.below hb8)
  have X2 := Lib.hid (X2.out.below hb8)
  have BXp := Lib.hid (heap_below BXp.out hb8)
  have BXx := Lib.hid (heap_below BXx.out hb8)
  have BXy := Lib.hid (heap_below BXy.out hb8)
  have X3 := Lib.hid hn8; clear hn8
  clear hb8
  obtain ⟨sX3, oX3, nX3, cX3, aX3, mX3, dX3, rfl⟩ := X3.out.shape
  obtain ⟨w9, hw9⟩ : ∃ w9, w9 = w8.alloc (.cells #[.bool sX3, .slice oX3 nX3 cX3, .slice aX3 mX3 dX3] 24) := ⟨_, rfl⟩
  have hb9 : Below w8.heap.size w8 w9 := by rw [hw9]; exact (Below.refl _ _).alloc (Nat.le_refl _) _
  have hxz := heap_alloc_new w8 (.cells #[.bool sX3, .slice oX3 nX3 cX3, .slice aX3 mX3 dX3] 24)
  obtain ⟨gz, hgz⟩ : ∃ gz, gz = w8.heap.size := ⟨_, rfl⟩
  rw [← hw9, ← hgz] at hxz
  have HW9 := Lib.hid hw9; have HGz := Lib.hid hgz; clear hw9 hgz
  have HB9 := Lib.hid (HB8.out.step hb9)
  have Fp := Lib.hid (Fp.out.below hb9)
  have Fraw := Lib.hid (Fraw.out.below hb9)
  have X1 := Lib.hid (X1.out.below hb9)
  have X2 := Lib.hid (X2.out.below hb9)
  have X3 := Lib.hid (X3.out.below hb9)
  have BXp := Lib.hid (heap_below BXp.out hb9)
  have BXx := Lib.hid (heap_below BXx.out hb9)
  have BXy := Lib.hid (heap_below BXy.out hb9)
  clear hb9
  have BXz := Lib.hid hxz; clear hxz
  have hs := rfrom_any sp _ _ ar br w9 Fraw.out.fields.2.1 Fraw.out.fields.2.2 (by omega) (by omega)
  rw [← HZ.out, ← HE2.out] at hs
  have HS := Lib.hid hs; clear hs
  obtain ⟨ep0, ep1, ep2⟩ := row3 BXp.out
  rw [HW9.out] at ep0
  rw [HW9.out] at ep1
  rw [HW9.out] at ep2
  go_wp2_with fail
  rw [← HW9.out]
  try rw [← HGz.out]
  clear ep0 ep1 ep2
  (with_reducible refine HS.out.mono ?_); rintro e w10 ⟨v10, rfl, hb10, hn10⟩
  clear HS
  have HB10 := Lib.hid (HB9.out.step hb10)
  have Fp := Lib.hid (Fp.out.below hb10)
  have Fraw := Lib.hid (Fraw.out.below hb10)
  have X1 := Lib.hid (X1.out.below hb10)
  have X2 := Lib.hid (X2.out.below hb10)
  have X3 := Lib.hid (X3.out.below hb10)
  have BXp := Lib.hid (heap_below BXp.out hb10)
  have BXx := Lib.hid (heap_below BXx.out hb10)
  have BXy := Lib.hid (heap_below BXy.out hb10)
  have BXz := Lib.hid (heap_below BXz.out hb10)
  have X4 := Lib.hid hn10; clear hn10
  clear hb10
  obtain ⟨sX4, oX4, nX4, cX4, aX4, mX4, dX4, rfl⟩ := X4.out.shape
  obtain ⟨w11, hw11⟩ : ∃ w11, w11 = w10.alloc (.cells #[.bool sX4, .slice oX4 nX4 cX4, .slice aX4 mX4 dX4] 24) := ⟨_, rfl⟩
  have hb11 : Below w10.heap.size w10 w11 := by rw [hw11]; exact (Below.refl _ _).alloc (Nat.le_refl _) _
  have hxu := heap_alloc_new w10 (.cells #[.bool sX4, .slice oX4 nX4 cX4, .slice aX4 mX4 dX4] 24)
  obtain ⟨gu, hgu⟩ : ∃ gu, gu = w10.heap.size := ⟨_, rfl⟩
  rw [← hw11, ← hgu] at hxu
  have HW11 := Lib.hid hw11; have HGu := Lib.hid hgu; clear hw11 hgu
  have HB11 := Lib.hid (HB10.out.step hb11)
  have Fp := Lib.hid (Fp.out.below hb11)
  have Fraw := Lib.hid (Fraw.out.below hb11)
  have X1 := Lib.hid (X1.out.below hb11)
  have X2 := Lib.hid (X2.out.below hb11)
  have X3 := Lib.hid (X3.out.below hb11)
  have X4 := Lib.hid (X4.out.below hb11)
  have BXp := Lib.hid (heap_below BXp.out hb11)
  have BXx := Lib.hid (heap_below BXx.out hb11)
  have BXy := Lib.hid (heap_below BXy.out hb11)
  have BXz := Lib.hid (heap_below BXz.out hb11)
  clear hb11
  have BXu := Lib.hid hxu; clear hxu
  have HBC := Lib.hid ((Below.refl w11.heap.size w11).drew)
  have hc := fun w1 (h1 : Below w11.heap.size w11 w1) => valid_any _ sp ar br w1 (Fraw.out.below h1) (by omega) (by omega)
  rw [← HVB.out] at hc
  have CV := Lib.hid hc; clear hc
  have hc := fun w1 (h1 : Below w11.heap.size w11 w1) => rvalid_any _ sp ar br w1 (Fraw.out.below h1) (by omega) (by omega)
  rw [← HVB.out] at hc
  have CRV := Lib.hid hc; clear hc
  have hc := fun w1 => ofq_any n w1 n0 n1
  rw [← HO.out] at hc
  have CO := Lib.hid hc; clear hc
  have hc := fun w1 => rofq_any n w1 n0 n1
  rw [← HO.out] at hc
  have CRO := Lib.hid hc; clear hc
  have hc := fun va vb u w1 (ha : IsR w1 va u) (hb : IsR w1 vb u) (hl : rl u ≤ 100000) => rat_same va vb u w1 ha hb hl
  have CQ := Lib.hid hc; clear hc
  have hc := fun w1 => num_any E1 w1 e1
  have CE1 := Lib.hid hc; clear hc
  have hc := fun w1 => num_any E2 w1 e2
  have CE2 := Lib.hid hc; clear hc
  have Zp := Lib.hid (fun w1 (h1 : Below w11.heap.size w11 w1) => row3 (heap_below BXp.out h1))
  have Zx := Lib.hid (fun w1 (h1 : Below w11.heap.size w11 w1) => row3 (heap_below BXx.out h1))
  have Zy := Lib.hid (fun w1 (h1 : Below w11.heap.size w11 w1) => row3 (heap_below BXy.out h1))
  have Zz := Lib.hid (fun w1 (h1 : Below w11.heap.size w11 w1) => row3 (heap_below BXz.out h1))
  have Zu := Lib.hid (fun w1 (h1 : Below w11.heap.size w11 w1) => row3 (heap_below BXu.out h1))
  go_wp2_with fail
  rw [← HW11.out]
  try rw [← HGu.out]
  obtain ⟨zp0, zp1, zp2⟩ := Zp.out _ HBC.out
  obtain ⟨zx0, zx1, zx2⟩ := Zx.out _ HBC.out
  obtain ⟨zy0, zy1, zy2⟩ := Zy.out _ HBC.out
  obtain ⟨zz0, zz1, zz2⟩ := Zz.out _ HBC.out
  obtain ⟨zu0, zu1, zu2⟩ := Zu.out _ HBC.out
  go_region_held3 (fun wx => wx.cell? ⟨w.heap.size, 0, none⟩ = some (.bool sp) ∧ wx.cell? ⟨w.heap.size, 1, none⟩ = some (.slice op np cp) ∧ wx.cell? ⟨w.heap.size, 2, none⟩ = some (.slice ap mp dp) ∧ wx.cell? ⟨gx, 0, none⟩ = some (.bool sX1) ∧ wx.cell? ⟨gx, 1, none⟩ = some (.slice oX1 nX1 cX1) ∧ wx.cell? ⟨gx, 2, none⟩ = some (.slice aX1 mX1 dX1) ∧ wx.cell? ⟨gy, 0, none⟩ = some (.bool sX2) ∧ wx.cell? ⟨gy, 1, none⟩ = some (.slice oX2 nX2 cX2) ∧ wx.cell? ⟨gy, 2, none⟩ = some (.slice aX2 mX2 dX2) ∧ wx.cell? ⟨gz, 0, none⟩ = some (.bool sX3) ∧ wx.cell? ⟨gz, 1, none⟩ = some (.slice oX3 nX3 cX3) ∧ wx.cell? ⟨gz, 2, none⟩ = some (.slice aX3 mX3 dX3) ∧ wx.cell? ⟨gu, 0, none⟩ = some (.bool sX4) ∧ wx.cell? ⟨gu, 1, none⟩ = some (.slice oX4 nX4 cX4) ∧ wx.cell? ⟨gu, 2, none⟩ = some (.slice aX4 mX4 dX4)) (first | exact ⟨zp0, zp1, zp2, zx0, zx1, zx2, zy0, zy1, zy2, zz0, zz1, zz2, zu0, zu1, zu2⟩ | exact put6 (by omega) (by omega) (by omega) (by omega) (by omega) ⟨zp0, zp1, zp2, zx0, zx1, zx2, zy0, zy1, zy2, zz0, zz1, zz2, zu0, zu1, zu2⟩ | exact al3 ⟨zp0, zp1, zp2, zx0, zx1, zx2, zy0, zy1, zy2, zz0, zz1, zz2, zu0, zu1, zu2⟩ | exact put3c (by omega) (al3 ⟨zp0, zp1, zp2, zx0, zx1, zx2, zy0, zy1, zy2, zz0, zz1, zz2, zu0, zu1, zu2⟩)) (first
    | (go_at_call 23; (with_reducible refine (CV.out _ HBC.out).mono ?_); rintro e wr0 ⟨rfl, hb⟩; (have HBC := Lib.hid (HBC.out.step hb)); (try have F1 := Lib.hid (F1.out.below hb)); (try have F2 := Lib.hid (F2.out.below hb)); clear hb; (obtain ⟨zp0, zp1, zp2⟩ := Zp.out _ HBC.out); (obtain ⟨zx0, zx1, zx2⟩ := Zx.out _ HBC.out); (obtain ⟨zy0, zy1, zy2⟩ := Zy.out _ HBC.out); (obtain ⟨zz0, zz1, zz2⟩ := Zz.out _ HBC.out); (obtain ⟨zu0, zu1, zu2⟩ := Zu.out _ HBC.out))
    | (go_at_call 24; (with_reducible refine (CRV.out _ HBC.out).mono ?_); rintro e wr1 ⟨rfl, hb⟩; (have HBC := Lib.hid (HBC.out.step hb)); (try have F1 := Lib.hid (F1.out.below hb)); (try have F2 := Lib.hid (F2.out.below hb)); clear hb; (obtain ⟨zp0, zp1, zp2⟩ := Zp.out _ HBC.out); (obtain ⟨zx0, zx1, zx2⟩ := Zx.out _ HBC.out); (obtain ⟨zy0, zy1, zy2⟩ := Zy.out _ HBC.out); (obtain ⟨zz0, zz1, zz2⟩ := Zz.out _ HBC.out); (obtain ⟨zu0, zu1, zu2⟩ := Zu.out _ HBC.out))
    | (go_at_call 25; (with_reducible refine (CO.out _).mono ?_); rintro e wr2 ⟨v2r, rfl, hb, hn⟩; (have HBC := Lib.hid (HBC.out.step hb)); (try have F1 := Lib.hid (F1.out.below hb)); (try have F2 := Lib.hid (F2.out.below hb)); (have F1 := Lib.hid hn); clear hn; clear hb; (obtain ⟨zp0, zp1, zp2⟩ := Zp.out _ HBC.out); (obtain ⟨zx0, zx1, zx2⟩ := Zx.out _ HBC.out); (obtain ⟨zy0, zy1, zy2⟩ := Zy.out _ HBC.out); (obtain ⟨zz0, zz1, zz2⟩ := Zz.out _ HBC.out); (obtain ⟨zu0, zu1, zu2⟩ := Zu.out _ HBC.out))
    | (go_at_call 26; (with_reducible refine (CRO.out _).mono ?_); rintro e wr3 ⟨v3r, rfl, hb, hn⟩; (have HBC := Lib.hid (HBC.out.step hb)); (try have F1 := Lib.hid (F1.out.below hb)); (try have F2 := Lib.hid (F2.out.below hb)); (have F2 := Lib.hid hn); clear hn; clear hb; (obtain ⟨zp0, zp1, zp2⟩ := Zp.out _ HBC.out); (obtain ⟨zx0, zx1, zx2⟩ := Zx.out _ HBC.out); (obtain ⟨zy0, zy1, zy2⟩ := Zy.out _ HBC.out); (obtain ⟨zz0, zz1, zz2⟩ := Zz.out _ HBC.out); (obtain ⟨zu0, zu1, zu2⟩ := Zu.out _ HBC.out))
    | (go_at_call 17; (with_reducible refine (CQ.out _ _ _ _ F1.out F2.out (by omega)).mono ?_); rintro e wr4 ⟨rfl, hb⟩; (have HBC := Lib.hid (HBC.out.step hb)); (try have F1 := Lib.hid (F1.out.below hb)); (try have F2 := Lib.hid (F2.out.below hb)); clear hb; (obtain ⟨zp0, zp1, zp2⟩ := Zp.out _ HBC.out); (obtain ⟨zx0, zx1, zx2⟩ := Zx.out _ HBC.out); (obtain ⟨zy0, zy1, zy2⟩ := Zy.out _ HBC.out); (obtain ⟨zz0, zz1, zz2⟩ := Zz.out _ HBC.out); (obtain ⟨zu0, zu1, zu2⟩ := Zu.out _ HBC.out))
    | (go_at_call 17; (with_reducible refine (CQ.out _ _ _ _ (X1.out.below HBC.out) (X2.out.below HBC.out) (by omega)).mono ?_); rintro e wr5 ⟨rfl, hb⟩; (have HBC := Lib.hid (HBC.out.step hb)); (try have F1 := Lib.hid (F1.out.below hb)); (try have F2 := Lib.hid (F2.out.below hb)); clear hb; (obtain ⟨zp0, zp1, zp2⟩ := Zp.out _ HBC.out); (obtain ⟨zx0, zx1, zx2⟩ := Zx.out _ HBC.out); (obtain ⟨zy0, zy1, zy2⟩ := Zy.out _ HBC.out); (obtain ⟨zz0, zz1, zz2⟩ := Zz.out _ HBC.out); (obtain ⟨zu0, zu1, zu2⟩ := Zu.out _ HBC.out))
    | (go_at_call 18; (with_reducible refine (CE1.out _).mono ?_); rintro e wr6 ⟨rfl, rfl⟩)
    | (go_at_call 17; (with_reducible refine (CQ.out _ _ _ _ (X3.out.below HBC.out) (X4.out.below HBC.out) (by omega)).mono ?_); rintro e wr7 ⟨rfl, hb⟩; (have HBC := Lib.hid (HBC.out.step hb)); (try have F1 := Lib.hid (F1.out.below hb)); (try have F2 := Lib.hid (F2.out.below hb)); clear hb; (obtain ⟨zp0, zp1, zp2⟩ := Zp.out _ HBC.out); (obtain ⟨zx0, zx1, zx2⟩ := Zx.out _ HBC.out); (obtain ⟨zy0, zy1, zy2⟩ := Zy.out _ HBC.out); (obtain ⟨zz0, zz1, zz2⟩ := Zz.out _ HBC.out); (obtain ⟨zu0, zu1, zu2⟩ := Zu.out _ HBC.out))
    | (go_at_call 18; (with_reducible refine (CE2.out _).mono ?_); rintro e wr8 ⟨rfl, rfl⟩))
  go_wp2_with fail
  go_ret
  exact ⟨by first | rfl | (simp; done), HB11.out.step HBC.out⟩
set_option maxRecDepth 100000 in
set_option maxHeartbeats 3200000 in
theorem makes_big (vp : Value) (np mp : Nat) (n : Int) (d : Int) (w : World) (hp : RatSz vp np mp) (hb : 12 < np ∨ 12 < mp) :
    Calls Tryd.prog 4 #[vp, .int .i64 n, .int .i64 d] w (RetV w (.bool true)) := by
  obtain ⟨sp, op, cp, ap, dp, rfl, zp⟩ := hp
  have HBIG := Lib.hid hb; clear hb
  have hb0 := ((Below.refl w.heap.size w).alloc (by first | (simp; done) | (simp; omega)) (.cells #[.bool sp, .slice op np cp, .slice ap mp dp] 24))
  have hxp := nest1_0 w (.cells #[.bool sp, .slice op np cp, .slice ap mp dp] 24)
  obtain ⟨w0, hw0⟩ : ∃ w0, w0 = (w.alloc (.cells #[.bool sp, .slice op np cp, .slice ap mp dp] 24)) := ⟨_, rfl⟩
  rw [← hw0] at hb0 hxp
  have HB0 := Lib.hid hb0; have HW0 := Lib.hid hw0
  have BXp := Lib.hid hxp
  clear hb0 hw0 hxp
  go_enter Tryd.func4, Tryd.ntmps4
  have hs := awake02 w0
  have HS := Lib.hid hs; clear hs
  go_wp2_with fail
  rw [← HW0.out]
  (with_reducible refine HS.out.mono ?_); rintro e w1 ⟨rfl, hb1⟩
  clear HS
  have HB1 := Lib.hid (HB0.out.step hb1)
  have BXp := Lib.hid (heap_below BXp.out hb1)
  clear hb1
  obtain ⟨ep0, ep1, ep2⟩ := row3 BXp.out
  obtain ⟨w2, hw2⟩ : ∃ w2, w2 = w1.alloc (.cells #[.bool sp, .slice op np cp, .slice ap mp dp] 24) := ⟨_, rfl⟩
  have hb2 : Below w1.heap.size w1 w2 := by rw [hw2]; exact (Below.refl _ _).alloc (Nat.le_refl _) _
  have hxLS := heap_alloc_new w1 (.cells #[.bool sp, .slice op np cp, .slice ap mp dp] 24)
  obtain ⟨gLS, hgLS⟩ : ∃ gLS, gLS = w1.heap.size := ⟨_, rfl⟩
  rw [← hw2, ← hgLS] at hxLS
  have HW2 := Lib.hid hw2; have HGLS := Lib.hid hgLS; clear hw2 hgLS
  have HB2 := Lib.hid (HB1.out.step hb2)
  have BXp := Lib.hid (heap_below BXp.out hb2)
  clear hb2
  have BXLS := Lib.hid hxLS; clear hxLS
  have hs := rlarge1b BXLS.out zp HBIG.out
  have HS := Lib.hid hs; clear hs
  go_wp2_with fail
  rw [← HW2.out]
  try rw [← HGLS.out]
  (with_reducible refine HS.out.mono ?_); rintro e w3 ⟨rfl, hb3⟩
  clear HS
  have HB3 := Lib.hid (HB2.out.step hb3)
  have BXp := Lib.hid (heap_below BXp.out hb3)
  clear hb3
  clear BXLS
  have hs := awake02 w3
  have HS := Lib.hid hs; clear hs
  go_wp2_with fail
  (with_reducible refine HS.out.mono ?_); rintro e w4 ⟨rfl, hb4⟩
  clear HS
  have HB4 := Lib.hid (HB3.out.step hb4)
  have BXp := Lib.hid (heap_below BXp.out hb4)
  clear hb4
  go_wp2_with fail
  go_ret
  exact ⟨rfl, HB4.out⟩
theorem makes02_walk (vp : Value) (sp : Bool) (ap bp : List Nat) (n : Int) (d : Int) (w : World) (hp : RatV w vp sp ap bp) (n0 : -9223372036854775808 ≤ n) (n1 : n < 9223372036854775808) (d0 : -9223372036854775808 ≤ d) (d1 : d < 9223372036854775808) :
    Calls Tryd.prog 4 #[vp, .int .i64 n, .int .i64 d] w (RetV w (.bool true)) := by
  obtain ⟨yp, ep⟩ := hp.sz
  by_cases hb : 12 < ap.length ∨ 12 < bp.length
  · exact makes_big vp ap.length bp.length n d w yp hb
  · obtain ⟨up, tp⟩ := hp.lt
    exact makes_small vp (rq sp ap bp) n d w (hp.is (by omega) (by omega)) (rl_rq up tp (by omega) (by omega) (by decide)) (by rw [ep]; exact ⟨by show ap.length ≤ 12; omega, by show bp.length ≤ 12; omega⟩) hp (by omega) (by omega) n0 n1 d0 d1
end Go.Proofs.YtabdndlaelfdeaaDoor
