/-
  RationalProducts: the walk of the statement.
  Conditions: each theorem's own.
-/
import Derived.Test.YtabdndlaelfdeaaDoorRatLaw3m
import Derived.Test.YtabdndlaelfdeaaDoorM7
namespace Go.Proofs.YtabdndlaelfdeaaDoor
open Go.RowKit Go.ChangeShapes Go.WideShapes

theorem dc_small (q : Rat) : dc q < 1000 := by unfold dc; split <;> omega
theorem rl_div' (p q : Rat) : rl (p / q) ≤ rl p + rl q := by
  by_cases h : q = 0
  · subst h; rw [div_zero_rat, rl_zero]; have := rl_pos p; omega
  · exact rl_div p q h
theorem rl_pwV {p : Rat} {n : Int} (h : rl p ≤ 900) : rl (pwV p n) ≤ 100000 := by
  unfold pwV
  by_cases h0 : pwC p n = 0
  · rw [if_pos h0]
    unfold pwC at h0
    by_cases h1 : n < -64 ∨ 64 < n
    · rw [if_pos h1] at h0; cases h0
    · unfold pw
      by_cases h2 : 0 ≤ n
      · rw [if_pos h2]
        have h3 := rl_pow p n.toNat
        have h4 : n.toNat * rl p ≤ 64 * 900 := Nat.mul_le_mul (by omega) h
        omega
      · rw [if_neg h2]
        have h3 := rl_pow (1 / p) (-n).toNat
        have h5 := rl_div' 1 p
        rw [rl_one] at h5
        have h4 : (-n).toNat * rl (1 / p) ≤ 64 * 901 := Nat.mul_le_mul (by omega) (by omega)
        omega
  · rw [if_neg h0, rl_zero]; omega

set_option maxRecDepth 100000 in
set_option maxHeartbeats 12800000 in
theorem products_small0 (vp : Value) (p : Rat) (vu : Value) (u : Rat) (n : Int) (w : World) (hp : RatIs w vp p) (hu : RatIs w vu u) (lp : rl p ≤ 12) (zp : (szR vp).1 ≤ 12 ∧ (szR vp).2 ≤ 12) (lu : rl u ≤ 12) (zu : (szR vu).1 ≤ 12 ∧ (szR vu).2 ≤ 12) (n0 : -9223372036854775808 ≤ n) (n1 : n < 9223372036854775808) (c1 : ¬ 3 < (szR vp).1 + (szR vp).2) :
    Calls Tryd.prog 5 #[vp, vu, .int .i64 n] w (RetV w (.bool true)) := by
  obtain ⟨sp, op, np, cp, ap, mp, dp, rfl⟩ := hp.shape
  have hlp := hp.rl
  obtain ⟨su, ou, nu, cu, au, mu, du, rfl⟩ := hu.shape
  have hlu := hu.rl
  have c4 : ¬ 3 < np + mp := c1; clear c1
  have f1 : decide ((3 : Int) < (np : Int) + (mp : Int)) = false := decide_eq_false (by omega)
  have k1 := rl_mul p u; have k2 := rl_div' p u
  have e1 := dc_small u
  obtain ⟨E, hE⟩ : ∃ E, E = dc u := ⟨_, rfl⟩; rw [← hE] at e1
  have g1 : ((E : Int) != (E : Int)) = false := by simp
  have HE := Lib.hid hE; clear hE
  have _n0 := n0; have _n1 := n1
  have hb0 := (((Below.refl w.heap.size w).alloc (by first | (simp; done) | (simp; omega)) (.cells #[.bool sp, .slice op np cp, .slice ap mp dp] 24)).alloc (by first | (simp; done) | (simp; omega)) (.cells #[.bool su, .slice ou nu cu, .slice au mu du] 24))
  have hxp := nest2_0 w (.cells #[.bool sp, .slice op np cp, .slice ap mp dp] 24) (.cells #[.bool su, .slice ou nu cu, .slice au mu du] 24)
  have hxu := nest2_1 w (.cells #[.bool sp, .slice op np cp, .slice ap mp dp] 24) (.cells #[.bool su, .slice ou nu cu, .slice au mu du] 24)
  have hpp := hp.below hb0
  have hpu := hu.below hb0
  obtain ⟨w0, hw0⟩ : ∃ w0, w0 = ((w.alloc (.cells #[.bool sp, .slice op np cp, .slice ap mp dp] 24)).alloc (.cells #[.bool su, .slice ou nu cu, .slice au mu du] 24)) := ⟨_, rfl⟩
  rw [← hw0] at hb0 hxp hxu hpp hpu
  have HB0 := Lib.hid hb0; have HW0 := Lib.hid hw0
  have BXp := Lib.hid hxp
  have BXu := Lib.hid hxu
  have Fp := Lib.hid hpp
  have Fu := Lib.hid hpu
  clear hb0 hw0 hxp hxu hpp hp hpu hu
  have zzp : np ≤ 12 ∧ mp ≤ 12 := zp; clear zp
  have _lp := lp
  have zzu : nu ≤ 12 ∧ mu ≤ 12 := zu; clear zu
  have _lu := lu
  go_enter Tryd.func5, Tryd.ntmps5
  have hs := awake02 w0
  have HS := Lib.hid hs; clear hs
  go_wp2_with fail
  rw [← HW0.out]
  (with_reducible refine HS.out.mono ?_); rintro e w1 ⟨rfl, hb1⟩
  clear HS
  have HB1 := Lib.hid (HB0.out.step hb1)
  have Fp := Lib.hid (Fp.out.below hb1)
  have Fu := Lib.hid (Fu.out.below hb1)
  have BXp := Lib.hid (heap_below BXp.out hb1)
  have BXu := Lib.hid (heap_below BXu.out hb1)
  clear hb1
  obtain ⟨ep0, ep1, ep2⟩ := row3 BXp.out
  obtain ⟨eu0, eu1, eu2⟩ := row3 BXu.out
  obtain ⟨w2, hw2⟩ : ∃ w2, w2 = w1.alloc (.cells #[.bool sp, .slice op np cp, .slice ap mp dp, .bool su, .slice ou nu cu, .slice au mu du] 24) := ⟨_, rfl⟩
  have hb2 : Below w1.heap.size w1 w2 := by rw [hw2]; exact (Below.refl _ _).alloc (Nat.le_refl _) _
  have hxLS := heap_alloc_new w1 (.cells #[.bool sp, .slice op np cp, .slice ap mp dp, .bool su, .slice ou nu cu, .slice au mu du] 24)
  obtain ⟨gLS, hgLS⟩ : ∃ gLS, gLS = w1.heap.size := ⟨_, rfl⟩
  rw [← hw2, ← hgLS] at hxLS
  have HW2 := Lib.hid hw2; have HGLS := Lib.hid hgLS; clear hw2 hgLS
  have HB2 := Lib.hid (HB1.out.step hb2)
  have Fp := Lib.hid (Fp.out.below hb2)
  have Fu := Lib.hid (Fu.out.below hb2)
  have BXp := Lib.hid (heap_below BXp.out hb2)
  have BXu := Lib.hid (heap_below BXu.out hb2)
  clear hb2
  have BXLS := Lib.hid hxLS; clear hxLS
  have hs := rlarge2s BXLS.out zzp zzu
  have HS := Lib.hid hs; clear hs
  go_wp2_with fail
  rw [← HW2.out]
  try rw [← HGLS.out]
  (with_reducible refine HS.out.mono ?_); rintro e w3 ⟨rfl, hb3⟩
  clear HS
  have HB3 := Lib.hid (HB2.out.step hb3)
  have Fp := Lib.hid (Fp.out.below hb3)
  have Fu := Lib.hid (Fu.out.below hb3)
  have BXp := Lib.hid (heap_below BXp.out hb3)
  have BXu := Lib.hid (heap_below BXu.out hb3)
  clear hb3
  clear BXLS
  have hs := divq_any _ p _ u w3 Fp.out Fu.out
  rw [← HE.out] at hs
  have HS := Lib.hid hs; clear hs
  obtain ⟨ep0, ep1, ep2⟩ := row3 BXp.out
  obtain ⟨eu0, eu1, eu2⟩ := row3 BXu.out
  go_wp2_with fail
  clear ep0 ep1 ep2 eu0 eu1 eu2
  (with_reducible refine HS.out.mono ?_); rintro e w4 ⟨v4, rfl, hb4, hn4⟩
  clear HS
  have HB4 := Lib.hid (HB3.out.step hb4)
  have Fp := Lib.hid (Fp.out.below hb4)
  have Fu := Lib.hid (Fu.out.below hb4)
  have BXp := Lib.hid (heap_below BXp.out hb4)
  have BXu := Lib.hid (heap_below BXu.out hb4)
  have X1 := Lib.hid hn4; clear hn4
  clear hb4
  obtain ⟨sX1, oX1, nX1, cX1, aX1, mX1, dX1, rfl⟩ := X1.out.shape
  obtain ⟨w5, hw5⟩ : ∃ w5, w5 = w4.alloc (.cells #[.bool sX1, .slice oX1 nX1 cX1, .slice aX1 mX1 dX1] 24) := ⟨_, rfl⟩
  have hb5 : Below w4.heap.size w4 w5 := by rw [hw5]; exact (Below.refl _ _).alloc (Nat.le_refl _) _
  have hxx := heap_alloc_new w4 (.cells #[.bool sX1, .slice oX1 nX1 cX1, .slice aX1 mX1 dX1] 24)
  obtain ⟨gx, hgx⟩ : ∃ gx, gx = w4.heap.size := ⟨_, rfl⟩
  rw [← hw5, ← hgx] at hxx
  have HW5 := Lib.hid hw5; have HGx := Lib.hid hgx; clear hw5 hgx
  have HB5 := Lib.hid (HB4.out.step hb5)
  have Fp := Lib.hid (Fp.out.below hb5)
  have Fu := Lib.hid (Fu.out.below hb5)
  have X1 := Lib.hid (X1.out.below hb5)
  have BXp := Lib.hid (heap_below BXp.out hb5)
  have BXu := Lib.hid (heap_below BXu.out hb5)
  clear hb5
  have BXx := Lib.hid hxx; clear hxx
  have hs := rdivq_any _ p _ u w5 Fp.out Fu.out
  rw [← HE.out] at hs
  have HS := Lib.hid hs; clear hs
  obtain ⟨ep0, ep1, ep2⟩ := row3 BXp.out
  obtain ⟨eu0, eu1, eu2⟩ := row3 BXu.out
  rw [HW5.out] at ep0
  rw [HW5.out] at ep1
  rw [HW5.out] at ep2
  rw [HW5.out] at eu0
  rw [HW5.out] at eu1
  rw [HW5.out] at eu2
  go_wp2_with fail
  rw [← HW5.out]
  try rw [← HGx.out]
  clear ep0 ep1 ep2 eu0 eu1 eu2
  (with_reducible refine HS.out.mono ?_); rintro e w6 ⟨v6, rfl, hb6, hn6⟩
  clear HS
  have HB6 := Lib.hid (HB5.out.step hb6)
  have Fp := Lib.hid (Fp.out.below hb6)
  have Fu := Lib.hid (Fu.out.below hb6)
  have X1 := Lib.hid (X1.out.below hb6)
  have BXp := Lib.hid (heap_below BXp.out hb6)
  have BXu := Lib.hid (heap_below BXu.out hb6)
  have BXx := Lib.hid (heap_below BXx.out hb6)
  have X2 := Lib.hid hn6; clear hn6
  clear hb6
  obtain ⟨sX2, oX2, nX2, cX2, aX2, mX2, dX2, rfl⟩ := X2.out.shape
  obtain ⟨w7, hw7⟩ : ∃ w7, w7 = w6.alloc (.cells #[.bool sX2, .slice oX2 nX2 cX2, .slice aX2 mX2 dX2] 24) := ⟨_, rfl⟩
  have hb7 : Below w6.heap.size w6 w7 := by rw [hw7]; exact (Below.refl _ _).alloc (Nat.le_refl _) _
  have hxy := heap_alloc_new w6 (.cells #[.bool sX2, .slice oX2 nX2 cX2, .slice aX2 mX2 dX2] 24)
  obtain ⟨gy, hgy⟩ : ∃ gy, gy = w6.heap.size := ⟨_, rfl⟩
  rw [← hw7, ← hgy] at hxy
  have HW7 := Lib.hid hw7; have HGy := Lib.hid hgy; clear hw7 hgy
  have HB7 := Lib.hid (HB6.out.step hb7)
  have Fp := Lib.hid (Fp.out.below hb7)
  have Fu := Lib.hid (Fu.out.below hb7)
  have X1 := Lib.hid (X1.out.below hb7)
  have X2 := Lib.hid (X2.out.below hb7)
  have BXp := Lib.hid (heap_below BXp.out hb7)
  have BXu := Lib.hid (heap_below BXu.out hb7)
  have BXx := Lib.hid (heap_below BXx.out hb7)
  clear hb7
  have BXy := Lib.hid hxy; clear hxy
  have HBC := Lib.hid ((Below.refl w7.heap.size w7).drew)
  have hc := fun w1 (h1 : Below w7.heap.size w7 w1) => mulq_any _ p _ u w1 (Fp.out.below h1) (Fu.out.below h1)
  have C1 := Lib.hid hc; clear hc
  have hc := fun w1 (h1 : Below w7.heap.size w7 w1) => rmulq_any _ p _ u w1 (Fp.out.below h1) (Fu.out.below h1)
  have C2 := Lib.hid hc; clear hc
  have hc := fun va vb u w1 (ha : IsR w1 va u) (hb : IsR w1 vb u) (hl : rl u ≤ 100000) => rat_same va vb u w1 ha hb hl
  have CQ := Lib.hid hc; clear hc
  have hc := fun w1 => num_any E w1 e1
  have CE := Lib.hid hc; clear hc
  have Zp := Lib.hid (fun w1 (h1 : Below w7.heap.size w7 w1) => row3 (heap_below BXp.out h1))
  have Zu := Lib.hid (fun w1 (h1 : Below w7.heap.size w7 w1) => row3 (heap_below BXu.out h1))
  have Zx := Lib.hid (fun w1 (h1 : Below w7.heap.size w7 w1) => row3 (heap_below BXx.out h1))
  have Zy := Lib.hid (fun w1 (h1 : Below w7.heap.size w7 w1) => row3 (heap_below BXy.out h1))
  go_wp2_with fail
  rw [← HW7.out]
  try rw [← HGy.out]
  obtain ⟨zp0, zp1, zp2⟩ := Zp.out _ HBC.out
  obtain ⟨zu0, zu1, zu2⟩ := Zu.out _ HBC.out
  obtain ⟨zx0, zx1, zx2⟩ := Zx.out _ HBC.out
  obtain ⟨zy0, zy1, zy2⟩ := Zy.out _ HBC.out
  go_region_held3 (fun wx => wx.cell? ⟨w.heap.size, 0, none⟩ = some (.bool sp) ∧ wx.cell? ⟨w.heap.size, 1, none⟩ = some (.slice op np cp) ∧ wx.cell? ⟨w.heap.size, 2, none⟩ = some (.slice ap mp dp) ∧ wx.cell? ⟨w.heap.size + 1, 0, none⟩ = some (.bool su) ∧ wx.cell? ⟨w.heap.size + 1, 1, none⟩ = some (.slice ou nu cu) ∧ wx.cell? ⟨w.heap.size + 1, 2, none⟩ = some (.slice au mu du) ∧ wx.cell? ⟨gx, 0, none⟩ = some (.bool sX1) ∧ wx.cell? ⟨gx, 1, none⟩ = some (.slice oX1 nX1 cX1) ∧ wx.cell? ⟨gx, 2, none⟩ = some (.slice aX1 mX1 dX1) ∧ wx.cell? ⟨gy, 0, none⟩ = some (.bool sX2) ∧ wx.cell? ⟨gy, 1, none⟩ = some (.slice oX2 nX2 cX2) ∧ wx.cell? ⟨gy, 2, none⟩ = some (.slice aX2 mX2 dX2)) (first | exact ⟨zp0, zp1, zp2, zu0, zu1, zu2, zx0, zx1, zx2, zy0, zy1, zy2⟩ | exact put6 (by omega) (by omega) (by omega) (by omega) ⟨zp0, zp1, zp2, zu0, zu1, zu2, zx0, zx1, zx2, zy0, zy1, zy2⟩ | exact al3 ⟨zp0, zp1, zp2, zu0, zu1, zu2, zx0, zx1, zx2, zy0, zy1, zy2⟩ | exact put3c (by omega) (al3 ⟨zp0, zp1, zp2, zu0, zu1, zu2, zx0, zx1, zx2, zy0, zy1, zy2⟩)) (first
    | (go_at_call 29; (with_reducible refine (C1.out _ HBC.out).mono ?_); rintro e wr0 ⟨v0r, rfl, hb, hn⟩; (have HBC := Lib.hid (HBC.out.step hb)); (try have F1 := Lib.hid (F1.out.below hb)); (try have F2 := Lib.hid (F2.out.below hb)); (have F1 := Lib.hid hn); clear hn; clear hb; (obtain ⟨zp0, zp1, zp2⟩ := Zp.out _ HBC.out); (obtain ⟨zu0, zu1, zu2⟩ := Zu.out _ HBC.out); (obtain ⟨zx0, zx1, zx2⟩ := Zx.out _ HBC.out); (obtain ⟨zy0, zy1, zy2⟩ := Zy.out _ HBC.out))
    | (go_at_call 30; (with_reducible refine (C2.out _ HBC.out).mono ?_); rintro e wr1 ⟨v1r, rfl, hb, hn⟩; (have HBC := Lib.hid (HBC.out.step hb)); (try have F1 := Lib.hid (F1.out.below hb)); (try have F2 := Lib.hid (F2.out.below hb)); (have F2 := Lib.hid hn); clear hn; clear hb; (obtain ⟨zp0, zp1, zp2⟩ := Zp.out _ HBC.out); (obtain ⟨zu0, zu1, zu2⟩ := Zu.out _ HBC.out); (obtain ⟨zx0, zx1, zx2⟩ := Zx.out _ HBC.out); (obtain ⟨zy0, zy1, zy2⟩ := Zy.out _ HBC.out))
    | (go_at_call 17; (with_reducible refine (CQ.out _ _ _ _ F1.out F2.out (by omega)).mono ?_); rintro e wr2 ⟨rfl, hb⟩; (have HBC := Lib.hid (HBC.out.step hb)); (try have F1 := Lib.hid (F1.out.below hb)); (try have F2 := Lib.hid (F2.out.below hb)); clear hb; (obtain ⟨zp0, zp1, zp2⟩ := Zp.out _ HBC.out); (obtain ⟨zu0, zu1, zu2⟩ := Zu.out _ HBC.out); (obtain ⟨zx0, zx1, zx2⟩ := Zx.out _ HBC.out); (obtain ⟨zy0, zy1, zy2⟩ := Zy.out _ HBC.out))
    | (go_at_call 17; (with_reducible refine (CQ.out _ _ _ _ (X1.out.below HBC.out) (X2.out.below HBC.out) (by omega)).mono ?_); rintro e wr3 ⟨rfl, hb⟩; (have HBC := Lib.hid (HBC.out.step hb)); (try have F1 := Lib.hid (F1.out.below hb)); (try have F2 := Lib.hid (F2.out.below hb)); clear hb; (obtain ⟨zp0, zp1, zp2⟩ := Zp.out _ HBC.out); (obtain ⟨zu0, zu1, zu2⟩ := Zu.out _ HBC.out); (obtain ⟨zx0, zx1, zx2⟩ := Zx.out _ HBC.out); (obtain ⟨zy0, zy1, zy2⟩ := Zy.out _ HBC.out))
    | (go_at_call 18; (with_reducible refine (CE.out _).mono ?_); rintro e wr4 ⟨rfl, rfl⟩))
  have Fp := Lib.hid (Fp.out.below HBC.out)
  have Fu := Lib.hid (Fu.out.below HBC.out)
  have X1 := Lib.hid (X1.out.below HBC.out)
  have X2 := Lib.hid (X2.out.below HBC.out)
  have BXp := Lib.hid (heap_below BXp.out HBC.out)
  have BXu := Lib.hid (heap_below BXu.out HBC.out)
  have BXx := Lib.hid (heap_below BXx.out HBC.out)
  have BXy := Lib.hid (heap_below BXy.out HBC.out)
  have HB8 := Lib.hid (HB7.out.step HBC.out)
  have hs := fun nn => powq_any _ p nn wr3 Fp.out (by omega)
  have HS := Lib.hid hs; clear hs
  obtain ⟨ep0, ep1, ep2⟩ := row3 BXp.out
  go_wp2_with fail
  clear ep0 ep1 ep2
  (with_reducible refine (HS.out _).mono ?_); rintro e w9 ⟨v9, rfl, hb9, hn9⟩
  clear HS
  have HB9 := Lib.hid (HB8.out.step hb9)
  have Fp := Lib.hid (Fp.out.below hb9)
  have Fu := Lib.hid (Fu.out.below hb9)
  have X1 := Lib.hid (X1.out.below hb9)
  have X2 := Lib.hid (X2.out.below hb9)
  have BXp := Lib.hid (heap_below BXp.out hb9)
  have BXu := Lib.hid (heap_below BXu.out hb9)
  have BXx := Lib.hid (heap_below BXx.out hb9)
  have BXy := Lib.hid (heap_below BXy.out hb9)
  have Z1 := Lib.hid hn9; clear hn9
  clear hb9
  obtain ⟨sZ1, oZ1, nZ1, cZ1, aZ1, mZ1, dZ1, rfl⟩ := Z1.out.shape
  obtain ⟨w10, hw10⟩ : ∃ w10, w10 = w9.alloc (.cells #[.bool sZ1, .slice oZ1 nZ1 cZ1, .slice aZ1 mZ1 dZ1] 24) := ⟨_, rfl⟩
  have hb10 : Below w9.heap.size w9 w10 := by rw [hw10]; exact (Below.refl _ _).alloc (Nat.le_refl _) _
  have hxz := heap_alloc_new w9 (.cells #[.bool sZ1, .slice oZ1 nZ1 cZ1, .slice aZ1 mZ1 dZ1] 24)
  obtain ⟨gz, hgz⟩ : ∃ gz, gz = w9.heap.size := ⟨_, rfl⟩
  rw [← hw10, ← hgz] at hxz
  have HW10 := Lib.hid hw10; have HGz := Lib.hid hgz; clear hw10 hgz
  have HB10 := Lib.hid (HB9.out.step hb10)
  have Fp := Lib.hid (Fp.out.below hb10)
  have Fu := Lib.hid (Fu.out.below hb10)
  have X1 := Lib.hid (X1.out.below hb10)
  have X2 := Lib.hid (X2.out.below hb10)
  have Z1 := Lib.hid (Z1.out.below hb10)
  have BXp := Lib.hid (heap_below BXp.out hb10)
  have BXu := Lib.hid (heap_below BXu.out hb10)
  have BXx := Lib.hid (heap_below BXx.out hb10)
  have BXy := Lib.hid (heap_below BXy.out hb10)
  clear hb10
  have BXz := Lib.hid hxz; clear hxz
  have hs := fun nn => rpowq_any _ p nn w10 Fp.out (by omega)
  have HS := Lib.hid hs; clear hs
  obtain ⟨ep0, ep1, ep2⟩ := row3 BXp.out
  rw [HW10.out] at ep0
  rw [HW10.out] at ep1
  rw [HW10.out] at ep2
  go_wp2_with fail
  rw [← HW10.out]
  try rw [← HGz.out]
  clear ep0 ep1 ep2
  (with_reducible refine (HS.out _).mono ?_); rintro e w11 ⟨v11, rfl, hb11, hn11⟩
  clear HS
  have HB11 := Lib.hid (HB10.out.step hb11)
  have Fp := Lib.hid (Fp.out.below hb11)
  have Fu := Lib.hid (Fu.out.below hb11)
  have X1 := Lib.hid (X1.out.below hb11)
  have X2 := Lib.hid (X2.out.below hb11)
  have Z1 := Lib.hid (Z1.out.below hb11)
  have BXp := Lib.hid (heap_below BXp.out hb11)
  have BXu := Lib.hid (heap_below BXu.out hb11)
  have BXx := Lib.hid (heap_below BXx.out hb11)
  have BXy := Lib.hid (heap_below BXy.out hb11)
  have BXz := Lib.hid (heap_below BXz.out hb11)
  have Z2 := Lib.hid hn11; clear hn11
  clear hb11
  obtain ⟨sZ2, oZ2, nZ2, cZ2, aZ2, mZ2, dZ2, rfl⟩ := Z2.out.shape
  obtain ⟨w12, hw12⟩ : ∃ w12, w12 = w11.alloc (.cells #[.bool sZ2, .slice oZ2 nZ2 cZ2, .slice aZ2 mZ2 dZ2] 24) := ⟨_, rfl⟩
  have hb12 : Below w11.heap.size w11 w12 := by rw [hw12]; exact (Below.refl _ _).alloc (Nat.le_refl _) _
  have hxt := heap_alloc_new w11 (.cells #[.bool sZ2, .slice oZ2 nZ2 cZ2, .slice aZ2 mZ2 dZ2] 24)
  obtain ⟨gt, hgt⟩ : ∃ gt, gt = w11.heap.size := ⟨_, rfl⟩
  rw [← hw12, ← hgt] at hxt
  have HW12 := Lib.hid hw12; have HGt := Lib.hid hgt; clear hw12 hgt
  have HB12 := Lib.hid (HB11.out.step hb12)
  have Fp := Lib.hid (Fp.out.below hb12)
  have Fu := Lib.hid (Fu.out.below hb12)
  have X1 := Lib.hid (X1.out.below hb12)
  have X2 := Lib.hid (X2.out.below hb12)
  have Z1 := Lib.hid (Z1.out.below hb12)
  have Z2 := Lib.hid (Z2.out.below hb12)
  have BXp := Lib.hid (heap_below BXp.out hb12)
  have BXu := Lib.hid (heap_below BXu.out hb12)
  have BXx := Lib.hid (heap_below BXx.out hb12)
  have BXy := Lib.hid (heap_below BXy.out hb12)
  have BXz := Lib.hid (heap_below BXz.out hb12)
  clear hb12
  have BXt := Lib.hid hxt; clear hxt
  have hs := rat_same _ _ _ w12 Z1.out Z2.out (rl_pwV (by omega))
  have HS := Lib.hid hs; clear hs
  obtain ⟨ez0, ez1, ez2⟩ := row3 BXz.out
  obtain ⟨et0, et1, et2⟩ := row3 BXt.out
  rw [HW12.out] at ez0
  rw [HW12.out] at ez1
  rw [HW12.out] at ez2
  rw [HW12.out] at et0
  rw [HGt.out] at et0
  rw [HW12.out] at et1
  rw [HGt.out] at et1
  rw [HW12.out] at et2
  rw [HGt.out] at et2
  go_wp2_with fail
  rw [← HW12.out]
  try rw [← HGt.out]
  clear ez0 ez1 ez2 et0 et1 et2
  (with_reducible refine HS.out.mono ?_); rintro e w13 ⟨rfl, hb13⟩
  clear HS
  have HB13 := Lib.hid (HB12.out.step hb13)
  have Fp := Lib.hid (Fp.out.below hb13)
  have Fu := Lib.hid (Fu.out.below hb13)
  have X1 := Lib.hid (X1.out.below hb13)
  have X2 := Lib.hid (X2.out.below hb13)
  have Z1 := Lib.hid (Z1.out.below hb13)
  have Z2 := Lib.hid (Z2.out.below hb13)
  have BXp := Lib.hid (heap_below BXp.out hb13)
  have BXu := Lib.hid (heap_below BXu.out hb13)
  have BXx := Lib.hid (heap_below BXx.out hb13)
  have BXy := Lib.hid (heap_below BXy.out hb13)
  have BXz := Lib.hid (heap_below BXz.out hb13)
  have BXt := Lib.hid (heap_below BXt.out hb13)
  clear hb13
  have hs := fun nn => num_any (pwC p nn) w13 (pwC_small p nn)
  have HS := Lib.hid hs; clear hs
  go_wp2_with fail
  (with_reducible refine (HS.out _).mono ?_); rintro e wx ⟨rfl, rfl⟩
  clear HS
  go_wp2_with fail
  go_ret
  exact ⟨by first | rfl | (simp; done), HB13.out⟩
set_option maxRecDepth 100000 in
set_option maxHeartbeats 12800000 in
theorem products_small1 (vp : Value) (p : Rat) (vu : Value) (u : Rat) (n : Int) (w : World) (hp : RatIs w vp p) (hu : RatIs w vu u) (lp : rl p ≤ 12) (zp : (szR vp).1 ≤ 12 ∧ (szR vp).2 ≤ 12) (lu : rl u ≤ 12) (zu : (szR vu).1 ≤ 12 ∧ (szR vu).2 ≤ 12) (n0 : -9223372036854775808 ≤ n) (n1 : n < 9223372036854775808) (c1 : 3 < (szR vp).1 + (szR vp).2) (c2 : n < -64) :
    Calls Tryd.prog 5 #[vp, vu, .int .i64 n] w (RetV w (.bool true)) := by
  obtain ⟨sp, op, np, cp, ap, mp, dp, rfl⟩ := hp.shape
  have hlp := hp.rl
  obtain ⟨su, ou, nu, cu, au, mu, du, rfl⟩ := hu.shape
  have hlu := hu.rl
  have c4 : 3 < np + mp := c1; clear c1
  have f1 : decide ((3 : Int) < (np : Int) + (mp : Int)) = true := decide_eq_true (by omega)
  have f2 : decide (-64 ≤ n) = false := decide_eq_false (by omega)
  have k1 := rl_mul p u; have k2 := rl_div' p u
  have e1 := dc_small u
  obtain ⟨E, hE⟩ : ∃ E, E = dc u := ⟨_, rfl⟩; rw [← hE] at e1
  have g1 : ((E : Int) != (E : Int)) = false := by simp
  have HE := Lib.hid hE; clear hE
  have _n0 := n0; have _n1 := n1
  have hb0 := (((Below.refl w.heap.size w).alloc (by first | (simp; done) | (simp; omega)) (.cells #[.bool sp, .slice op np cp, .slice ap mp dp] 24)).alloc (by first | (simp; done) | (simp; omega)) (.cells #[.bool su, .slice ou nu cu, .slice au mu du] 24))
  have hxp := nest2_0 w (.cells #[.bool sp, .slice op np cp, .slice ap mp dp] 24) (.cells #[.bool su, .slice ou nu cu, .slice au mu du] 24)
  have hxu := nest2_1 w (.cells #[.bool sp, .slice op np cp, .slice ap mp dp] 24) (.cells #[.bool su, .slice ou nu cu, .slice au mu du] 24)
  have hpp := hp.below hb0
  have hpu := hu.below hb0
  obtain ⟨w0, hw0⟩ : ∃ w0, w0 = ((w.alloc (.cells #[.bool sp, .slice op np cp, .slice ap mp dp] 24)).alloc (.cells #[.bool su, .slice ou nu cu, .slice au mu du] 24)) := ⟨_, rfl⟩
  rw [← hw0] at hb0 hxp hxu hpp hpu
  have HB0 := Lib.hid hb0; have HW0 := Lib.hid hw0
  have BXp := Lib.hid hxp
  have BXu := Lib.hid hxu
  have Fp := Lib.hid hpp
  have Fu := Lib.hid hpu
  clear hb0 hw0 hxp hxu hpp hp hpu hu
  have zzp : np ≤ 12 ∧ mp ≤ 12 := zp; clear zp
  have _lp := lp
  have zzu : nu ≤ 12 ∧ mu ≤ 12 := zu; clear zu
  have _lu := lu
  go_enter Tryd.func5, Tryd.ntmps5
  have hs := awake02 w0
  have HS := Lib.hid hs; clear hs
  go_wp2_with fail
  rw [← HW0.out]
  (with_reducible refine HS.out.mono ?_); rintro e w1 ⟨rfl, hb1⟩
  clear HS
  have HB1 := Lib.hid (HB0.out.step hb1)
  have Fp := Lib.hid (Fp.out.below hb1)
  have Fu := Lib.hid (Fu.out.below hb1)
  have BXp := Lib.hid (heap_below BXp.out hb1)
  have BXu := Lib.hid (heap_below BXu.out hb1)
  clear hb1
  obtain ⟨ep0, ep1, ep2⟩ := row3 BXp.out
  obtain ⟨eu0, eu1, eu2⟩ := row3 BXu.out
  obtain ⟨w2, hw2⟩ : ∃ w2, w2 = w1.alloc (.cells #[.bool sp, .slice op np cp, .slice ap mp dp, .bool su, .slice ou nu cu, .slice au mu du] 24) := ⟨_, rfl⟩
  have hb2 : Below w1.heap.size w1 w2 := by rw [hw2]; exact (Below.refl _ _).alloc (Nat.le_refl _) _
  have hxLS := heap_alloc_new w1 (.cells #[.bool sp, .slice op np cp, .slice ap mp dp, .bool su, .slice ou nu cu, .slice au mu du] 24)
  obtain ⟨gLS, hgLS⟩ : ∃ gLS, gLS = w1.heap.size := ⟨_, rfl⟩
  rw [← hw2, ← hgLS] at hxLS
  have HW2 := Lib.hid hw2; have HGLS := Lib.hid hgLS; clear hw2 hgLS
  have HB2 := Lib.hid (HB1.out.step hb2)
  have Fp := Lib.hid (Fp.out.below hb2)
  have Fu := Lib.hid (Fu.out.below hb2)
  have BXp := Lib.hid (heap_below BXp.out hb2)
  have BXu := Lib.hid (heap_below BXu.out hb2)
  clear hb2
  have BXLS := Lib.hid hxLS; clear hxLS
  have hs := rlarge2s BXLS.out zzp zzu
  have HS := Lib.hid hs; clear hs
  go_wp2_with fail
  rw [← HW2.out]
  try rw [← HGLS.out]
  (with_reducible refine HS.out.mono ?_); rintro e w3 ⟨rfl, hb3⟩
  clear HS
  have HB3 := Lib.hid (HB2.out.step hb3)
  have Fp := Lib.hid (Fp.out.below hb3)
  have Fu := Lib.hid (Fu.out.below hb3)
  have BXp := Lib.hid (heap_below BXp.out hb3)
  have BXu := Lib.hid (heap_below BXu.out hb3)
  clear hb3
  clear BXLS
  have hs := divq_any _ p _ u w3 Fp.out Fu.out
  rw [← HE.out] at hs
  have HS := Lib.hid hs; clear hs
  obtain ⟨ep0, ep1, ep2⟩ := row3 BXp.out
  obtain ⟨eu0, eu1, eu2⟩ := row3 BXu.out
  go_wp2_with fail
  clear ep0 ep1 ep2 eu0 eu1 eu2
  (with_reducible refine HS.out.mono ?_); rintro e w4 ⟨v4, rfl, hb4, hn4⟩
  clear HS
  have HB4 := Lib.hid (HB3.out.step hb4)
  have Fp := Lib.hid (Fp.out.below hb4)
  have Fu := Lib.hid (Fu.out.below hb4)
  have BXp := Lib.hid (heap_below BXp.out hb4)
  have BXu := Lib.hid (heap_below BXu.out hb4)
  have X1 := Lib.hid hn4; clear hn4
  clear hb4
  obtain ⟨sX1, oX1, nX1, cX1, aX1, mX1, dX1, rfl⟩ := X1.out.shape
  obtain ⟨w5, hw5⟩ : ∃ w5, w5 = w4.alloc (.cells #[.bool sX1, .slice oX1 nX1 cX1, .slice aX1 mX1 dX1] 24) := ⟨_, rfl⟩
  have hb5 : Below w4.heap.size w4 w5 := by rw [hw5]; exact (Below.refl _ _).alloc (Nat.le_refl _) _
  have hxx := heap_alloc_new w4 (.cells #[.bool sX1, .slice oX1 nX1 cX1, .slice aX1 mX1 dX1] 24)
  obtain ⟨gx, hgx⟩ : ∃ gx, gx = w4.heap.size := ⟨_, rfl⟩
  rw [← hw5, ← hgx] at hxx
  have HW5 := Lib.hid hw5; have HGx := Lib.hid hgx; clear hw5 hgx
  have HB5 := Lib.hid (HB4.out.step hb5)
  have Fp := Lib.hid (Fp.out.below hb5)
  have Fu := Lib.hid (Fu.out.below hb5)
  have X1 := Lib.hid (X1.out.below hb5)
  have BXp := Lib.hid (heap_below BXp.out hb5)
  have BXu := Lib.hid (heap_below BXu.out hb5)
  clear hb5
  have BXx := Lib.hid hxx; clear hxx
  have hs := rdivq_any _ p _ u w5 Fp.out Fu.out
  rw [← HE.out] at hs
  have HS := Lib.hid hs; clear hs
  obtain ⟨ep0, ep1, ep2⟩ := row3 BXp.out
  obtain ⟨eu0, eu1, eu2⟩ := row3 BXu.out
  rw [HW5.out] at ep0
  rw [HW5.out] at ep1
  rw [HW5.out] at ep2
  rw [HW5.out] at eu0
  rw [HW5.out] at eu1
  rw [HW5.out] at eu2
  go_wp2_with fail
  rw [← HW5.out]
  try rw [← HGx.out]
  clear ep0 ep1 ep2 eu0 eu1 eu2
  (with_reducible refine HS.out.mono ?_); rintro e w6 ⟨v6, rfl, hb6, hn6⟩
  clear HS
  have HB6 := Lib.hid (HB5.out.step hb6)
  have Fp := Lib.hid (Fp.out.below hb6)
  have Fu := Lib.hid (Fu.out.below hb6)
  have X1 := Lib.hid (X1.out.below hb6)
  have BXp := Lib.hid (heap_below BXp.out hb6)
  have BXu := Lib.hid (heap_below BXu.out hb6)
  have BXx := Lib.hid (heap_below BXx.out hb6)
  have X2 := Lib.hid hn6; clear hn6
  clear hb6
  obtain ⟨sX2, oX2, nX2, cX2, aX2, mX2, dX2, rfl⟩ := X2.out.shape
  obtain ⟨w7, hw7⟩ : ∃ w7, w7 = w6.alloc (.cells #[.bool sX2, .slice oX2 nX2 cX2, .slice aX2 mX2 dX2] 24) := ⟨_, rfl⟩
  have hb7 : Below w6.heap.size w6 w7 := by rw [hw7]; exact (Below.refl _ _).alloc (Nat.le_refl _) _
  have hxy := heap_alloc_new w6 (.cells #[.bool sX2, .slice oX2 nX2 cX2, .slice aX2 mX2 dX2] 24)
  obtain ⟨gy, hgy⟩ : ∃ gy, gy = w6.heap.size := ⟨_, rfl⟩
  rw [← hw7, ← hgy] at hxy
  have HW7 := Lib.hid hw7; have HGy := Lib.hid hgy; clear hw7 hgy
  have HB7 := Lib.hid (HB6.out.step hb7)
  have Fp := Lib.hid (Fp.out.below hb7)
  have Fu := Lib.hid (Fu.out.below hb7)
  have X1 := Lib.hid (X1.out.below hb7)
  have X2 := Lib.hid (X2.out.below hb7)
  have BXp := Lib.hid (heap_below BXp.out hb7)
  have BXu := Lib.hid (heap_below BXu.out hb7)
  have BXx := Lib.hid (heap_below BXx.out hb7)
  clear hb7
  have BXy := Lib.hid hxy; clear hxy
  have HBC := Lib.hid ((Below.refl w7.heap.size w7).drew)
  have hc := fun w1 (h1 : Below w7.heap.size w7 w1) => mulq_any _ p _ u w1 (Fp.out.below h1) (Fu.out.below h1)
  have C1 := Lib.hid hc; clear hc
  have hc := fun w1 (h1 : Below w7.heap.size w7 w1) => rmulq_any _ p _ u w1 (Fp.out.below h1) (Fu.out.below h1)
  have C2 := Lib.hid hc; clear hc
  have hc := fun va vb u w1 (ha : IsR w1 va u) (hb : IsR w1 vb u) (hl : rl u ≤ 100000) => rat_same va vb u w1 ha hb hl
  have CQ := Lib.hid hc; clear hc
  have hc := fun w1 => num_any E w1 e1
  have CE := Lib.hid hc; clear hc
  have Zp := Lib.hid (fun w1 (h1 : Below w7.heap.size w7 w1) => row3 (heap_below BXp.out h1))
  have Zu := Lib.hid (fun w1 (h1 : Below w7.heap.size w7 w1) => row3 (heap_below BXu.out h1))
  have Zx := Lib.hid (fun w1 (h1 : Below w7.heap.size w7 w1) => row3 (heap_below BXx.out h1))
  have Zy := Lib.hid (fun w1 (h1 : Below w7.heap.size w7 w1) => row3 (heap_below BXy.out h1))
  go_wp2_with fail
  rw [← HW7.out]
  try rw [← HGy.out]
  obtain ⟨zp0, zp1, zp2⟩ := Zp.out _ HBC.out
  obtain ⟨zu0, zu1, zu2⟩ := Zu.out _ HBC.out
  obtain ⟨zx0, zx1, zx2⟩ := Zx.out _ HBC.out
  obtain ⟨zy0, zy1, zy2⟩ := Zy.out _ HBC.out
  go_region_held3 (fun wx => wx.cell? ⟨w.heap.size, 0, none⟩ = some (.bool sp) ∧ wx.cell? ⟨w.heap.size, 1, none⟩ = some (.slice op np cp) ∧ wx.cell? ⟨w.heap.size, 2, none⟩ = some (.slice ap mp dp) ∧ wx.cell? ⟨w.heap.size + 1, 0, none⟩ = some (.bool su) ∧ wx.cell? ⟨w.heap.size + 1, 1, none⟩ = some (.slice ou nu cu) ∧ wx.cell? ⟨w.heap.size + 1, 2, none⟩ = some (.slice au mu du) ∧ wx.cell? ⟨gx, 0, none⟩ = some (.bool sX1) ∧ wx.cell? ⟨gx, 1, none⟩ = some (.slice oX1 nX1 cX1) ∧ wx.cell? ⟨gx, 2, none⟩ = some (.slice aX1 mX1 dX1) ∧ wx.cell? ⟨gy, 0, none⟩ = some (.bool sX2) ∧ wx.cell? ⟨gy, 1, none⟩ = some (.slice oX2 nX2 cX2) ∧ wx.cell? ⟨gy, 2, none⟩ = some (.slice aX2 mX2 dX2)) (first | exact ⟨zp0, zp1, zp2, zu0, zu1, zu2, zx0, zx1, zx2, zy0, zy1, zy2⟩ | exact put6 (by omega) (by omega) (by omega) (by omega) ⟨zp0, zp1, zp2, zu0, zu1, zu2, zx0, zx1, zx2, zy0, zy1, zy2⟩ | exact al3 ⟨zp0, zp1, zp2, zu0, zu1, zu2, zx0, zx1, zx2, zy0, zy1, zy2⟩ | exact put3c (by omega) (al3 ⟨zp0, zp1, zp2, zu0, zu1, zu2, zx0, zx1, zx2, zy0, zy1, zy2⟩)) (first
    | (go_at_call 29; (with_reducible refine (C1.out _ HBC.out).mono ?_); rintro e wr0 ⟨v0r, rfl, hb, hn⟩; (have HBC := Lib.hid (HBC.out.step hb)); (try have F1 := Lib.hid (F1.out.below hb)); (try have F2 := Lib.hid (F2.out.below hb)); (have F1 := Lib.hid hn); clear hn; clear hb; (obtain ⟨zp0, zp1, zp2⟩ := Zp.out _ HBC.out); (obtain ⟨zu0, zu1, zu2⟩ := Zu.out _ HBC.out); (obtain ⟨zx0, zx1, zx2⟩ := Zx.out _ HBC.out); (obtain ⟨zy0, zy1, zy2⟩ := Zy.out _ HBC.out))
    | (go_at_call 30; (with_reducible refine (C2.out _ HBC.out).mono ?_); rintro e wr1 ⟨v1r, rfl, hb, hn⟩; (have HBC := Lib.hid (HBC.out.step hb)); (try have F1 := Lib.hid (F1.out.below hb)); (try have F2 := Lib.hid (F2.out.below hb)); (have F2 := Lib.hid hn); clear hn; clear hb; (obtain ⟨zp0, zp1, zp2⟩ := Zp.out _ HBC.out); (obtain ⟨zu0, zu1, zu2⟩ := Zu.out _ HBC.out); (obtain ⟨zx0, zx1, zx2⟩ := Zx.out _ HBC.out); (obtain ⟨zy0, zy1, zy2⟩ := Zy.out _ HBC.out))
    | (go_at_call 17; (with_reducible refine (CQ.out _ _ _ _ F1.out F2.out (by omega)).mono ?_); rintro e wr2 ⟨rfl, hb⟩; (have HBC := Lib.hid (HBC.out.step hb)); (try have F1 := Lib.hid (F1.out.below hb)); (try have F2 := Lib.hid (F2.out.below hb)); clear hb; (obtain ⟨zp0, zp1, zp2⟩ := Zp.out _ HBC.out); (obtain ⟨zu0, zu1, zu2⟩ := Zu.out _ HBC.out); (obtain ⟨zx0, zx1, zx2⟩ := Zx.out _ HBC.out); (obtain ⟨zy0, zy1, zy2⟩ := Zy.out _ HBC.out))
    | (go_at_call 17; (with_reducible refine (CQ.out _ _ _ _ (X1.out.below HBC.out) (X2.out.below HBC.out) (by omega)).mono ?_); rintro e wr3 ⟨rfl, hb⟩; (have HBC := Lib.hid (HBC.out.step hb)); (try have F1 := Lib.hid (F1.out.below hb)); (try have F2 := Lib.hid (F2.out.below hb)); clear hb; (obtain ⟨zp0, zp1, zp2⟩ := Zp.out _ HBC.out); (obtain ⟨zu0, zu1, zu2⟩ := Zu.out _ HBC.out); (obtain ⟨zx0, zx1, zx2⟩ := Zx.out _ HBC.out); (obtain ⟨zy0, zy1, zy2⟩ := Zy.out _ HBC.out))
    | (go_at_call 18; (with_reducible refine (CE.out _).mono ?_); rintro e wr4 ⟨rfl, rfl⟩))
  have Fp := Lib.hid (Fp.out.below HBC.out)
  have Fu := Lib.hid (Fu.out.below HBC.out)
  have X1 := Lib.hid (X1.out.below HBC.out)
  have X2 := Lib.hid (X2.out.below HBC.out)
  have BXp := Lib.hid (heap_below BXp.out HBC.out)
  have BXu := Lib.hid (heap_below BXu.out HBC.out)
  have BXx := Lib.hid (heap_below BXx.out HBC.out)
  have BXy := Lib.hid (heap_below BXy.out HBC.out)
  have HB8 := Lib.hid (HB7.out.step HBC.out)
  have hs := fun nn => powq_any _ p nn wr3 Fp.out (by omega)
  have HS := Lib.hid hs; clear hs
  obtain ⟨ep0, ep1, ep2⟩ := row3 BXp.out
  go_wp2_with fail
  clear ep0 ep1 ep2
  (with_reducible refine (HS.out _).mono ?_); rintro e w9 ⟨v9, rfl, hb9, hn9⟩
  clear HS
  have HB9 := Lib.hid (HB8.out.step hb9)
  have Fp := Lib.hid (Fp.out.below hb9)
  have Fu := Lib.hid (Fu.out.below hb9)
  have X1 := Lib.hid (X1.out.below hb9)
  have X2 := Lib.hid (X2.out.below hb9)
  have BXp := Lib.hid (heap_below BXp.out hb9)
  have BXu := Lib.hid (heap_below BXu.out hb9)
  have BXx := Lib.hid (heap_below BXx.out hb9)
  have BXy := Lib.hid (heap_below BXy.out hb9)
  have Z1 := Lib.hid hn9; clear hn9
  clear hb9
  obtain ⟨sZ1, oZ1, nZ1, cZ1, aZ1, mZ1, dZ1, rfl⟩ := Z1.out.shape
  obtain ⟨w10, hw10⟩ : ∃ w10, w10 = w9.alloc (.cells #[.bool sZ1, .slice oZ1 nZ1 cZ1, .slice aZ1 mZ1 dZ1] 24) := ⟨_, rfl⟩
  have hb10 : Below w9.heap.size w9 w10 := by rw [hw10]; exact (Below.refl _ _).alloc (Nat.le_refl _) _
  have hxz := heap_alloc_new w9 (.cells #[.bool sZ1, .slice oZ1 nZ1 cZ1, .slice aZ1 mZ1 dZ1] 24)
  obtain ⟨gz, hgz⟩ : ∃ gz, gz = w9.heap.size := ⟨_, rfl⟩
  rw [← hw10, ← hgz] at hxz
  have HW10 := Lib.hid hw10; have HGz := Lib.hid hgz; clear hw10 hgz
  have HB10 := Lib.hid (HB9.out.step hb10)
  have Fp := Lib.hid (Fp.out.below hb10)
  have Fu := Lib.hid (Fu.out.below hb10)
  have X1 := Lib.hid (X1.out.below hb10)
  have X2 := Lib.hid (X2.out.below hb10)
  have Z1 := Lib.hid (Z1.out.below hb10)
  have BXp := Lib.hid (heap_below BXp.out hb10)
  have BXu := Lib.hid (heap_below BXu.out hb10)
  have BXx := Lib.hid (heap_below BXx.out hb10)
  have BXy := Lib.hid (heap_below BXy.out hb10)
  clear hb10
  have BXz := Lib.hid hxz; clear hxz
  have hs := fun nn => rpowq_any _ p nn w10 Fp.out (by omega)
  have HS := Lib.hid hs; clear hs
  obtain ⟨ep0, ep1, ep2⟩ := row3 BXp.out
  rw [HW10.out] at ep0
  rw [HW10.out] at ep1
  rw [HW10.out] at ep2
  go_wp2_with fail
  rw [← HW10.out]
  try rw [← HGz.out]
  clear ep0 ep1 ep2
  (with_reducible refine (HS.out _).mono ?_); rintro e w11 ⟨v11, rfl, hb11, hn11⟩
  clear HS
  have HB11 := Lib.hid (HB10.out.step hb11)
  have Fp := Lib.hid (Fp.out.below hb11)
  have Fu := Lib.hid (Fu.out.below hb11)
  have X1 := Lib.hid (X1.out.below hb11)
  have X2 := Lib.hid (X2.out.below hb11)
  have Z1 := Lib.hid (Z1.out.below hb11)
  have BXp := Lib.hid (heap_below BXp.out hb11)
  have BXu := Lib.hid (heap_below BXu.out hb11)
  have BXx := Lib.hid (heap_below BXx.out hb11)
  have BXy := Lib.hid (heap_below BXy.out hb11)
  have BXz := Lib.hid (heap_below BXz.out hb11)
  have Z2 := Lib.hid hn11; clear hn11
  clear hb11
  obtain ⟨sZ2, oZ2, nZ2, cZ2, aZ2, mZ2, dZ2, rfl⟩ := Z2.out.shape
  obtain ⟨w12, hw12⟩ : ∃ w12, w12 = w11.alloc (.cells #[.bool sZ2, .slice oZ2 nZ2 cZ2, .slice aZ2 mZ2 dZ2] 24) := ⟨_, rfl⟩
  have hb12 : Below w11.heap.size w11 w12 := by rw [hw12]; exact (Below.refl _ _).alloc (Nat.le_refl _) _
  have hxt := heap_alloc_new w11 (.cells #[.bool sZ2, .slice oZ2 nZ2 cZ2, .slice aZ2 mZ2 dZ2] 24)
  obtain ⟨gt, hgt⟩ : ∃ gt, gt = w11.heap.size := ⟨_, rfl⟩
  rw [← hw12, ← hgt] at hxt
  have HW12 := Lib.hid hw12; have HGt := Lib.hid hgt; clear hw12 hgt
  have HB12 := Lib.hid (HB11.out.step hb12)
  have Fp := Lib.hid (Fp.out.below hb12)
  have Fu := Lib.hid (Fu.out.below hb12)
  have X1 := Lib.hid (X1.out.below hb12)
  have X2 := Lib.hid (X2.out.below hb12)
  have Z1 := Lib.hid (Z1.out.below hb12)
  have Z2 := Lib.hid (Z2.out.below hb12)
  have BXp := Lib.hid (heap_below BXp.out hb12)
  have BXu := Lib.hid (heap_below BXu.out hb12)
  have BXx := Lib.hid (heap_below BXx.out hb12)
  have BXy := Lib.hid (heap_below BXy.out hb12)
  have BXz := Lib.hid (heap_below BXz.out hb12)
  clear hb12
  have BXt := Lib.hid hxt; clear hxt
  have hs := rat_same _ _ _ w12 Z1.out Z2.out (rl_pwV (by omega))
  have HS := Lib.hid hs; clear hs
  obtain ⟨ez0, ez1, ez2⟩ := row3 BXz.out
  obtain ⟨et0, et1, et2⟩ := row3 BXt.out
  rw [HW12.out] at ez0
  rw [HW12.out] at ez1
  rw [HW12.out] at ez2
  rw [HW12.out] at et0
  rw [HGt.out] at et0
  rw [HW12.out] at et1
  rw [HGt.out] at et1
  rw [HW12.out] at et2
  rw [HGt.out] at et2
  go_wp2_with fail
  rw [← HW12.out]
  try rw [← HGt.out]
  clear ez0 ez1 ez2 et0 et1 et2
  (with_reducible refine HS.out.mono ?_); rintro e w13 ⟨rfl, hb13⟩
  clear HS
  have HB13 := Lib.hid (HB12.out.step hb13)
  have Fp := Lib.hid (Fp.out.below hb13)
  have Fu := Lib.hid (Fu.out.below hb13)
  have X1 := Lib.hid (X1.out.below hb13)
  have X2 := Lib.hid (X2.out.below hb13)
  have Z1 := Lib.hid (Z1.out.below hb13)
  have Z2 := Lib.hid (Z2.out.below hb13)
  have BXp := Lib.hid (heap_below BXp.out hb13)
  have BXu := Lib.hid (heap_below BXu.out hb13)
  have BXx := Lib.hid (heap_below BXx.out hb13)
  have BXy := Lib.hid (heap_below BXy.out hb13)
  have BXz := Lib.hid (heap_below BXz.out hb13)
  have BXt := Lib.hid (heap_below BXt.out hb13)
  clear hb13
  have hs := fun nn => num_any (pwC p nn) w13 (pwC_small p nn)
  have HS := Lib.hid hs; clear hs
  go_wp2_with fail
  (with_reducible refine (HS.out _).mono ?_); rintro e wx ⟨rfl, rfl⟩
  clear HS
  go_wp2_with fail
  go_ret
  exact ⟨by first | rfl | (simp; done), HB13.out⟩
set_option maxRecDepth 100000 in
set_option maxHeartbeats 12800000 in
theorem products_small2 (vp : Value) (p : Rat) (vu : Value) (u : Rat) (n : Int) (w : World) (hp : RatIs w vp p) (hu : RatIs w vu u) (lp : rl p ≤ 12) (zp : (szR vp).1 ≤ 12 ∧ (szR vp).2 ≤ 12) (lu : rl u ≤ 12) (zu : (szR vu).1 ≤ 12 ∧ (szR vu).2 ≤ 12) (n0 : -9223372036854775808 ≤ n) (n1 : n < 9223372036854775808) (c1 : 3 < (szR vp).1 + (szR vp).2) (c2 : 64 < n) :
    Calls Tryd.prog 5 #[vp, vu, .int .i64 n] w (RetV w (.bool true)) := by
  obtain ⟨sp, op, np, cp, ap, mp, dp, rfl⟩ := hp.shape
  have hlp := hp.rl
  obtain ⟨su, ou, nu, cu, au, mu, du, rfl⟩ := hu.shape
  have hlu := hu.rl
  have c4 : 3 < np + mp := c1; clear c1
  have f1 : decide ((3 : Int) < (np : Int) + (mp : Int)) = true := decide_eq_true (by omega)
  have f2 : decide (-64 ≤ n) = true := decide_eq_true (by omega)
  have f3 : decide (n ≤ 64) = false := decide_eq_false (by omega)
  have k1 := rl_mul p u; have k2 := rl_div' p u
  have e1 := dc_small u
  obtain ⟨E, hE⟩ : ∃ E, E = dc u := ⟨_, rfl⟩; rw [← hE] at e1
  have g1 : ((E : Int) != (E : Int)) = false := by simp
  have HE := Lib.hid hE; clear hE
  have _n0 := n0; have _n1 := n1
  have hb0 := (((Below.refl w.heap.size w).alloc (by first | (simp; done) | (simp; omega)) (.cells #[.bool sp, .slice op np cp, .slice ap mp dp] 24)).alloc (by first | (simp; done) | (simp; omega)) (.cells #[.bool su, .slice ou nu cu, .slice au mu du] 24))
  have hxp := nest2_0 w (.cells #[.bool sp, .slice op np cp, .slice ap mp dp] 24) (.cells #[.bool su, .slice ou nu cu, .slice au mu du] 24)
  have hxu := nest2_1 w (.cells #[.bool sp, .slice op np cp, .slice ap mp dp] 24) (.cells #[.bool su, .slice ou nu cu, .slice au mu du] 24)
  have hpp := hp.below hb0
  have hpu := hu.below hb0
  obtain ⟨w0, hw0⟩ : ∃ w0, w0 = ((w.alloc (.cells #[.bool sp, .slice op np cp, .slice ap mp dp] 24)).alloc (.cells #[.bool su, .slice ou nu cu, .slice au mu du] 24)) := ⟨_, rfl⟩
  rw [← hw0] at hb0 hxp hxu hpp hpu
  have HB0 := Lib.hid hb0; have HW0 := Lib.hid hw0
  have BXp := Lib.hid hxp
  have BXu := Lib.hid hxu
  have Fp := Lib.hid hpp
  have Fu := Lib.hid hpu
  clear hb0 hw0 hxp hxu hpp hp hpu hu
  have zzp : np ≤ 12 ∧ mp ≤ 12 := zp; clear zp
  have _lp := lp
  have zzu : nu ≤ 12 ∧ mu ≤ 12 := zu; clear zu
  have _lu := lu
  go_enter Tryd.func5, Tryd.ntmps5
  have hs := awake02 w0
  have HS := Lib.hid hs; clear hs
  go_wp2_with fail
  rw [← HW0.out]
  (with_reducible refine HS.out.mono ?_); rintro e w1 ⟨rfl, hb1⟩
  clear HS
  have HB1 := Lib.hid (HB0.out.step hb1)
  have Fp := Lib.hid (Fp.out.below hb1)
  have Fu := Lib.hid (Fu.out.below hb1)
  have BXp := Lib.hid (heap_below BXp.out hb1)
  have BXu := Lib.hid (heap_below BXu.out hb1)
  clear hb1
  obtain ⟨ep0, ep1, ep2⟩ := row3 BXp.out
  obtain ⟨eu0, eu1, eu2⟩ := row3 BXu.out
  obtain ⟨w2, hw2⟩ : ∃ w2, w2 = w1.alloc (.cells #[.bool sp, .slice op np cp, .slice ap mp dp, .bool su, .slice ou nu cu, .slice au mu du] 24) := ⟨_, rfl⟩
  have hb2 : Below w1.heap.size w1 w2 := by rw [hw2]; exact (Below.refl _ _).alloc (Nat.le_refl _) _
  have hxLS := heap_alloc_new w1 (.cells #[.bool sp, .slice op np cp, .slice ap mp dp, .bool su, .slice ou nu cu, .slice au mu du] 24)
  obtain ⟨gLS, hgLS⟩ : ∃ gLS, gLS = w1.heap.size := ⟨_, rfl⟩
  rw [← hw2, ← hgLS] at hxLS
  have HW2 := Lib.hid hw2; have HGLS := Lib.hid hgLS; clear hw2 hgLS
  have HB2 := Lib.hid (HB1.out.step hb2)
  have Fp := Lib.hid (Fp.out.below hb2)
  have Fu := Lib.hid (Fu.out.below hb2)
  have BXp := Lib.hid (heap_below BXp.out hb2)
  have BXu := Lib.hid (heap_below BXu.out hb2)
  clear hb2
  have BXLS := Lib.hid hxLS; clear hxLS
  have hs := rlarge2s BXLS.out zzp zzu
  have HS := Lib.hid hs; clear hs
  go_wp2_with fail
  rw [← HW2.out]
  try rw [← HGLS.out]
  (with_reducible refine HS.out.mono ?_); rintro e w3 ⟨rfl, hb3⟩
  clear HS
  have HB3 := Lib.hid (HB2.out.step hb3)
  have Fp := Lib.hid (Fp.out.below hb3)
  have Fu := Lib.hid (Fu.out.below hb3)
  have BXp := Lib.hid (heap_below BXp.out hb3)
  have BXu := Lib.hid (heap_below BXu.out hb3)
  clear hb3
  clear BXLS
  have hs := divq_any _ p _ u w3 Fp.out Fu.out
  rw [← HE.out] at hs
  have HS := Lib.hid hs; clear hs
  obtain ⟨ep0, ep1, ep2⟩ := row3 BXp.out
  obtain ⟨eu0, eu1, eu2⟩ := row3 BXu.out
  go_wp2_with fail
  clear ep0 ep1 ep2 eu0 eu1 eu2
  (with_reducible refine HS.out.mono ?_); rintro e w4 ⟨v4, rfl, hb4, hn4⟩
  clear HS
  have HB4 := Lib.hid (HB3.out.step hb4)
  have Fp := Lib.hid (Fp.out.below hb4)
  have Fu := Lib.hid (Fu.out.below hb4)
  have BXp := Lib.hid (heap_below BXp.out hb4)
  have BXu := Lib.hid (heap_below BXu.out hb4)
  have X1 := Lib.hid hn4; clear hn4
  clear hb4
  obtain ⟨sX1, oX1, nX1, cX1, aX1, mX1, dX1, rfl⟩ := X1.out.shape
  obtain ⟨w5, hw5⟩ : ∃ w5, w5 = w4.alloc (.cells #[.bool sX1, .slice oX1 nX1 cX1, .slice aX1 mX1 dX1] 24) := ⟨_, rfl⟩
  have hb5 : Below w4.heap.size w4 w5 := by rw [hw5]; exact (Below.refl _ _).alloc (Nat.le_refl _) _
  have hxx := heap_alloc_new w4 (.cells #[.bool sX1, .slice oX1 nX1 cX1, .slice aX1 mX1 dX1] 24)
  obtain ⟨gx, hgx⟩ : ∃ gx, gx = w4.heap.size := ⟨_, rfl⟩
  rw [← hw5, ← hgx] at hxx
  have HW5 := Lib.hid hw5; have HGx := Lib.hid hgx; clear hw5 hgx
  have HB5 := Lib.hid (HB4.out.step hb5)
  have Fp := Lib.hid (Fp.out.below hb5)
  have Fu := Lib.hid (Fu.out.below hb5)
  have X1 := Lib.hid (X1.out.below hb5)
  have BXp := Lib.hid (heap_below BXp.out hb5)
  have BXu := Lib.hid (heap_below BXu.out hb5)
  clear hb5
  have BXx := Lib.hid hxx; clear hxx
  have hs := rdivq_any _ p _ u w5 Fp.out Fu.out
  rw [← HE.out] at hs
  have HS := Lib.hid hs; clear hs
  obtain ⟨ep0, ep1, ep2⟩ := row3 BXp.out
  obtain ⟨eu0, eu1, eu2⟩ := row3 BXu.out
  rw [HW5.out] at ep0
  rw [HW5.out] at ep1
  rw [HW5.out] at ep2
  rw [HW5.out] at eu0
  rw [HW5.out] at eu1
  rw [HW5.out] at eu2
  go_wp2_with fail
  rw [← HW5.out]
  try rw [← HGx.out]
  clear ep0 ep1 ep2 eu0 eu1 eu2
  (with_reducible refine HS.out.mono ?_); rintro e w6 ⟨v6, rfl, hb6, hn6⟩
  clear HS
  have HB6 := Lib.hid (HB5.out.step hb6)
  have Fp := Lib.hid (Fp.out.below hb6)
  have Fu := Lib.hid (Fu.out.below hb6)
  have X1 := Lib.hid (X1.out.below hb6)
  have BXp := Lib.hid (heap_below BXp.out hb6)
  have BXu := Lib.hid (heap_below BXu.out hb6)
  have BXx := Lib.hid (heap_below BXx.out hb6)
  have X2 := Lib.hid hn6; clear hn6
  clear hb6
  obtain ⟨sX2, oX2, nX2, cX2, aX2, mX2, dX2, rfl⟩ := X2.out.shape
  obtain ⟨w7, hw7⟩ : ∃ w7, w7 = w6.alloc (.cells #[.bool sX2, .slice oX2 nX2 cX2, .slice aX2 mX2 dX2] 24) := ⟨_, rfl⟩
  have hb7 : Below w6.heap.size w6 w7 := by rw [hw7]; exact (Below.refl _ _).alloc (Nat.le_refl _) _
  have hxy := heap_alloc_new w6 (.cells #[.bool sX2, .slice oX2 nX2 cX2, .slice aX2 mX2 dX2] 24)
  obtain ⟨gy, hgy⟩ : ∃ gy, gy = w6.heap.size := ⟨_, rfl⟩
  rw [← hw7, ← hgy] at hxy
  have HW7 := Lib.hid hw7; have HGy := Lib.hid hgy; clear hw7 hgy
  have HB7 := Lib.hid (HB6.out.step hb7)
  have Fp := Lib.hid (Fp.out.below hb7)
  have Fu := Lib.hid (Fu.out.below hb7)
  have X1 := Lib.hid (X1.out.below hb7)
  have X2 := Lib.hid (X2.out.below hb7)
  have BXp := Lib.hid (heap_below BXp.out hb7)
  have BXu := Lib.hid (heap_below BXu.out hb7)
  have BXx := Lib.hid (heap_below BXx.out hb7)
  clear hb7
  have BXy := Lib.hid hxy; clear hxy
  have HBC := Lib.hid ((Below.refl w7.heap.size w7).drew)
  have hc := fun w1 (h1 : Below w7.heap.size w7 w1) => mulq_any _ p _ u w1 (Fp.out.below h1) (Fu.out.below h1)
  have C1 := Lib.hid hc; clear hc
  have hc := fun w1 (h1 : Below w7.heap.size w7 w1) => rmulq_any _ p _ u w1 (Fp.out.below h1) (Fu.out.below h1)
  have C2 := Lib.hid hc; clear hc
  have hc := fun va vb u w1 (ha : IsR w1 va u) (hb : IsR w1 vb u) (hl : rl u ≤ 100000) => rat_same va vb u w1 ha hb hl
  have CQ := Lib.hid hc; clear hc
  have hc := fun w1 => num_any E w1 e1
  have CE := Lib.hid hc; clear hc
  have Zp := Lib.hid (fun w1 (h1 : Below w7.heap.size w7 w1) => row3 (heap_below BXp.out h1))
  have Zu := Lib.hid (fun w1 (h1 : Below w7.heap.size w7 w1) => row3 (heap_below BXu.out h1))
  have Zx := Lib.hid (fun w1 (h1 : Below w7.heap.size w7 w1) => row3 (heap_below BXx.out h1))
  have Zy := Lib.hid (fun w1 (h1 : Below w7.heap.size w7 w1) => row3 (heap_below BXy.out h1))
  go_wp2_with fail
  rw [← HW7.out]
  try rw [← HGy.out]
  obtain ⟨zp0, zp1, zp2⟩ := Zp.out _ HBC.out
  obtain ⟨zu0, zu1, zu2⟩ := Zu.out _ HBC.out
  obtain ⟨zx0, zx1, zx2⟩ := Zx.out _ HBC.out
  obtain ⟨zy0, zy1, zy2⟩ := Zy.out _ HBC.out
  go_region_held3 (fun wx => wx.cell? ⟨w.heap.size, 0, none⟩ = some (.bool sp) ∧ wx.cell? ⟨w.heap.size, 1, none⟩ = some (.slice op np cp) ∧ wx.cell? ⟨w.heap.size, 2, none⟩ = some (.slice ap mp dp) ∧ wx.cell? ⟨w.heap.size + 1, 0, none⟩ = some (.bool su) ∧ wx.cell? ⟨w.heap.size + 1, 1, none⟩ = some (.slice ou nu cu) ∧ wx.cell? ⟨w.heap.size + 1, 2, none⟩ = some (.slice au mu du) ∧ wx.cell? ⟨gx, 0, none⟩ = some (.bool sX1) ∧ wx.cell? ⟨gx, 1, none⟩ = some (.slice oX1 nX1 cX1) ∧ wx.cell? ⟨gx, 2, none⟩ = some (.slice aX1 mX1 dX1) ∧ wx.cell? ⟨gy, 0, none⟩ = some (.bool sX2) ∧ wx.cell? ⟨gy, 1, none⟩ = some (.slice oX2 nX2 cX2) ∧ wx.cell? ⟨gy, 2, none⟩ = some (.slice aX2 mX2 dX2)) (first | exact ⟨zp0, zp1, zp2, zu0, zu1, zu2, zx0, zx1, zx2, zy0, zy1, zy2⟩ | exact put6 (by omega) (by omega) (by omega) (by omega) ⟨zp0, zp1, zp2, zu0, zu1, zu2, zx0, zx1, zx2, zy0, zy1, zy2⟩ | exact al3 ⟨zp0, zp1, zp2, zu0, zu1, zu2, zx0, zx1, zx2, zy0, zy1, zy2⟩ | exact put3c (by omega) (al3 ⟨zp0, zp1, zp2, zu0, zu1, zu2, zx0, zx1, zx2, zy0, zy1, zy2⟩)) (first
    | (go_at_call 29; (with_reducible refine (C1.out _ HBC.out).mono ?_); rintro e wr0 ⟨v0r, rfl, hb, hn⟩; (have HBC := Lib.hid (HBC.out.step hb)); (try have F1 := Lib.hid (F1.out.below hb)); (try have F2 := Lib.hid (F2.out.below hb)); (have F1 := Lib.hid hn); clear hn; clear hb; (obtain ⟨zp0, zp1, zp2⟩ := Zp.out _ HBC.out); (obtain ⟨zu0, zu1, zu2⟩ := Zu.out _ HBC.out); (obtain ⟨zx0, zx1, zx2⟩ := Zx.out _ HBC.out); (obtain ⟨zy0, zy1, zy2⟩ := Zy.out _ HBC.out))
    | (go_at_call 30; (with_reducible refine (C2.out _ HBC.out).mono ?_); rintro e wr1 ⟨v1r, rfl, hb, hn⟩; (have HBC := Lib.hid (HBC.out.step hb)); (try have F1 := Lib.hid (F1.out.below hb)); (try have F2 := Lib.hid (F2.out.below hb)); (have F2 := Lib.hid hn); clear hn; clear hb; (obtain ⟨zp0, zp1, zp2⟩ := Zp.out _ HBC.out); (obtain ⟨zu0, zu1, zu2⟩ := Zu.out _ HBC.out); (obtain ⟨zx0, zx1, zx2⟩ := Zx.out _ HBC.out); (obtain ⟨zy0, zy1, zy2⟩ := Zy.out _ HBC.out))
    | (go_at_call 17; (with_reducible refine (CQ.out _ _ _ _ F1.out F2.out (by omega)).mono ?_); rintro e wr2 ⟨rfl, hb⟩; (have HBC := Lib.hid (HBC.out.step hb)); (try have F1 := Lib.hid (F1.out.below hb)); (try have F2 := Lib.hid (F2.out.below hb)); clear hb; (obtain ⟨zp0, zp1, zp2⟩ := Zp.out _ HBC.out); (obtain ⟨zu0, zu1, zu2⟩ := Zu.out _ HBC.out); (obtain ⟨zx0, zx1, zx2⟩ := Zx.out _ HBC.out); (obtain ⟨zy0, zy1, zy2⟩ := Zy.out _ HBC.out))
    | (go_at_call 17; (with_reducible refine (CQ.out _ _ _ _ (X1.out.below HBC.out) (X2.out.below HBC.out) (by omega)).mono ?_); rintro e wr3 ⟨rfl, hb⟩; (have HBC := Lib.hid (HBC.out.step hb)); (try have F1 := Lib.hid (F1.out.below hb)); (try have F2 := Lib.hid (F2.out.below hb)); clear hb; (obtain ⟨zp0, zp1, zp2⟩ := Zp.out _ HBC.out); (obtain ⟨zu0, zu1, zu2⟩ := Zu.out _ HBC.out); (obtain ⟨zx0, zx1, zx2⟩ := Zx.out _ HBC.out); (obtain ⟨zy0, zy1, zy2⟩ := Zy.out _ HBC.out))
    | (go_at_call 18; (with_reducible refine (CE.out _).mono ?_); rintro e wr4 ⟨rfl, rfl⟩))
  have Fp := Lib.hid (Fp.out.below HBC.out)
  have Fu := Lib.hid (Fu.out.below HBC.out)
  have X1 := Lib.hid (X1.out.below HBC.out)
  have X2 := Lib.hid (X2.out.below HBC.out)
  have BXp := Lib.hid (heap_below BXp.out HBC.out)
  have BXu := Lib.hid (heap_below BXu.out HBC.out)
  have BXx := Lib.hid (heap_below BXx.out HBC.out)
  have BXy := Lib.hid (heap_below BXy.out HBC.out)
  have HB8 := Lib.hid (HB7.out.step HBC.out)
  have hs := fun nn => powq_any _ p nn wr3 Fp.out (by omega)
  have HS := Lib.hid hs; clear hs
  obtain ⟨ep0, ep1, ep2⟩ := row3 BXp.out
  go_wp2_with fail
  clear ep0 ep1 ep2
  (with_reducible refine (HS.out _).mono ?_); rintro e w9 ⟨v9, rfl, hb9, hn9⟩
  clear HS
  have HB9 := Lib.hid (HB8.out.step hb9)
  have Fp := Lib.hid (Fp.out.below hb9)
  have Fu := Lib.hid (Fu.out.below hb9)
  have X1 := Lib.hid (X1.out.below hb9)
  have X2 := Lib.hid (X2.out.below hb9)
  have BXp := Lib.hid (heap_below BXp.out hb9)
  have BXu := Lib.hid (heap_below BXu.out hb9)
  have BXx := Lib.hid (heap_below BXx.out hb9)
  have BXy := Lib.hid (heap_below BXy.out hb9)
  have Z1 := Lib.hid hn9; clear hn9
  clear hb9
  obtain ⟨sZ1, oZ1, nZ1, cZ1, aZ1, mZ1, dZ1, rfl⟩ := Z1.out.shape
  obtain ⟨w10, hw10⟩ : ∃ w10, w10 = w9.alloc (.cells #[.bool sZ1, .slice oZ1 nZ1 cZ1, .slice aZ1 mZ1 dZ1] 24) := ⟨_, rfl⟩
  have hb10 : Below w9.heap.size w9 w10 := by rw [hw10]; exact (Below.refl _ _).alloc (Nat.le_refl _) _
  have hxz := heap_alloc_new w9 (.cells #[.bool sZ1, .slice oZ1 nZ1 cZ1, .slice aZ1 mZ1 dZ1] 24)
  obtain ⟨gz, hgz⟩ : ∃ gz, gz = w9.heap.size := ⟨_, rfl⟩
  rw [← hw10, ← hgz] at hxz
  have HW10 := Lib.hid hw10; have HGz := Lib.hid hgz; clear hw10 hgz
  have HB10 := Lib.hid (HB9.out.step hb10)
  have Fp := Lib.hid (Fp.out.below hb10)
  have Fu := Lib.hid (Fu.out.below hb10)
  have X1 := Lib.hid (X1.out.below hb10)
  have X2 := Lib.hid (X2.out.below hb10)
  have Z1 := Lib.hid (Z1.out.below hb10)
  have BXp := Lib.hid (heap_below BXp.out hb10)
  have BXu := Lib.hid (heap_below BXu.out hb10)
  have BXx := Lib.hid (heap_below BXx.out hb10)
  have BXy := Lib.hid (heap_below BXy.out hb10)
  clear hb10
  have BXz := Lib.hid hxz; clear hxz
  have hs := fun nn => rpowq_any _ p nn w10 Fp.out (by omega)
  have HS := Lib.hid hs; clear hs
  obtain ⟨ep0, ep1, ep2⟩ := row3 BXp.out
  rw [HW10.out] at ep0
  rw [HW10.out] at ep1
  rw [HW10.out] at ep2
  go_wp2_with fail
  rw [← HW10.out]
  try rw [← HGz.out]
  clear ep0 ep1 ep2
  (with_reducible refine (HS.out _).mono ?_); rintro e w11 ⟨v11, rfl, hb11, hn11⟩
  clear HS
  have HB11 := Lib.hid (HB10.out.step hb11)
  have Fp := Lib.hid (Fp.out.below hb11)
  have Fu := Lib.hid (Fu.out.below hb11)
  have X1 := Lib.hid (X1.out.below hb11)
  have X2 := Lib.hid (X2.out.below hb11)
  have Z1 := Lib.hid (Z1.out.below hb11)
  have BXp := Lib.hid (heap_below BXp.out hb11)
  have BXu := Lib.hid (heap_below BXu.out hb11)
  have BXx := Lib.hid (heap_below BXx.out hb11)
  have BXy := Lib.hid (heap_below BXy.out hb11)
  have BXz := Lib.hid (heap_below BXz.out hb11)
  have Z2 := Lib.hid hn11; clear hn11
  clear hb11
  obtain ⟨sZ2, oZ2, nZ2, cZ2, aZ2, mZ2, dZ2, rfl⟩ := Z2.out.shape
  obtain ⟨w12, hw12⟩ : ∃ w12, w12 = w11.alloc (.cells #[.bool sZ2, .slice oZ2 nZ2 cZ2, .slice aZ2 mZ2 dZ2] 24) := ⟨_, rfl⟩
  have hb12 : Below w11.heap.size w11 w12 := by rw [hw12]; exact (Below.refl _ _).alloc (Nat.le_refl _) _
  have hxt := heap_alloc_new w11 (.cells #[.bool sZ2, .slice oZ2 nZ2 cZ2, .slice aZ2 mZ2 dZ2] 24)
  obtain ⟨gt, hgt⟩ : ∃ gt, gt = w11.heap.size := ⟨_, rfl⟩
  rw [← hw12, ← hgt] at hxt
  have HW12 := Lib.hid hw12; have HGt := Lib.hid hgt; clear hw12 hgt
  have HB12 := Lib.hid (HB11.out.step hb12)
  have Fp := Lib.hid (Fp.out.below hb12)
  have Fu := Lib.hid (Fu.out.below hb12)
  have X1 := Lib.hid (X1.out.below hb12)
  have X2 := Lib.hid (X2.out.below hb12)
  have Z1 := Lib.hid (Z1.out.below hb12)
  have Z2 := Lib.hid (Z2.out.below hb12)
  have BXp := Lib.hid (heap_below BXp.out hb12)
  have BXu := Lib.hid (heap_below BXu.out hb12)
  have BXx := Lib.hid (heap_below BXx.out hb12)
  have BXy := Lib.hid (heap_below BXy.out hb12)
  have BXz := Lib.hid (heap_below BXz.out hb12)
  clear hb12
  have BXt := Lib.hid hxt; clear hxt
  have hs := rat_same _ _ _ w12 Z1.out Z2.out (rl_pwV (by omega))
  have HS := Lib.hid hs; clear hs
  obtain ⟨ez0, ez1, ez2⟩ := row3 BXz.out
  obtain ⟨et0, et1, et2⟩ := row3 BXt.out
  rw [HW12.out] at ez0
  rw [HW12.out] at ez1
  rw [HW12.out] at ez2
  rw [HW12.out] at et0
  rw [HGt.out] at et0
  rw [HW12.out] at et1
  rw [HGt.out] at et1
  rw [HW12.out] at et2
  rw [HGt.out] at et2
  go_wp2_with fail
  rw [← HW12.out]
  try rw [← HGt.out]
  clear ez0 ez1 ez2 et0 et1 et2
  (with_reducible refine HS.out.mono ?_); rintro e w13 ⟨rfl, hb13⟩
  clear HS
  have HB13 := Lib.hid (HB12.out.step hb13)
  have Fp := Lib.hid (Fp.out.below hb13)
  have Fu := Lib.hid (Fu.out.below hb13)
  have X1 := Lib.hid (X1.out.below hb13)
  have X2 := Lib.hid (X2.out.below hb13)
  have Z1 := Lib.hid (Z1.out.below hb13)
  have Z2 := Lib.hid (Z2.out.below hb13)
  have BXp := Lib.hid (heap_below BXp.out hb13)
  have BXu := Lib.hid (heap_below BXu.out hb13)
  have BXx := Lib.hid (heap_below BXx.out hb13)
  have BXy := Lib.hid (heap_below BXy.out hb13)
  have BXz := Lib.hid (heap_below BXz.out hb13)
  have BXt := Lib.hid (heap_below BXt.out hb13)
  clear hb13
  have hs := fun nn => num_any (pwC p nn) w13 (pwC_small p nn)
  have HS := Lib.hid hs; clear hs
  go_wp2_with fail
  (with_reducible refine (HS.out _).mono ?_); rintro e wx ⟨rfl, rfl⟩
  clear HS
  go_wp2_with fail
  go_ret
  exact ⟨by first | rfl | (simp; done), HB13.out⟩
set_option maxRecDepth 100000 in
set_option maxHeartbeats 12800000 in
theorem products_small3 (vp : Value) (p : Rat) (vu : Value) (u : Rat) (n : Int) (w : World) (hp : RatIs w vp p) (hu : RatIs w vu u) (lp : rl p ≤ 12) (zp : (szR vp).1 ≤ 12 ∧ (szR vp).2 ≤ 12) (lu : rl u ≤ 12) (zu : (szR vu).1 ≤ 12 ∧ (szR vu).2 ≤ 12) (n0 : -9223372036854775808 ≤ n) (n1 : n < 9223372036854775808) (c1 : 3 < (szR vp).1 + (szR vp).2) (c2 : -64 ≤ n) (c3 : n ≤ 64) :
    Calls Tryd.prog 5 #[vp, vu, .int .i64 n] w (RetV w (.bool true)) := by
  obtain ⟨sp, op, np, cp, ap, mp, dp, rfl⟩ := hp.shape
  have hlp := hp.rl
  obtain ⟨su, ou, nu, cu, au, mu, du, rfl⟩ := hu.shape
  have hlu := hu.rl
  have c4 : 3 < np + mp := c1; clear c1
  have f1 : decide ((3 : Int) < (np : Int) + (mp : Int)) = true := decide_eq_true (by omega)
  have f2 : decide (-64 ≤ n) = true := decide_eq_true (by omega)
  have f3 : decide (n ≤ 64) = true := decide_eq_true (by omega)
  have k1 := rl_mul p u; have k2 := rl_div' p u
  have e1 := dc_small u
  obtain ⟨E, hE⟩ : ∃ E, E = dc u := ⟨_, rfl⟩; rw [← hE] at e1
  have g1 : ((E : Int) != (E : Int)) = false := by simp
  have HE := Lib.hid hE; clear hE
  have _n0 := n0; have _n1 := n1
  have hb0 := (((Below.refl w.heap.size w).alloc (by first | (simp; done) | (simp; omega)) (.cells #[.bool sp, .slice op np cp, .slice ap mp dp] 24)).alloc (by first | (simp; done) | (simp; omega)) (.cells #[.bool su, .slice ou nu cu, .slice au mu du] 24))
  have hxp := nest2_0 w (.cells #[.bool sp, .slice op np cp, .slice ap mp dp] 24) (.cells #[.bool su, .slice ou nu cu, .slice au mu du] 24)
  have hxu := nest2_1 w (.cells #[.bool sp, .slice op np cp, .slice ap mp dp] 24) (.cells #[.bool su, .slice ou nu cu, .slice au mu du] 24)
  have hpp := hp.below hb0
  have hpu := hu.below hb0
  obtain ⟨w0, hw0⟩ : ∃ w0, w0 = ((w.alloc (.cells #[.bool sp, .slice op np cp, .slice ap mp dp] 24)).alloc (.cells #[.bool su, .slice ou nu cu, .slice au mu du] 24)) := ⟨_, rfl⟩
  rw [← hw0] at hb0 hxp hxu hpp hpu
  have HB0 := Lib.hid hb0; have HW0 := Lib.hid hw0
  have BXp := Lib.hid hxp
  have BXu := Lib.hid hxu
  have Fp := Lib.hid hpp
  have Fu := Lib.hid hpu
  clear hb0 hw0 hxp hxu hpp hp hpu hu
  have zzp : np ≤ 12 ∧ mp ≤ 12 := zp; clear zp
  have _lp := lp
  have zzu : nu ≤ 12 ∧ mu ≤ 12 := zu; clear zu
  have _lu := lu
  go_enter Tryd.func5, Tryd.ntmps5
  have hs := awake02 w0
  have HS := Lib.hid hs; clear hs
  go_wp2_with fail
  rw [← HW0.out]
  (with_reducible refine HS.out.mono ?_); rintro e w1 ⟨rfl, hb1⟩
  clear HS
  have HB1 := Lib.hid (HB0.out.step hb1)
  have Fp := Lib.hid (Fp.out.below hb1)
  have Fu := Lib.hid (Fu.out.below hb1)
  have BXp := Lib.hid (heap_below BXp.out hb1)
  have BXu := Lib.hid (heap_below BXu.out hb1)
  clear hb1
  obtain ⟨ep0, ep1, ep2⟩ := row3 BXp.out
  obtain ⟨eu0, eu1, eu2⟩ := row3 BXu.out
  obtain ⟨w2, hw2⟩ : ∃ w2, w2 = w1.alloc (.cells #[.bool sp, .slice op np cp, .slice ap mp dp, .bool su, .slice ou nu cu, .slice au mu du] 24) := ⟨_, rfl⟩
  have hb2 : Below w1.heap.size w1 w2 := by rw [hw2]; exact (Below.refl _ _).alloc (Nat.le_refl _) _
  have hxLS := heap_alloc_new w1 (.cells #[.bool sp, .slice op np cp, .slice ap mp dp, .bool su, .slice ou nu cu, .slice au mu du] 24)
  obtain ⟨gLS, hgLS⟩ : ∃ gLS, gLS = w1.heap.size := ⟨_, rfl⟩
  rw [← hw2, ← hgLS] at hxLS
  have HW2 := Lib.hid hw2; have HGLS := Lib.hid hgLS; clear hw2 hgLS
  have HB2 := Lib.hid (HB1.out.step hb2)
  have Fp := Lib.hid (Fp.out.below hb2)
  have Fu := Lib.hid (Fu.out.below hb2)
  have BXp := Lib.hid (heap_below BXp.out hb2)
  have BXu := Lib.hid (heap_below BXu.out hb2)
  clear hb2
  have BXLS := Lib.hid hxLS; clear hxLS
  have hs := rlarge2s BXLS.out zzp zzu
  have HS := Lib.hid hs; clear hs
  go_wp2_with fail
  rw [← HW2.out]
  try rw [← HGLS.out]
  (with_reducible refine HS.out.mono ?_); rintro e w3 ⟨rfl, hb3⟩
  clear HS
  have HB3 := Lib.hid (HB2.out.step hb3)
  have Fp := Lib.hid (Fp.out.below hb3)
  have Fu := Lib.hid (Fu.out.below hb3)
  have BXp := Lib.hid (heap_below BXp.out hb3)
  have BXu := Lib.hid (heap_below BXu.out hb3)
  clear hb3
  clear BXLS
  have hs := divq_any _ p _ u w3 Fp.out Fu.out
  rw [← HE.out] at hs
  have HS := Lib.hid hs; clear hs
  obtain ⟨ep0, ep1, ep2⟩ := row3 BXp.out
  obtain ⟨eu0, eu1, eu2⟩ := row3 BXu.out
  go_wp2_with fail
  clear ep0 ep1 ep2 eu0 eu1 eu2
  (with_reducible refine HS.out.mono ?_); rintro e w4 ⟨v4, rfl, hb4, hn4⟩
  clear HS
  have HB4 := Lib.hid (HB3.out.step hb4)
  have Fp := Lib.hid (Fp.out.below hb4)
  have Fu := Lib.hid (Fu.out.below hb4)
  have BXp := Lib.hid (heap_below BXp.out hb4)
  have BXu := Lib.hid (heap_below BXu.out hb4)
  have X1 := Lib.hid hn4; clear hn4
  clear hb4
  obtain ⟨sX1, oX1, nX1, cX1, aX1, mX1, dX1, rfl⟩ := X1.out.shape
  obtain ⟨w5, hw5⟩ : ∃ w5, w5 = w4.alloc (.cells #[.bool sX1, .slice oX1 nX1 cX1, .slice aX1 mX1 dX1] 24) := ⟨_, rfl⟩
  have hb5 : Below w4.heap.size w4 w5 := by rw [hw5]; exact (Below.refl _ _).alloc (Nat.le_refl _) _
  have hxx := heap_alloc_new w4 (.cells #[.bool sX1, .slice oX1 nX1 cX1, .slice aX1 mX1 dX1] 24)
  obtain ⟨gx, hgx⟩ : ∃ gx, gx = w4.heap.size := ⟨_, rfl⟩
  rw [← hw5, ← hgx] at hxx
  have HW5 := Lib.hid hw5; have HGx := Lib.hid hgx; clear hw5 hgx
  have HB5 := Lib.hid (HB4.out.step hb5)
  have Fp := Lib.hid (Fp.out.below hb5)
  have Fu := Lib.hid (Fu.out.below hb5)
  have X1 := Lib.hid (X1.out.below hb5)
  have BXp := Lib.hid (heap_below BXp.out hb5)
  have BXu := Lib.hid (heap_below BXu.out hb5)
  clear hb5
  have BXx := Lib.hid hxx; clear hxx
  have hs := rdivq_any _ p _ u w5 Fp.out Fu.out
  rw [← HE.out] at hs
  have HS := Lib.hid hs; clear hs
  obtain ⟨ep0, ep1, ep2⟩ := row3 BXp.out
  obtain ⟨eu0, eu1, eu2⟩ := row3 BXu.out
  rw [HW5.out] at ep0
  rw [HW5.out] at ep1
  rw [HW5.out] at ep2
  rw [HW5.out] at eu0
  rw [HW5.out] at eu1
  rw [HW5.out] at eu2
  go_wp2_with fail
  rw [← HW5.out]
  try rw [← HGx.out]
  clear ep0 ep1 ep2 eu0 eu1 eu2
  (with_reducible refine HS.out.mono ?_); rintro e w6 ⟨v6, rfl, hb6, hn6⟩
  clear HS
  have HB6 := Lib.hid (HB5.out.step hb6)
  have Fp := Lib.hid (Fp.out.below hb6)
  have Fu := Lib.hid (Fu.out.below hb6)
  have X1 := Lib.hid (X1.out.below hb6)
  have BXp := Lib.hid (heap_below BXp.out hb6)
  have BXu := Lib.hid (heap_below BXu.out hb6)
  have BXx := Lib.hid (heap_below BXx.out hb6)
  have X2 := Lib.hid hn6; clear hn6
  clear hb6
  obtain ⟨sX2, oX2, nX2, cX2, aX2, mX2, dX2, rfl⟩ := X2.out.shape
  obtain ⟨w7, hw7⟩ : ∃ w7, w7 = w6.alloc (.cells #[.bool sX2, .slice oX2 nX2 cX2, .slice aX2 mX2 dX2] 24) := ⟨_, rfl⟩
  have hb7 : Below w6.heap.size w6 w7 := by rw [hw7]; exact (Below.refl _ _).alloc (Nat.le_refl _) _
  have hxy := heap_alloc_new w6 (.cells #[.bool sX2, .slice oX2 nX2 cX2, .slice aX2 mX2 dX2] 24)
  obtain ⟨gy, hgy⟩ : ∃ gy, gy = w6.heap.size := ⟨_, rfl⟩
  rw [← hw7, ← hgy] at hxy
  have HW7 := Lib.hid hw7; have HGy := Lib.hid hgy; clear hw7 hgy
  have HB7 := Lib.hid (HB6.out.step hb7)
  have Fp := Lib.hid (Fp.out.below hb7)
  have Fu := Lib.hid (Fu.out.below hb7)
  have X1 := Lib.hid (X1.out.below hb7)
  have X2 := Lib.hid (X2.out.below hb7)
  have BXp := Lib.hid (heap_below BXp.out hb7)
  have BXu := Lib.hid (heap_below BXu.out hb7)
  have BXx := Lib.hid (heap_below BXx.out hb7)
  clear hb7
  have BXy := Lib.hid hxy; clear hxy
  have HBC := Lib.hid ((Below.refl w7.heap.size w7).drew)
  have hc := fun w1 (h1 : Below w7.heap.size w7 w1) => mulq_any _ p _ u w1 (Fp.out.below h1) (Fu.out.below h1)
  have C1 := Lib.hid hc; clear hc
  have hc := fun w1 (h1 : Below w7.heap.size w7 w1) => rmulq_any _ p _ u w1 (Fp.out.below h1) (Fu.out.below h1)
  have C2 := Lib.hid hc; clear hc
  have hc := fun va vb u w1 (ha : IsR w1 va u) (hb : IsR w1 vb u) (hl : rl u ≤ 100000) => rat_same va vb u w1 ha hb hl
  have CQ := Lib.hid hc; clear hc
  have hc := fun w1 => num_any E w1 e1
  have CE := Lib.hid hc; clear hc
  have Zp := Lib.hid (fun w1 (h1 : Below w7.heap.size w7 w1) => row3 (heap_below BXp.out h1))
  have Zu := Lib.hid (fun w1 (h1 : Below w7.heap.size w7 w1) => row3 (heap_below BXu.out h1))
  have Zx := Lib.hid (fun w1 (h1 : Below w7.heap.size w7 w1) => row3 (heap_below BXx.out h1))
  have Zy := Lib.hid (fun w1 (h1 : Below w7.heap.size w7 w1) => row3 (heap_below BXy.out h1))
  go_wp2_with fail
  rw [← HW7.out]
  try rw [← HGy.out]
  obtain ⟨zp0, zp1, zp2⟩ := Zp.out _ HBC.out
  obtain ⟨zu0, zu1, zu2⟩ := Zu.out _ HBC.out
  obtain ⟨zx0, zx1, zx2⟩ := Zx.out _ HBC.out
  obtain ⟨zy0, zy1, zy2⟩ := Zy.out _ HBC.out
  go_region_held3 (fun wx => wx.cell? ⟨w.heap.size, 0, none⟩ = some (.bool sp) ∧ wx.cell? ⟨w.heap.size, 1, none⟩ = some (.slice op np cp) ∧ wx.cell? ⟨w.heap.size, 2, none⟩ = some (.slice ap mp dp) ∧ wx.cell? ⟨w.heap.size + 1, 0, none⟩ = some (.bool su) ∧ wx.cell? ⟨w.heap.size + 1, 1, none⟩ = some (.slice ou nu cu) ∧ wx.cell? ⟨w.heap.size + 1, 2, none⟩ = some (.slice au mu du) ∧ wx.cell? ⟨gx, 0, none⟩ = some (.bool sX1) ∧ wx.cell? ⟨gx, 1, none⟩ = some (.slice oX1 nX1 cX1) ∧ wx.cell? ⟨gx, 2, none⟩ = some (.slice aX1 mX1 dX1) ∧ wx.cell? ⟨gy, 0, none⟩ = some (.bool sX2) ∧ wx.cell? ⟨gy, 1, none⟩ = some (.slice oX2 nX2 cX2) ∧ wx.cell? ⟨gy, 2, none⟩ = some (.slice aX2 mX2 dX2)) (first | exact ⟨zp0, zp1, zp2, zu0, zu1, zu2, zx0, zx1, zx2, zy0, zy1, zy2⟩ | exact put6 (by omega) (by omega) (by omega) (by omega) ⟨zp0, zp1, zp2, zu0, zu1, zu2, zx0, zx1, zx2, zy0, zy1, zy2⟩ | exact al3 ⟨zp0, zp1, zp2, zu0, zu1, zu2, zx0, zx1, zx2, zy0, zy1, zy2⟩ | exact put3c (by omega) (al3 ⟨zp0, zp1, zp2, zu0, zu1, zu2, zx0, zx1, zx2, zy0, zy1, zy2⟩)) (first
    | (go_at_call 29; (with_reducible refine (C1.out _ HBC.out).mono ?_); rintro e wr0 ⟨v0r, rfl, hb, hn⟩; (have HBC := Lib.hid (HBC.out.step hb)); (try have F1 := Lib.hid (F1.out.below hb)); (try have F2 := Lib.hid (F2.out.below hb)); (have F1 := Lib.hid hn); clear hn; clear hb; (obtain ⟨zp0, zp1, zp2⟩ := Zp.out _ HBC.out); (obtain ⟨zu0, zu1, zu2⟩ := Zu.out _ HBC.out); (obtain ⟨zx0, zx1, zx2⟩ := Zx.out _ HBC.out); (obtain ⟨zy0, zy1, zy2⟩ := Zy.out _ HBC.out))
    | (go_at_call 30; (with_reducible refine (C2.out _ HBC.out).mono ?_); rintro e wr1 ⟨v1r, rfl, hb, hn⟩; (have HBC := Lib.hid (HBC.out.step hb)); (try have F1 := Lib.hid (F1.out.below hb)); (try have F2 := Lib.hid (F2.out.below hb)); (have F2 := Lib.hid hn); clear hn; clear hb; (obtain ⟨zp0, zp1, zp2⟩ := Zp.out _ HBC.out); (obtain ⟨zu0, zu1, zu2⟩ := Zu.out _ HBC.out); (obtain ⟨zx0, zx1, zx2⟩ := Zx.out _ HBC.out); (obtain ⟨zy0, zy1, zy2⟩ := Zy.out _ HBC.out))
    | (go_at_call 17; (with_reducible refine (CQ.out _ _ _ _ F1.out F2.out (by omega)).mono ?_); rintro e wr2 ⟨rfl, hb⟩; (have HBC := Lib.hid (HBC.out.step hb)); (try have F1 := Lib.hid (F1.out.below hb)); (try have F2 := Lib.hid (F2.out.below hb)); clear hb; (obtain ⟨zp0, zp1, zp2⟩ := Zp.out _ HBC.out); (obtain ⟨zu0, zu1, zu2⟩ := Zu.out _ HBC.out); (obtain ⟨zx0, zx1, zx2⟩ := Zx.out _ HBC.out); (obtain ⟨zy0, zy1, zy2⟩ := Zy.out _ HBC.out))
    | (go_at_call 17; (with_reducible refine (CQ.out _ _ _ _ (X1.out.below HBC.out) (X2.out.below HBC.out) (by omega)).mono ?_); rintro e wr3 ⟨rfl, hb⟩; (have HBC := Lib.hid (HBC.out.step hb)); (try have F1 := Lib.hid (F1.out.below hb)); (try have F2 := Lib.hid (F2.out.below hb)); clear hb; (obtain ⟨zp0, zp1, zp2⟩ := Zp.out _ HBC.out); (obtain ⟨zu0, zu1, zu2⟩ := Zu.out _ HBC.out); (obtain ⟨zx0, zx1, zx2⟩ := Zx.out _ HBC.out); (obtain ⟨zy0, zy1, zy2⟩ := Zy.out _ HBC.out))
    | (go_at_call 18; (with_reducible refine (CE.out _).mono ?_); rintro e wr4 ⟨rfl, rfl⟩))
  have Fp := Lib.hid (Fp.out.below HBC.out)
  have Fu := Lib.hid (Fu.out.below HBC.out)
  have X1 := Lib.hid (X1.out.below HBC.out)
  have X2 := Lib.hid (X2.out.below HBC.out)
  have BXp := Lib.hid (heap_below BXp.out HBC.out)
  have BXu := Lib.hid (heap_below BXu.out HBC.out)
  have BXx := Lib.hid (heap_below BXx.out HBC.out)
  have BXy := Lib.hid (heap_below BXy.out HBC.out)
  have HB8 := Lib.hid (HB7.out.step HBC.out)
  have hs := fun nn => powq_any _ p nn wr3 Fp.out (by omega)
  have HS := Lib.hid hs; clear hs
  obtain ⟨ep0, ep1, ep2⟩ := row3 BXp.out
  go_wp2_with fail
  clear ep0 ep1 ep2
  (with_reducible refine (HS.out _).mono ?_); rintro e w9 ⟨v9, rfl, hb9, hn9⟩
  clear HS
  have HB9 := Lib.hid (HB8.out.step hb9)
  have Fp := Lib.hid (Fp.out.below hb9)
  have Fu := Lib.hid (Fu.out.below hb9)
  have X1 := Lib.hid (X1.out.below hb9)
  have X2 := Lib.hid (X2.out.below hb9)
  have BXp := Lib.hid (heap_below BXp.out hb9)
  have BXu := Lib.hid (heap_below BXu.out hb9)
  have BXx := Lib.hid (heap_below BXx.out hb9)
  have BXy := Lib.hid (heap_below BXy.out hb9)
  have Z1 := Lib.hid hn9; clear hn9
  clear hb9
  obtain ⟨sZ1, oZ1, nZ1, cZ1, aZ1, mZ1, dZ1, rfl⟩ := Z1.out.shape
  obtain ⟨w10, hw10⟩ : ∃ w10, w10 = w9.alloc (.cells #[.bool sZ1, .slice oZ1 nZ1 cZ1, .slice aZ1 mZ1 dZ1] 24) := ⟨_, rfl⟩
  have hb10 : Below w9.heap.size w9 w10 := by rw [hw10]; exact (Below.refl _ _).alloc (Nat.le_refl _) _
  have hxz := heap_alloc_new w9 (.cells #[.bool sZ1, .slice oZ1 nZ1 cZ1, .slice aZ1 mZ1 dZ1] 24)
  obtain ⟨gz, hgz⟩ : ∃ gz, gz = w9.heap.size := ⟨_, rfl⟩
  rw [← hw10, ← hgz] at hxz
  have HW10 := Lib.hid hw10; have HGz := Lib.hid hgz; clear hw10 hgz
  have HB10 := Lib.hid (HB9.out.step hb10)
  have Fp := Lib.hid (Fp.out.below hb10)
  have Fu := Lib.hid (Fu.out.below hb10)
  have X1 := Lib.hid (X1.out.below hb10)
  have X2 := Lib.hid (X2.out.below hb10)
  have Z1 := Lib.hid (Z1.out.below hb10)
  have BXp := Lib.hid (heap_below BXp.out hb10)
  have BXu := Lib.hid (heap_below BXu.out hb10)
  have BXx := Lib.hid (heap_below BXx.out hb10)
  have BXy := Lib.hid (heap_below BXy.out hb10)
  clear hb10
  have BXz := Lib.hid hxz; clear hxz
  have hs := fun nn => rpowq_any _ p nn w10 Fp.out (by omega)
  have HS := Lib.hid hs; clear hs
  obtain ⟨ep0, ep1, ep2⟩ := row3 BXp.out
  rw [HW10.out] at ep0
  rw [HW10.out] at ep1
  rw [HW10.out] at ep2
  go_wp2_with fail
  rw [← HW10.out]
  try rw [← HGz.out]
  clear ep0 ep1 ep2
  (with_reducible refine (HS.out _).mono ?_); rintro e w11 ⟨v11, rfl, hb11, hn11⟩
  clear HS
  have HB11 := Lib.hid (HB10.out.step hb11)
  have Fp := Lib.hid (Fp.out.below hb11)
  have Fu := Lib.hid (Fu.out.below hb11)
  have X1 := Lib.hid (X1.out.below hb11)
  have X2 := Lib.hid (X2.out.below hb11)
  have Z1 := Lib.hid (Z1.out.below hb11)
  have BXp := Lib.hid (heap_below BXp.out hb11)
  have BXu := Lib.hid (heap_below BXu.out hb11)
  have BXx := Lib.hid (heap_below BXx.out hb11)
  have BXy := Lib.hid (heap_below BXy.out hb11)
  have BXz := Lib.hid (heap_below BXz.out hb11)
  have Z2 := Lib.hid hn11; clear hn11
  clear hb11
  obtain ⟨sZ2, oZ2, nZ2, cZ2, aZ2, mZ2, dZ2, rfl⟩ := Z2.out.shape
  obtain ⟨w12, hw12⟩ : ∃ w12, w12 = w11.alloc (.cells #[.bool sZ2, .slice oZ2 nZ2 cZ2, .slice aZ2 mZ2 dZ2] 24) := ⟨_, rfl⟩
  have hb12 : Below w11.heap.size w11 w12 := by rw [hw12]; exact (Below.refl _ _).alloc (Nat.le_refl _) _
  have hxt := heap_alloc_new w11 (.cells #[.bool sZ2, .slice oZ2 nZ2 cZ2, .slice aZ2 mZ2 dZ2] 24)
  obtain ⟨gt, hgt⟩ : ∃ gt, gt = w11.heap.size := ⟨_, rfl⟩
  rw [← hw12, ← hgt] at hxt
  have HW12 := Lib.hid hw12; have HGt := Lib.hid hgt; clear hw12 hgt
  have HB12 := Lib.hid (HB11.out.step hb12)
  have Fp := Lib.hid (Fp.out.below hb12)
  have Fu := Lib.hid (Fu.out.below hb12)
  have X1 := Lib.hid (X1.out.below hb12)
  have X2 := Lib.hid (X2.out.below hb12)
  have Z1 := Lib.hid (Z1.out.below hb12)
  have Z2 := Lib.hid (Z2.out.below hb12)
  have BXp := Lib.hid (heap_below BXp.out hb12)
  have BXu := Lib.hid (heap_below BXu.out hb12)
  have BXx := Lib.hid (heap_below BXx.out hb12)
  have BXy := Lib.hid (heap_below BXy.out hb12)
  have BXz := Lib.hid (heap_below BXz.out hb12)
  clear hb12
  have BXt := Lib.hid hxt; clear hxt
  have hs := rat_same _ _ _ w12 Z1.out Z2.out (rl_pwV (by omega))
  have HS := Lib.hid hs; clear hs
  obtain ⟨ez0, ez1, ez2⟩ := row3 BXz.out
  obtain ⟨et0, et1, et2⟩ := row3 BXt.out
  rw [HW12.out] at ez0
  rw [HW12.out] at ez1
  rw [HW12.out] at ez2
  rw [HW12.out] at et0
  rw [HGt.out] at et0
  rw [HW12.out] at et1
  rw [HGt.out] at et1
  rw [HW12.out] at et2
  rw [HGt.out] at et2
  go_wp2_with fail
  rw [← HW12.out]
  try rw [← HGt.out]
  clear ez0 ez1 ez2 et0 et1 et2
  (with_reducible refine HS.out.mono ?_); rintro e w13 ⟨rfl, hb13⟩
  clear HS
  have HB13 := Lib.hid (HB12.out.step hb13)
  have Fp := Lib.hid (Fp.out.below hb13)
  have Fu := Lib.hid (Fu.out.below hb13)
  have X1 := Lib.hid (X1.out.below hb13)
  have X2 := Lib.hid (X2.out.below hb13)
  have Z1 := Lib.hid (Z1.out.below hb13)
  have Z2 := Lib.hid (Z2.out.below hb13)
  have BXp := Lib.hid (heap_below BXp.out hb13)
  have BXu := Lib.hid (heap_below BXu.out hb13)
  have BXx := Lib.hid (heap_below BXx.out hb13)
  have BXy := Lib.hid (heap_below BXy.out hb13)
  have BXz := Lib.hid (heap_below BXz.out hb13)
  have BXt := Lib.hid (heap_below BXt.out hb13)
  clear hb13
  have hs := fun nn => num_any (pwC p nn) w13 (pwC_small p nn)
  have HS := Lib.hid hs; clear hs
  go_wp2_with fail
  (with_reducible refine (HS.out _).mono ?_); rintro e wx ⟨rfl, rfl⟩
  clear HS
  go_wp2_with fail
  go_ret
  exact ⟨by first | rfl | (simp; done), HB13.out⟩
theorem products_small (vp : Value) (p : Rat) (vu : Value) (u : Rat) (n : Int) (w : World) (hp : RatIs w vp p) (hu : RatIs w vu u) (lp : rl p ≤ 12) (zp : (szR vp).1 ≤ 12 ∧ (szR vp).2 ≤ 12) (lu : rl u ≤ 12) (zu : (szR vu).1 ≤ 12 ∧ (szR vu).2 ≤ 12)
    (n0 : -9223372036854775808 ≤ n) (n1 : n < 9223372036854775808) : Calls Tryd.prog 5 #[vp, vu, .int .i64 n] w (RetV w (.bool true)) := by
  by_cases c1 : 3 < (szR vp).1 + (szR vp).2
  · by_cases c2 : n < -64
    · exact products_small1 vp p vu u n w hp hu lp zp lu zu n0 n1 c1 c2
    · by_cases c3 : 64 < n
      · exact products_small2 vp p vu u n w hp hu lp zp lu zu n0 n1 c1 c3
      · exact products_small3 vp p vu u n w hp hu lp zp lu zu n0 n1 c1 (by omega) (by omega)
  · exact products_small0 vp p vu u n w hp hu lp zp lu zu n0 n1 c1
set_option maxRecDepth 100000 in
set_option maxHeartbeats 3200000 in
theorem products_big (vp : Value) (np mp : Nat) (vu : Value) (nu mu : Nat) (n : Int) (w : World) (hp : RatSz vp np mp) (hu : RatSz vu nu mu) (hb : 12 < np ∨ 12 < mp ∨ 12 < nu ∨ 12 < mu) :
    Calls Tryd.prog 5 #[vp, vu, .int .i64 n] w (RetV w (.bool true)) := by
  obtain ⟨sp, op, cp, ap, dp, rfl, zp⟩ := hp
  obtain ⟨su, ou, cu, au, du, rfl, zu⟩ := hu
  have HBIG := Lib.hid hb; clear hb
  have hb0 := (((Below.refl w.heap.size w).alloc (by first | (simp; done) | (simp; omega)) (.cells #[.bool sp, .slice op np cp, .slice ap mp dp] 24)).alloc (by first | (simp; done) | (simp; omega)) (.cells #[.bool su, .slice ou nu cu, .slice au mu du] 24))
  have hxp := nest2_0 w (.cells #[.bool sp, .slice op np cp, .slice ap mp dp] 24) (.cells #[.bool su, .slice ou nu cu, .slice au mu du] 24)
  have hxu := nest2_1 w (.cells #[.bool sp, .slice op np cp, .slice ap mp dp] 24) (.cells #[.bool su, .slice ou nu cu, .slice au mu du] 24)
  obtain ⟨w0, hw0⟩ : ∃ w0, w0 = ((w.alloc (.cells #[.bool sp, .slice op np cp, .slice ap mp dp] 24)).alloc (.cells #[.bool su, .slice ou nu cu, .slice au mu du] 24)) := ⟨_, rfl⟩
  rw [← hw0] at hb0 hxp hxu
  have HB0 := Lib.hid hb0; have HW0 := Lib.hid hw0
  have BXp := Lib.hid hxp
  have BXu := Lib.hid hxu
  clear hb0 hw0 hxp hxu
  go_enter Tryd.func5, Tryd.ntmps5
  have hs := awake02 w0
  have HS := Lib.hid hs; clear hs
  go_wp2_with fail
  rw [← HW0.out]
  (with_reducible refine HS.out.mono ?_); rintro e w1 ⟨rfl, hb1⟩
  clear HS
  have HB1 := Lib.hid (HB0.out.step hb1)
  have BXp := Lib.hid (heap_below BXp.out hb1)
  have BXu := Lib.hid (heap_below BXu.out hb1)
  clear hb1
  obtain ⟨ep0, ep1, ep2⟩ := row3 BXp.out
  obtain ⟨eu0, eu1, eu2⟩ := row3 BXu.out
  obtain ⟨w2, hw2⟩ : ∃ w2, w2 = w1.alloc (.cells #[.bool sp, .slice op np cp, .slice ap mp dp, .bool su, .slice ou nu cu, .slice au mu du] 24) := ⟨_, rfl⟩
  have hb2 : Below w1.heap.size w1 w2 := by rw [hw2]; exact (Below.refl _ _).alloc (Nat.le_refl _) _
  have hxLS := heap_alloc_new w1 (.cells #[.bool sp, .slice op np cp, .slice ap mp dp, .bool su, .slice ou nu cu, .slice au mu du] 24)
  obtain ⟨gLS, hgLS⟩ : ∃ gLS, gLS = w1.heap.size := ⟨_, rfl⟩
  rw [← hw2, ← hgLS] at hxLS
  have HW2 := Lib.hid hw2; have HGLS := Lib.hid hgLS; clear hw2 hgLS
  have HB2 := Lib.hid (HB1.out.step hb2)
  have BXp := Lib.hid (heap_below BXp.out hb2)
  have BXu := Lib.hid (heap_below BXu.out hb2)
  clear hb2
  have BXLS := Lib.hid hxLS; clear hxLS
  have hs := rlarge2b BXLS.out zp zu HBIG.out
  have HS := Lib.hid hs; clear hs
  go_wp2_with fail
  rw [← HW2.out]
  try rw [← HGLS.out]
  (with_reducible refine HS.out.mono ?_); rintro e w3 ⟨rfl, hb3⟩
  clear HS
  have HB3 := Lib.hid (HB2.out.step hb3)
  have BXp := Lib.hid (heap_below BXp.out hb3)
  have BXu := Lib.hid (heap_below BXu.out hb3)
  clear hb3
  clear BXLS
  have hs := awake02 w3
  have HS := Lib.hid hs; clear hs
  go_wp2_with fail
  (with_reducible refine HS.out.mono ?_); rintro e w4 ⟨rfl, hb4⟩
  clear HS
  have HB4 := Lib.hid (HB3.out.step hb4)
  have BXp := Lib.hid (heap_below BXp.out hb4)
  have BXu := Lib.hid (heap_below BXu.out hb4)
  clear hb4
  go_wp2_with fail
  go_ret
  exact ⟨rfl, HB4.out⟩
theorem products02_walk (vp : Value) (sp : Bool) (ap bp : List Nat) (vu : Value) (su : Bool) (au bu : List Nat) (n : Int) (w : World) (hp : RatV w vp sp ap bp) (hu : RatV w vu su au bu) (n0 : -9223372036854775808 ≤ n) (n1 : n < 9223372036854775808) :
    Calls Tryd.prog 5 #[vp, vu, .int .i64 n] w (RetV w (.bool true)) := by
  obtain ⟨yp, ep⟩ := hp.sz
  obtain ⟨yu, eu⟩ := hu.sz
  by_cases hb : 12 < ap.length ∨ 12 < bp.length ∨ 12 < au.length ∨ 12 < bu.length
  · exact products_big vp ap.length bp.length vu au.length bu.length n w yp yu hb
  · obtain ⟨up, tp⟩ := hp.lt
    obtain ⟨uu, tu⟩ := hu.lt
    exact products_small vp (rq sp ap bp) vu (rq su au bu) n w (hp.is (by omega) (by omega)) (hu.is (by omega) (by omega)) (rl_rq up tp (by omega) (by omega) (by decide)) (by rw [ep]; exact ⟨by show ap.length ≤ 12; omega, by show bp.length ≤ 12; omega⟩) (rl_rq uu tu (by omega) (by omega) (by decide)) (by rw [eu]; exact ⟨by show au.length ≤ 12; omega, by show bu.length ≤ 12; omega⟩) n0 n1
end Go.Proofs.YtabdndlaelfdeaaDoor
