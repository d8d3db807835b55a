/-
  RationalRounds: the walk of the statement.
  Conditions: each theorem's own.
-/
import Derived.Test.YtkedjammeoaciaaGreatDoorM7
namespace Go.Proofs.YtkedjammeoaciaaGreatDoor
open Go.RowKit Go.ChangeShapes Go.WideShapes

set_option maxRecDepth 100000 in
set_option maxHeartbeats 12800000 in
theorem rounds_small (vp : Value) (p : Rat) (n : Int) (w : World) (hp : RatIs w vp p) (lp : rl p ≤ 12) (zp : (szR vp).1 ≤ 12 ∧ (szR vp).2 ≤ 12) (n0 : -9223372036854775808 ≤ n) (n1 : n < 9223372036854775808) :
    Calls Tryz.prog 3 #[vp, .int .i64 n] w (RetV w (.bool true)) := by
  obtain ⟨sp, op, np, cp, ap, mp, dp, rfl⟩ := hp.shape
  have hlp := hp.rl
  have krd : rl (rdV p n) ≤ 100000 := by
    unfold rdV rdC
    by_cases h : n < 1 ∨ 2147483648 < n
    · rw [if_pos h, if_neg (by decide)]; rw [rl_zero]; decide
    · rw [if_neg h, if_pos rfl]
      have a1 := rl_small (n := n) (by omega) (by omega); have a2 := rl_mul p (n : Rat); have a3 := rl_fl (p * (n : Rat)); have a4 := rl_div' (fl (p * (n : Rat))) (n : Rat); omega
  have kfl := rl_fl p
  obtain ⟨D, hD⟩ : ∃ D, D = rdV p n := ⟨_, rfl⟩
  obtain ⟨E, hE⟩ : ∃ E, E = rdC n := ⟨_, rfl⟩
  have e1 : E < 1000 := by rw [hE]; unfold rdC; split <;> decide
  obtain ⟨I, hI⟩ : ∃ I, I = riV p := ⟨_, rfl⟩; obtain ⟨b, hbb⟩ : ∃ b, b = riB p := ⟨_, rfl⟩
  obtain ⟨G, hG⟩ : ∃ G, G = fl p := ⟨_, rfl⟩
  rw [← hD] at krd; rw [← hG] at kfl
  have g1 : ((E : Int) == (E : Int)) = true := by simp
  have g2 : (I == I) = true := by simp
  have g3 : (b == b) = true := by simp
  have HE := Lib.hid hE; have HD := Lib.hid hD; have HI := Lib.hid hI; have HP := Lib.hid hbb; have HG := Lib.hid hG
  clear hE hD hI hbb hG
  have hb0 := ((Below.refl w.heap.size w).alloc (by first | (simp; done) | (simp; omega)) (.cells #[.bool sp, .slice op np cp, .slice ap mp dp] 24))
  have hxp := nest1_0 w (.cells #[.bool sp, .slice op np cp, .slice ap mp dp] 24)
  have hpp := hp.below hb0
  obtain ⟨w0, hw0⟩ : ∃ w0, w0 = (w.alloc (.cells #[.bool sp, .slice op np cp, .slice ap mp dp] 24)) := ⟨_, rfl⟩
  rw [← hw0] at hb0 hxp hpp
  have HB0 := Lib.hid hb0; have HW0 := Lib.hid hw0
  have BXp := Lib.hid hxp
  have Fp := Lib.hid hpp
  clear hb0 hw0 hxp hpp hp
  have zzp : np ≤ 12 ∧ mp ≤ 12 := zp; clear zp
  have _lp := lp
  go_enter Tryz.func3, Tryz.ntmps3
  have hs := awake02 w0
  have HS := Lib.hid hs; clear hs
  go_wp2_with fail
  rw [← HW0.out]
  (with_reducible refine HS.out.mono ?_); rintro e w1 ⟨rfl, hb1⟩
  clear HS
  have HB1 := Lib.hid (HB0.out.step hb1)
  have Fp := Lib.hid (Fp.out.below hb1)
  have BXp := Lib.hid (heap_below BXp.out hb1)
  clear hb1
  obtain ⟨ep0, ep1, ep2⟩ := row3 BXp.out
  obtain ⟨w2, hw2⟩ : ∃ w2, w2 = w1.alloc (.cells #[.bool sp, .slice op np cp, .slice ap mp dp] 24) := ⟨_, rfl⟩
  have hb2 : Below w1.heap.size w1 w2 := by rw [hw2]; exact (Below.refl _ _).alloc (Nat.le_refl _) _
  have hxLS := heap_alloc_new w1 (.cells #[.bool sp, .slice op np cp, .slice ap mp dp] 24)
  obtain ⟨gLS, hgLS⟩ : ∃ gLS, gLS = w1.heap.size := ⟨_, rfl⟩
  rw [← hw2, ← hgLS] at hxLS
  have HW2 := Lib.hid hw2; have HGLS := Lib.hid hgLS; clear hw2 hgLS
  have HB2 := Lib.hid (HB1.out.step hb2)
  have Fp := Lib.hid (Fp.out.below hb2)
  have BXp := Lib.hid (heap_below BXp.out hb2)
  clear hb2
  have BXLS := Lib.hid hxLS; clear hxLS
  have hs := rlarge1s BXLS.out zzp
  have HS := Lib.hid hs; clear hs
  go_wp2_with fail
  rw [← HW2.out]
  try rw [← HGLS.out]
  (with_reducible refine HS.out.mono ?_); rintro e w3 ⟨rfl, hb3⟩
  clear HS
  have HB3 := Lib.hid (HB2.out.step hb3)
  have Fp := Lib.hid (Fp.out.below hb3)
  have BXp := Lib.hid (heap_below BXp.out hb3)
  clear hb3
  clear BXLS
  have hs := round_any _ p n w3 Fp.out (by omega)
  rw [← HE.out, ← HD.out] at hs
  have HS := Lib.hid hs; clear hs
  obtain ⟨ep0, ep1, ep2⟩ := row3 BXp.out
  go_wp2_with fail
  clear ep0 ep1 ep2
  (with_reducible refine HS.out.mono ?_); rintro e w4 ⟨v4, rfl, hb4, hn4⟩
  clear HS
  have HB4 := Lib.hid (HB3.out.step hb4)
  have Fp := Lib.hid (Fp.out.below hb4)
  have BXp := Lib.hid (heap_below BXp.out hb4)
  have X1 := Lib.hid hn4; clear hn4
  clear hb4
  obtain ⟨sX1, oX1, nX1, cX1, aX1, mX1, dX1, rfl⟩ := X1.out.shape
  obtain ⟨w5, hw5⟩ : ∃ w5, w5 = w4.alloc (.cells #[.bool sX1, .slice oX1 nX1 cX1, .slice aX1 mX1 dX1] 24) := ⟨_, rfl⟩
  have hb5 : Below w4.heap.size w4 w5 := by rw [hw5]; exact (Below.refl _ _).alloc (Nat.le_refl _) _
  have hxx := heap_alloc_new w4 (.cells #[.bool sX1, .slice oX1 nX1 cX1, .slice aX1 mX1 dX1] 24)
  obtain ⟨gx, hgx⟩ : ∃ gx, gx = w4.heap.size := ⟨_, rfl⟩
  rw [← hw5, ← hgx] at hxx
  have HW5 := Lib.hid hw5; have HGx := Lib.hid hgx; clear hw5 hgx
  have HB5 := Lib.hid (HB4.out.step hb5)
  have Fp := Lib.hid (Fp.out.below hb5)
  have X1 := Lib.hid (X1.out.below hb5)
  have BXp := Lib.hid (heap_below BXp.out hb5)
  clear hb5
  have BXx := Lib.hid hxx; clear hxx
  have hs := rround_any _ p n w5 Fp.out (by omega)
  rw [← HE.out, ← HD.out] at hs
  have HS := Lib.hid hs; clear hs
  obtain ⟨ep0, ep1, ep2⟩ := row3 BXp.out
  rw [HW5.out] at ep0
  rw [HW5.out] at ep1
  rw [HW5.out] at ep2
  go_wp2_with fail
  rw [← HW5.out]
  try rw [← HGx.out]
  clear ep0 ep1 ep2
  (with_reducible refine HS.out.mono ?_); rintro e w6 ⟨v6, rfl, hb6, hn6⟩
  clear HS
  have HB6 := Lib.hid (HB5.out.step hb6)
  have Fp := Lib.hid (Fp.out.below hb6)
  have X1 := Lib.hid (X1.out.below hb6)
  have BXp := Lib.hid (heap_below BXp.out hb6)
  have BXx := Lib.hid (heap_below BXx.out hb6)
  have X2 := Lib.hid hn6; clear hn6
  clear hb6
  obtain ⟨sX2, oX2, nX2, cX2, aX2, mX2, dX2, rfl⟩ := X2.out.shape
  obtain ⟨w7, hw7⟩ : ∃ w7, w7 = w6.alloc (.cells #[.bool sX2, .slice oX2 nX2 cX2, .slice aX2 mX2 dX2] 24) := ⟨_, rfl⟩
  have hb7 : Below w6.heap.size w6 w7 := by rw [hw7]; exact (Below.refl _ _).alloc (Nat.le_refl _) _
  have hxy := heap_alloc_new w6 (.cells #[.bool sX2, .slice oX2 nX2 cX2, .slice aX2 mX2 dX2] 24)
  obtain ⟨gy, hgy⟩ : ∃ gy, gy = w6.heap.size := ⟨_, rfl⟩
  rw [← hw7, ← hgy] at hxy
  have HW7 := Lib.hid hw7; have HGy := Lib.hid hgy; clear hw7 hgy
  have HB7 := Lib.hid (HB6.out.step hb7)
  have Fp := Lib.hid (Fp.out.below hb7)
  have X1 := Lib.hid (X1.out.below hb7)
  have X2 := Lib.hid (X2.out.below hb7)
  have BXp := Lib.hid (heap_below BXp.out hb7)
  have BXx := Lib.hid (heap_below BXx.out hb7)
  clear hb7
  have BXy := Lib.hid hxy; clear hxy
  have hs := intq_any _ p w7 Fp.out
  rw [← HI.out, ← HP.out] at hs
  have HS := Lib.hid hs; clear hs
  obtain ⟨ep0, ep1, ep2⟩ := row3 BXp.out
  rw [HW7.out] at ep0
  rw [HW7.out] at ep1
  rw [HW7.out] at ep2
  go_wp2_with fail
  rw [← HW7.out]
  try rw [← HGy.out]
  clear ep0 ep1 ep2
  (with_reducible refine HS.out.mono ?_); rintro e w8 ⟨rfl, hb8⟩
  clear HS
  have HB8 := Lib.hid (HB7.out.step hb8)
  have Fp := Lib.hid (Fp.out.below hb8)
  have X1 := Lib.hid (X1.out.below hb8)
  have X2 := Lib.hid (X2.out.below hb8)
  have BXp := Lib.hid (heap_below BXp.out hb8)
  have BXx := Lib.hid (heap_below BXx.out hb8)
  have BXy := Lib.hid (heap_below BXy.out hb8)
  clear hb8
  have hs := rintq_any _ p w8 Fp.out
  rw [← HI.out, ← HP.out] at hs
  have HS := Lib.hid hs; clear hs
  obtain ⟨ep0, ep1, ep2⟩ := row3 BXp.out
  go_wp2_with fail
  clear ep0 ep1 ep2
  (with_reducible refine HS.out.mono ?_); rintro e w9 ⟨rfl, hb9⟩
  clear HS
  have HB9 := Lib.hid (HB8.out.step hb9)
  have Fp := Lib.hid (Fp.out.below hb9)
  have X1 := Lib.hid (X1.out.below hb9)
  have X2 := Lib.hid (X2.out.below hb9)
  have BXp := Lib.hid (heap_below BXp.out hb9)
  have BXx := Lib.hid (heap_below BXx.out hb9)
  have BXy := Lib.hid (heap_below BXy.out hb9)
  clear hb9
  have HBC := Lib.hid ((Below.refl w9.heap.size w9).drew)
  have hc := fun w1 (h1 : Below w9.heap.size w9 w1) => floor_any _ p w1 (Fp.out.below h1)
  rw [← HG.out] at hc
  have C1 := Lib.hid hc; clear hc
  have hc := fun w1 (h1 : Below w9.heap.size w9 w1) => rfloor_any _ p w1 (Fp.out.below h1)
  rw [← HG.out] at hc
  have C2 := Lib.hid hc; clear hc
  have hc := fun va vb u w1 (ha : IsR w1 va u) (hb : IsR w1 vb u) (hl : rl u ≤ 100000) => rat_same va vb u w1 ha hb hl
  have CQ := Lib.hid hc; clear hc
  have hc := fun w1 => num_any E w1 e1
  have CE := Lib.hid hc; clear hc
  have Zp := Lib.hid (fun w1 (h1 : Below w9.heap.size w9 w1) => row3 (heap_below BXp.out h1))
  have Zx := Lib.hid (fun w1 (h1 : Below w9.heap.size w9 w1) => row3 (heap_below BXx.out h1))
  have Zy := Lib.hid (fun w1 (h1 : Below w9.heap.size w9 w1) => row3 (heap_below BXy.out h1))
  go_wp2_with fail
  obtain ⟨zp0, zp1, zp2⟩ := Zp.out _ HBC.out
  obtain ⟨zx0, zx1, zx2⟩ := Zx.out _ HBC.out
  obtain ⟨zy0, zy1, zy2⟩ := Zy.out _ HBC.out
  go_region_held3 (fun wx => wx.cell? ⟨w.heap.size, 0, none⟩ = some (.bool sp) ∧ wx.cell? ⟨w.heap.size, 1, none⟩ = some (.slice op np cp) ∧ wx.cell? ⟨w.heap.size, 2, none⟩ = some (.slice ap mp dp) ∧ wx.cell? ⟨gx, 0, none⟩ = some (.bool sX1) ∧ wx.cell? ⟨gx, 1, none⟩ = some (.slice oX1 nX1 cX1) ∧ wx.cell? ⟨gx, 2, none⟩ = some (.slice aX1 mX1 dX1) ∧ wx.cell? ⟨gy, 0, none⟩ = some (.bool sX2) ∧ wx.cell? ⟨gy, 1, none⟩ = some (.slice oX2 nX2 cX2) ∧ wx.cell? ⟨gy, 2, none⟩ = some (.slice aX2 mX2 dX2)) (first | exact ⟨zp0, zp1, zp2, zx0, zx1, zx2, zy0, zy1, zy2⟩ | exact put6 (by omega) (by omega) (by omega) ⟨zp0, zp1, zp2, zx0, zx1, zx2, zy0, zy1, zy2⟩ | exact al3 ⟨zp0, zp1, zp2, zx0, zx1, zx2, zy0, zy1, zy2⟩ | exact put3c (by omega) (al3 ⟨zp0, zp1, zp2, zx0, zx1, zx2, zy0, zy1, zy2⟩)) (first
    | (go_at_call 16; (with_reducible refine (C1.out _ HBC.out).mono ?_); rintro e wr0 ⟨v0r, rfl, hb, hn⟩; (have HBC := Lib.hid (HBC.out.step hb)); (try have F1 := Lib.hid (F1.out.below hb)); (try have F2 := Lib.hid (F2.out.below hb)); (have F1 := Lib.hid hn); clear hn; clear hb; (obtain ⟨zp0, zp1, zp2⟩ := Zp.out _ HBC.out); (obtain ⟨zx0, zx1, zx2⟩ := Zx.out _ HBC.out); (obtain ⟨zy0, zy1, zy2⟩ := Zy.out _ HBC.out))
    | (go_at_call 17; (with_reducible refine (C2.out _ HBC.out).mono ?_); rintro e wr1 ⟨v1r, rfl, hb, hn⟩; (have HBC := Lib.hid (HBC.out.step hb)); (try have F1 := Lib.hid (F1.out.below hb)); (try have F2 := Lib.hid (F2.out.below hb)); (have F2 := Lib.hid hn); clear hn; clear hb; (obtain ⟨zp0, zp1, zp2⟩ := Zp.out _ HBC.out); (obtain ⟨zx0, zx1, zx2⟩ := Zx.out _ HBC.out); (obtain ⟨zy0, zy1, zy2⟩ := Zy.out _ HBC.out))
    | (go_at_call 15; (with_reducible refine (CQ.out _ _ _ _ F1.out F2.out (by omega)).mono ?_); rintro e wr2 ⟨rfl, hb⟩; (have HBC := Lib.hid (HBC.out.step hb)); (try have F1 := Lib.hid (F1.out.below hb)); (try have F2 := Lib.hid (F2.out.below hb)); clear hb; (obtain ⟨zp0, zp1, zp2⟩ := Zp.out _ HBC.out); (obtain ⟨zx0, zx1, zx2⟩ := Zx.out _ HBC.out); (obtain ⟨zy0, zy1, zy2⟩ := Zy.out _ HBC.out))
    | (go_at_call 15; (with_reducible refine (CQ.out _ _ _ _ (X1.out.below HBC.out) (X2.out.below HBC.out) (by omega)).mono ?_); rintro e wr3 ⟨rfl, hb⟩; (have HBC := Lib.hid (HBC.out.step hb)); (try have F1 := Lib.hid (F1.out.below hb)); (try have F2 := Lib.hid (F2.out.below hb)); clear hb; (obtain ⟨zp0, zp1, zp2⟩ := Zp.out _ HBC.out); (obtain ⟨zx0, zx1, zx2⟩ := Zx.out _ HBC.out); (obtain ⟨zy0, zy1, zy2⟩ := Zy.out _ HBC.out))
    | (go_at_call 18; (with_reducible refine (CE.out _).mono ?_); rintro e wr4 ⟨rfl, rfl⟩))
  have Fp := Lib.hid (Fp.out.below HBC.out)
  have X1 := Lib.hid (X1.out.below HBC.out)
  have X2 := Lib.hid (X2.out.below HBC.out)
  have BXp := Lib.hid (heap_below BXp.out HBC.out)
  have BXx := Lib.hid (heap_below BXx.out HBC.out)
  have BXy := Lib.hid (heap_below BXy.out HBC.out)
  have HB10 := Lib.hid (HB9.out.step HBC.out)
  go_wp2_with fail
  go_ret
  exact ⟨by first | rfl | (simp; done), HB10.out⟩
set_option maxRecDepth 100000 in
set_option maxHeartbeats 3200000 in
theorem rounds_big (vp : Value) (np mp : Nat) (n : Int) (w : World) (hp : RatSz vp np mp) (hb : 12 < np ∨ 12 < mp) :
    Calls Tryz.prog 3 #[vp, .int .i64 n] w (RetV w (.bool true)) := by
  obtain ⟨sp, op, cp, ap, dp, rfl, zp⟩ := hp
  have HBIG := Lib.hid hb; clear hb
  have hb0 := ((Below.refl w.heap.size w).alloc (by first | (simp; done) | (simp; omega)) (.cells #[.bool sp, .slice op np cp, .slice ap mp dp] 24))
  have hxp := nest1_0 w (.cells #[.bool sp, .slice op np cp, .slice ap mp dp] 24)
  obtain ⟨w0, hw0⟩ : ∃ w0, w0 = (w.alloc (.cells #[.bool sp, .slice op np cp, .slice ap mp dp] 24)) := ⟨_, rfl⟩
  rw [← hw0] at hb0 hxp
  have HB0 := Lib.hid hb0; have HW0 := Lib.hid hw0
  have BXp := Lib.hid hxp
  clear hb0 hw0 hxp
  go_enter Tryz.func3, Tryz.ntmps3
  have hs := awake02 w0
  have HS := Lib.hid hs; clear hs
  go_wp2_with fail
  rw [← HW0.out]
  (with_reducible refine HS.out.mono ?_); rintro e w1 ⟨rfl, hb1⟩
  clear HS
  have HB1 := Lib.hid (HB0.out.step hb1)
  have BXp := Lib.hid (heap_below BXp.out hb1)
  clear hb1
  obtain ⟨ep0, ep1, ep2⟩ := row3 BXp.out
  obtain ⟨w2, hw2⟩ : ∃ w2, w2 = w1.alloc (.cells #[.bool sp, .slice op np cp, .slice ap mp dp] 24) := ⟨_, rfl⟩
  have hb2 : Below w1.heap.size w1 w2 := by rw [hw2]; exact (Below.refl _ _).alloc (Nat.le_refl _) _
  have hxLS := heap_alloc_new w1 (.cells #[.bool sp, .slice op np cp, .slice ap mp dp] 24)
  obtain ⟨gLS, hgLS⟩ : ∃ gLS, gLS = w1.heap.size := ⟨_, rfl⟩
  rw [← hw2, ← hgLS] at hxLS
  have HW2 := Lib.hid hw2; have HGLS := Lib.hid hgLS; clear hw2 hgLS
  have HB2 := Lib.hid (HB1.out.step hb2)
  have BXp := Lib.hid (heap_below BXp.out hb2)
  clear hb2
  have BXLS := Lib.hid hxLS; clear hxLS
  have hs := rlarge1b BXLS.out zp HBIG.out
  have HS := Lib.hid hs; clear hs
  go_wp2_with fail
  rw [← HW2.out]
  try rw [← HGLS.out]
  (with_reducible refine HS.out.mono ?_); rintro e w3 ⟨rfl, hb3⟩
  clear HS
  have HB3 := Lib.hid (HB2.out.step hb3)
  have BXp := Lib.hid (heap_below BXp.out hb3)
  clear hb3
  clear BXLS
  have hs := awake02 w3
  have HS := Lib.hid hs; clear hs
  go_wp2_with fail
  (with_reducible refine HS.out.mono ?_); rintro e w4 ⟨rfl, hb4⟩
  clear HS
  have HB4 := Lib.hid (HB3.out.step hb4)
  have BXp := Lib.hid (heap_below BXp.out hb4)
  clear hb4
  go_wp2_with fail
  go_ret
  exact ⟨rfl, HB4.out⟩
theorem rounds02_walk (vp : Value) (sp : Bool) (ap bp : List Nat) (n : Int) (w : World) (hp : RatV w vp sp ap bp) (n0 : -9223372036854775808 ≤ n) (n1 : n < 9223372036854775808) :
    Calls Tryz.prog 3 #[vp, .int .i64 n] w (RetV w (.bool true)) := by
  obtain ⟨yp, ep⟩ := hp.sz
  by_cases hb : 12 < ap.length ∨ 12 < bp.length
  · exact rounds_big vp ap.length bp.length n w yp hb
  · obtain ⟨up, tp⟩ := hp.lt
    exact rounds_small vp (rq sp ap bp) n w (hp.is (by omega) (by omega)) (rl_rq up tp (by omega) (by omega) (by decide)) (by rw [ep]; exact ⟨by show ap.length ≤ 12; omega, by show bp.length ≤ 12; omega⟩) n0 n1
end Go.Proofs.YtkedjammeoaciaaGreatDoor
