/-
  RationalTexts: the walk of the statement.
  Conditions: each theorem's own.
-/
import Derived.Test.YtabdndlaelfdeaaDoorRatMath5m
import Derived.Test.YtabdndlaelfdeaaDoorRatLaw2m
import Derived.Test.YtabdndlaelfdeaaDoorRatPar2m
namespace Go.Proofs.YtabdndlaelfdeaaDoor
open Go.RowKit Go.ChangeShapes Go.WideShapes

set_option maxRecDepth 100000 in
set_option maxHeartbeats 12800000 in
theorem texts_small0 (vp : Value) (p : Rat) (l : List UInt8) (w : World) (hp : RatIs w vp p) (lp : rl p ≤ 12) (zp : (szR vp).1 ≤ 12 ∧ (szR vp).2 ≤ 12) (hl : 200 < l.length) (hl2 : l.length ≤ 65536) :
    Calls Tryd.prog 3 #[vp, .string ⟨l.toArray⟩] w (RetV w (.bool true)) := by
  obtain ⟨sp, op, np, cp, ap, mp, dp, rfl⟩ := hp.shape
  have hlp := hp.rl
  obtain ⟨S, hS⟩ : ∃ S : ByteArray, S = ⟨l.toArray⟩ := ⟨_, rfl⟩
  have hsz : S.size = l.length := by rw [hS]; simp [ByteArray.size]
  have f1 : decide ((200 : Int) < (l.length : Int)) = true := decide_eq_true (by omega)
  have f2 : decide ((l.length : Int) ≤ 65536) = true := decide_eq_true (by omega)
  rw [← hS]; clear hS
  have hb0 := ((Below.refl w.heap.size w).alloc (by first | (simp; done) | (simp; omega)) (.cells #[.bool sp, .slice op np cp, .slice ap mp dp] 24))
  have hxp := nest1_0 w (.cells #[.bool sp, .slice op np cp, .slice ap mp dp] 24)
  have hpp := hp.below hb0
  obtain ⟨w0, hw0⟩ : ∃ w0, w0 = (w.alloc (.cells #[.bool sp, .slice op np cp, .slice ap mp dp] 24)) := ⟨_, rfl⟩
  rw [← hw0] at hb0 hxp hpp
  have HB0 := Lib.hid hb0; have HW0 := Lib.hid hw0
  have BXp := Lib.hid hxp
  have Fp := Lib.hid hpp
  clear hb0 hw0 hxp hpp hp
  have zzp : np ≤ 12 ∧ mp ≤ 12 := zp; clear zp
  have _lp := lp
  go_enter Tryd.func3, Tryd.ntmps3
  have hs := awake02 w0
  have HS := Lib.hid hs; clear hs
  go_wp2_with fail
  rw [← HW0.out]
  (with_reducible refine HS.out.mono ?_); rintro e w1 ⟨rfl, hb1⟩
  clear HS
  have HB1 := Lib.hid (HB0.out.step hb1)
  have Fp := Lib.hid (Fp.out.below hb1)
  have BXp := Lib.hid (heap_below BXp.out hb1)
  clear hb1
  obtain ⟨ep0, ep1, ep2⟩ := row3 BXp.out
  obtain ⟨w2, hw2⟩ : ∃ w2, w2 = w1.alloc (.cells #[.bool sp, .slice op np cp, .slice ap mp dp] 24) := ⟨_, rfl⟩
  have hb2 : Below w1.heap.size w1 w2 := by rw [hw2]; exact (Below.refl _ _).alloc (Nat.le_refl _) _
  have hxLS := heap_alloc_new w1 (.cells #[.bool sp, .slice op np cp, .slice ap mp dp] 24)
  obtain ⟨gLS, hgLS⟩ : ∃ gLS, gLS = w1.heap.size := ⟨_, rfl⟩
  rw [← hw2, ← hgLS] at hxLS
  have HW2 := Lib.hid hw2; have HGLS := Lib.hid hgLS; clear hw2 hgLS
  have HB2 := Lib.hid (HB1.out.step hb2)
  have Fp := Lib.hid (Fp.out.below hb2)
  have BXp := Lib.hid (heap_below BXp.out hb2)
  clear hb2
  have BXLS := Lib.hid hxLS; clear hxLS
  have hs := rlarge1s BXLS.out zzp
  have HS := Lib.hid hs; clear hs
  go_wp2_with fail
  rw [← HW2.out]
  try rw [← HGLS.out]
  (with_reducible refine HS.out.mono ?_); rintro e w3 ⟨rfl, hb3⟩
  clear HS
  have HB3 := Lib.hid (HB2.out.step hb3)
  have Fp := Lib.hid (Fp.out.below hb3)
  have BXp := Lib.hid (heap_below BXp.out hb3)
  clear hb3
  clear BXLS
  have hs := awake02 w3
  have HS := Lib.hid hs; clear hs
  go_wp2_with fail
  (with_reducible refine HS.out.mono ?_); rintro e w4 ⟨rfl, hb4⟩
  clear HS
  have HB4 := Lib.hid (HB3.out.step hb4)
  have Fp := Lib.hid (Fp.out.below hb4)
  have BXp := Lib.hid (heap_below BXp.out hb4)
  clear hb4
  go_wp2_with fail
  go_ret
  exact ⟨rfl, HB4.out⟩
set_option maxRecDepth 100000 in
set_option maxHeartbeats 12800000 in
theorem texts_small1 (vp : Value) (p : Rat) (l : List UInt8) (w : World) (hp : RatIs w vp p) (lp : rl p ≤ 12) (zp : (szR vp).1 ≤ 12 ∧ (szR vp).2 ≤ 12) (hl : l.length ≤ 200) (hm : l.length ≤ 9223372036854775807) :
    Calls Tryd.prog 3 #[vp, .string ⟨l.toArray⟩] w (RetV w (.bool true)) := by
  obtain ⟨sp, op, np, cp, ap, mp, dp, rfl⟩ := hp.shape
  have hlp := hp.rl
  obtain ⟨S, hS⟩ : ∃ S : ByteArray, S = ⟨l.toArray⟩ := ⟨_, rfl⟩
  have hsz : S.size = l.length := by rw [hS]; simp [ByteArray.size]
  have f1 : decide ((200 : Int) < (l.length : Int)) = false := decide_eq_false (by omega)
  have hps := fun wx => parseq_any l wx (.inl (by omega)) hm
  have hrs := fun wx => rparseq_any l wx (.inl (by omega)) hm
  have ec : prC l < 1000 := by unfold prC; split <;> (try split) <;> decide
  have hlq : rl (prQ l) ≤ 1000 := by
    exact rl_prQ (by omega)
  obtain ⟨q, hq⟩ : ∃ q, q = prQ l := ⟨_, rfl⟩; obtain ⟨E, hE⟩ : ∃ E, E = prC l := ⟨_, rfl⟩; obtain ⟨T, hT⟩ : ∃ T : ByteArray, T = ⟨(rtx p).toArray⟩ := ⟨_, rfl⟩
  have g1 : (T.toList == T.toList) = true := by simp
  rw [← hS, ← hq, ← hE] at hps hrs; rw [← hq] at hlq; rw [← hE] at ec; rw [← hS]
  have HPS := Lib.hid hps; have HRS := Lib.hid hrs; have HT := Lib.hid hT; clear hps hrs hT hq hE hS
  have hb0 := ((Below.refl w.heap.size w).alloc (by first | (simp; done) | (simp; omega)) (.cells #[.bool sp, .slice op np cp, .slice ap mp dp] 24))
  have hxp := nest1_0 w (.cells #[.bool sp, .slice op np cp, .slice ap mp dp] 24)
  have hpp := hp.below hb0
  obtain ⟨w0, hw0⟩ : ∃ w0, w0 = (w.alloc (.cells #[.bool sp, .slice op np cp, .slice ap mp dp] 24)) := ⟨_, rfl⟩
  rw [← hw0] at hb0 hxp hpp
  have HB0 := Lib.hid hb0; have HW0 := Lib.hid hw0
  have BXp := Lib.hid hxp
  have Fp := Lib.hid hpp
  clear hb0 hw0 hxp hpp hp
  have zzp : np ≤ 12 ∧ mp ≤ 12 := zp; clear zp
  have _lp := lp
  go_enter Tryd.func3, Tryd.ntmps3
  have hs := awake02 w0
  have HS := Lib.hid hs; clear hs
  go_wp2_with fail
  rw [← HW0.out]
  (with_reducible refine HS.out.mono ?_); rintro e w1 ⟨rfl, hb1⟩
  clear HS
  have HB1 := Lib.hid (HB0.out.step hb1)
  have Fp := Lib.hid (Fp.out.below hb1)
  have BXp := Lib.hid (heap_below BXp.out hb1)
  clear hb1
  obtain ⟨ep0, ep1, ep2⟩ := row3 BXp.out
  obtain ⟨w2, hw2⟩ : ∃ w2, w2 = w1.alloc (.cells #[.bool sp, .slice op np cp, .slice ap mp dp] 24) := ⟨_, rfl⟩
  have hb2 : Below w1.heap.size w1 w2 := by rw [hw2]; exact (Below.refl _ _).alloc (Nat.le_refl _) _
  have hxLS := heap_alloc_new w1 (.cells #[.bool sp, .slice op np cp, .slice ap mp dp] 24)
  obtain ⟨gLS, hgLS⟩ : ∃ gLS, gLS = w1.heap.size := ⟨_, rfl⟩
  rw [← hw2, ← hgLS] at hxLS
  have HW2 := Lib.hid hw2; have HGLS := Lib.hid hgLS; clear hw2 hgLS
  have HB2 := Lib.hid (HB1.out.step hb2)
  have Fp := Lib.hid (Fp.out.below hb2)
  have BXp := Lib.hid (heap_below BXp.out hb2)
  clear hb2
  have BXLS := Lib.hid hxLS; clear hxLS
  have hs := rlarge1s BXLS.out zzp
  have HS := Lib.hid hs; clear hs
  go_wp2_with fail
  rw [← HW2.out]
  try rw [← HGLS.out]
  (with_reducible refine HS.out.mono ?_); rintro e w3 ⟨rfl, hb3⟩
  clear HS
  have HB3 := Lib.hid (HB2.out.step hb3)
  have Fp := Lib.hid (Fp.out.below hb3)
  have BXp := Lib.hid (heap_below BXp.out hb3)
  clear hb3
  clear BXLS
  have hs := HPS.out w3
  have HS := Lib.hid hs; clear hs
  go_wp2_with fail
  (with_reducible refine HS.out.mono ?_); rintro e w4 ⟨v4, rfl, hb4, hn4⟩
  clear HS
  have HB4 := Lib.hid (HB3.out.step hb4)
  have Fp := Lib.hid (Fp.out.below hb4)
  have BXp := Lib.hid (heap_below BXp.out hb4)
  have X := Lib.hid hn4; clear hn4
  clear hb4
  obtain ⟨sX, oX, nX, cX, aX, mX, dX, rfl⟩ := X.out.shape
  obtain ⟨w5, hw5⟩ : ∃ w5, w5 = w4.alloc (.cells #[.bool sX, .slice oX nX cX, .slice aX mX dX] 24) := ⟨_, rfl⟩
  have hb5 : Below w4.heap.size w4 w5 := by rw [hw5]; exact (Below.refl _ _).alloc (Nat.le_refl _) _
  have hxx := heap_alloc_new w4 (.cells #[.bool sX, .slice oX nX cX, .slice aX mX dX] 24)
  obtain ⟨gx, hgx⟩ : ∃ gx, gx = w4.heap.size := ⟨_, rfl⟩
  rw [← hw5, ← hgx] at hxx
  have HW5 := Lib.hid hw5; have HGx := Lib.hid hgx; clear hw5 hgx
  have HB5 := Lib.hid (HB4.out.step hb5)
  have Fp := Lib.hid (Fp.out.below hb5)
  have X := Lib.hid (X.out.below hb5)
  have BXp := Lib.hid (heap_below BXp.out hb5)
  clear hb5
  have BXx := Lib.hid hxx; clear hxx
  have hs := HRS.out w5
  have HS := Lib.hid hs; clear hs
  go_wp2_with fail
  rw [← HW5.out]
  try rw [← HGx.out]
  (with_reducible refine HS.out.mono ?_); rintro e w6 ⟨v6, rfl, hb6, hn6⟩
  clear HS
  have HB6 := Lib.hid (HB5.out.step hb6)
  have Fp := Lib.hid (Fp.out.below hb6)
  have X := Lib.hid (X.out.below hb6)
  have BXp := Lib.hid (heap_below BXp.out hb6)
  have BXx := Lib.hid (heap_below BXx.out hb6)
  have Y := Lib.hid hn6; clear hn6
  clear hb6
  obtain ⟨sY, oY, nY, cY, aY, mY, dY, rfl⟩ := Y.out.shape
  obtain ⟨w7, hw7⟩ : ∃ w7, w7 = w6.alloc (.cells #[.bool sY, .slice oY nY cY, .slice aY mY dY] 24) := ⟨_, rfl⟩
  have hb7 : Below w6.heap.size w6 w7 := by rw [hw7]; exact (Below.refl _ _).alloc (Nat.le_refl _) _
  have hxy := heap_alloc_new w6 (.cells #[.bool sY, .slice oY nY cY, .slice aY mY dY] 24)
  obtain ⟨gy, hgy⟩ : ∃ gy, gy = w6.heap.size := ⟨_, rfl⟩
  rw [← hw7, ← hgy] at hxy
  have HW7 := Lib.hid hw7; have HGy := Lib.hid hgy; clear hw7 hgy
  have HB7 := Lib.hid (HB6.out.step hb7)
  have Fp := Lib.hid (Fp.out.below hb7)
  have X := Lib.hid (X.out.below hb7)
  have Y := Lib.hid (Y.out.below hb7)
  have BXp := Lib.hid (heap_below BXp.out hb7)
  have BXx := Lib.hid (heap_below BXx.out hb7)
  clear hb7
  have BXy := Lib.hid hxy; clear hxy
  have HBC := Lib.hid ((Below.refl w7.heap.size w7).drew)
  have hc := fun w1 (h1 : Below w7.heap.size w7 w1) => textq_any _ p w1 (Fp.out.below h1)
  rw [← HT.out] at hc
  have CT := Lib.hid hc; clear hc
  have hc := fun w1 (h1 : Below w7.heap.size w7 w1) => rtextq_any _ p w1 (Fp.out.below h1)
  rw [← HT.out] at hc
  have CRT := Lib.hid hc; clear hc
  have hc := fun w1 (h1 : Below w7.heap.size w7 w1) => rat_same _ _ q w1 (X.out.below h1) (Y.out.below h1) (by omega)
  have CQ := Lib.hid hc; clear hc
  have hc := fun w1 => num_any E w1 ec
  have CE := Lib.hid hc; clear hc
  have Zp := Lib.hid (fun w1 (h1 : Below w7.heap.size w7 w1) => row3 (heap_below BXp.out h1))
  have Zx := Lib.hid (fun w1 (h1 : Below w7.heap.size w7 w1) => row3 (heap_below BXx.out h1))
  have Zy := Lib.hid (fun w1 (h1 : Below w7.heap.size w7 w1) => row3 (heap_below BXy.out h1))
  go_wp2_with fail
  rw [← HW7.out]
  try rw [← HGy.out]
  obtain ⟨zp0, zp1, zp2⟩ := Zp.out _ HBC.out
  obtain ⟨zx0, zx1, zx2⟩ := Zx.out _ HBC.out
  obtain ⟨zy0, zy1, zy2⟩ := Zy.out _ HBC.out
  go_region_held3 (fun wx => wx.cell? ⟨w.heap.size, 0, none⟩ = some (.bool sp) ∧ wx.cell? ⟨w.heap.size, 1, none⟩ = some (.slice op np cp) ∧ wx.cell? ⟨w.heap.size, 2, none⟩ = some (.slice ap mp dp) ∧ wx.cell? ⟨gx, 0, none⟩ = some (.bool sX) ∧ wx.cell? ⟨gx, 1, none⟩ = some (.slice oX nX cX) ∧ wx.cell? ⟨gx, 2, none⟩ = some (.slice aX mX dX) ∧ wx.cell? ⟨gy, 0, none⟩ = some (.bool sY) ∧ wx.cell? ⟨gy, 1, none⟩ = some (.slice oY nY cY) ∧ wx.cell? ⟨gy, 2, none⟩ = some (.slice aY mY dY)) (first | exact ⟨zp0, zp1, zp2, zx0, zx1, zx2, zy0, zy1, zy2⟩ | exact put6 (by omega) (by omega) (by omega) ⟨zp0, zp1, zp2, zx0, zx1, zx2, zy0, zy1, zy2⟩ | exact al3 ⟨zp0, zp1, zp2, zx0, zx1, zx2, zy0, zy1, zy2⟩ | exact put3c (by omega) (al3 ⟨zp0, zp1, zp2, zx0, zx1, zx2, zy0, zy1, zy2⟩)) (first
    | (go_at_call 15; (with_reducible refine (CT.out _ HBC.out).mono ?_); rintro e wr0 ⟨rfl, hb⟩; (have HBC := Lib.hid (HBC.out.step hb)); clear hb; (obtain ⟨zp0, zp1, zp2⟩ := Zp.out _ HBC.out); (obtain ⟨zx0, zx1, zx2⟩ := Zx.out _ HBC.out); (obtain ⟨zy0, zy1, zy2⟩ := Zy.out _ HBC.out))
    | (go_at_call 16; (with_reducible refine (CRT.out _ HBC.out).mono ?_); rintro e wr1 ⟨rfl, hb⟩; (have HBC := Lib.hid (HBC.out.step hb)); clear hb; (obtain ⟨zp0, zp1, zp2⟩ := Zp.out _ HBC.out); (obtain ⟨zx0, zx1, zx2⟩ := Zx.out _ HBC.out); (obtain ⟨zy0, zy1, zy2⟩ := Zy.out _ HBC.out))
    | (go_at_call 17; (with_reducible refine (CQ.out _ HBC.out).mono ?_); rintro e wr2 ⟨rfl, hb⟩; (have HBC := Lib.hid (HBC.out.step hb)); clear hb; (obtain ⟨zp0, zp1, zp2⟩ := Zp.out _ HBC.out); (obtain ⟨zx0, zx1, zx2⟩ := Zx.out _ HBC.out); (obtain ⟨zy0, zy1, zy2⟩ := Zy.out _ HBC.out))
    | (go_at_call 18; (with_reducible refine (CE.out _).mono ?_); rintro e wr3 ⟨rfl, rfl⟩))
  have Fp := Lib.hid (Fp.out.below HBC.out)
  have X := Lib.hid (X.out.below HBC.out)
  have Y := Lib.hid (Y.out.below HBC.out)
  have BXp := Lib.hid (heap_below BXp.out HBC.out)
  have BXx := Lib.hid (heap_below BXx.out HBC.out)
  have BXy := Lib.hid (heap_below BXy.out HBC.out)
  have HB8 := Lib.hid (HB7.out.step HBC.out)
  go_wp2_with fail
  go_ret
  exact ⟨by first | rfl | (simp; done), HB8.out⟩
set_option maxRecDepth 100000 in
set_option maxHeartbeats 12800000 in
theorem texts_small2 (vp : Value) (p : Rat) (l : List UInt8) (w : World) (hp : RatIs w vp p) (lp : rl p ≤ 12) (zp : (szR vp).1 ≤ 12 ∧ (szR vp).2 ≤ 12) (hl : 65536 < l.length) (hm : l.length ≤ 9223372036854775807) :
    Calls Tryd.prog 3 #[vp, .string ⟨l.toArray⟩] w (RetV w (.bool true)) := by
  obtain ⟨sp, op, np, cp, ap, mp, dp, rfl⟩ := hp.shape
  have hlp := hp.rl
  obtain ⟨S, hS⟩ : ∃ S : ByteArray, S = ⟨l.toArray⟩ := ⟨_, rfl⟩
  have hsz : S.size = l.length := by rw [hS]; simp [ByteArray.size]
  have f1 : decide ((200 : Int) < (l.length : Int)) = true := decide_eq_true (by omega)
  have f2 : decide ((l.length : Int) ≤ 65536) = false := decide_eq_false (by omega)
  have hps := fun wx => parseq_any l wx (.inr (by omega)) hm
  have hrs := fun wx => rparseq_any l wx (.inr (by omega)) hm
  have ec : prC l < 1000 := by unfold prC; split <;> (try split) <;> decide
  have hlq : rl (prQ l) ≤ 1000 := by
    unfold prQ; rw [if_pos hl, rl_zero]; decide
  obtain ⟨q, hq⟩ : ∃ q, q = prQ l := ⟨_, rfl⟩; obtain ⟨E, hE⟩ : ∃ E, E = prC l := ⟨_, rfl⟩; obtain ⟨T, hT⟩ : ∃ T : ByteArray, T = ⟨(rtx p).toArray⟩ := ⟨_, rfl⟩
  have g1 : (T.toList == T.toList) = true := by simp
  rw [← hS, ← hq, ← hE] at hps hrs; rw [← hq] at hlq; rw [← hE] at ec; rw [← hS]
  have HPS := Lib.hid hps; have HRS := Lib.hid hrs; have HT := Lib.hid hT; clear hps hrs hT hq hE hS
  have hb0 := ((Below.refl w.heap.size w).alloc (by first | (simp; done) | (simp; omega)) (.cells #[.bool sp, .slice op np cp, .slice ap mp dp] 24))
  have hxp := nest1_0 w (.cells #[.bool sp, .slice op np cp, .slice ap mp dp] 24)
  have hpp := hp.below hb0
  obtain ⟨w0, hw0⟩ : ∃ w0, w0 = (w.alloc (.cells #[.bool sp, .slice op np cp, .slice ap mp dp] 24)) := ⟨_, rfl⟩
  rw [← hw0] at hb0 hxp hpp
  have HB0 := Lib.hid hb0; have HW0 := Lib.hid hw0
  have BXp := Lib.hid hxp
  have Fp := Lib.hid hpp
  clear hb0 hw0 hxp hpp hp
  have zzp : np ≤ 12 ∧ mp ≤ 12 := zp; clear zp
  have _lp := lp
  go_enter Tryd.func3, Tryd.ntmps3
  have hs := awake02 w0
  have HS := Lib.hid hs; clear hs
  go_wp2_with fail
  rw [← HW0.out]
  (with_reducible refine HS.out.mono ?_); rintro e w1 ⟨rfl, hb1⟩
  clear HS
  have HB1 := Lib.hid (HB0.out.step hb1)
  have Fp := Lib.hid (Fp.out.below hb1)
  have BXp := Lib.hid (heap_below BXp.out hb1)
  clear hb1
  obtain ⟨ep0, ep1, ep2⟩ := row3 BXp.out
  obtain ⟨w2, hw2⟩ : ∃ w2, w2 = w1.alloc (.cells #[.bool sp, .slice op np cp, .slice ap mp dp] 24) := ⟨_, rfl⟩
  have hb2 : Below w1.heap.size w1 w2 := by rw [hw2]; exact (Below.refl _ _).alloc (Nat.le_refl _) _
  have hxLS := heap_alloc_new w1 (.cells #[.bool sp, .slice op np cp, .slice ap mp dp] 24)
  obtain ⟨gLS, hgLS⟩ : ∃ gLS, gLS = w1.heap.size := ⟨_, rfl⟩
  rw [← hw2, ← hgLS] at hxLS
  have HW2 := Lib.hid hw2; have HGLS := Lib.hid hgLS; clear hw2 hgLS
  have HB2 := Lib.hid (HB1.out.step hb2)
  have Fp := Lib.hid (Fp.out.below hb2)
  have BXp := Lib.hid (heap_below BXp.out hb2)
  clear hb2
  have BXLS := Lib.hid hxLS; clear hxLS
  have hs := rlarge1s BXLS.out zzp
  have HS := Lib.hid hs; clear hs
  go_wp2_with fail
  rw [← HW2.out]
  try rw [← HGLS.out]
  (with_reducible refine HS.out.mono ?_); rintro e w3 ⟨rfl, hb3⟩
  clear HS
  have HB3 := Lib.hid (HB2.out.step hb3)
  have Fp := Lib.hid (Fp.out.below hb3)
  have BXp := Lib.hid (heap_below BXp.out hb3)
  clear hb3
  clear BXLS
  have hs := HPS.out w3
  have HS := Lib.hid hs; clear hs
  go_wp2_with fail
  (with_reducible refine HS.out.mono ?_); rintro e w4 ⟨v4, rfl, hb4, hn4⟩
  clear HS
  have HB4 := Lib.hid (HB3.out.step hb4)
  have Fp := Lib.hid (Fp.out.below hb4)
  have BXp := Lib.hid (heap_below BXp.out hb4)
  have X := Lib.hid hn4; clear hn4
  clear hb4
  obtain ⟨sX, oX, nX, cX, aX, mX, dX, rfl⟩ := X.out.shape
  obtain ⟨w5, hw5⟩ : ∃ w5, w5 = w4.alloc (.cells #[.bool sX, .slice oX nX cX, .slice aX mX dX] 24) := ⟨_, rfl⟩
  have hb5 : Below w4.heap.size w4 w5 := by rw [hw5]; exact (Below.refl _ _).alloc (Nat.le_refl _) _
  have hxx := heap_alloc_new w4 (.cells #[.bool sX, .slice oX nX cX, .slice aX mX dX] 24)
  obtain ⟨gx, hgx⟩ : ∃ gx, gx = w4.heap.size := ⟨_, rfl⟩
  rw [← hw5, ← hgx] at hxx
  have HW5 := Lib.hid hw5; have HGx := Lib.hid hgx; clear hw5 hgx
  have HB5 := Lib.hid (HB4.out.step hb5)
  have Fp := Lib.hid (Fp.out.below hb5)
  have X := Lib.hid (X.out.below hb5)
  have BXp := Lib.hid (heap_below BXp.out hb5)
  clear hb5
  have BXx := Lib.hid hxx; clear hxx
  have hs := HRS.out w5
  have HS := Lib.hid hs; clear hs
  go_wp2_with fail
  rw [← HW5.out]
  try rw [← HGx.out]
  (with_reducible refine HS.out.mono ?_); rintro e w6 ⟨v6, rfl, hb6, hn6⟩
  clear HS
  have HB6 := Lib.hid (HB5.out.step hb6)
  have Fp := Lib.hid (Fp.out.below hb6)
  have X := Lib.hid (X.out.below hb6)
  have BXp := Lib.hid (heap_below BXp.out hb6)
  have BXx := Lib.hid (heap_below BXx.out hb6)
  have Y := Lib.hid hn6; clear hn6
  clear hb6
  obtain ⟨sY, oY, nY, cY, aY, mY, dY, rfl⟩ := Y.out.shape
  obtain ⟨w7, hw7⟩ : ∃ w7, w7 = w6.alloc (.cells #[.bool sY, .slice oY nY cY, .slice aY mY dY] 24) := ⟨_, rfl⟩
  have hb7 : Below w6.heap.size w6 w7 := by rw [hw7]; exact (Below.refl _ _).alloc (Nat.le_refl _) _
  have hxy := heap_alloc_new w6 (.cells #[.bool sY, .slice oY nY cY, .slice aY mY dY] 24)
  obtain ⟨gy, hgy⟩ : ∃ gy, gy = w6.heap.size := ⟨_, rfl⟩
  rw [← hw7, ← hgy] at hxy
  have HW7 := Lib.hid hw7; have HGy := Lib.hid hgy; clear hw7 hgy
  have HB7 := Lib.hid (HB6.out.step hb7)
  have Fp := Lib.hid (Fp.out.below hb7)
  have X := Lib.hid (X.out.below hb7)
  have Y := Lib.hid (Y.out.below hb7)
  have BXp := Lib.hid (heap_below BXp.out hb7)
  have BXx := Lib.hid (heap_below BXx.out hb7)
  clear hb7
  have BXy := Lib.hid hxy; clear hxy
  have HBC := Lib.hid ((Below.refl w7.heap.size w7).drew)
  have hc := fun w1 (h1 : Below w7.heap.size w7 w1) => textq_any _ p w1 (Fp.out.below h1)
  rw [← HT.out] at hc
  have CT := Lib.hid hc; clear hc
  have hc := fun w1 (h1 : Below w7.heap.size w7 w1) => rtextq_any _ p w1 (Fp.out.below h1)
  rw [← HT.out] at hc
  have CRT := Lib.hid hc; clear hc
  have hc := fun w1 (h1 : Below w7.heap.size w7 w1) => rat_same _ _ q w1 (X.out.below h1) (Y.out.below h1) (by omega)
  have CQ := Lib.hid hc; clear hc
  have hc := fun w1 => num_any E w1 ec
  have CE := Lib.hid hc; clear hc
  have Zp := Lib.hid (fun w1 (h1 : Below w7.heap.size w7 w1) => row3 (heap_below BXp.out h1))
  have Zx := Lib.hid (fun w1 (h1 : Below w7.heap.size w7 w1) => row3 (heap_below BXx.out h1))
  have Zy := Lib.hid (fun w1 (h1 : Below w7.heap.size w7 w1) => row3 (heap_below BXy.out h1))
  go_wp2_with fail
  rw [← HW7.out]
  try rw [← HGy.out]
  obtain ⟨zp0, zp1, zp2⟩ := Zp.out _ HBC.out
  obtain ⟨zx0, zx1, zx2⟩ := Zx.out _ HBC.out
  obtain ⟨zy0, zy1, zy2⟩ := Zy.out _ HBC.out
  go_region_held3 (fun wx => wx.cell? ⟨w.heap.size, 0, none⟩ = some (.bool sp) ∧ wx.cell? ⟨w.heap.size, 1, none⟩ = some (.slice op np cp) ∧ wx.cell? ⟨w.heap.size, 2, none⟩ = some (.slice ap mp dp) ∧ wx.cell? ⟨gx, 0, none⟩ = some (.bool sX) ∧ wx.cell? ⟨gx, 1, none⟩ = some (.slice oX nX cX) ∧ wx.cell? ⟨gx, 2, none⟩ = some (.slice aX mX dX) ∧ wx.cell? ⟨gy, 0, none⟩ = some (.bool sY) ∧ wx.cell? ⟨gy, 1, none⟩ = some (.slice oY nY cY) ∧ wx.cell? ⟨gy, 2, none⟩ = some (.slice aY mY dY)) (first | exact ⟨zp0, zp1, zp2, zx0, zx1, zx2, zy0, zy1, zy2⟩ | exact put6 (by omega) (by omega) (by omega) ⟨zp0, zp1, zp2, zx0, zx1, zx2, zy0, zy1, zy2⟩ | exact al3 ⟨zp0, zp1, zp2, zx0, zx1, zx2, zy0, zy1, zy2⟩ | exact put3c (by omega) (al3 ⟨zp0, zp1, zp2, zx0, zx1, zx2, zy0, zy1, zy2⟩)) (first
    | (go_at_call 15; (with_reducible refine (CT.out _ HBC.out).mono ?_); rintro e wr0 ⟨rfl, hb⟩; (have HBC := Lib.hid (HBC.out.step hb)); clear hb; (obtain ⟨zp0, zp1, zp2⟩ := Zp.out _ HBC.out); (obtain ⟨zx0, zx1, zx2⟩ := Zx.out _ HBC.out); (obtain ⟨zy0, zy1, zy2⟩ := Zy.out _ HBC.out))
    | (go_at_call 16; (with_reducible refine (CRT.out _ HBC.out).mono ?_); rintro e wr1 ⟨rfl, hb⟩; (have HBC := Lib.hid (HBC.out.step hb)); clear hb; (obtain ⟨zp0, zp1, zp2⟩ := Zp.out _ HBC.out); (obtain ⟨zx0, zx1, zx2⟩ := Zx.out _ HBC.out); (obtain ⟨zy0, zy1, zy2⟩ := Zy.out _ HBC.out))
    | (go_at_call 17; (with_reducible refine (CQ.out _ HBC.out).mono ?_); rintro e wr2 ⟨rfl, hb⟩; (have HBC := Lib.hid (HBC.out.step hb)); clear hb; (obtain ⟨zp0, zp1, zp2⟩ := Zp.out _ HBC.out); (obtain ⟨zx0, zx1, zx2⟩ := Zx.out _ HBC.out); (obtain ⟨zy0, zy1, zy2⟩ := Zy.out _ HBC.out))
    | (go_at_call 18; (with_reducible refine (CE.out _).mono ?_); rintro e wr3 ⟨rfl, rfl⟩))
  have Fp := Lib.hid (Fp.out.below HBC.out)
  have X := Lib.hid (X.out.below HBC.out)
  have Y := Lib.hid (Y.out.below HBC.out)
  have BXp := Lib.hid (heap_below BXp.out HBC.out)
  have BXx := Lib.hid (heap_below BXx.out HBC.out)
  have BXy := Lib.hid (heap_below BXy.out HBC.out)
  have HB8 := Lib.hid (HB7.out.step HBC.out)
  go_wp2_with fail
  go_ret
  exact ⟨by first | rfl | (simp; done), HB8.out⟩
theorem texts_small (vp : Value) (p : Rat) (l : List UInt8) (w : World) (hp : RatIs w vp p) (lp : rl p ≤ 12) (zp : (szR vp).1 ≤ 12 ∧ (szR vp).2 ≤ 12) (hm : l.length ≤ 9223372036854775807) :
    Calls Tryd.prog 3 #[vp, .string ⟨l.toArray⟩] w (RetV w (.bool true)) := by
  by_cases h : 200 < l.length
  · by_cases h2 : l.length ≤ 65536
    · exact texts_small0 vp p l w hp lp zp h h2
    · exact texts_small2 vp p l w hp lp zp (by omega) hm
  · exact texts_small1 vp p l w hp lp zp (by omega) hm
set_option maxRecDepth 100000 in
set_option maxHeartbeats 3200000 in
theorem texts_big (vp : Value) (np mp : Nat) (l : List UInt8) (w : World) (hp : RatSz vp np mp) (hb : 12 < np ∨ 12 < mp) :
    Calls Tryd.prog 3 #[vp, .string ⟨l.toArray⟩] w (RetV w (.bool true)) := by
  obtain ⟨sp, op, cp, ap, dp, rfl, zp⟩ := hp
  have HBIG := Lib.hid hb; clear hb
  have hb0 := ((Below.refl w.heap.size w).alloc (by first | (simp; done) | (simp; omega)) (.cells #[.bool sp, .slice op np cp, .slice ap mp dp] 24))
  have hxp := nest1_0 w (.cells #[.bool sp, .slice op np cp, .slice ap mp dp] 24)
  obtain ⟨w0, hw0⟩ : ∃ w0, w0 = (w.alloc (.cells #[.bool sp, .slice op np cp, .slice ap mp dp] 24)) := ⟨_, rfl⟩
  rw [← hw0] at hb0 hxp
  have HB0 := Lib.hid hb0; have HW0 := Lib.hid hw0
  have BXp := Lib.hid hxp
  clear hb0 hw0 hxp
  go_enter Tryd.func3, Tryd.ntmps3
  have hs := awake02 w0
  have HS := Lib.hid hs; clear hs
  go_wp2_with fail
  rw [← HW0.out]
  (with_reducible refine HS.out.mono ?_); rintro e w1 ⟨rfl, hb1⟩
  clear HS
  have HB1 := Lib.hid (HB0.out.step hb1)
  have BXp := Lib.hid (heap_below BXp.out hb1)
  clear hb1
  obtain ⟨ep0, ep1, ep2⟩ := row3 BXp.out
  obtain ⟨w2, hw2⟩ : ∃ w2, w2 = w1.alloc (.cells #[.bool sp, .slice op np cp, .slice ap mp dp] 24) := ⟨_, rfl⟩
  have hb2 : Below w1.heap.size w1 w2 := by rw [hw2]; exact (Below.refl _ _).alloc (Nat.le_refl _) _
  have hxLS := heap_alloc_new w1 (.cells #[.bool sp, .slice op np cp, .slice ap mp dp] 24)
  obtain ⟨gLS, hgLS⟩ : ∃ gLS, gLS = w1.heap.size := ⟨_, rfl⟩
  rw [← hw2, ← hgLS] at hxLS
  have HW2 := Lib.hid hw2; have HGLS := Lib.hid hgLS; clear hw2 hgLS
  have HB2 := Lib.hid (HB1.out.step hb2)
  have BXp := Lib.hid (heap_below BXp.out hb2)
  clear hb2
  have BXLS := Lib.hid hxLS; clear hxLS
  have hs := rlarge1b BXLS.out zp HBIG.out
  have HS := Lib.hid hs; clear hs
  go_wp2_with fail
  rw [← HW2.out]
  try rw [← HGLS.out]
  (with_reducible refine HS.out.mono ?_); rintro e w3 ⟨rfl, hb3⟩
  clear HS
  have HB3 := Lib.hid (HB2.out.step hb3)
  have BXp := Lib.hid (heap_below BXp.out hb3)
  clear hb3
  clear BXLS
  have hs := awake02 w3
  have HS := Lib.hid hs; clear hs
  go_wp2_with fail
  (with_reducible refine HS.out.mono ?_); rintro e w4 ⟨rfl, hb4⟩
  clear HS
  have HB4 := Lib.hid (HB3.out.step hb4)
  have BXp := Lib.hid (heap_below BXp.out hb4)
  clear hb4
  go_wp2_with fail
  go_ret
  exact ⟨rfl, HB4.out⟩
theorem texts02_walkl (vp : Value) (sp : Bool) (ap bp : List Nat) (l : List UInt8) (w : World) (hp : RatV w vp sp ap bp) (hm : l.length ≤ 9223372036854775807) :
    Calls Tryd.prog 3 #[vp, .string ⟨l.toArray⟩] w (RetV w (.bool true)) := by
  obtain ⟨yp, ep⟩ := hp.sz
  by_cases hb : 12 < ap.length ∨ 12 < bp.length
  · exact texts_big vp ap.length bp.length l w yp hb
  · obtain ⟨up, tp⟩ := hp.lt
    exact texts_small vp (rq sp ap bp) l w (hp.is (by omega) (by omega)) (rl_rq up tp (by omega) (by omega) (by decide)) (by rw [ep]; exact ⟨by show ap.length ≤ 12; omega, by show bp.length ≤ 12; omega⟩) hm
theorem texts02_walk (vp : Value) (sp : Bool) (ap bp : List Nat) (t : ByteArray) (w : World) (hp : RatV w vp sp ap bp) (hm : t.size ≤ 9223372036854775807) :
    Calls Tryd.prog 3 #[vp, .string t] w (RetV w (.bool true)) := by
  obtain ⟨⟨l⟩⟩ := t
  exact texts02_walkl vp sp ap bp l w hp hm
end Go.Proofs.YtabdndlaelfdeaaDoor
