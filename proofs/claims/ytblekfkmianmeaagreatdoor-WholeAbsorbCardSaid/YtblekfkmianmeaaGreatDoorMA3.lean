/-
  What the law leans on, one text behind the other (the base).
  Conditions: each theorem's own.
-/
import Derived.Deep.MidRow
import Derived.Laws.AppendOwn
import Derived.Deep.Slices
import Derived.Deep.Strs
import Derived.Laws.OwnMore
import Derived.Test.YtblekfkmianmeaaGreatDoorMA2
set_option maxRecDepth 100000
set_option maxHeartbeats 16000000
namespace Go.Proofs.YtblekfkmianmeaaGreatDoor
open Go.RowKit Go.ChangeShapes Go.WideShapes
theorem nest1_0 (w : World) (a : Obj) : (w.alloc a).heap[w.heap.size]? = some a := heap_alloc_new w a
theorem nest2_0 (w : World) (a b : Obj) : ((w.alloc a).alloc b).heap[w.heap.size]? = some a := by
 rw [heap_alloc_old _ _ (by simp), heap_alloc_new]
theorem nest2_1 (w : World) (a b : Obj) : ((w.alloc a).alloc b).heap[w.heap.size + 1]? = some b := by
 rw [show w.heap.size + 1 = (w.alloc a).heap.size from by simp, heap_alloc_new]
theorem nest3_0 (w : World) (a b c : Obj) : (((w.alloc a).alloc b).alloc c).heap[w.heap.size]? = some a := by
 rw [heap_alloc_old _ _ (by simp; omega), nest2_0]
theorem nest3_1 (w : World) (a b c : Obj) : (((w.alloc a).alloc b).alloc c).heap[w.heap.size + 1]? = some b := by
 rw [heap_alloc_old _ _ (by simp), nest2_1]
theorem nest3_2 (w : World) (a b c : Obj) : (((w.alloc a).alloc b).alloc c).heap[w.heap.size + 2]? = some c := by
 rw [show w.heap.size + 2 = ((w.alloc a).alloc b).heap.size from by simp, heap_alloc_new]
theorem q_mul' (p q : Rat) : qm (!(ng p == ng q)) (nn p * nn q) (p.den * q.den) = p * q := q_mul p q
theorem q_div' (p q : Rat) (h : q ≠ 0) : qm (!(ng p == ng q)) (nn p * q.den) (p.den * nn q) = p / q := q_div p q h

theorem neg_any (vp : Value) (p : Rat) (w : World) (hp : qcn w vp p)  :
  Calls Tryz.prog 31 #[vp] w (RetR w (-p)) := by
 obtain ⟨sp, op, np, cp, ap, mp, dp, rfl⟩ := hp.shape
 have hlp := hp.rl
 have hb0 := (((Below.refl w.heap.size w).alloc (by first | (simp; done) | (simp; omega)) (.cells #[.bool sp, .slice op np cp, .slice ap mp dp] 37)).alloc (by first | (simp; done) | (simp; omega)) (.cells #[.bool false, .slice none 0 0, .slice none 0 0] 37))
 have hxp := nest2_0 w (.cells #[.bool sp, .slice op np cp, .slice ap mp dp] 37) (.cells #[.bool false, .slice none 0 0, .slice none 0 0] 37)
 have hxR := nest2_1 w (.cells #[.bool sp, .slice op np cp, .slice ap mp dp] 37) (.cells #[.bool false, .slice none 0 0, .slice none 0 0] 37)
 have hpp := hp.below hb0
 obtain ⟨w0, hw0⟩ : ∃ w0, w0 = ((w.alloc (.cells #[.bool sp, .slice op np cp, .slice ap mp dp] 37)).alloc (.cells #[.bool false, .slice none 0 0, .slice none 0 0] 37)) := ⟨_, rfl⟩
 rw [← hw0] at hb0 hxp hxR hpp
 have HB0 := qHd hb0; have HW0 := qHd hw0
 have BXp := qHd hxp
 have BXR := qHd hxR
 have Fp := qHd hpp
 clear hb0 hw0 hxp hxR hpp hp
 have l1 := rl_n p; have l2 := rl_d p
 go_enter Tryz.func31, Tryz.ntmps31
 have hs := qbq _ p w0 Fp.out
 have HS := qHd hs; clear hs
 go_wp2_with fail
 rw [← HW0.out]
 (with_reducible refine HS.out.mono ?_); rintro e w1 ⟨v1, u1, rfl, hb1, hn1, hm1⟩
 clear HS
 have HB1 := qHd (HB0.out.step hb1)
 have Fp := qHd (Fp.out.below hb1)
 have BXp := qHd (qab BXp.out hb1)
 have BXR := qHd (qab BXR.out hb1)
 have N := qHd hn1
 have D := qHd hm1
 clear hn1 hm1
 clear hb1
 have hs := formN (!ng p) N.out D.out (by omega) (by omega) p.den_nz
 rw [q_neg] at hs
 have HS := qHd hs; clear hs
 go_wp2_with fail
 (with_reducible refine HS.out.mono ?_); rintro e w2 ⟨v2, rfl, hb2, hn2⟩
 clear HS
 have HB2 := qHd (HB1.out.step hb2)
 have Fp := qHd (Fp.out.below hb2)
 have N := qHd (N.out.below hb2)
 have D := qHd (D.out.below hb2)
 have BXp := qHd (qab BXp.out hb2)
 have BXR := qHd (qab BXR.out hb2)
 have Q := qHd hn2; clear hn2
 clear hb2
 obtain ⟨sQ, oQ, nQ, cQ, aQ, mQ, dQ, rfl⟩ := Q.out.shape
 obtain ⟨eR0, eR1, eR2⟩ := row3 BXR.out
 obtain ⟨fR0, fR1, fR2⟩ := froz3 BXR.out
 go_wp2_with fail
 clear eR0 eR1 eR2 fR0 fR1 fR2
 refine ret_rat rfl (w.heap.size + 1) _ _ _ rfl (qce BXR.out) rfl ?_
 exact ⟨_, rfl, qbx HB2.out (by omega) _ _ _, isR_put Q.out BXR.out⟩
theorem mulq_any (vp : Value) (p : Rat) (vq : Value) (q : Rat) (w : World) (hp : qcn w vp p) (hq : qcn w vq q)  :
  Calls Tryz.prog 14 #[vp, vq] w (RetR w (p * q)) := by
 obtain ⟨sp, op, np, cp, ap, mp, dp, rfl⟩ := hp.shape
 have hlp := hp.rl
 obtain ⟨sq, oq, nq, cq, aq, mq, dq, rfl⟩ := hq.shape
 have hlq := hq.rl
 have hb0 := ((((Below.refl w.heap.size w).alloc (by first | (simp; done) | (simp; omega)) (.cells #[.bool sp, .slice op np cp, .slice ap mp dp] 37)).alloc (by first | (simp; done) | (simp; omega)) (.cells #[.bool sq, .slice oq nq cq, .slice aq mq dq] 37)).alloc (by first | (simp; done) | (simp; omega)) (.cells #[.bool false, .slice none 0 0, .slice none 0 0] 37))
 have hxp := nest3_0 w (.cells #[.bool sp, .slice op np cp, .slice ap mp dp] 37) (.cells #[.bool sq, .slice oq nq cq, .slice aq mq dq] 37) (.cells #[.bool false, .slice none 0 0, .slice none 0 0] 37)
 have hxq := nest3_1 w (.cells #[.bool sp, .slice op np cp, .slice ap mp dp] 37) (.cells #[.bool sq, .slice oq nq cq, .slice aq mq dq] 37) (.cells #[.bool false, .slice none 0 0, .slice none 0 0] 37)
 have hxR := nest3_2 w (.cells #[.bool sp, .slice op np cp, .slice ap mp dp] 37) (.cells #[.bool sq, .slice oq nq cq, .slice aq mq dq] 37) (.cells #[.bool false, .slice none 0 0, .slice none 0 0] 37)
 have hpp := hp.below hb0
 have hpq := hq.below hb0
 obtain ⟨w0, hw0⟩ : ∃ w0, w0 = (((w.alloc (.cells #[.bool sp, .slice op np cp, .slice ap mp dp] 37)).alloc (.cells #[.bool sq, .slice oq nq cq, .slice aq mq dq] 37)).alloc (.cells #[.bool false, .slice none 0 0, .slice none 0 0] 37)) := ⟨_, rfl⟩
 rw [← hw0] at hb0 hxp hxq hxR hpp hpq
 have HB0 := qHd hb0; have HW0 := qHd hw0
 have BXp := qHd hxp
 have BXq := qHd hxq
 have BXR := qHd hxR
 have Fp := qHd hpp
 have Fq := qHd hpq
 clear hb0 hw0 hxp hxq hxR hpp hp hpq hq
 have l1 := rl_n p; have l2 := rl_d p; have l3 := rl_n q; have l4 := rl_d q
 have L1 : (wd (nn p * nn q)).length ≤ 200000 := by have := qbk (nn p) (nn q); have := rl_n p; have := rl_n q; omega
 have L2 : (wd (p.den * q.den)).length ≤ 200000 := by have := qbk p.den q.den; have := rl_d p; have := rl_d q; omega
 go_enter Tryz.func14, Tryz.ntmps14
 have hs := qbq _ p w0 Fp.out
 have HS := qHd hs; clear hs
 go_wp2_with fail
 rw [← HW0.out]
 (with_reducible refine HS.out.mono ?_); rintro e w1 ⟨v1, u1, rfl, hb1, hn1, hm1⟩
 clear HS
 have HB1 := qHd (HB0.out.step hb1)
 have Fp := qHd (Fp.out.below hb1)
 have Fq := qHd (Fq.out.below hb1)
 have BXp := qHd (qab BXp.out hb1)
 have BXq := qHd (qab BXq.out hb1)
 have BXR := qHd (qab BXR.out hb1)
 have N := qHd hn1
 have D := qHd hm1
 clear hn1 hm1
 clear hb1
 have hs := qbq _ q w1 Fq.out
 have HS := qHd hs; clear hs
 obtain ⟨eq0, eq1, eq2⟩ := row3 BXq.out
 go_wp2_with fail
 clear eq0 eq1 eq2
 (with_reducible refine HS.out.mono ?_); rintro e w2 ⟨v2, u2, rfl, hb2, hn2, hm2⟩
 clear HS
 have HB2 := qHd (HB1.out.step hb2)
 have Fp := qHd (Fp.out.below hb2)
 have Fq := qHd (Fq.out.below hb2)
 have N := qHd (N.out.below hb2)
 have D := qHd (D.out.below hb2)
 have BXp := qHd (qab BXp.out hb2)
 have BXq := qHd (qab BXq.out hb2)
 have BXR := qHd (qab BXR.out hb2)
 have M := qHd hn2
 have E := qHd hm2
 clear hn2 hm2
 clear hb2
 have hs := mulN N.out M.out (by omega) (by omega)
 have HS := qHd hs; clear hs
 go_wp2_with fail
 (with_reducible refine HS.out.mono ?_); rintro e w3 ⟨v3, rfl, hb3, hn3⟩
 clear HS
 have HB3 := qHd (HB2.out.step hb3)
 have Fp := qHd (Fp.out.below hb3)
 have Fq := qHd (Fq.out.below hb3)
 have N := qHd (N.out.below hb3)
 have D := qHd (D.out.below hb3)
 have M := qHd (M.out.below hb3)
 have E := qHd (E.out.below hb3)
 have BXp := qHd (qab BXp.out hb3)
 have BXq := qHd (qab BXq.out hb3)
 have BXR := qHd (qab BXR.out hb3)
 have NM := qHd hn3; clear hn3
 clear hb3
 have hs := mulN D.out E.out (by omega) (by omega)
 have HS := qHd hs; clear hs
 go_wp2_with fail
 (with_reducible refine HS.out.mono ?_); rintro e w4 ⟨v4, rfl, hb4, hn4⟩
 clear HS
 have HB4 := qHd (HB3.out.step hb4)
 have Fp := qHd (Fp.out.below hb4)
 have Fq := qHd (Fq.out.below hb4)
 have N := qHd (N.out.below hb4)
 have D := qHd (D.out.below hb4)
 have M := qHd (M.out.below hb4)
 have E := qHd (E.out.below hb4)
 have NM := qHd (NM.out.below hb4)
 have BXp := qHd (qab BXp.out hb4)
 have BXq := qHd (qab BXq.out hb4)
 have BXR := qHd (qab BXR.out hb4)
 have DE := qHd hn4; clear hn4
 clear hb4
 have hs := formN (!(ng p == ng q)) NM.out DE.out (by omega) (by omega) (qdf p.den_nz q.den_nz)
 rw [q_mul'] at hs
 have HS := qHd hs; clear hs
 go_wp2_with fail
 (with_reducible refine HS.out.mono ?_); rintro e w5 ⟨v5, rfl, hb5, hn5⟩
 clear HS
 have HB5 := qHd (HB4.out.step hb5)
 have Fp := qHd (Fp.out.below hb5)
 have Fq := qHd (Fq.out.below hb5)
 have N := qHd (N.out.below hb5)
 have D := qHd (D.out.below hb5)
 have M := qHd (M.out.below hb5)
 have E := qHd (E.out.below hb5)
 have NM := qHd (NM.out.below hb5)
 have DE := qHd (DE.out.below hb5)
 have BXp := qHd (qab BXp.out hb5)
 have BXq := qHd (qab BXq.out hb5)
 have BXR := qHd (qab BXR.out hb5)
 have Q := qHd hn5; clear hn5
 clear hb5
 obtain ⟨sQ, oQ, nQ, cQ, aQ, mQ, dQ, rfl⟩ := Q.out.shape
 obtain ⟨eR0, eR1, eR2⟩ := row3 BXR.out
 obtain ⟨fR0, fR1, fR2⟩ := froz3 BXR.out
 go_wp2_with fail
 clear eR0 eR1 eR2 fR0 fR1 fR2
 refine ret_rat rfl (w.heap.size + 2) _ _ _ rfl (qce BXR.out) rfl ?_
 exact ⟨_, rfl, qbx HB5.out (by omega) _ _ _, isR_put Q.out BXR.out⟩
theorem add_same (vp : Value) (p : Rat) (vq : Value) (q : Rat) (w : World) (hp : qcn w vp p) (hq : qcn w vq q) (hs : ng p = ng q) :
  Calls Tryz.prog 9 #[vp, vq] w (RetR w (p + q)) := by
 obtain ⟨sp, op, np, cp, ap, mp, dp, rfl⟩ := hp.shape
 have hlp := hp.rl
 obtain ⟨sq, oq, nq, cq, aq, mq, dq, rfl⟩ := hq.shape
 have hlq := hq.rl
 have hb0 := ((((Below.refl w.heap.size w).alloc (by first | (simp; done) | (simp; omega)) (.cells #[.bool sp, .slice op np cp, .slice ap mp dp] 37)).alloc (by first | (simp; done) | (simp; omega)) (.cells #[.bool sq, .slice oq nq cq, .slice aq mq dq] 37)).alloc (by first | (simp; done) | (simp; omega)) (.cells #[.bool false, .slice none 0 0, .slice none 0 0] 37))
 have hxp := nest3_0 w (.cells #[.bool sp, .slice op np cp, .slice ap mp dp] 37) (.cells #[.bool sq, .slice oq nq cq, .slice aq mq dq] 37) (.cells #[.bool false, .slice none 0 0, .slice none 0 0] 37)
 have hxq := nest3_1 w (.cells #[.bool sp, .slice op np cp, .slice ap mp dp] 37) (.cells #[.bool sq, .slice oq nq cq, .slice aq mq dq] 37) (.cells #[.bool false, .slice none 0 0, .slice none 0 0] 37)
 have hxR := nest3_2 w (.cells #[.bool sp, .slice op np cp, .slice ap mp dp] 37) (.cells #[.bool sq, .slice oq nq cq, .slice aq mq dq] 37) (.cells #[.bool false, .slice none 0 0, .slice none 0 0] 37)
 have hpp := hp.below hb0
 have hpq := hq.below hb0
 obtain ⟨w0, hw0⟩ : ∃ w0, w0 = (((w.alloc (.cells #[.bool sp, .slice op np cp, .slice ap mp dp] 37)).alloc (.cells #[.bool sq, .slice oq nq cq, .slice aq mq dq] 37)).alloc (.cells #[.bool false, .slice none 0 0, .slice none 0 0] 37)) := ⟨_, rfl⟩
 rw [← hw0] at hb0 hxp hxq hxR hpp hpq
 have HB0 := qHd hb0; have HW0 := qHd hw0
 have BXp := qHd hxp
 have BXq := qHd hxq
 have BXR := qHd hxR
 have Fp := qHd hpp
 have Fq := qHd hpq
 clear hb0 hw0 hxp hxq hxR hpp hp hpq hq
 have l1 := rl_n p; have l2 := rl_d p; have l3 := rl_n q; have l4 := rl_d q
 have L1 : (wd (nn p * q.den)).length ≤ 200000 := by have := qbk (nn p) q.den; omega
 have L2 : (wd (nn q * p.den)).length ≤ 200000 := by have := qbk (nn q) p.den; omega
 have L3 : (wd (p.den * q.den)).length ≤ 200000 := by have := qbk p.den q.den; omega
 have heq := q_add_same p q hs
 have HEQ := qHd heq; clear heq
 have L4 : (wd (nn p * q.den + nn q * p.den)).length ≤ 200001 := by have := wd_add_len (nn p * q.den) (nn q * p.den); omega
 have f1 : (ng p == ng q) = true := by rw [beq_iff_eq]; exact hs
 obtain ⟨x, hx⟩ : ∃ x, x = ng p := ⟨_, rfl⟩; obtain ⟨y, hy⟩ : ∃ y, y = ng q := ⟨_, rfl⟩
 rw [← hx, ← hy] at f1
 have HX := qHd hx; have HY := qHd hy; clear hx hy hs
 go_enter Tryz.func9, Tryz.ntmps9
 have hs := qbq _ p w0 Fp.out
 have HS := qHd hs; clear hs
 go_wp2_with fail
 rw [← HW0.out]
 (with_reducible refine HS.out.mono ?_); rintro e w1 ⟨v1, u1, rfl, hb1, hn1, hm1⟩
 clear HS
 have HB1 := qHd (HB0.out.step hb1)
 have Fp := qHd (Fp.out.below hb1)
 have Fq := qHd (Fq.out.below hb1)
 have BXp := qHd (qab BXp.out hb1)
 have BXq := qHd (qab BXq.out hb1)
 have BXR := qHd (qab BXR.out hb1)
 have N := qHd hn1
 have D := qHd hm1
 clear hn1 hm1
 clear hb1
 rw [← HX.out]
 have hs := qbq _ q w1 Fq.out
 have HS := qHd hs; clear hs
 obtain ⟨eq0, eq1, eq2⟩ := row3 BXq.out
 go_wp2_with fail
 clear eq0 eq1 eq2
 (with_reducible refine HS.out.mono ?_); rintro e w2 ⟨v2, u2, rfl, hb2, hn2, hm2⟩
 clear HS
 have HB2 := qHd (HB1.out.step hb2)
 have Fp := qHd (Fp.out.below hb2)
 have Fq := qHd (Fq.out.below hb2)
 have N := qHd (N.out.below hb2)
 have D := qHd (D.out.below hb2)
 have BXp := qHd (qab BXp.out hb2)
 have BXq := qHd (qab BXq.out hb2)
 have BXR := qHd (qab BXR.out hb2)
 have M := qHd hn2
 have E := qHd hm2
 clear hn2 hm2
 clear hb2
 rw [← HY.out]
 have hs := mulN N.out E.out (by omega) (by omega)
 have HS := qHd hs; clear hs
 go_wp2_with fail
 (with_reducible refine HS.out.mono ?_); rintro e w3 ⟨v3, rfl, hb3, hn3⟩
 clear HS
 have HB3 := qHd (HB2.out.step hb3)
 have Fp := qHd (Fp.out.below hb3)
 have Fq := qHd (Fq.out.below hb3)
 have N := qHd (N.out.below hb3)
 have D := qHd (D.out.below hb3)
 have M := qHd (M.out.below hb3)
 have E := qHd (E.out.below hb3)
 have BXp := qHd (qab BXp.out hb3)
 have BXq := qHd (qab BXq.out hb3)
 have BXR := qHd (qab BXR.out hb3)
 have X := qHd hn3; clear hn3
 clear hb3
 have hs := mulN M.out D.out (by omega) (by omega)
 have HS := qHd hs; clear hs
 go_wp2_with fail
 (with_reducible refine HS.out.mono ?_); rintro e w4 ⟨v4, rfl, hb4, hn4⟩
 clear HS
 have HB4 := qHd (HB3.out.step hb4)
 have Fp := qHd (Fp.out.below hb4)
 have Fq := qHd (Fq.out.below hb4)
 have N := qHd (N.out.below hb4)
 have D := qHd (D.out.below hb4)
 have M := qHd (M.out.below hb4)
 have E := qHd (E.out.below hb4)
 have X := qHd (X.out.below hb4)
 have BXp := qHd (qab BXp.out hb4)
 have BXq := qHd (qab BXq.out hb4)
 have BXR := qHd (qab BXR.out hb4)
 have Y := qHd hn4; clear hn4
 clear hb4
 have hs := mulN D.out E.out (by omega) (by omega)
 have HS := qHd hs; clear hs
 go_wp2_with fail
 (with_reducible refine HS.out.mono ?_); rintro e w5 ⟨v5, rfl, hb5, hn5⟩
 clear HS
 have HB5 := qHd (HB4.out.step hb5)
 have Fp := qHd (Fp.out.below hb5)
 have Fq := qHd (Fq.out.below hb5)
 have N := qHd (N.out.below hb5)
 have D := qHd (D.out.below hb5)
 have M := qHd (M.out.below hb5)
 have E := qHd (E.out.below hb5)
 have X := qHd (X.out.below hb5)
 have Y := qHd (Y.out.below hb5)
 have BXp := qHd (qab BXp.out hb5)
 have BXq := qHd (qab BXq.out hb5)
 have BXR := qHd (qab BXR.out hb5)
 have DE := qHd hn5; clear hn5
 clear hb5
 have hs := addN X.out Y.out (by omega) (by omega)
 have HS := qHd hs; clear hs
 go_wp2_with fail
 (with_reducible refine HS.out.mono ?_); rintro e w6 ⟨v6, rfl, hb6, hn6⟩
 clear HS
 have HB6 := qHd (HB5.out.step hb6)
 have Fp := qHd (Fp.out.below hb6)
 have Fq := qHd (Fq.out.below hb6)
 have N := qHd (N.out.below hb6)
 have D := qHd (D.out.below hb6)
 have M := qHd (M.out.below hb6)
 have E := qHd (E.out.below hb6)
 have X := qHd (X.out.below hb6)
 have Y := qHd (Y.out.below hb6)
 have DE := qHd (DE.out.below hb6)
 have BXp := qHd (qab BXp.out hb6)
 have BXq := qHd (qab BXq.out hb6)
 have BXR := qHd (qab BXR.out hb6)
 have S := qHd hn6; clear hn6
 clear hb6
 have hs := formN x S.out DE.out (by omega) (by omega) (qdf p.den_nz q.den_nz)
 have HS := qHd hs; clear hs
 go_wp2_with fail
 (with_reducible refine HS.out.mono ?_); rintro e w7 ⟨v7, rfl, hb7, hn7⟩
 clear HS
 have HB7 := qHd (HB6.out.step hb7)
 have Fp := qHd (Fp.out.below hb7)
 have Fq := qHd (Fq.out.below hb7)
 have N := qHd (N.out.below hb7)
 have D := qHd (D.out.below hb7)
 have M := qHd (M.out.below hb7)
 have E := qHd (E.out.below hb7)
 have X := qHd (X.out.below hb7)
 have Y := qHd (Y.out.below hb7)
 have DE := qHd (DE.out.below hb7)
 have S := qHd (S.out.below hb7)
 have BXp := qHd (qab BXp.out hb7)
 have BXq := qHd (qab BXq.out hb7)
 have BXR := qHd (qab BXR.out hb7)
 have Q := qHd hn7; clear hn7
 clear hb7
 have hq := Q.out; rw [HX.out, HEQ.out] at hq; have Q := qHd hq; clear hq
 obtain ⟨sQ, oQ, nQ, cQ, aQ, mQ, dQ, rfl⟩ := Q.out.shape
 obtain ⟨eR0, eR1, eR2⟩ := row3 BXR.out
 obtain ⟨fR0, fR1, fR2⟩ := froz3 BXR.out
 go_wp2_with fail
 clear eR0 eR1 eR2 fR0 fR1 fR2
 refine ret_rat rfl (w.heap.size + 2) _ _ _ rfl (qce BXR.out) rfl ?_
 exact ⟨_, rfl, qbx HB7.out (by omega) _ _ _, isR_put Q.out BXR.out⟩
theorem add_diff (vp : Value) (p : Rat) (vq : Value) (q : Rat) (w : World) (hp : qcn w vp p) (hq : qcn w vq q) (hs : ng p ≠ ng q) (hle : nn q * p.den ≤ nn p * q.den) :
  Calls Tryz.prog 9 #[vp, vq] w (RetR w (p + q)) := by
 obtain ⟨sp, op, np, cp, ap, mp, dp, rfl⟩ := hp.shape
 have hlp := hp.rl
 obtain ⟨sq, oq, nq, cq, aq, mq, dq, rfl⟩ := hq.shape
 have hlq := hq.rl
 have hb0 := ((((Below.refl w.heap.size w).alloc (by first | (simp; done) | (simp; omega)) (.cells #[.bool sp, .slice op np cp, .slice ap mp dp] 37)).alloc (by first | (simp; done) | (simp; omega)) (.cells #[.bool sq, .slice oq nq cq, .slice aq mq dq] 37)).alloc (by first | (simp; done) | (simp; omega)) (.cells #[.bool false, .slice none 0 0, .slice none 0 0] 37))
 have hxp := nest3_0 w (.cells #[.bool sp, .slice op np cp, .slice ap mp dp] 37) (.cells #[.bool sq, .slice oq nq cq, .slice aq mq dq] 37) (.cells #[.bool false, .slice none 0 0, .slice none 0 0] 37)
 have hxq := nest3_1 w (.cells #[.bool sp, .slice op np cp, .slice ap mp dp] 37) (.cells #[.bool sq, .slice oq nq cq, .slice aq mq dq] 37) (.cells #[.bool false, .slice none 0 0, .slice none 0 0] 37)
 have hxR := nest3_2 w (.cells #[.bool sp, .slice op np cp, .slice ap mp dp] 37) (.cells #[.bool sq, .slice oq nq cq, .slice aq mq dq] 37) (.cells #[.bool false, .slice none 0 0, .slice none 0 0] 37)
 have hpp := hp.below hb0
 have hpq := hq.below hb0
 obtain ⟨w0, hw0⟩ : ∃ w0, w0 = (((w.alloc (.cells #[.bool sp, .slice op np cp, .slice ap mp dp] 37)).alloc (.cells #[.bool sq, .slice oq nq cq, .slice aq mq dq] 37)).alloc (.cells #[.bool false, .slice none 0 0, .slice none 0 0] 37)) := ⟨_, rfl⟩
 rw [← hw0] at hb0 hxp hxq hxR hpp hpq
 have HB0 := qHd hb0; have HW0 := qHd hw0
 have BXp := qHd hxp
 have BXq := qHd hxq
 have BXR := qHd hxR
 have Fp := qHd hpp
 have Fq := qHd hpq
 clear hb0 hw0 hxp hxq hxR hpp hp hpq hq
 have l1 := rl_n p; have l2 := rl_d p; have l3 := rl_n q; have l4 := rl_d q
 have L1 : (wd (nn p * q.den)).length ≤ 200000 := by have := qbk (nn p) q.den; omega
 have L2 : (wd (nn q * p.den)).length ≤ 200000 := by have := qbk (nn q) p.den; omega
 have L3 : (wd (p.den * q.den)).length ≤ 200000 := by have := qbk p.den q.den; omega
 have heq := q_add_diff p q hs hle
 have HEQ := qHd heq; clear heq
 have f1 : (ng p == ng q) = false := by rw [beq_eq_false_iff_ne]; exact hs
 obtain ⟨c, hc⟩ : ∃ c, c = cmpN (nn p * q.den) (nn q * p.den) := ⟨_, rfl⟩
 have L4 : (wd (nn p * q.den - nn q * p.den)).length ≤ 200000 := by exact Nat.le_trans (qas (Nat.sub_le _ _)) L1
 have f2 : decide (0 ≤ c) = true := by rw [hc, decide_eq_true_eq]; unfold cmpN; rw [if_neg (by omega)]; split <;> decide
 have HC := qHd hc; have HLE := qHd hle; clear hc hle
 obtain ⟨x, hx⟩ : ∃ x, x = ng p := ⟨_, rfl⟩; obtain ⟨y, hy⟩ : ∃ y, y = ng q := ⟨_, rfl⟩
 rw [← hx, ← hy] at f1
 have HX := qHd hx; have HY := qHd hy; clear hx hy hs
 go_enter Tryz.func9, Tryz.ntmps9
 have hs := qbq _ p w0 Fp.out
 have HS := qHd hs; clear hs
 go_wp2_with fail
 rw [← HW0.out]
 (with_reducible refine HS.out.mono ?_); rintro e w1 ⟨v1, u1, rfl, hb1, hn1, hm1⟩
 clear HS
 have HB1 := qHd (HB0.out.step hb1)
 have Fp := qHd (Fp.out.below hb1)
 have Fq := qHd (Fq.out.below hb1)
 have BXp := qHd (qab BXp.out hb1)
 have BXq := qHd (qab BXq.out hb1)
 have BXR := qHd (qab BXR.out hb1)
 have N := qHd hn1
 have D := qHd hm1
 clear hn1 hm1
 clear hb1
 rw [← HX.out]
 have hs := qbq _ q w1 Fq.out
 have HS := qHd hs; clear hs
 obtain ⟨eq0, eq1, eq2⟩ := row3 BXq.out
 go_wp2_with fail
 clear eq0 eq1 eq2
 (with_reducible refine HS.out.mono ?_); rintro e w2 ⟨v2, u2, rfl, hb2, hn2, hm2⟩
 clear HS
 have HB2 := qHd (HB1.out.step hb2)
 have Fp := qHd (Fp.out.below hb2)
 have Fq := qHd (Fq.out.below hb2)
 have N := qHd (N.out.below hb2)
 have D := qHd (D.out.below hb2)
 have BXp := qHd (qab BXp.out hb2)
 have BXq := qHd (qab BXq.out hb2)
 have BXR := qHd (qab BXR.out hb2)
 have M := qHd hn2
 have E := qHd hm2
 clear hn2 hm2
 clear hb2
 rw [← HY.out]
 have hs := mulN N.out E.out (by omega) (by omega)
 have HS := qHd hs; clear hs
 go_wp2_with fail
 (with_reducible refine HS.out.mono ?_); rintro e w3 ⟨v3, rfl, hb3, hn3⟩
 clear HS
 have HB3 := qHd (HB2.out.step hb3)
 have Fp := qHd (Fp.out.below hb3)
 have Fq := qHd (Fq.out.below hb3)
 have N := qHd (N.out.below hb3)
 have D := qHd (D.out.below hb3)
 have M := qHd (M.out.below hb3)
 have E := qHd (E.out.below hb3)
 have BXp := qHd (qab BXp.out hb3)
 have BXq := qHd (qab BXq.out hb3)
 have BXR := qHd (qab BXR.out hb3)
 have X := qHd hn3; clear hn3
 clear hb3
 have hs := mulN M.out D.out (by omega) (by omega)
 have HS := qHd hs; clear hs
 go_wp2_with fail
 (with_reducible refine HS.out.mono ?_); rintro e w4 ⟨v4, rfl, hb4, hn4⟩
 clear HS
 have HB4 := qHd (HB3.out.step hb4)
 have Fp := qHd (Fp.out.below hb4)
 have Fq := qHd (Fq.out.below hb4)
 have N := qHd (N.out.below hb4)
 have D := qHd (D.out.below hb4)
 have M := qHd (M.out.below hb4)
 have E := qHd (E.out.below hb4)
 have X := qHd (X.out.below hb4)
 have BXp := qHd (qab BXp.out hb4)
 have BXq := qHd (qab BXq.out hb4)
 have BXR := qHd (qab BXR.out hb4)
 have Y := qHd hn4; clear hn4
 clear hb4
 have hs := mulN D.out E.out (by omega) (by omega)
 have HS := qHd hs; clear hs
 go_wp2_with fail
 (with_reducible refine HS.out.mono ?_); rintro e w5 ⟨v5, rfl, hb5, hn5⟩
 clear HS
 have HB5 := qHd (HB4.out.step hb5)
 have Fp := qHd (Fp.out.below hb5)
 have Fq := qHd (Fq.out.below hb5)
 have N := qHd (N.out.below hb5)
 have D := qHd (D.out.below hb5)
 have M := qHd (M.out.below hb5)
 have E := qHd (E.out.below hb5)
 have X := qHd (X.out.below hb5)
 have Y := qHd (Y.out.below hb5)
 have BXp := qHd (qab BXp.out hb5)
 have BXq := qHd (qab BXq.out hb5)
 have BXR := qHd (qab BXR.out hb5)
 have DE := qHd hn5; clear hn5
 clear hb5
 have hs := cmpN_ X.out Y.out (by omega) (by omega)
 rw [← HC.out] at hs
 have HS := qHd hs; clear hs
 go_wp2_with fail
 (with_reducible refine HS.out.mono ?_); rintro e w6 ⟨rfl, hb6⟩
 clear HS
 have HB6 := qHd (HB5.out.step hb6)
 have Fp := qHd (Fp.out.below hb6)
 have Fq := qHd (Fq.out.below hb6)
 have N := qHd (N.out.below hb6)
 have D := qHd (D.out.below hb6)
 have M := qHd (M.out.below hb6)
 have E := qHd (E.out.below hb6)
 have X := qHd (X.out.below hb6)
 have Y := qHd (Y.out.below hb6)
 have DE := qHd (DE.out.below hb6)
 have BXp := qHd (qab BXp.out hb6)
 have BXq := qHd (qab BXq.out hb6)
 have BXR := qHd (qab BXR.out hb6)
 clear hb6
 have hs := subN X.out Y.out (by omega) (by omega) HLE.out
 have HS := qHd hs; clear hs
 go_wp2_with fail
 (with_reducible refine HS.out.mono ?_); rintro e w7 ⟨v7, rfl, hb7, hn7⟩
 clear HS
 have HB7 := qHd (HB6.out.step hb7)
 have Fp := qHd (Fp.out.below hb7)
 have Fq := qHd (Fq.out.below hb7)
 have N := qHd (N.out.below hb7)
 have D := qHd (D.out.below hb7)
 have M := qHd (M.out.below hb7)
 have E := qHd (E.out.below hb7)
 have X := qHd (X.out.below hb7)
 have Y := qHd (Y.out.below hb7)
 have DE := qHd (DE.out.below hb7)
 have BXp := qHd (qab BXp.out hb7)
 have BXq := qHd (qab BXq.out hb7)
 have BXR := qHd (qab BXR.out hb7)
 have S := qHd hn7; clear hn7
 clear hb7
 have hs := formN x S.out DE.out (by omega) (by omega) (qdf p.den_nz q.den_nz)
 have HS := qHd hs; clear hs
 go_wp2_with fail
 (with_reducible refine HS.out.mono ?_); rintro e w8 ⟨v8, rfl, hb8, hn8⟩
 clear HS
 have HB8 := qHd (HB7.out.step hb8)
 have Fp := qHd (Fp.out.below hb8)
 have Fq := qHd (Fq.out.below hb8)
 have N := qHd (N.out.below hb8)
 have D := qHd (D.out.below hb8)
 have M := qHd (M.out.below hb8)
 have E := qHd (E.out.below hb8)
 have X := qHd (X.out.below hb8)
 have Y := qHd (Y.out.below hb8)
 have DE := qHd (DE.out.below hb8)
 have S := qHd (S.out.below hb8)
 have BXp := qHd (qab BXp.out hb8)
 have BXq := qHd (qab BXq.out hb8)
 have BXR := qHd (qab BXR.out hb8)
 have Q := qHd hn8; clear hn8
 clear hb8
 have hq := Q.out; rw [HX.out, HEQ.out] at hq; have Q := qHd hq; clear hq
 obtain ⟨sQ, oQ, nQ, cQ, aQ, mQ, dQ, rfl⟩ := Q.out.shape
 obtain ⟨eR0, eR1, eR2⟩ := row3 BXR.out
 obtain ⟨fR0, fR1, fR2⟩ := froz3 BXR.out
 go_wp2_with fail
 clear eR0 eR1 eR2 fR0 fR1 fR2
 refine ret_rat rfl (w.heap.size + 2) _ _ _ rfl (qce BXR.out) rfl ?_
 exact ⟨_, rfl, qbx HB8.out (by omega) _ _ _, isR_put Q.out BXR.out⟩
theorem add_diff' (vp : Value) (p : Rat) (vq : Value) (q : Rat) (w : World) (hp : qcn w vp p) (hq : qcn w vq q) (hs : ng p ≠ ng q) (hle : nn p * q.den < nn q * p.den) :
  Calls Tryz.prog 9 #[vp, vq] w (RetR w (p + q)) := by
 obtain ⟨sp, op, np, cp, ap, mp, dp, rfl⟩ := hp.shape
 have hlp := hp.rl
 obtain ⟨sq, oq, nq, cq, aq, mq, dq, rfl⟩ := hq.shape
 have hlq := hq.rl
 have hb0 := ((((Below.refl w.heap.size w).alloc (by first | (simp; done) | (simp; omega)) (.cells #[.bool sp, .slice op np cp, .slice ap mp dp] 37)).alloc (by first | (simp; done) | (simp; omega)) (.cells #[.bool sq, .slice oq nq cq, .slice aq mq dq] 37)).alloc (by first | (simp; done) | (simp; omega)) (.cells #[.bool false, .slice none 0 0, .slice none 0 0] 37))
 have hxp := nest3_0 w (.cells #[.bool sp, .slice op np cp, .slice ap mp dp] 37) (.cells #[.bool sq, .slice oq nq cq, .slice aq mq dq] 37) (.cells #[.bool false, .slice none 0 0, .slice none 0 0] 37)
 have hxq := nest3_1 w (.cells #[.bool sp, .slice op np cp, .slice ap mp dp] 37) (.cells #[.bool sq, .slice oq nq cq, .slice aq mq dq] 37) (.cells #[.bool false, .slice none 0 0, .slice none 0 0] 37)
 have hxR := nest3_2 w (.cells #[.bool sp, .slice op np cp, .slice ap mp dp] 37) (.cells #[.bool sq, .slice oq nq cq, .slice aq mq dq] 37) (.cells #[.bool false, .slice none 0 0, .slice none 0 0] 37)
 have hpp := hp.below hb0
 have hpq := hq.below hb0
 obtain ⟨w0, hw0⟩ : ∃ w0, w0 = (((w.alloc (.cells #[.bool sp, .slice op np cp, .slice ap mp dp] 37)).alloc (.cells #[.bool sq, .slice oq nq cq, .slice aq mq dq] 37)).alloc (.cells #[.bool false, .slice none 0 0, .slice none 0 0] 37)) := ⟨_, rfl⟩
 rw [← hw0] at hb0 hxp hxq hxR hpp hpq
 have HB0 := qHd hb0; have HW0 := qHd hw0
 have BXp := qHd hxp
 have BXq := qHd hxq
 have BXR := qHd hxR
 have Fp := qHd hpp
 have Fq := qHd hpq
 clear hb0 hw0 hxp hxq hxR hpp hp hpq hq
 have l1 := rl_n p; have l2 := rl_d p; have l3 := rl_n q; have l4 := rl_d q
 have L1 : (wd (nn p * q.den)).length ≤ 200000 := by have := qbk (nn p) q.den; omega
 have L2 : (wd (nn q * p.den)).length ≤ 200000 := by have := qbk (nn q) p.den; omega
 have L3 : (wd (p.den * q.den)).length ≤ 200000 := by have := qbk p.den q.den; omega
 have heq := q_add_diff' p q hs (Nat.le_of_lt hle)
 have HEQ := qHd heq; clear heq
 have f1 : (ng p == ng q) = false := by rw [beq_eq_false_iff_ne]; exact hs
 obtain ⟨c, hc⟩ : ∃ c, c = cmpN (nn p * q.den) (nn q * p.den) := ⟨_, rfl⟩
 have L4 : (wd (nn q * p.den - nn p * q.den)).length ≤ 200000 := by exact Nat.le_trans (qas (Nat.sub_le _ _)) L2
 have f2 : decide (0 ≤ c) = false := by rw [hc, decide_eq_false_iff_not]; unfold cmpN; rw [if_pos hle]; decide
 have HC := qHd hc; have HLE := qHd hle; clear hc hle
 obtain ⟨x, hx⟩ : ∃ x, x = ng p := ⟨_, rfl⟩; obtain ⟨y, hy⟩ : ∃ y, y = ng q := ⟨_, rfl⟩
 rw [← hx, ← hy] at f1
 have HX := qHd hx; have HY := qHd hy; clear hx hy hs
 go_enter Tryz.func9, Tryz.ntmps9
 have hs := qbq _ p w0 Fp.out
 have HS := qHd hs; clear hs
 go_wp2_with fail
 rw [← HW0.out]
 (with_reducible refine HS.out.mono ?_); rintro e w1 ⟨v1, u1, rfl, hb1, hn1, hm1⟩
 clear HS
 have HB1 := qHd (HB0.out.step hb1)
 have Fp := qHd (Fp.out.below hb1)
 have Fq := qHd (Fq.out.below hb1)
 have BXp := qHd (qab BXp.out hb1)
 have BXq := qHd (qab BXq.out hb1)
 have BXR := qHd (qab BXR.out hb1)
 have N := qHd hn1
 have D := qHd hm1
 clear hn1 hm1
 clear hb1
 rw [← HX.out]
 have hs := qbq _ q w1 Fq.out
 have HS := qHd hs; clear hs
 obtain ⟨eq0, eq1, eq2⟩ := row3 BXq.out
 go_wp2_with fail
 clear eq0 eq1 eq2
 (with_reducible refine HS.out.mono ?_); rintro e w2 ⟨v2, u2, rfl, hb2, hn2, hm2⟩
 clear HS
 have HB2 := qHd (HB1.out.step hb2)
 have Fp := qHd (Fp.out.below hb2)
 have Fq := qHd (Fq.out.below hb2)
 have N := qHd (N.out.below hb2)
 have D := qHd (D.out.below hb2)
 have BXp := qHd (qab BXp.out hb2)
 have BXq := qHd (qab BXq.out hb2)
 have BXR := qHd (qab BXR.out hb2)
 have M := qHd hn2
 have E := qHd hm2
 clear hn2 hm2
 clear hb2
 rw [← HY.out]
 have hs := mulN N.out E.out (by omega) (by omega)
 have HS := qHd hs; clear hs
 go_wp2_with fail
 (with_reducible refine HS.out.mono ?_); rintro e w3 ⟨v3, rfl, hb3, hn3⟩
 clear HS
 have HB3 := qHd (HB2.out.step hb3)
 have Fp := qHd (Fp.out.below hb3)
 have Fq := qHd (Fq.out.below hb3)
 have N := qHd (N.out.below hb3)
 have D := qHd (D.out.below hb3)
 have M := qHd (M.out.below hb3)
 have E := qHd (E.out.below hb3)
 have BXp := qHd (qab BXp.out hb3)
 have BXq := qHd (qab BXq.out hb3)
 have BXR := qHd (qab BXR.out hb3)
 have X := qHd hn3; clear hn3
 clear hb3
 have hs := mulN M.out D.out (by omega) (by omega)
 have HS := qHd hs; clear hs
 go_wp2_with fail
 (with_reducible refine HS.out.mono ?_); rintro e w4 ⟨v4, rfl, hb4, hn4⟩
 clear HS
 have HB4 := qHd (HB3.out.step hb4)
 have Fp := qHd (Fp.out.below hb4)
 have Fq := qHd (Fq.out.below hb4)
 have N := qHd (N.out.below hb4)
 have D := qHd (D.out.below hb4)
 have M := qHd (M.out.below hb4)
 have E := qHd (E.out.below hb4)
 have X := qHd (X.out.below hb4)
 have BXp := qHd (qab BXp.out hb4)
 have BXq := qHd (qab BXq.out hb4)
 have BXR := qHd (qab BXR.out hb4)
 have Y := qHd hn4; clear hn4
 clear hb4
 have hs := mulN D.out E.out (by omega) (by omega)
 have HS := qHd hs; clear hs
 go_wp2_with fail
 (with_reducible refine HS.out.mono ?_); rintro e w5 ⟨v5, rfl, hb5, hn5⟩
 clear HS
 have HB5 := qHd (HB4.out.step hb5)
 have Fp := qHd (Fp.out.below hb5)
 have Fq := qHd (Fq.out.below hb5)
 have N := qHd (N.out.below hb5)
 have D := qHd (D.out.below hb5)
 have M := qHd (M.out.below hb5)
 have E := qHd (E.out.below hb5)
 have X := qHd (X.out.below hb5)
 have Y := qHd (Y.out.below hb5)
 have BXp := qHd (qab BXp.out hb5)
 have BXq := qHd (qab BXq.out hb5)
 have BXR := qHd (qab BXR.out hb5)
 have DE := qHd hn5; clear hn5
 clear hb5
 have hs := cmpN_ X.out Y.out (by omega) (by omega)
 rw [← HC.out] at hs
 have HS := qHd hs; clear hs
 go_wp2_with fail
 (with_reducible refine HS.out.mono ?_); rintro e w6 ⟨rfl, hb6⟩
 clear HS
 have HB6 := qHd (HB5.out.step hb6)
 have Fp := qHd (Fp.out.below hb6)
 have Fq := qHd (Fq.out.below hb6)
 have N := qHd (N.out.below hb6)
 have D := qHd (D.out.below hb6)
 have M := qHd (M.out.below hb6)
 have E := qHd (E.out.below hb6)
 have X := qHd (X.out.below hb6)
 have Y := qHd (Y.out.below hb6)
 have DE := qHd (DE.out.below hb6)
 have BXp := qHd (qab BXp.out hb6)
 have BXq := qHd (qab BXq.out hb6)
 have BXR := qHd (qab BXR.out hb6)
 clear hb6
 have hs := subN Y.out X.out (by omega) (by omega) (Nat.le_of_lt HLE.out)
 have HS := qHd hs; clear hs
 go_wp2_with fail
 (with_reducible refine HS.out.mono ?_); rintro e w7 ⟨v7, rfl, hb7, hn7⟩
 clear HS
 have HB7 := qHd (HB6.out.step hb7)
 have Fp := qHd (Fp.out.below hb7)
 have Fq := qHd (Fq.out.below hb7)
 have N := qHd (N.out.below hb7)
 have D := qHd (D.out.below hb7)
 have M := qHd (M.out.below hb7)
 have E := qHd (E.out.below hb7)
 have X := qHd (X.out.below hb7)
 have Y := qHd (Y.out.below hb7)
 have DE := qHd (DE.out.below hb7)
 have BXp := qHd (qab BXp.out hb7)
 have BXq := qHd (qab BXq.out hb7)
 have BXR := qHd (qab BXR.out hb7)
 have S := qHd hn7; clear hn7
 clear hb7
 have hs := formN y S.out DE.out (by omega) (by omega) (qdf p.den_nz q.den_nz)
 have HS := qHd hs; clear hs
 go_wp2_with fail
 (with_reducible refine HS.out.mono ?_); rintro e w8 ⟨v8, rfl, hb8, hn8⟩
 clear HS
 have HB8 := qHd (HB7.out.step hb8)
 have Fp := qHd (Fp.out.below hb8)
 have Fq := qHd (Fq.out.below hb8)
 have N := qHd (N.out.below hb8)
 have D := qHd (D.out.below hb8)
 have M := qHd (M.out.below hb8)
 have E := qHd (E.out.below hb8)
 have X := qHd (X.out.below hb8)
 have Y := qHd (Y.out.below hb8)
 have DE := qHd (DE.out.below hb8)
 have S := qHd (S.out.below hb8)
 have BXp := qHd (qab BXp.out hb8)
 have BXq := qHd (qab BXq.out hb8)
 have BXR := qHd (qab BXR.out hb8)
 have Q := qHd hn8; clear hn8
 clear hb8
 have hq := Q.out; rw [HY.out, HEQ.out] at hq; have Q := qHd hq; clear hq
 obtain ⟨sQ, oQ, nQ, cQ, aQ, mQ, dQ, rfl⟩ := Q.out.shape
 obtain ⟨eR0, eR1, eR2⟩ := row3 BXR.out
 obtain ⟨fR0, fR1, fR2⟩ := froz3 BXR.out
 go_wp2_with fail
 clear eR0 eR1 eR2 fR0 fR1 fR2
 refine ret_rat rfl (w.heap.size + 2) _ _ _ rfl (qce BXR.out) rfl ?_
 exact ⟨_, rfl, qbx HB8.out (by omega) _ _ _, isR_put Q.out BXR.out⟩
theorem qcz (vp : Value) (p : Rat) (vq : Value) (q : Rat) (w : World) (hp : qcn w vp p) (hq : qcn w vq q) :
  Calls Tryz.prog 9 #[vp, vq] w (RetR w (p + q)) := by
 by_cases h : ng p = ng q
 ·exact add_same vp p vq q w hp hq h
 ·rcases Nat.lt_or_ge (nn p * q.den) (nn q * p.den) with h2 | h2
  ·exact add_diff' vp p vq q w hp hq h h2
  ·exact add_diff vp p vq q w hp hq h h2
theorem put6 {w : World} {g p q : Nat} {x y z a b c d e f : Value} (hp : p ≠ g) (hq : q ≠ g) (h : w.cell? ⟨p, 0, none⟩ = some a ∧ w.cell? ⟨p, 1, none⟩ = some b ∧ w.cell? ⟨p, 2, none⟩ = some c ∧ w.cell? ⟨q, 0, none⟩ = some d ∧ w.cell? ⟨q, 1, none⟩ = some e ∧ w.cell? ⟨q, 2, none⟩ = some f) :
  (put3 w g x y z).cell? ⟨p, 0, none⟩ = some a ∧ (put3 w g x y z).cell? ⟨p, 1, none⟩ = some b ∧ (put3 w g x y z).cell? ⟨p, 2, none⟩ = some c ∧ (put3 w g x y z).cell? ⟨q, 0, none⟩ = some d ∧ (put3 w g x y z).cell? ⟨q, 1, none⟩ = some e ∧ (put3 w g x y z).cell? ⟨q, 2, none⟩ = some f := by
 obtain ⟨h1, h2, h3, h4, h5, h6⟩ := h
 have e1 : (put3 w g x y z).heap[p]? = w.heap[p]? := by
  unfold put3; rw [Below.heap_setCell _ _ _ _ hp, Below.heap_setCell _ _ _ _ hp, Below.heap_setCell _ _ _ _ hp]
 have e2 : (put3 w g x y z).heap[q]? = w.heap[q]? := by
  unfold put3; rw [Below.heap_setCell _ _ _ _ hq, Below.heap_setCell _ _ _ _ hq, Below.heap_setCell _ _ _ _ hq]
 unfold World.cell? at *
 simp only [e1, e2]
 exact ⟨h1, h2, h3, h4, h5, h6⟩
theorem wd_two63 : wd 9223372036854775808 = [0, 2147483648] := by
 rw [wd_pos (by decide), show (9223372036854775808 : Nat) % 4294967296 = 0 from rfl, show (9223372036854775808 : Nat) / 4294967296 = 2147483648 from rfl, wd_one (by decide) (by decide)]
theorem wd_small {n : Nat} (h : n ≤ 9223372036854775808) : (wd n).length ≤ 2 := qbr (Nat.lt_of_le_of_lt h (by decide))
theorem size_any (n : Int) (w : World) (h0 : -9223372036854775808 ≤ n) (h1 : n < 9223372036854775808) :
  Calls Tryz.prog 28 #[.int .i64 n] w (RetN w n.natAbs) := by
 by_cases h : n = -9223372036854775808
 ·subst h
  go_enter Tryz.func28, Tryz.ntmps28
  go_wp2_with fail
  go_ret
  refine ⟨_, rfl, (Below.refl _ _).alloc (Nat.le_refl _) _, ?_⟩
  rw [show (-9223372036854775808 : Int).natAbs = 9223372036854775808 from rfl, wd_two63]
  exact num_lit w 49 _ [0, 2147483648] 2 (U32.cons (by decide) (U32.cons (by decide) U32.nil)) rfl (by simp) rfl
 ·have f1 : (n == -9223372036854775808) = false := by rw [beq_eq_false_iff_ne]; exact h
  have hof := of_any (max n (-n)) w (by omega) (by omega)
  rw [show (max n (-n)).toNat = n.natAbs by omega] at hof
  have HO := qHd hof
  have hwr : wrap64 (-n) = -n := by unfold wrap64; omega
  clear hof h
  go_enter Tryz.func28, Tryz.ntmps28
  go_wp2_with fail
  (with_reducible refine HO.out.mono ?_); rintro e w1 ⟨v1, l1, rfl, hb1, hn1, rfl⟩
  go_wp2_with fail
  go_ret
  exact ⟨_, rfl, hb1, hn1⟩
theorem sgn_int (n : Int) : sgn (decide (n < 0)) n.natAbs = n := by
 unfold sgn
 by_cases h : n < 0
 ·rw [decide_eq_true h, if_pos rfl]; omega
 ·rw [decide_eq_false h, if_neg (by decide)]; omega
theorem q_int (n : Int) : qm (decide (n < 0)) n.natAbs 1 = (n : Rat) := by rw [qm_one, sgn_int]
theorem q_ints (n d : Int) : qm (!(decide (n < 0) == decide (d < 0))) n.natAbs d.natAbs = (n : Rat) / (d : Rat) := by
 rw [show (!(decide (n < 0) == decide (d < 0))) = (decide (n < 0) != decide (d < 0)) from rfl, qcu]
 by_cases h : d = 0
 ·subst h
  rw [show (0 : Int).natAbs = 0 from rfl, show ((0 : Nat) : Rat) = 0 from rfl, show ((0 : Int) : Rat) = 0 from rfl]; grind
 ·have e : (d : Rat) = ((sgn (decide (d < 0)) d.natAbs : Int) : Rat) := by rw [sgn_int]
  have e2 : ((sgn (decide (n < 0) != decide (d < 0)) n.natAbs : Int) : Rat) * (d : Rat) = (n : Rat) * ((d.natAbs : Nat) : Rat) := by
   rw [← Rat.intCast_natCast, ← Rat.intCast_mul, ← Rat.intCast_mul]
   congr 1
   have st : ∀ m : Nat, sgn true m = -(m : Int) := fun _ => rfl
   have sf : ∀ m : Nat, sgn false m = (m : Int) := fun _ => rfl
   by_cases h1 : n < 0 <;> by_cases h2 : d < 0
   ·rw [decide_eq_true h1, decide_eq_true h2, show (true != true) = false from rfl, sf, show ((d.natAbs : Nat) : Int) = -d by omega, show ((n.natAbs : Nat) : Int) = -n by omega]; simp [Int.neg_mul, Int.mul_neg]
   ·rw [decide_eq_true h1, decide_eq_false h2, show (true != false) = true from rfl, st, show ((d.natAbs : Nat) : Int) = d by omega, show ((n.natAbs : Nat) : Int) = -n by omega]; simp
   ·rw [decide_eq_false h1, decide_eq_true h2, show (false != true) = true from rfl, st, show ((d.natAbs : Nat) : Int) = -d by omega, show ((n.natAbs : Nat) : Int) = n by omega]; simp [Int.neg_mul, Int.mul_neg]
   ·rw [decide_eq_false h1, decide_eq_false h2, show (false != false) = false from rfl, sf, show ((d.natAbs : Nat) : Int) = d by omega, show ((n.natAbs : Nat) : Int) = n by omega]
  have d1 : (d : Rat) ≠ 0 := fun e => h (Rat.intCast_eq_zero_iff.1 e)
  have d2 : ((d.natAbs : Nat) : Rat) ≠ 0 := fun e => by have := Rat.natCast_eq_zero_iff.1 e; omega
  grind

theorem ofq_any (n : Int) (w : World)  (h0 : -9223372036854775808 ≤ n) (h1 : n < 9223372036854775808) :
  Calls Tryz.prog 10 #[.int .i64 n] w (RetR w (n : Rat)) := by
 have hb0 := ((Below.refl w.heap.size w).alloc (by first | (simp; done) | (simp; omega)) (.cells #[.bool false, .slice none 0 0, .slice none 0 0] 37))
 have hxR := nest1_0 w (.cells #[.bool false, .slice none 0 0, .slice none 0 0] 37)
 obtain ⟨w0, hw0⟩ : ∃ w0, w0 = (w.alloc (.cells #[.bool false, .slice none 0 0, .slice none 0 0] 37)) := ⟨_, rfl⟩
 rw [← hw0] at hb0 hxR
 have HB0 := qHd hb0; have HW0 := qHd hw0
 have BXR := qHd hxR
 clear hb0 hw0 hxR
 have L1 : (wd (n.natAbs)).length ≤ 2 := by exact wd_small (by omega)
 have L2 : (wd (1)).length ≤ 1 := by rw [wd_one_len]; exact Nat.le_refl _
 have BD := qHd (And.intro h0 h1)
 go_enter Tryz.func10, Tryz.ntmps10
 have hs := size_any n w0 BD.out.1 BD.out.2
 have HS := qHd hs; clear hs
 go_wp2_with fail
 rw [← HW0.out]
 (with_reducible refine HS.out.mono ?_); rintro e w1 ⟨v1, rfl, hb1, hn1⟩
 clear HS
 have HB1 := qHd (HB0.out.step hb1)
 have BXR := qHd (qab BXR.out hb1)
 have N := qHd hn1; clear hn1
 clear hb1
 have hs := one_any w1
 have HS := qHd hs; clear hs
 go_wp2_with fail
 (with_reducible refine HS.out.mono ?_); rintro e w2 ⟨v2, rfl, hb2, hn2⟩
 clear HS
 have HB2 := qHd (HB1.out.step hb2)
 have N := qHd (N.out.below hb2)
 have BXR := qHd (qab BXR.out hb2)
 have O := qHd hn2; clear hn2
 clear hb2
 have hs := formN (decide (n < 0)) N.out O.out (by omega) (by omega) (by decide)
 rw [q_int] at hs
 have HS := qHd hs; clear hs
 go_wp2_with fail
 (with_reducible refine HS.out.mono ?_); rintro e w3 ⟨v3, rfl, hb3, hn3⟩
 clear HS
 have HB3 := qHd (HB2.out.step hb3)
 have N := qHd (N.out.below hb3)
 have O := qHd (O.out.below hb3)
 have BXR := qHd (qab BXR.out hb3)
 have Q := qHd hn3; clear hn3
 clear hb3
 obtain ⟨sQ, oQ, nQ, cQ, aQ, mQ, dQ, rfl⟩ := Q.out.shape
 obtain ⟨eR0, eR1, eR2⟩ := row3 BXR.out
 obtain ⟨fR0, fR1, fR2⟩ := froz3 BXR.out
 go_wp2_with fail
 clear eR0 eR1 eR2 fR0 fR1 fR2
 refine ret_rat rfl w.heap.size _ _ _ rfl (qce BXR.out) rfl ?_
 exact ⟨_, rfl, qbx HB3.out (by omega) _ _ _, isR_put Q.out BXR.out⟩
theorem subq_any (vp : Value) (p : Rat) (vq : Value) (q : Rat) (w : World) (hp : qcn w vp p) (hq : qcn w vq q)  :
  Calls Tryz.prog 12 #[vp, vq] w (RetR w (p - q)) := by
 obtain ⟨sp, op, np, cp, ap, mp, dp, rfl⟩ := hp.shape
 have hlp := hp.rl
 obtain ⟨sq, oq, nq, cq, aq, mq, dq, rfl⟩ := hq.shape
 have hlq := hq.rl
 have hb0 := ((((Below.refl w.heap.size w).alloc (by first | (simp; done) | (simp; omega)) (.cells #[.bool sp, .slice op np cp, .slice ap mp dp] 37)).alloc (by first | (simp; done) | (simp; omega)) (.cells #[.bool sq, .slice oq nq cq, .slice aq mq dq] 37)).alloc (by first | (simp; done) | (simp; omega)) (.cells #[.bool false, .slice none 0 0, .slice none 0 0] 37))
 have hxp := nest3_0 w (.cells #[.bool sp, .slice op np cp, .slice ap mp dp] 37) (.cells #[.bool sq, .slice oq nq cq, .slice aq mq dq] 37) (.cells #[.bool false, .slice none 0 0, .slice none 0 0] 37)
 have hxq := nest3_1 w (.cells #[.bool sp, .slice op np cp, .slice ap mp dp] 37) (.cells #[.bool sq, .slice oq nq cq, .slice aq mq dq] 37) (.cells #[.bool false, .slice none 0 0, .slice none 0 0] 37)
 have hxR := nest3_2 w (.cells #[.bool sp, .slice op np cp, .slice ap mp dp] 37) (.cells #[.bool sq, .slice oq nq cq, .slice aq mq dq] 37) (.cells #[.bool false, .slice none 0 0, .slice none 0 0] 37)
 have hpp := hp.below hb0
 have hpq := hq.below hb0
 obtain ⟨w0, hw0⟩ : ∃ w0, w0 = (((w.alloc (.cells #[.bool sp, .slice op np cp, .slice ap mp dp] 37)).alloc (.cells #[.bool sq, .slice oq nq cq, .slice aq mq dq] 37)).alloc (.cells #[.bool false, .slice none 0 0, .slice none 0 0] 37)) := ⟨_, rfl⟩
 rw [← hw0] at hb0 hxp hxq hxR hpp hpq
 have HB0 := qHd hb0; have HW0 := qHd hw0
 have BXp := qHd hxp
 have BXq := qHd hxq
 have BXR := qHd hxR
 have Fp := qHd hpp
 have Fq := qHd hpq
 clear hb0 hw0 hxp hxq hxR hpp hp hpq hq
 have hr : rl (-q) ≤ 100000 := by rw [rl_neg]; exact hlq
 have HD := qHd ((Below.refl w0.heap.size w0).drew)
 have hng := neg_any _ q _ (Fq.out.below HD.out)
 have HNG := qHd hng; clear hng
 have had := fun vs w1 (h1 : Below w0.heap.size w0 w1) (hs : IsR w1 vs (-q)) => qcz _ p vs (-q) w1 (Fp.out.below h1) (hs.is hr)
 rw [← Rat.sub_eq_add_neg] at had
 have HAD := qHd had; clear had
 have ZP := qHd (fun w1 (h1 : Below w0.heap.size w0 w1) => row3 (qab BXp.out h1)); have ZQ := qHd (fun w1 (h1 : Below w0.heap.size w0 w1) => row3 (qab BXq.out h1)); have ZR := qHd (fun w1 (h1 : Below w0.heap.size w0 w1) => row3 (qab BXR.out h1)); have ZF := qHd (fun w1 (h1 : Below w0.heap.size w0 w1) => froz3 (qab BXR.out h1))
 go_enter Tryz.func12, Tryz.ntmps12
 go_wp2_with fail
 rw [← HW0.out]
 obtain ⟨zp0, zp1, zp2⟩ := ZP.out _ HD.out; obtain ⟨zq0, zq1, zq2⟩ := ZQ.out _ HD.out
 go_region_held3 (fun wx => wx.cell? ⟨w.heap.size, 0, none⟩ = some (.bool sp) ∧ wx.cell? ⟨w.heap.size, 1, none⟩ = some (.slice op np cp) ∧ wx.cell? ⟨w.heap.size, 2, none⟩ = some (.slice ap mp dp) ∧ wx.cell? ⟨w.heap.size + 1, 0, none⟩ = some (.bool sq) ∧ wx.cell? ⟨w.heap.size + 1, 1, none⟩ = some (.slice oq nq cq) ∧ wx.cell? ⟨w.heap.size + 1, 2, none⟩ = some (.slice aq mq dq)) (first | exact ⟨zp0, zp1, zp2, zq0, zq1, zq2⟩ | exact put6 (by omega) (by omega) ⟨zp0, zp1, zp2, zq0, zq1, zq2⟩) (first
  | (go_at_call 31; (with_reducible refine HNG.out.mono ?_); rintro e w1 ⟨v1, rfl, hb1, hn1⟩; (have HB1 := qHd (HD.out.step hb1)); (have HN1 := qHd hn1); clear hb1 hn1; (obtain ⟨zp0, zp1, zp2⟩ := ZP.out _ HB1.out); (obtain ⟨zq0, zq1, zq2⟩ := ZQ.out _ HB1.out))
  | (go_at_call 9; (with_reducible refine (HAD.out _ _ HB1.out HN1.out).mono ?_); rintro e w2 ⟨v2, rfl, hb2, hn2⟩; (have HB2 := qHd (HB1.out.step hb2)); (have HN2 := qHd hn2); clear hb2 hn2; (obtain ⟨t1, t2, t3, t4, t5, t6, t7, rfl⟩ := HN2.out.shape); (obtain ⟨zp0, zp1, zp2⟩ := ZP.out _ HB2.out); (obtain ⟨zq0, zq1, zq2⟩ := ZQ.out _ HB2.out); (obtain ⟨zr0, zr1, zr2⟩ := ZR.out _ HB2.out); (obtain ⟨zf0, zf1, zf2⟩ := ZF.out _ HB2.out)))
 all_goals
  go_wp2_with fail
  have BXR2 := qab BXR.out HB2.out
  refine ret_rat rfl (w.heap.size + 2) _ _ _ rfl (qce BXR2) rfl ?_
  exact ⟨_, rfl, qbx (HB0.out.step HB2.out) (by omega) _ _ _, isR_put HN2.out BXR2⟩
theorem sign_any (vp : Value) (p : Rat) (w : World) (hp : qcn w vp p)  :
  Calls Tryz.prog 32 #[vp] w (RetV w (.int .i64 (sg p))) := by
 obtain ⟨sp, op, np, cp, ap, mp, dp, rfl⟩ := hp.shape
 have hlp := hp.rl
 rw [sg_eq]
 have hb0 := ((Below.refl w.heap.size w).alloc (by first | (simp; done) | (simp; omega)) (.cells #[.bool sp, .slice op np cp, .slice ap mp dp] 37))
 have hxp := nest1_0 w (.cells #[.bool sp, .slice op np cp, .slice ap mp dp] 37)
 have hpp := hp.below hb0
 obtain ⟨w0, hw0⟩ : ∃ w0, w0 = (w.alloc (.cells #[.bool sp, .slice op np cp, .slice ap mp dp] 37)) := ⟨_, rfl⟩
 rw [← hw0] at hb0 hxp hpp
 have HB0 := qHd hb0; have HW0 := qHd hw0
 have BXp := qHd hxp
 have Fp := qHd hpp
 clear hb0 hw0 hxp hpp hp
 by_cases h0 : nn p = 0
 ·rw [if_pos h0]
  have H0 := qHd h0; clear h0
  go_enter Tryz.func32, Tryz.ntmps32
  have hs := qbq _ p w0 Fp.out
  have HS := qHd hs; clear hs
  go_wp2_with fail
  rw [← HW0.out]
  (with_reducible refine HS.out.mono ?_); rintro e w1 ⟨v1, u1, rfl, hb1, hn1, hm1⟩
  clear HS
  rw [H0.out, qbl] at hn1
  obtain ⟨no, nc, rfl, _, _, _⟩ := hn1.shape
  have HB1 := qHd (HB0.out.step hb1)
  have Fp := qHd (Fp.out.below hb1)
  have BXp := qHd (qab BXp.out hb1)
  have N := qHd hn1
  have D := qHd hm1
  clear hn1 hm1
  clear hb1
  go_wp2_with fail
  go_ret
  exact ⟨rfl, HB1.out⟩
 ·rw [if_neg h0]
  have hz : (((wd (nn p)).length : Int) == 0) = false := by rw [beq_eq_false_iff_ne]; intro h; exact wd_ne h0 (List.eq_nil_of_length_eq_zero (by omega))
  obtain ⟨L, hL⟩ : ∃ L, L = (wd (nn p)).length := ⟨_, rfl⟩
  rw [← hL] at hz
  have HL := qHd hL; clear hL h0
  obtain ⟨x, hx⟩ : ∃ x, x = ng p := ⟨_, rfl⟩
  rw [← hx]
  have HX := qHd hx; clear hx
  cases x
  ·go_enter Tryz.func32, Tryz.ntmps32
   have hs := qbq _ p w0 Fp.out
   have HS := qHd hs; clear hs
   go_wp2_with fail
   rw [← HW0.out]
   (with_reducible refine HS.out.mono ?_); rintro e w1 ⟨v1, u1, rfl, hb1, hn1, hm1⟩
   clear HS
   rw [← HX.out]
   obtain ⟨no, nc, rfl, _, _, _⟩ := hn1.shape
   rw [← HL.out]
   have HB1 := qHd (HB0.out.step hb1)
   have Fp := qHd (Fp.out.below hb1)
   have BXp := qHd (qab BXp.out hb1)
   have N := qHd hn1
   have D := qHd hm1
   clear hn1 hm1
   clear hb1
   go_wp2_with fail
   go_ret
   exact ⟨rfl, HB1.out⟩
  ·go_enter Tryz.func32, Tryz.ntmps32
   have hs := qbq _ p w0 Fp.out
   have HS := qHd hs; clear hs
   go_wp2_with fail
   rw [← HW0.out]
   (with_reducible refine HS.out.mono ?_); rintro e w1 ⟨v1, u1, rfl, hb1, hn1, hm1⟩
   clear HS
   rw [← HX.out]
   obtain ⟨no, nc, rfl, _, _, _⟩ := hn1.shape
   rw [← HL.out]
   have HB1 := qHd (HB0.out.step hb1)
   have Fp := qHd (Fp.out.below hb1)
   have BXp := qHd (qab BXp.out hb1)
   have N := qHd hn1
   have D := qHd hm1
   clear hn1 hm1
   clear hb1
   go_wp2_with fail
   go_ret
   exact ⟨rfl, HB1.out⟩
theorem cmpq_any (vp : Value) (p : Rat) (vq : Value) (q : Rat) (w : World) (hp : qcn w vp p) (hq : qcn w vq q) (hlp2 : rl p ≤ 40000) (hlq2 : rl q ≤ 40000)  :
  Calls Tryz.prog 13 #[vp, vq] w (RetV w (.int .i64 (cq p q))) := by
 obtain ⟨sp, op, np, cp, ap, mp, dp, rfl⟩ := hp.shape
 have hlp := hp.rl
 obtain ⟨sq, oq, nq, cq, aq, mq, dq, rfl⟩ := hq.shape
 have hlq := hq.rl
 have hb0 := (((Below.refl w.heap.size w).alloc (by first | (simp; done) | (simp; omega)) (.cells #[.bool sp, .slice op np cp, .slice ap mp dp] 37)).alloc (by first | (simp; done) | (simp; omega)) (.cells #[.bool sq, .slice oq nq cq, .slice aq mq dq] 37))
 have hxp := nest2_0 w (.cells #[.bool sp, .slice op np cp, .slice ap mp dp] 37) (.cells #[.bool sq, .slice oq nq cq, .slice aq mq dq] 37)
 have hxq := nest2_1 w (.cells #[.bool sp, .slice op np cp, .slice ap mp dp] 37) (.cells #[.bool sq, .slice oq nq cq, .slice aq mq dq] 37)
 have hpp := hp.below hb0
 have hpq := hq.below hb0
 obtain ⟨w0, hw0⟩ : ∃ w0, w0 = ((w.alloc (.cells #[.bool sp, .slice op np cp, .slice ap mp dp] 37)).alloc (.cells #[.bool sq, .slice oq nq cq, .slice aq mq dq] 37)) := ⟨_, rfl⟩
 rw [← hw0] at hb0 hxp hxq hpp hpq
 have HB0 := qHd hb0; have HW0 := qHd hw0
 have BXp := qHd hxp
 have BXq := qHd hxq
 have Fp := qHd hpp
 have Fq := qHd hpq
 clear hb0 hw0 hxp hxq hpp hp hpq hq
 have hr := rl_sub p q
 have hlp2 : rl p ≤ 40000 := hlp2; have hlq2 : rl q ≤ 40000 := hlq2
 go_enter Tryz.func13, Tryz.ntmps13
 have hs := subq_any _ p _ q w0 Fp.out Fq.out
 have HS := qHd hs; clear hs
 go_wp2_with fail
 rw [← HW0.out]
 (with_reducible refine HS.out.mono ?_); rintro e w1 ⟨v1, rfl, hb1, hn1⟩
 clear HS
 have HB1 := qHd (HB0.out.step hb1)
 have Fp := qHd (Fp.out.below hb1)
 have Fq := qHd (Fq.out.below hb1)
 have BXp := qHd (qab BXp.out hb1)
 have BXq := qHd (qab BXq.out hb1)
 have S := qHd hn1; clear hn1
 clear hb1
 have SI := qHd (S.out.is (by omega))
 obtain ⟨sS, oS, nS, cS, aS, mS, dS, rfl⟩ := S.out.shape
 have hs := sign_any _ (p - q) w1 SI.out
 rw [sg_sub] at hs
 have HS := qHd hs; clear hs
 go_wp2_with fail
 (with_reducible refine HS.out.mono ?_); rintro e w2 ⟨rfl, hb2⟩
 clear HS
 have HB2 := qHd (HB1.out.step hb2)
 have Fp := qHd (Fp.out.below hb2)
 have Fq := qHd (Fq.out.below hb2)
 have S := qHd (S.out.below hb2)
 have SI := qHd (SI.out.below hb2)
 have BXp := qHd (qab BXp.out hb2)
 have BXq := qHd (qab BXq.out hb2)
 clear hb2
 go_wp2_with fail
 go_ret
 exact ⟨rfl, HB2.out⟩
def dc (q : Rat) : Nat := if q = 0 then 8 else 0
theorem div_zero_rat (p : Rat) : p / 0 = 0 := by grind
theorem div_ok (vp : Value) (p : Rat) (vq : Value) (q : Rat) (w : World) (hp : qcn w vp p) (hq : qcn w vq q) (h0 : q ≠ 0) :
  Calls Tryz.prog 77 #[vp, vq] w (RetRE w (p / q) (errV 0)) := by
 obtain ⟨sp, op, np, cp, ap, mp, dp, rfl⟩ := hp.shape
 have hlp := hp.rl
 obtain ⟨sq, oq, nq, cq, aq, mq, dq, rfl⟩ := hq.shape
 have hlq := hq.rl
 rw [qcm]
 have hb0 := ((((Below.refl w.heap.size w).alloc (by first | (simp; done) | (simp; omega)) (.cells #[.bool sp, .slice op np cp, .slice ap mp dp] 37)).alloc (by first | (simp; done) | (simp; omega)) (.cells #[.bool sq, .slice oq nq cq, .slice aq mq dq] 37)).alloc (by first | (simp; done) | (simp; omega)) (.cells #[.bool false, .slice none 0 0, .slice none 0 0] 37))
 have hxp := nest3_0 w (.cells #[.bool sp, .slice op np cp, .slice ap mp dp] 37) (.cells #[.bool sq, .slice oq nq cq, .slice aq mq dq] 37) (.cells #[.bool false, .slice none 0 0, .slice none 0 0] 37)
 have hxq := nest3_1 w (.cells #[.bool sp, .slice op np cp, .slice ap mp dp] 37) (.cells #[.bool sq, .slice oq nq cq, .slice aq mq dq] 37) (.cells #[.bool false, .slice none 0 0, .slice none 0 0] 37)
 have hxR := nest3_2 w (.cells #[.bool sp, .slice op np cp, .slice ap mp dp] 37) (.cells #[.bool sq, .slice oq nq cq, .slice aq mq dq] 37) (.cells #[.bool false, .slice none 0 0, .slice none 0 0] 37)
 have hpp := hp.below hb0
 have hpq := hq.below hb0
 obtain ⟨w0, hw0⟩ : ∃ w0, w0 = (((w.alloc (.cells #[.bool sp, .slice op np cp, .slice ap mp dp] 37)).alloc (.cells #[.bool sq, .slice oq nq cq, .slice aq mq dq] 37)).alloc (.cells #[.bool false, .slice none 0 0, .slice none 0 0] 37)) := ⟨_, rfl⟩
 rw [← hw0] at hb0 hxp hxq hxR hpp hpq
 have HB0 := qHd hb0; have HW0 := qHd hw0
 have BXp := qHd hxp
 have BXq := qHd hxq
 have BXR := qHd hxR
 have Fp := qHd hpp
 have Fq := qHd hpq
 clear hb0 hw0 hxp hxq hxR hpp hp hpq hq
 have l1 := rl_n p; have l2 := rl_d p; have l3 := rl_n q; have l4 := rl_d q
 have L1 : (wd (nn p * q.den)).length ≤ 200000 := by have := qbk (nn p) q.den; omega
 have L2 : (wd (p.den * nn q)).length ≤ 200000 := by have := qbk p.den (nn q); omega
 have hn0 : nn q ≠ 0 := fun e => h0 (qcx.1 e)
 have heq := q_div' p q h0
 have hz : (((wd (nn q)).length : Int) == 0) = false := by rw [beq_eq_false_iff_ne]; intro h; exact wd_ne hn0 (List.eq_nil_of_length_eq_zero (by omega))
 obtain ⟨L, hL⟩ : ∃ L, L = (wd (nn q)).length := ⟨_, rfl⟩
 rw [← hL] at hz
 have HL := qHd hL; have HEQ := qHd heq; have HN0 := qHd hn0; clear hL heq hn0 h0
 go_enter Tryz.func77, Tryz.ntmps77
 have hs := qbq _ p w0 Fp.out
 have HS := qHd hs; clear hs
 go_wp2_with fail
 rw [← HW0.out]
 (with_reducible refine HS.out.mono ?_); rintro e w1 ⟨v1, u1, rfl, hb1, hn1, hm1⟩
 clear HS
 have HB1 := qHd (HB0.out.step hb1)
 have Fp := qHd (Fp.out.below hb1)
 have Fq := qHd (Fq.out.below hb1)
 have BXp := qHd (qab BXp.out hb1)
 have BXq := qHd (qab BXq.out hb1)
 have BXR := qHd (qab BXR.out hb1)
 have N := qHd hn1
 have D := qHd hm1
 clear hn1 hm1
 clear hb1
 have hs := qbq _ q w1 Fq.out
 have HS := qHd hs; clear hs
 obtain ⟨eq0, eq1, eq2⟩ := row3 BXq.out
 go_wp2_with fail
 clear eq0 eq1 eq2
 (with_reducible refine HS.out.mono ?_); rintro e w2 ⟨v2, u2, rfl, hb2, hn2, hm2⟩
 clear HS
 obtain ⟨mo, mc, rfl, _, _, _⟩ := hn2.shape
 rw [← HL.out] at hn2 ⊢
 have HB2 := qHd (HB1.out.step hb2)
 have Fp := qHd (Fp.out.below hb2)
 have Fq := qHd (Fq.out.below hb2)
 have N := qHd (N.out.below hb2)
 have D := qHd (D.out.below hb2)
 have BXp := qHd (qab BXp.out hb2)
 have BXq := qHd (qab BXq.out hb2)
 have BXR := qHd (qab BXR.out hb2)
 have M := qHd hn2
 have E := qHd hm2
 clear hn2 hm2
 clear hb2
 have hs := mulN N.out E.out (by omega) (by omega)
 have HS := qHd hs; clear hs
 go_wp2_with fail
 (with_reducible refine HS.out.mono ?_); rintro e w3 ⟨v3, rfl, hb3, hn3⟩
 clear HS
 have HB3 := qHd (HB2.out.step hb3)
 have Fp := qHd (Fp.out.below hb3)
 have Fq := qHd (Fq.out.below hb3)
 have N := qHd (N.out.below hb3)
 have D := qHd (D.out.below hb3)
 have M := qHd (M.out.below hb3)
 have E := qHd (E.out.below hb3)
 have BXp := qHd (qab BXp.out hb3)
 have BXq := qHd (qab BXq.out hb3)
 have BXR := qHd (qab BXR.out hb3)
 have X := qHd hn3; clear hn3
 clear hb3
 have hs := mulN D.out M.out (by omega) (by omega)
 have HS := qHd hs; clear hs
 go_wp2_with fail
 (with_reducible refine HS.out.mono ?_); rintro e w4 ⟨v4, rfl, hb4, hn4⟩
 clear HS
 have HB4 := qHd (HB3.out.step hb4)
 have Fp := qHd (Fp.out.below hb4)
 have Fq := qHd (Fq.out.below hb4)
 have N := qHd (N.out.below hb4)
 have D := qHd (D.out.below hb4)
 have M := qHd (M.out.below hb4)
 have E := qHd (E.out.below hb4)
 have X := qHd (X.out.below hb4)
 have BXp := qHd (qab BXp.out hb4)
 have BXq := qHd (qab BXq.out hb4)
 have BXR := qHd (qab BXR.out hb4)
 have Y := qHd hn4; clear hn4
 clear hb4
 have hs := formN (!(ng p == ng q)) X.out Y.out (by omega) (by omega) (qdf p.den_nz HN0.out)
 rw [HEQ.out] at hs
 have HS := qHd hs; clear hs
 go_wp2_with fail
 (with_reducible refine HS.out.mono ?_); rintro e w5 ⟨v5, rfl, hb5, hn5⟩
 clear HS
 have HB5 := qHd (HB4.out.step hb5)
 have Fp := qHd (Fp.out.below hb5)
 have Fq := qHd (Fq.out.below hb5)
 have N := qHd (N.out.below hb5)
 have D := qHd (D.out.below hb5)
 have M := qHd (M.out.below hb5)
 have E := qHd (E.out.below hb5)
 have X := qHd (X.out.below hb5)
 have Y := qHd (Y.out.below hb5)
 have BXp := qHd (qab BXp.out hb5)
 have BXq := qHd (qab BXq.out hb5)
 have BXR := qHd (qab BXR.out hb5)
 have Q := qHd hn5; clear hn5
 clear hb5
 obtain ⟨sQ, oQ, nQ, cQ, aQ, mQ, dQ, rfl⟩ := Q.out.shape
 obtain ⟨eR0, eR1, eR2⟩ := row3 BXR.out
 obtain ⟨fR0, fR1, fR2⟩ := froz3 BXR.out
 go_wp2_with fail
 clear eR0 eR1 eR2 fR0 fR1 fR2
 refine ret_rat2 rfl (w.heap.size + 2) _ _ _ rfl (qce BXR.out) rfl ?_
 exact ⟨_, rfl, qbx HB5.out (by omega) _ _ _, isR_put Q.out BXR.out⟩
theorem div_none (vp : Value) (p : Rat) (vq : Value) (q : Rat) (w : World) (hp : qcn w vp p) (hq : qcn w vq q) (h0 : q = 0) :
  Calls Tryz.prog 77 #[vp, vq] w (RetRE w 0 (errV 8)) := by
 obtain ⟨sp, op, np, cp, ap, mp, dp, rfl⟩ := hp.shape
 have hlp := hp.rl
 obtain ⟨sq, oq, nq, cq, aq, mq, dq, rfl⟩ := hq.shape
 have hlq := hq.rl
 rw [errV_pos (by decide)]
 have hb0 := ((((Below.refl w.heap.size w).alloc (by first | (simp; done) | (simp; omega)) (.cells #[.bool sp, .slice op np cp, .slice ap mp dp] 37)).alloc (by first | (simp; done) | (simp; omega)) (.cells #[.bool sq, .slice oq nq cq, .slice aq mq dq] 37)).alloc (by first | (simp; done) | (simp; omega)) (.cells #[.bool false, .slice none 0 0, .slice none 0 0] 37))
 have hxp := nest3_0 w (.cells #[.bool sp, .slice op np cp, .slice ap mp dp] 37) (.cells #[.bool sq, .slice oq nq cq, .slice aq mq dq] 37) (.cells #[.bool false, .slice none 0 0, .slice none 0 0] 37)
 have hxq := nest3_1 w (.cells #[.bool sp, .slice op np cp, .slice ap mp dp] 37) (.cells #[.bool sq, .slice oq nq cq, .slice aq mq dq] 37) (.cells #[.bool false, .slice none 0 0, .slice none 0 0] 37)
 have hxR := nest3_2 w (.cells #[.bool sp, .slice op np cp, .slice ap mp dp] 37) (.cells #[.bool sq, .slice oq nq cq, .slice aq mq dq] 37) (.cells #[.bool false, .slice none 0 0, .slice none 0 0] 37)
 have hpp := hp.below hb0
 have hpq := hq.below hb0
 obtain ⟨w0, hw0⟩ : ∃ w0, w0 = (((w.alloc (.cells #[.bool sp, .slice op np cp, .slice ap mp dp] 37)).alloc (.cells #[.bool sq, .slice oq nq cq, .slice aq mq dq] 37)).alloc (.cells #[.bool false, .slice none 0 0, .slice none 0 0] 37)) := ⟨_, rfl⟩
 rw [← hw0] at hb0 hxp hxq hxR hpp hpq
 have HB0 := qHd hb0; have HW0 := qHd hw0
 have BXp := qHd hxp
 have BXq := qHd hxq
 have BXR := qHd hxR
 have Fp := qHd hpp
 have Fq := qHd hpq
 clear hb0 hw0 hxp hxq hxR hpp hp hpq hq
 have H0 := qHd h0; clear h0
 go_enter Tryz.func77, Tryz.ntmps77
 have hs := qbq _ p w0 Fp.out
 have HS := qHd hs; clear hs
 go_wp2_with fail
 rw [← HW0.out]
 (with_reducible refine HS.out.mono ?_); rintro e w1 ⟨v1, u1, rfl, hb1, hn1, hm1⟩
 clear HS
 have HB1 := qHd (HB0.out.step hb1)
 have Fp := qHd (Fp.out.below hb1)
 have Fq := qHd (Fq.out.below hb1)
 have BXp := qHd (qab BXp.out hb1)
 have BXq := qHd (qab BXq.out hb1)
 have BXR := qHd (qab BXR.out hb1)
 have N := qHd hn1
 have D := qHd hm1
 clear hn1 hm1
 clear hb1
 have hs := qbq _ q w1 Fq.out
 have HS := qHd hs; clear hs
 obtain ⟨eq0, eq1, eq2⟩ := row3 BXq.out
 go_wp2_with fail
 clear eq0 eq1 eq2
 (with_reducible refine HS.out.mono ?_); rintro e w2 ⟨v2, u2, rfl, hb2, hn2, hm2⟩
 clear HS
 rw [H0.out, nn_zero, qbl] at hn2
 obtain ⟨mo, mc, rfl, _, _, _⟩ := hn2.shape
 rw [List.length_nil] at hn2 ⊢
 have HB2 := qHd (HB1.out.step hb2)
 have Fp := qHd (Fp.out.below hb2)
 have Fq := qHd (Fq.out.below hb2)
 have N := qHd (N.out.below hb2)
 have D := qHd (D.out.below hb2)
 have BXp := qHd (qab BXp.out hb2)
 have BXq := qHd (qab BXq.out hb2)
 have BXR := qHd (qab BXR.out hb2)
 have M := qHd hn2
 have E := qHd hm2
 clear hn2 hm2
 clear hb2
 obtain ⟨eR0, eR1, eR2⟩ := row3 BXR.out
 obtain ⟨fR0, fR1, fR2⟩ := froz3 BXR.out
 go_wp2_with fail
 clear eR0 eR1 eR2 fR0 fR1 fR2
 refine ret_rat2 rfl (w.heap.size + 2) _ _ _ rfl (qce BXR.out) rfl ?_
 exact ⟨_, rfl, qbx HB2.out (by omega) _ _ _, isR_zero _⟩
theorem divq_any (vp : Value) (p : Rat) (vq : Value) (q : Rat) (w : World) (hp : qcn w vp p) (hq : qcn w vq q) :
  Calls Tryz.prog 77 #[vp, vq] w (RetRE w (p / q) (errV (dc q))) := by
 unfold dc
 by_cases h : q = 0
 ·rw [if_pos h, h, div_zero_rat]; rw [h] at hq; exact div_none vp p vq 0 w hp hq rfl
 ·rw [if_neg h]; exact div_ok vp p vq q w hp hq h
def KIs (q : Rat) : Value → World → Prop := fun v w => IsR w v q
theorem kIs (q : Rat) : MonoF (KIs q) := fun _ _ _ h hb => IsR.below h hb
def KRE (q : Rat) (er : Value) : Value → World → Prop := fun v w => ∃ b, v = .tuple #[b, er] ∧ IsR w b q
theorem kRE (q : Rat) (er : Value) : MonoF (KRE q er) := fun _ _ _ ⟨b, h1, h2⟩ hb => ⟨b, h1, h2.below hb⟩
theorem qdc {w1 : World} {g : Nat} {o : Obj} (h : w1.heap[g]? = some o) : g < w1.heap.size := (Array.getElem?_eq_some_iff.1 h).1
/-! what a store of a fraction into a variable keeps -/
section
variable {w w' : World} {g : Nat} {x y z v : Value} {s s' : Bool} {o p : Option Addr} {n c m d : Nat} {T : TypeId} {q : Rat} {a b : List Nat}
end
theorem rsign_any (vp : Value) (p : Rat) (w : World) (hp : qcn w vp p)  :
  Calls Tryz.prog 39 #[vp] w (RetV w (.int .i64 (sg p))) := by
 obtain ⟨sp, op, np, cp, ap, mp, dp, rfl⟩ := hp.shape
 have hlp := hp.rl
 rw [sg_eq]
 have hb0 := ((Below.refl w.heap.size w).alloc (by first | (simp; done) | (simp; omega)) (.cells #[.bool sp, .slice op np cp, .slice ap mp dp] 37))
 have hxp := nest1_0 w (.cells #[.bool sp, .slice op np cp, .slice ap mp dp] 37)
 have hpp := hp.below hb0
 obtain ⟨w0, hw0⟩ : ∃ w0, w0 = (w.alloc (.cells #[.bool sp, .slice op np cp, .slice ap mp dp] 37)) := ⟨_, rfl⟩
 rw [← hw0] at hb0 hxp hpp
 have HB0 := qHd hb0; have HW0 := qHd hw0
 have BXp := qHd hxp
 have Fp := qHd hpp
 clear hb0 hw0 hxp hpp hp
 by_cases h0 : nn p = 0
 ·rw [if_pos h0]
  have H0 := qHd h0; clear h0
  go_enter Tryz.func39, Tryz.ntmps39
  have hs := rparts_any _ p w0 Fp.out
  have HS := qHd hs; clear hs
  go_wp2_with fail
  rw [← HW0.out]
  (with_reducible refine HS.out.mono ?_); rintro e w1 ⟨v1, u1, rfl, hb1, hn1, hm1⟩
  clear HS
  rw [H0.out, qbl] at hn1
  obtain ⟨no, nc, rfl, _, _, _⟩ := hn1.shape
  have HB1 := qHd (HB0.out.step hb1)
  have Fp := qHd (Fp.out.below hb1)
  have BXp := qHd (qab BXp.out hb1)
  have N := qHd hn1
  have D := qHd hm1
  clear hn1 hm1
  clear hb1
  go_wp2_with fail
  go_ret
  exact ⟨rfl, HB1.out⟩
 ·rw [if_neg h0]
  have hz : (((wd (nn p)).length : Int) == 0) = false := by rw [beq_eq_false_iff_ne]; intro h; exact wd_ne h0 (List.eq_nil_of_length_eq_zero (by omega))
  obtain ⟨L, hL⟩ : ∃ L, L = (wd (nn p)).length := ⟨_, rfl⟩
  rw [← hL] at hz
  have HL := qHd hL; clear hL h0
  obtain ⟨x, hx⟩ : ∃ x, x = ng p := ⟨_, rfl⟩
  rw [← hx]
  have HX := qHd hx; clear hx
  cases x
  ·go_enter Tryz.func39, Tryz.ntmps39
   have hs := rparts_any _ p w0 Fp.out
   have HS := qHd hs; clear hs
   go_wp2_with fail
   rw [← HW0.out]
   (with_reducible refine HS.out.mono ?_); rintro e w1 ⟨v1, u1, rfl, hb1, hn1, hm1⟩
   clear HS
   rw [← HX.out]
   obtain ⟨no, nc, rfl, _, _, _⟩ := hn1.shape
   rw [← HL.out]
   have HB1 := qHd (HB0.out.step hb1)
   have Fp := qHd (Fp.out.below hb1)
   have BXp := qHd (qab BXp.out hb1)
   have N := qHd hn1
   have D := qHd hm1
   clear hn1 hm1
   clear hb1
   go_wp2_with fail
   go_ret
   exact ⟨rfl, HB1.out⟩
  ·go_enter Tryz.func39, Tryz.ntmps39
   have hs := rparts_any _ p w0 Fp.out
   have HS := qHd hs; clear hs
   go_wp2_with fail
   rw [← HW0.out]
   (with_reducible refine HS.out.mono ?_); rintro e w1 ⟨v1, u1, rfl, hb1, hn1, hm1⟩
   clear HS
   rw [← HX.out]
   obtain ⟨no, nc, rfl, _, _, _⟩ := hn1.shape
   rw [← HL.out]
   have HB1 := qHd (HB0.out.step hb1)
   have Fp := qHd (Fp.out.below hb1)
   have BXp := qHd (qab BXp.out hb1)
   have N := qHd hn1
   have D := qHd hm1
   clear hn1 hm1
   clear hb1
   go_wp2_with fail
   go_ret
   exact ⟨rfl, HB1.out⟩
def sq (s : Bool) (a b : List Nat) (t : Bool) (c d : List Nat) : Rat × Rat :=
 if Vld s a b ∧ Vld t c d ∧ rq s a b ≤ rq t c d then (rq s a b, rq t c d) else (0, 0)
/-! six cells -/
def putL (w : World) (g : Nat) : Nat → List Value → World
 | _, [] => w
 | off, x :: l => putL (w.setCell ⟨g, off, none⟩ x) g (off + 1) l
theorem putL_ne {g p : Nat} (h : p ≠ g) : ∀ (l : List Value) (w : World) (off : Nat), (putL w g off l).heap[p]? = w.heap[p]?
 | [], _, _ => rfl
 | x :: l, w, off => by
  unfold putL; rw [putL_ne h l, Below.heap_setCell _ _ _ _ h]
theorem putL_size : ∀ (l : List Value) (w : World) (g off : Nat), (putL w g off l).heap.size = w.heap.size
 | [], _, _, _ => rfl
 | x :: l, w, g, off => by
  unfold putL; rw [putL_size l]; simp [World.setCell]
theorem putL_below {w0 : World} {B g : Nat} (hg : B ≤ g) : ∀ (l : List Value) (w : World) (off : Nat), Below B w0 w → Below B w0 (putL w g off l)
 | [], _, _, h => h
 | x :: l, w, off, h => by
  unfold putL; exact putL_below hg l _ _ (h.setCell hg x)
def noW (cs : Array Value) : Prop := ∀ (j : Nat) (n : Int), cs[j]? ≠ some (.int .u32 n)
theorem putL_num {w w' : World} {g off : Nat} {l : List Value} {cs : Array Value} {T : TypeId} {v : Value} {k : List Nat} (hw : w' = putL w g off l) (hn : Num w v k) (h : w.heap[g]? = some (.cells cs T)) (hc : noW cs) : Num w' v k := by
 obtain ⟨ao, c, rfl, h1, h2, h3, h4, h5⟩ := hn
 refine ⟨ao, c, rfl, h1, h2, h3, ?_, h5⟩
 intro b' o s hs
 obtain ⟨k1, k2⟩ := h4 b' o s hs
 have hsz : w'.heap.size = w.heap.size := by rw [hw, putL_size]
 refine ⟨fun h0 => by rw [hsz]; exact k1 h0, fun j hj => ?_⟩
 by_cases he : b' = g
 ·subst he
  have := k2 j hj
  have hx : w.cell? ⟨b', o + j, none⟩ = cs[o + j]? := by
   unfold World.cell?; simp only [h]; rfl
  rw [hx] at this
  exact absurd this (hc _ _)
 ·rw [← k2 j hj]
  unfold World.cell?
  have e : w'.heap[b']? = w.heap[b']? := by rw [hw, putL_ne he]
  simp only [e]
section
variable {w w' : World} {g off : Nat} {l : List Value} {cs : Array Value} {T : TypeId} {v : Value} {q : Rat} {s t : Bool} {a b c d : List Nat} {S : Rat × Rat}
theorem putL_V (hw : w' = putL w g off l) (h : RatV w v s a b) (hg : w.heap[g]? = some (.cells cs T)) (hc : noW cs) : RatV w' v s a b := by
 obtain ⟨va, vb, e, h1, h2⟩ := h
 exact ⟨va, vb, e, putL_num hw h1 hg hc, putL_num hw h2 hg hc⟩
theorem putL_I (hw : w' = putL w g off l) (h : IsR w v q) (hg : w.heap[g]? = some (.cells cs T)) (hc : noW cs) : IsR w' v q := putL_V hw h hg hc
end
theorem noW3 {s : Bool} {o p : Option Addr} {n c m d : Nat} : noW #[.bool s, .slice o n c, .slice p m d] := by
 intro j n; match j with
 | 0 => simp
 | 1 => simp
 | 2 => simp
 | j + 3 => simp
theorem putLx {w w' : World} {g p off : Nat} {l : List Value} {o : Obj} (hw : w' = putL w g off l) (h : w.heap[p]? = some o) (hp : p ≠ g) : w'.heap[p]? = some o := by
 rw [hw, putL_ne hp]; exact h
theorem putLb {w0 w w' : World} {B g off : Nat} {l : List Value} (hw : w' = putL w g off l) (h : Below B w0 w) (hg : B ≤ g) : Below B w0 w' := by
 rw [hw]; exact putL_below hg _ _ _ h
def KNew (B : Nat) (cs : Array Value) (T : TypeId) : Value → World → Prop := fun v w => ∃ g, B ≤ g ∧ v = .pointer (some ⟨g, 0, none⟩) ∧ w.heap[g]? = some (.cells cs T)
theorem kNew (B : Nat) (cs : Array Value) (T : TypeId) : MonoF (KNew B cs T) := fun _ _ _ ⟨g, h1, h2, h3⟩ hb => ⟨g, h1, h2, qab h3 hb⟩
def KLst (B n : Nat) (cs : Array Value) (T : TypeId) : Value → World → Prop := fun v w => ∃ g, B ≤ g ∧ v = .slice (some ⟨g, 0, none⟩) n n ∧ w.heap[g]? = some (.cells cs T)
theorem kLst (B n : Nat) (cs : Array Value) (T : TypeId) : MonoF (KLst B n cs T) := fun _ _ _ ⟨g, h1, h2, h3⟩ hb => ⟨g, h1, h2, qab h3 hb⟩
def qal (p : Prop) : Prop := p
theorem qal.mk {p : Prop} (h : p) : qal p := h
theorem qan {P : Program} {ops : Array Oper} {rest : List Oper} {a : Act} {w : World} {Q : Exit → Act → World → Prop} {d : Option Tmp} {ty tt : TypeId} {x y : Operand} {pos : String} {af : Array Edge}
  (h : qal (wpList P ops Q (⟨d, .store ty x y, tt, pos, af, none⟩ :: rest) a w)) : wpList P ops Q (⟨d, .store ty x y, tt, pos, af, none⟩ :: rest) a w := h
theorem putL_eq : ∀ (l : List Value) (w : World) (g off : Nat), w.setCells g off l = putL w g off l
 | [], _, _, _ => rfl
 | x :: l, w, g, off => by unfold putL World.setCells; exact putL_eq l _ _ _
theorem there_row {w : World} {g : Nat} {cs : Array Value} {T : TypeId} (h : w.heap[g]? = some (.cells cs T)) {off n : Nat} (hn : off + n ≤ cs.size) : w.there g off n := by
 intro j hj
 refine ⟨?_, ?_⟩
 ·rw [cell_of_row w g (off + j) cs T (0, 0) h, Array.getElem?_eq_getElem (show off + j < cs.size by omega)]; rfl
 ·simp [World.frozen?, h]
theorem qba {P : Program} {ops : Array Oper} {rest : List Oper} {a : Act} {w : World} {Q : Exit → Act → World → Prop} {ty tt : TypeId} {x y : Operand} {pos : String} {af : Array Edge}
  (g off : Nat) (l : List Value) {cs : Array Value} {T : TypeId} (hg : w.heap[g]? = some (.cells cs T)) (hx : a.eval x = .pointer (some ⟨g, off, none⟩)) (hy : a.eval y = .agg l.toArray)
  (hle : off + l.length ≤ cs.size) (hi : (P.info? ty).map (·.size) = some l.length) (h1 : l.all (fun v => v.oneCell') = true) (hK : ∀ w', w' = putL w g off l → wpList P ops Q rest a w') :
  qal (wpList P ops Q (⟨none, .store ty x y, tt, pos, af, none⟩ :: rest) a w) := by
 refine wpList_store_mid rfl ty x y rfl g off l.toArray hx hy (there_row hg (by simpa using hle)) (by simpa using hi) (all_oneCell_toArray (fun v hv => List.all_eq_true.1 h1 v hv)) ?_
 exact hK _ (putL_eq _ _ _ _)
theorem qag {P : Program} {f : FuncId} {args : Array Value} {w : World} {R : Ending → World → Prop} (h : qal (Calls P f args w R)) : Calls P f args w R := h
theorem qah {P : Program} {b : Code} {Q : Exit → Act → World → Prop} {a : Act} {w : World} (h : qal (Code.wp P (.loop b) Q a w)) : Code.wp P (.loop b) Q a w := h
theorem qbb {P : Program} {n : Nat} {ops : Array Oper} {Q : Exit → Act → World → Prop} {a : Act} {w : World} (h : qal (Code.wp P (.region n ops true) Q a w)) : Code.wp P (.region n ops true) Q a w := h
theorem qbc {P : Program} {fn : Func} {R : Ending → World → Prop} {x : Exit} {a : Act} {w : World} (h : qal (bodyPost P fn R x a w)) : bodyPost P fn R x a w := h
theorem qae {P : Program} {b : Code} {Q : Exit → Act → World → Prop} {n : Nat} {a : Act} {w : World} (h : qal (Code.rounds P b Q n a w)) : Code.rounds P b Q n a w := h
def noU (l : List Value) : Prop := ∀ u ∈ l, ∀ n, u ≠ .int .u32 n
theorem noW_noU {cs : Array Value} (h : noU cs.toList) : noW cs := by
 intro j n hj
 have hm : Value.int .u32 n ∈ cs.toList := by
  obtain ⟨hlt, e⟩ := Array.getElem?_eq_some_iff.1 hj
  rw [← e]; simp
 exact h _ hm n rfl
theorem noU_app {a b : List Value} (h1 : noU a) (h2 : noU b) : noU (a ++ b) := by
 intro u hu
 rcases List.mem_append.1 hu with h | h
 ·exact h1 u h
 ·exact h2 u h
theorem noU_take {a : List Value} (h : noU a) (n : Nat) : noU (a.take n) := fun u hu => h u (List.mem_of_mem_take hu)
theorem noU_drop {a : List Value} (h : noU a) (n : Nat) : noU (a.drop n) := fun u hu => h u (List.mem_of_mem_drop hu)
theorem noU_zeros {z : Array Value} (h : noU z.toList) (n : Nat) : noU (Builtin.zeroCells z n).toList := by
 intro u hu k
 unfold Builtin.zeroCells at hu
 simp only [Array.toList_map, List.mem_map] at hu
 obtain ⟨i, _, rfl⟩ := hu
 by_cases hi : i % z.size < z.size
 ·rw [getElem!_pos z (i % z.size) hi]; exact h _ (by simp) k
 ·rw [getElem!_neg z (i % z.size) hi]; exact fun e => by cases e
def qbm (w : World) (B : Nat) (e : TypeId) (size : Nat) (v : Value) (n : Nat) (xs : List Value) : Prop :=
 w.ownsRow B e size v n xs ∧ ∀ g cur, v.ownBlock = some g → w.heap[g]? = some (.cells cur e) → noU cur.toList
theorem qbm.nil (w : World) (B : Nat) (e : TypeId) (size : Nat) : qbm w B e size (.slice none 0 0) 0 [] := ⟨World.ownsRow_nil _ _ _ _, fun g _ h => by cases h⟩
theorem qbm.below {w w' : World} {B : Nat} {e : TypeId} {size : Nat} {v : Value} {n : Nat} {xs : List Value} (h : qbm w B e size v n xs) (hb : Below w.heap.size w w') : qbm w' B e size v n xs := by
 refine ⟨World.ownsRow.kept (row := none) h.1 ⟨hb.os, hb.tape, hb.output, hb.size, fun k hk _ => hb.block k hk⟩ (by cases hv : v.ownBlock <;> simp), fun g cur hg hc => ?_⟩
 have hlt := (World.ownsRow.lt h.1 g hg).2
 rw [hb.block g hlt] at hc
 exact h.2 g cur hg hc
theorem qbm.lt {w : World} {B : Nat} {e : TypeId} {size : Nat} {v : Value} {n : Nat} {xs : List Value} (h : qbm w B e size v n xs) {g : Nat} (hg : w.heap.size ≤ g) : v.ownBlock ≠ some g := fun e => by
 have := (World.ownsRow.lt h.1 g e).2; omega
theorem qbm.put {w w' : World} {B g off : Nat} {l : List Value} {e : TypeId} {size : Nat} {v : Value} {n : Nat} {xs : List Value} (h : qbm w B e size v n xs) (hw : w' = putL w g off l) (hg : v.ownBlock ≠ some g) (hos : w'.os = w.os ∧ w'.tape = w.tape ∧ w'.output = w.output) : qbm w' B e size v n xs := by
 have hbl : ∀ k, k ≠ g → w'.heap[k]? = w.heap[k]? := fun k hk => by rw [hw, putL_ne hk]
 refine ⟨World.ownsRow.kept (row := some g) h.1 ⟨hos.1, hos.2.1, hos.2.2, by rw [hw, putL_size]; exact Nat.le_refl _, fun k _ hk => hbl k (fun e => hk (by rw [e]))⟩ ?_, fun k cur hk hc => ?_⟩
 ·cases hv : v.ownBlock with
  | none => simp
  | some k => right; intro e; exact hg (by rw [hv]; exact e)
 ·rw [hbl k (fun e => hg (by rw [← e]; exact hk))] at hc
  exact h.2 k cur hk hc
theorem putL_os : ∀ (l : List Value) (w : World) (g off : Nat), (putL w g off l).os = w.os ∧ (putL w g off l).tape = w.tape ∧ (putL w g off l).output = w.output
 | [], _, _, _ => ⟨rfl, rfl, rfl⟩
 | x :: l, w, g, off => by unfold putL; obtain ⟨h1, h2, h3⟩ := putL_os l (w.setCell ⟨g, off, none⟩ x) g (off + 1); exact ⟨h1, h2, h3⟩
theorem run_append_L {P : Program} (w : World) (base : Nat) (t ty e : TypeId) (i : TypeInfo) (z : Value) (size bytes : Nat) (ht : P.underlying t = some (.slice e)) (hi : P.info? e = some i) (hz : i.zero = some z)
  (hsize : i.size = size) (hby : i.bytes = bytes) (hzs : z.cells.size = size) (hsz : 0 < size) (hzu : noU z.cells.toList)
  (v : Value) (n : Nat) (xs : List Value) (hown : qbm w base e size v n xs)
  (a : Addr) (c : Nat) (news : List Value) (hl : news.length = size) (hnews : ∀ j u, news[j]? = some u → w.cell? (a.add j) = some u) (h1 : ∀ u ∈ news, u.oneCell' = true) (hnu : noU news) (hxu : noU xs)
  (h63 : n + 1 ≤ maxLen) (hbytes : (n + 1) * bytes ≤ 140737488355328) (hbase : base ≤ w.heap.size) :
  ∃ v' w', (Builtin.append_ #[t, t] ty #[v, .slice (some a) 1 c]).run P w = .ok v' w' ∧ qbm w' base e size v' (n + 1) (xs ++ news) ∧ w.grownBy w' v.ownBlock ∧
   (∀ g, g < w.heap.size → v.ownBlock ≠ some g → v'.ownBlock ≠ some g) := by
 subst hsize
 subst hby
 have hl' : news.length = 1 * i.size := by omega
 obtain ⟨v', w', hr, h2, h3, _⟩ := run_append_own (P := P) w base t ty e i z i.size i.bytes ht hi hz rfl rfl hzs hsz v n xs hown.1 a 1 c news hl' hnews h1 h63 hbytes hbase
 refine ⟨v', w', hr, ⟨h2, ?_⟩, h3, ?_⟩
 ·intro g cur hg hc
  rcases hown.1.2 with ⟨rfl, rfl⟩ | ⟨g', cap, old, rfl, hbg, hgg, hnc, hcm, hcs, htake⟩
  ·have hr' := run_append_nil (P := P) w t ty e i z ht hi hz a 1 c news hl' hnews (by omega) (by decide) (by omega)
   rw [hr] at hr'
   simp only [Result.ok.injEq] at hr'
   obtain ⟨rfl, rfl⟩ := hr'
   simp only [Value.ownBlock, Option.some.injEq] at hg
   subst hg
   have hn := heap_alloc_new w.drew (.cells (news.toArray ++ Builtin.zeroCells z.cells (grownCap w 1 0 e - 1)) e)
   rw [show w.drew.heap.size = w.heap.size from rfl] at hn
   rw [hn] at hc
   simp only [Option.some.injEq, Obj.cells.injEq] at hc
   rw [← hc.1, Array.toList_append]
   exact noU_app hnu (noU_zeros hzu _)
  ·by_cases hroom : n + 1 ≤ cap
   ·have hfit : n * i.size + news.length ≤ old.size := by rw [hl', hcs, ← Nat.add_mul]; exact Nat.mul_le_mul_right _ hroom
    have hr' := run_append_room (P := P) w t ty e i ht hi g' n cap old hgg a 1 c news hl' hnews h1 hroom hfit
    rw [hr] at hr'
    simp only [Result.ok.injEq] at hr'
    obtain ⟨rfl, rfl⟩ := hr'
    simp only [Value.ownBlock, Option.some.injEq] at hg
    subst hg
    rw [setRow_heap w g' old _ e _ hgg] at hc
    simp only [Option.some.injEq, Obj.cells.injEq] at hc
    have ho := hown.2 g' old rfl hgg
    rw [← hc.1]
    exact noU_app (noU_app (noU_take ho _) hnu) (noU_drop ho _)
   ·have holds : ∀ j u, xs[j]? = some u → w.cell? ((⟨g', 0, none⟩ : Addr).add j) = some u := World.ownsRow.cells hown.1 (g := g') rfl
    have hr' := run_append_grow (P := P) w t ty e i z ht hi hz ⟨g', 0, none⟩ n cap xs hown.1.1 holds a 1 c news hl' hnews (by omega) (by unfold maxLen at h63; omega) (growslice_fits (by omega) hbytes)
    rw [hr] at hr'
    simp only [Result.ok.injEq] at hr'
    obtain ⟨rfl, rfl⟩ := hr'
    simp only [Value.ownBlock, Option.some.injEq] at hg
    subst hg
    have hn := heap_alloc_new w.drew (.cells (xs.toArray ++ news.toArray ++ Builtin.zeroCells z.cells (grownCap w (n + 1) cap e - (n + 1))) e)
    rw [show w.drew.heap.size = w.heap.size from rfl] at hn
    rw [hn] at hc
    simp only [Option.some.injEq, Obj.cells.injEq] at hc
    rw [← hc.1, Array.toList_append, Array.toList_append]
    exact noU_app (noU_app hxu hnu) (noU_zeros hzu _)
 ·intro g hglt hgne hg'
  rcases hown.1.2 with ⟨rfl, rfl⟩ | ⟨g', cap, old, rfl, hbg, hgg, hnc, hcm, hcs, htake⟩
  ·have hr' := run_append_nil (P := P) w t ty e i z ht hi hz a 1 c news hl' hnews (by omega) (by decide) (by omega)
   rw [hr] at hr'
   simp only [Result.ok.injEq] at hr'
   obtain ⟨rfl, rfl⟩ := hr'
   simp only [Value.ownBlock, Option.some.injEq] at hg'
   omega
  ·by_cases hroom : n + 1 ≤ cap
   ·have hfit : n * i.size + news.length ≤ old.size := by rw [hl', hcs, ← Nat.add_mul]; exact Nat.mul_le_mul_right _ hroom
    have hr' := run_append_room (P := P) w t ty e i ht hi g' n cap old hgg a 1 c news hl' hnews h1 hroom hfit
    rw [hr] at hr'
    simp only [Result.ok.injEq] at hr'
    obtain ⟨rfl, rfl⟩ := hr'
    exact hgne hg'
   ·have holds : ∀ j u, xs[j]? = some u → w.cell? ((⟨g', 0, none⟩ : Addr).add j) = some u := World.ownsRow.cells hown.1 (g := g') rfl
    have hr' := run_append_grow (P := P) w t ty e i z ht hi hz ⟨g', 0, none⟩ n cap xs hown.1.1 holds a 1 c news hl' hnews (by omega) (by unfold maxLen at h63; omega) (growslice_fits (by omega) hbytes)
    rw [hr] at hr'
    simp only [Result.ok.injEq] at hr'
    obtain ⟨rfl, rfl⟩ := hr'
    simp only [Value.ownBlock, Option.some.injEq] at hg'
    omega
theorem qbf {P : Program} {ops : Array Oper} {rest : List Oper} {a : Act} {w : World} {Q : Exit → Act → World → Prop} {d : Option Tmp} {tt : TypeId} {args : Array Operand} {tys : Array TypeId} {pos : String} {af : Array Edge}
  (h : qal (wpList P ops Q (⟨d, .call { callee := .builtin .append, args := args, argTypes := tys }, tt, pos, af, none⟩ :: rest) a w)) : wpList P ops Q (⟨d, .call { callee := .builtin .append, args := args, argTypes := tys }, tt, pos, af, none⟩ :: rest) a w := h
theorem qbo {P : Program} {ops : Array Oper} {rest : List Oper} {a : Act} {w : World} {Q : Exit → Act → World → Prop} {d : Option Tmp} {tt : TypeId} {s x : Operand} {t e : TypeId} {pos : String} {af : Array Edge}
  (base : Nat) {z : Value} {size bytes : Nat} (T : qcl P t e z size bytes) (hzs : z.cells.size = size) (hzu : noU z.cells.toList) (hsz : 0 < size)
  (v : Value) (n : Nat) (xs news : List Value) (g0 : Nat) (T0 : TypeId) (hs : a.eval s = v) (hx : a.eval x = .slice (some ⟨g0, 0, none⟩) 1 1) (hown : qbm w base e size v n xs) (hg0 : w.heap[g0]? = some (.cells news.toArray T0)) (hl : news.length = size)
  (h1 : news.all (fun u => u.oneCell') = true) (hnu : noU news) (hxu : noU xs) (hn : n ≤ 1000000) (hby : bytes ≤ 1000) (hbase : base ≤ w.heap.size)
  (hK : ∀ v' w', qbm w' base e size v' (n + 1) (xs ++ news) → w.grownBy w' v.ownBlock → (∀ g, g < w.heap.size → v.ownBlock ≠ some g → v'.ownBlock ≠ some g) → wpList P ops Q rest (a.put d v') w') :
  qal (wpList P ops Q (⟨d, .call { callee := .builtin .append, args := #[s, x], argTypes := #[t, t] }, tt, pos, af, none⟩ :: rest) a w) := by
 obtain ⟨i0, hi, hz0, hz1, hz2⟩ := T.info
 have hbb : (n + 1) * bytes ≤ 140737488355328 := Nat.le_trans (Nat.mul_le_mul (show n + 1 ≤ 1000001 by omega) hby) (by decide)
 obtain ⟨v', w', hr, k1, k2, k3⟩ := run_append_L (P := P) w base t tt e i0 z size bytes T.under hi hz0 hz1 hz2 hzs hsz hzu v n xs hown ⟨g0, 0, none⟩ 1 news hl
  (fun j u hu => by
   have e2 : (⟨g0, 0, none⟩ : Addr).add j = ⟨g0, j, none⟩ := by unfold Addr.add; split <;> simp_all
   rw [e2, cell_of_row w g0 j news.toArray T0 (0, 0) hg0]; simpa using hu) (fun u hu => List.all_eq_true.1 h1 u hu) hnu hxu (by unfold maxLen; omega) hbb hbase
 refine wpList_plain rfl fun _ hK' => ?_
 unfold Oper.wp execOp
 simp only [resolve, invoke, builtin, Sem.run_bind, Sem.run_pure, Result.andThen_ok, List.map_toArray, List.map_cons, List.map_nil, hs, hx, hr]
 exact hK' _ _ (hK v' w' k1 k2 k3)
theorem qbm.low {w w' w0 : World} {B n size : Nat} {e : TypeId} {v0 : Value} {xs : List Value} (ho : qbm w B e size v0 n xs) (hg : w.grownBy w' v0.ownBlock) (hb : Below B w0 w) (hB : B ≤ w.heap.size) : Below B w0 w' := by
 refine hb.grown hg hB ?_
 intro k hk
 exact (World.ownsRow.lt ho.1 k hk).1
theorem grown_heap {w w' : World} {v0 : Value} {g : Nat} {o : Obj} (hg : w.grownBy w' v0.ownBlock) (h : w.heap[g]? = some o) (hn : v0.ownBlock ≠ some g) : w'.heap[g]? = some o := by
 rw [hg.block g (Array.getElem?_eq_some_iff.1 h).1 (fun e => hn e.symm)]; exact h
section
variable {w w' : World} {v0 v : Value} {B n size : Nat} {e : TypeId} {xs : List Value} {q : Rat} {s t : Bool} {a b c d : List Nat} {S : Rat × Rat}
end
theorem noU3 {s : Bool} {o p : Option Addr} {n c m d : Nat} : noU [.bool s, .slice o n c, .slice p m d] := by
 intro u hu k
 simp only [List.mem_cons, List.not_mem_nil, or_false] at hu
 rcases hu with rfl | rfl | rfl <;> exact fun e => by cases e
theorem noU0 : noU [] := fun u hu => by cases hu
theorem Tryz.ratTy : qcl Tryz.prog 28 37 (.agg #[.bool false, .slice none 0 0, .slice none 0 0]) 3 56 :=
 .mk' Tryz.underlying28 (by kernel_rfl)
end Go.Proofs.YtblekfkmianmeaaGreatDoor
namespace Go.Proofs.YtblekfkmianmeaaGreatDoor
def I64 (x : Int) : Prop := -9223372036854775808 ≤ x ∧ x ≤ 9223372036854775807
def wtAt (p : Rat) (y n : Bool) : Rat := if y then p else if n then 1 - p else 1
def wtL : List Rat → Nat → Nat → Nat → Rat
 | [], _, _, _ => 1
 | p :: ps, i, y, n => wtAt p (y.testBit i) (n.testBit i) * wtL ps (i + 1) y n
def wt (ps : List Rat) (y n : Nat) : Rat := wtL ps 0 y n
end Go.Proofs.YtblekfkmianmeaaGreatDoor
namespace Go.Proofs.YtblekfkmianmeaaGreatDoor
open Go.RowKit Go.ChangeShapes Go.WideShapes Go.Deep
theorem i64_wf {n : Int} (h : (Lit.int .i64 n).wf = true) : I64 n := by
 simp only [Lit.wf, Bool.and_eq_true, decide_eq_true_eq] at h
 have h1 : IntKind.i64.min = -9223372036854775808 := by decide
 have h2 : IntKind.i64.max = 9223372036854775807 := by decide
 rw [h1, h2] at h
 exact h
theorem addr_add (b off j : Nat) : (⟨b, off, none⟩ : Addr).add j = ⟨b, off + j, none⟩ := by unfold Addr.add; split <;> simp_all
theorem cell_none {W : World} {b off j : Nat} {s : Option Nat} {x : Value} (h : W.cell? ((⟨b, off, s⟩ : Addr).add j) = some x) (hj : j = 0) : b < W.heap.size ∧ s = none := by
 subst hj
 have e0 : (⟨b, off, s⟩ : Addr).add 0 = ⟨b, off, s⟩ := by simp [Addr.add]
 rw [e0] at h
 refine ⟨World.block_lt_of_cell? W _ h, ?_⟩
 cases s with
 | none => rfl
 | some x =>
  unfold World.cell? at h
  split at h <;> simp at h
section
variable {H : Type} {enc : TypeId × Value → H} {P : Program} {W : World}
end
end Go.Proofs.YtblekfkmianmeaaGreatDoor
namespace Go.Proofs.YtblekfkmianmeaaGreatDoor
open Go.RowKit Go.ChangeShapes Go.WideShapes
def qco (l : List Int) : List Value := l.map fun x => Value.int .i64 x
theorem ivals_at {l : List Int} {j : Nat} {x : Int} (h : l[j]? = some x) : (qco l)[j]? = some (.int .i64 x) := by simp [qco, h]
theorem ivals_app (a b : List Int) : qco (a ++ b) = qco a ++ qco b := by simp [qco]
def qcs (l : List Nat) : List Int := l.map fun x : Nat => (x : Int)
theorem nints_app (a b : List Nat) : qcs (a ++ b) = qcs a ++ qcs b := by simp [qcs]
theorem nints_at {l : List Nat} {j : Nat} (h : j < l.length) : (qcs l)[j]? = some (gd l j : Int) := by
 simp [qcs, gd, List.getElem?_eq_getElem h]
theorem qbi {w : World} {B : Nat} {e : TypeId} {size n : Nat} {v : Value} {xs : List Value} (h : w.ownsRow B e size v n xs) {ao : Option Addr} {m c : Nat} (hv : v = .slice ao m c) (hn : 0 < n) :
  ∃ g, ao = some ⟨g, 0, none⟩ ∧ B ≤ g ∧ g < w.heap.size ∧ m = n ∧ n ≤ c ∧ ∀ j u, xs[j]? = some u → w.cell? ⟨g, j, none⟩ = some u := by
 have hc := fun g hg => World.ownsRow.cells (g := g) h hg
 have hlt := World.ownsRow.lt h
 rcases h.2 with ⟨h1, h2⟩ | ⟨g, cap, cur, h1, hb, hh, hcap, hm, hs, ht⟩
 ·omega
 ·rw [h1] at hv
  cases hv
  subst h1
  refine ⟨g, rfl, hb, (hlt g rfl).2, rfl, hcap, fun j u hj => ?_⟩
  have := hc g rfl j u hj
  rw [addr_add] at this
  simpa using this
theorem qbd {w : World} {B : Nat} {e : TypeId} {size n : Nat} {v : Value} {xs : List Value} (h : w.ownsRow B e size v n xs) : ∃ ao c, v = .slice ao n c ∧ n ≤ c ∧ c ≤ 9223372036854775807 ∧ (ao = none → c = 0) := by
 rcases h.2 with ⟨h1, h2⟩ | ⟨g, cap, cur, h1, hb, hh, hcap, hm, hs, ht⟩
 ·subst h2; exact ⟨none, 0, h1, by omega, by omega, fun _ => rfl⟩
 ·exact ⟨some ⟨g, 0, none⟩, cap, h1, hcap, by unfold maxLen at hm; omega, fun h => by cases h⟩
theorem own_low {w w' w0 : World} {B n size : Nat} {e : TypeId} {v0 : Value} {xs : List Value} (ho : w.ownsRow B e size v0 n xs) (hg : w.grownBy w' v0.ownBlock) (hb : Below B w0 w) (hB : B ≤ w.heap.size) : Below B w0 w' := by
 refine hb.grown hg hB ?_
 intro k hk
 exact (World.ownsRow.lt ho k hk).1
theorem qcr {w : World} {B B' : Nat} {e : TypeId} {size n : Nat} {v : Value} {xs : List Value} (h : w.ownsRow B e size v n xs) (hB : B' ≤ B) : w.ownsRow B' e size v n xs := by
 obtain ⟨h1, h2⟩ := h
 refine ⟨h1, ?_⟩
 rcases h2 with h2 | ⟨g, cap, cur, hv, hb, r⟩
 ·exact .inl h2
 ·exact .inr ⟨g, cap, cur, hv, Nat.le_trans hB hb, r⟩
section
variable {P : Program} {w : World} {ops : Array Oper} {rest : List Oper} {a : Act} {Q : Exit → Act → World → Prop}
end
structure Stp (w w' : World) (r : Option Nat) : Prop where
 gr : w.grownBy w' r
 word : ∀ b i n, w.cell? ⟨b, i, none⟩ = some (.int .u32 n) → w'.cell? ⟨b, i, none⟩ = some (.int .u32 n)
theorem below_gr {w w' : World} (hb : Below w.heap.size w w') : w.grownBy w' none := ⟨hb.os, hb.tape, hb.output, hb.size, fun k hk _ => hb.block k hk⟩
theorem qca {w w' : World} (hb : Below w.heap.size w w') : Stp w w' none :=
 ⟨below_gr hb, fun b i n h => by rw [hb.cell (p := ⟨b, i, none⟩) (World.block_lt_of_cell? w _ h)]; exact h⟩
theorem Stp.num {w w' : World} {r : Option Nat} (hs : Stp w w' r) {v : Value} {l : List Nat} (h : Num w v l) : Num w' v l := by
 obtain ⟨ao, c, rfl, h1, h2, h3, h4, h5⟩ := h
 refine ⟨ao, c, rfl, h1, h2, h3, ?_, h5⟩
 intro b o s hs'
 obtain ⟨k1, k2⟩ := h4 b o s hs'
 exact ⟨fun h0 => ⟨Nat.lt_of_lt_of_le (k1 h0).1 hs.gr.size, (k1 h0).2⟩, fun j hj => hs.word _ _ _ (k2 j hj)⟩
theorem Stp.V {w w' : World} {r : Option Nat} (hs : Stp w w' r) {v : Value} {s : Bool} {a b : List Nat} (h : RatV w v s a b) : RatV w' v s a b := by
 obtain ⟨va, vb, e, h1, h2⟩ := h
 exact ⟨va, vb, e, hs.num h1, hs.num h2⟩
theorem Stp.I {w w' : World} {r : Option Nat} (hs : Stp w w' r) {v : Value} {q : Rat} (h : IsR w v q) : IsR w' v q := hs.V h
theorem Stp.heap {w w' : World} {r : Option Nat} (hs : Stp w w' r) {g : Nat} {o : Obj} (h : w.heap[g]? = some o) (hr : r ≠ some g) : w'.heap[g]? = some o := by
 rw [hs.gr.block g (Array.getElem?_eq_some_iff.1 h).1 (fun e => hr e.symm)]; exact h
theorem Stp.low {w0 w w' : World} {g B : Nat} (hs : Stp w w' (some g)) (hb : Below B w0 w) (hB : B ≤ w.heap.size) (hg : B ≤ g) : Below B w0 w' :=
 hb.grown hs.gr hB (fun k hk => by cases hk; exact hg)
theorem Stp.low' {w0 w w' : World} {r : Option Nat} {B : Nat} (hs : Stp w w' r) (hb : Below B w0 w) (hB : B ≤ w.heap.size) (hg : ∀ g, r = some g → B ≤ g) : Below B w0 w' :=
 hb.grown hs.gr hB hg
theorem qbm.noU {w : World} {B : Nat} {e : TypeId} {size n : Nat} {v : Value} {xs : List Value} (h : qbm w B e size v n xs) : Go.Proofs.YtblekfkmianmeaaGreatDoor.noU xs := by
 rcases h.1.2 with ⟨rfl, rfl⟩ | ⟨g, cap, cur, rfl, hb, hg, _, _, _, ht⟩
 ·have : xs = [] := List.eq_nil_of_length_eq_zero (by have := h.1.1; omega)
  rw [this]; exact noU0
 ·rw [← ht]; exact noU_take (h.2 g cur rfl hg) _
theorem qbm.kept {w w' : World} {B : Nat} {e : TypeId} {size n : Nat} {v : Value} {xs : List Value} {r : Option Nat} (h : qbm w B e size v n xs) (hg : w.grownBy w' r) (hne : ∀ g, v.ownBlock = some g → r ≠ some g) : qbm w' B e size v n xs := by
 refine ⟨World.ownsRow.kept h.1 hg ?_, fun g cur hv hc => ?_⟩
 ·cases hv : v.ownBlock with
  | none => exact .inl rfl
  | some g => exact .inr (fun e => hne g hv e.symm)
 ·have hlt := (World.ownsRow.lt h.1 g hv).2
  rw [hg.block g hlt (fun e => hne g hv e.symm)] at hc
  exact h.2 g cur hv hc
theorem stp_own {w w' : World} {B : Nat} {e : TypeId} {size n : Nat} {v : Value} {xs : List Value} (ho : qbm w B e size v n xs) (hg : w.grownBy w' v.ownBlock) : Stp w w' v.ownBlock := by
 refine ⟨hg, fun b i k h => ?_⟩
 by_cases hb : v.ownBlock = some b
 ·exfalso
  rcases ho.1.2 with ⟨rfl, _⟩ | ⟨g, cap, cur, rfl, _, hgg, _⟩
  ·cases hb
  ·simp only [Value.ownBlock, Option.some.injEq] at hb
   subst hb
   have hn := noW_noU (ho.2 g cur rfl hgg)
   rw [cell_of_row w g i cur e (0, 0) hgg] at h
   exact hn _ _ h
 ·have hlt : b < w.heap.size := World.block_lt_of_cell? w _ h
  rw [← h]
  unfold World.cell?
  rw [hg.block b hlt (fun e => hb e.symm)]
/-! writing -/
def spl (xs : List Value) (off : Nat) (l : List Value) : List Value := xs.take off ++ l ++ xs.drop (off + l.length)
theorem spl_at {xs l : List Value} {off : Nat} (h : off + l.length ≤ xs.length) (i : Nat) : (spl xs off l)[i]? = if i < off then xs[i]? else if i < off + l.length then l[i - off]? else xs[i]? := by
 unfold spl
 have h1 : (xs.take off).length = off := by rw [List.length_take]; omega
 by_cases a : i < off
 ·rw [if_pos a, List.append_assoc, List.getElem?_append_left (by omega), List.getElem?_take, if_pos a]
 ·rw [if_neg a]
  by_cases b : i < off + l.length
  ·rw [if_pos b, List.getElem?_append_left (by rw [List.length_append]; omega), List.getElem?_append_right (by omega), h1]
  ·rw [if_neg b, List.getElem?_append_right (by rw [List.length_append]; omega), List.length_append, h1, List.getElem?_drop]
   congr 1; omega
theorem spl_length {xs l : List Value} {off : Nat} (h : off + l.length ≤ xs.length) : (spl xs off l).length = xs.length := by
 unfold spl
 rw [List.length_append, List.length_append, List.length_take, List.length_drop]; omega
theorem putL_heap : ∀ (l : List Value) (w : World) (g off : Nat) (cs : Array Value) (T : TypeId), w.heap[g]? = some (.cells cs T) → off + l.length ≤ cs.size → (putL w g off l).heap[g]? = some (.cells (spl cs.toList off l).toArray T)
 | [], w, g, off, cs, T, h, _ => by
  unfold putL spl
  rw [List.append_nil, List.length_nil, Nat.add_zero, List.take_append_drop, Array.toArray_toList]; exact h
 | x :: l, w, g, off, cs, T, h, hle => by
  rw [List.length_cons] at hle
  unfold putL
  rw [putL_heap l _ g (off + 1) (cs.setIfInBounds off x) T (heap_setCell_same w g off cs T x h) (by simp; omega)]
  congr 2
  refine congrArg List.toArray (List.ext_getElem? fun i => ?_)
  rw [spl_at (by simp; omega), spl_at (by simp; omega)]
  simp only [Array.toList_setIfInBounds, List.getElem?_set, List.length_cons, Array.length_toList]
  by_cases a : i < off
  ·rw [if_pos (by omega), if_pos a, if_neg (by omega)]
  ·rw [if_neg a]
   by_cases b : i = off
   ·subst b
    rw [if_pos (by omega), if_pos rfl, if_pos (by omega), if_pos (by omega), Nat.sub_self]; rfl
   ·rw [if_neg (by omega)]
    by_cases d : i < off + 1 + l.length
    ·rw [if_pos d, if_pos (by omega), show i - off = (i - (off + 1)) + 1 by omega, List.getElem?_cons_succ]
    ·rw [if_neg d, if_neg (fun e => b e.symm), if_neg (by omega)]
theorem noU_spl {xs l : List Value} {off : Nat} (h : noU xs) (k : noU l) : noU (spl xs off l) := noU_app (noU_app (noU_take h _) k) (noU_drop h _)
theorem qbm.write {w w' : World} {B : Nat} {e : TypeId} {size n cap g off : Nat} {xs l : List Value} (h : qbm w B e size (.slice (some ⟨g, 0, none⟩) n cap) n xs) (hw : w' = putL w g off l) (hle : off + l.length ≤ n * size) (hl : Go.Proofs.YtblekfkmianmeaaGreatDoor.noU l) :
  qbm w' B e size (.slice (some ⟨g, 0, none⟩) n cap) n (spl xs off l) ∧ Stp w w' (some g) := by
 have hlen := h.1.1
 obtain ⟨h1, h2⟩ := h.1
 have hgr : w.grownBy w' (some g) := by
  refine ⟨by rw [hw]; exact (putL_os _ _ _ _).1, by rw [hw]; exact (putL_os _ _ _ _).2.1, by rw [hw]; exact (putL_os _ _ _ _).2.2, by rw [hw, putL_size]; exact Nat.le_refl _, fun k _ hk => by rw [hw, putL_ne (fun e => hk (by rw [e]))]⟩
 have hst : Stp w w' (some g) := stp_own h hgr
 refine ⟨?_, hst⟩
 rcases h2 with ⟨h0, _⟩ | ⟨g', cap', cur, hv, hb, hg, hnc, hcm, hcs, ht⟩
 ·cases h0
 ·simp only [Value.slice.injEq, Option.some.injEq, Addr.mk.injEq, and_true, true_and] at hv
  obtain ⟨rfl, rfl⟩ := hv
  have hnn : n * size ≤ cap * size := Nat.mul_le_mul hnc (Nat.le_refl _)
  have hcl : cur.toList.length = cur.size := Array.length_toList
  have hfit : off + l.length ≤ cur.toList.length := by omega
  have hfit2 : off + l.length ≤ (cur.toList.take (n * size)).length := by rw [List.length_take]; omega
  have hg' : w'.heap[g]? = some (.cells (spl cur.toList off l).toArray e) := by rw [hw]; exact putL_heap l w g off cur e hg (by omega)
  refine ⟨⟨by rw [spl_length (by omega)]; exact h1, .inr ⟨g, cap, _, rfl, hb, hg', hnc, hcm, by rw [List.size_toArray, spl_length hfit, hcl]; exact hcs, ?_⟩⟩, fun g' cur' hv hc => ?_⟩
  ·rw [← ht]
   apply List.ext_getElem?
   intro i
   rw [List.getElem?_take, spl_at hfit, spl_at hfit2, List.getElem?_take]
   by_cases a : i < n * size
   ·rw [if_pos a, if_pos a]
   ·rw [if_neg a, if_neg a, if_neg (by omega), if_neg (by omega)]
  ·simp only [Value.ownBlock, Option.some.injEq] at hv
   subst hv
   rw [hg'] at hc
   simp only [Option.some.injEq, Obj.cells.injEq] at hc
   rw [← hc.1]
   exact noU_spl (h.2 g cur rfl hg) hl
/-! lists of fractions -/
def FrAt (w : World) (xs : List Value) (j : Nat) (q : Rat) : Prop :=
 ∃ s o k c p m d, xs[j * 3]? = some (.bool s) ∧ xs[j * 3 + 1]? = some (.slice o k c) ∧ xs[j * 3 + 2]? = some (.slice p m d) ∧ IsR w (.agg #[.bool s, .slice o k c, .slice p m d]) q
def FrL (w : World) (B : Nat) (v : Value) (n : Nat) (x : Nat → Rat) : Prop := ∃ xs, qbm w B 37 3 v n xs ∧ ∀ j, j < n → FrAt w xs j (x j)
def updR (x : Nat → Rat) (j : Nat) (q : Rat) : Nat → Rat := fun i => if i = j then q else x i
theorem FrAt.stp {w w' : World} {r : Option Nat} {xs : List Value} {j : Nat} {q : Rat} (h : FrAt w xs j q) (hs : Stp w w' r) : FrAt w' xs j q := by
 obtain ⟨s, o, k, c, p, m, d, h1, h2, h3, h4⟩ := h
 exact ⟨s, o, k, c, p, m, d, h1, h2, h3, hs.I h4⟩
theorem FrL.stp {w w' : World} {r : Option Nat} {B n : Nat} {v : Value} {x : Nat → Rat} (h : FrL w B v n x) (hs : Stp w w' r) (hne : ∀ g, v.ownBlock = some g → r ≠ some g) : FrL w' B v n x := by
 obtain ⟨xs, h1, h2⟩ := h
 exact ⟨xs, h1.kept hs.gr hne, fun j hj => (h2 j hj).stp hs⟩
theorem FrL.below {w w' : World} {B n : Nat} {v : Value} {x : Nat → Rat} (h : FrL w B v n x) (hb : Below w.heap.size w w') : FrL w' B v n x := h.stp (qca hb) (fun _ _ e => by cases e)
theorem FrL.congr {w : World} {B n : Nat} {v : Value} {x y : Nat → Rat} (h : FrL w B v n x) (e : ∀ j, j < n → x j = y j) : FrL w B v n y := by
 obtain ⟨xs, h1, h2⟩ := h
 exact ⟨xs, h1, fun j hj => by rw [← e j hj]; exact h2 j hj⟩
theorem FrL.base {w : World} {B B' n : Nat} {v : Value} {x : Nat → Rat} (h : FrL w B v n x) (hB : B' ≤ B) : FrL w B' v n x := by
 obtain ⟨xs, h1, h2⟩ := h
 exact ⟨xs, ⟨qcr h1.1 hB, h1.2⟩, h2⟩
theorem FrL.lt {w : World} {B n : Nat} {v : Value} {x : Nat → Rat} (h : FrL w B v n x) {g : Nat} (hg : v.ownBlock = some g) : B ≤ g ∧ g < w.heap.size := by
 obtain ⟨xs, h1, _⟩ := h
 exact World.ownsRow.lt h1.1 g hg
theorem FrL.nil (w : World) (B : Nat) (x : Nat → Rat) : FrL w B (.slice none 0 0) 0 x := ⟨[], qbm.nil w B _ _, fun j hj => absurd hj (by omega)⟩
theorem FrL.shape {w : World} {B n : Nat} {v : Value} {x : Nat → Rat} (h : FrL w B v n x) : ∃ ao c, v = .slice ao n c ∧ n ≤ c ∧ c ≤ 9223372036854775807 ∧ (ao = none → c = 0) := by
 obtain ⟨xs, h1, _⟩ := h
 exact qbd h1.1
theorem FrL.addr {w : World} {B n : Nat} {v : Value} {x : Nat → Rat} (h : FrL w B v n x) (hn : 0 < n) : ∃ g c, v = .slice (some ⟨g, 0, none⟩) n c ∧ n ≤ c ∧ c ≤ 9223372036854775807 ∧ B ≤ g ∧ g < w.heap.size := by
 obtain ⟨ao, c, rfl, h1, h2, _⟩ := h.shape
 obtain ⟨xs, h3, _⟩ := h
 obtain ⟨g, rfl, k1, k2, _⟩ := qbi h3.1 rfl hn
 exact ⟨g, c, rfl, h1, h2, k1, k2⟩
theorem FrL.at {w : World} {B n g c : Nat} {x : Nat → Rat} (h : FrL w B (.slice (some ⟨g, 0, none⟩) n c) n x) {j : Nat} (hj : j < n) :
  ∃ s o k c' p m d, w.cell? ⟨g, j * 3, none⟩ = some (.bool s) ∧ w.cell? ⟨g, j * 3 + 1, none⟩ = some (.slice o k c') ∧ w.cell? ⟨g, j * 3 + 2, none⟩ = some (.slice p m d) ∧ IsR w (.agg #[.bool s, .slice o k c', .slice p m d]) (x j) := by
 obtain ⟨xs, h1, h2⟩ := h
 obtain ⟨s, o, k, c', p, m, d, e0, e1, e2, hI⟩ := h2 j hj
 obtain ⟨g', e, _, _, _, _, hc⟩ := qbi h1.1 rfl (by omega)
 cases e
 exact ⟨s, o, k, c', p, m, d, hc _ _ e0, hc _ _ e1, hc _ _ e2, hI⟩
theorem FrL.put {w w' : World} {B n g c : Nat} {x : Nat → Rat} (h : FrL w B (.slice (some ⟨g, 0, none⟩) n c) n x) {j : Nat} (hj : j < n) {q : Rat} {s : Bool} {o p : Option Addr} {k c' m d : Nat}
  (hq : IsR w (.agg #[.bool s, .slice o k c', .slice p m d]) q) (hw : w' = putL w g (j * 3) [.bool s, .slice o k c', .slice p m d]) : FrL w' B (.slice (some ⟨g, 0, none⟩) n c) n (updR x j q) ∧ Stp w w' (some g) := by
 obtain ⟨xs, h1, h2⟩ := h
 have hlen := h1.1.1
 have hle : j * 3 + [Value.bool s, .slice o k c', .slice p m d].length ≤ n * 3 := by simp only [List.length_cons, List.length_nil]; omega
 obtain ⟨k1, k2⟩ := h1.write hw hle noU3
 refine ⟨⟨_, k1, fun i hi => ?_⟩, k2⟩
 unfold updR
 by_cases e : i = j
 ·subst e
  rw [if_pos rfl]
  refine ⟨s, o, k, c', p, m, d, ?_, ?_, ?_, k2.I hq⟩ <;> (rw [spl_at (by omega), if_neg (by omega)]; simp)
 ·rw [if_neg e]
  obtain ⟨s', o', k', c2, p', m', d', e0, e1, e2, hI⟩ := h2 i hi
  refine ⟨s', o', k', c2, p', m', d', ?_, ?_, ?_, k2.I hI⟩
  ·rw [spl_at (by omega)]; simp only [List.length_cons, List.length_nil]; split
   ·exact e0
   ·rw [if_neg (by omega)]; exact e0
  ·rw [spl_at (by omega)]; simp only [List.length_cons, List.length_nil]; split
   ·exact e1
   ·rw [if_neg (by omega)]; exact e1
  ·rw [spl_at (by omega)]; simp only [List.length_cons, List.length_nil]; split
   ·exact e2
   ·rw [if_neg (by omega)]; exact e2
theorem FrL.app {w w' : World} {B n : Nat} {v v' : Value} {x : Nat → Rat} {xs : List Value} (ho : qbm w B 37 3 v n xs) (hx : ∀ j, j < n → FrAt w xs j (x j)) {q : Rat} {s : Bool} {o p : Option Addr} {k c' m d : Nat}
  (hq : IsR w (.agg #[.bool s, .slice o k c', .slice p m d]) q) (h' : qbm w' B 37 3 v' (n + 1) (xs ++ [.bool s, .slice o k c', .slice p m d])) (hs : Stp w w' v.ownBlock) : FrL w' B v' (n + 1) (updR x n q) := by
 have hlen := ho.1.1
 refine ⟨_, h', fun j hj => ?_⟩
 unfold updR
 by_cases e : j = n
 ·subst e
  rw [if_pos rfl]
  refine ⟨s, o, k, c', p, m, d, ?_, ?_, ?_, hs.I hq⟩ <;> (rw [List.getElem?_append_right (by omega), hlen]; simp)
 ·rw [if_neg e]
  obtain ⟨s', o', k', c2, p', m', d', e0, e1, e2, hI⟩ := hx j (by omega)
  refine ⟨s', o', k', c2, p', m', d', ?_, ?_, ?_, hs.I hI⟩
  ·rw [List.getElem?_append_left (by omega)]; exact e0
  ·rw [List.getElem?_append_left (by omega)]; exact e1
  ·rw [List.getElem?_append_left (by omega)]; exact e2
/-! matrices -/
structure Mat (w : World) (B : Nat) (v0 : Value) (m : Nat) (V : Nat → Value) (n : Nat → Nat) (M : Nat → Nat → Rat) : Prop where
 out : qbm w B 28 1 v0 m ((List.range m).map V)
 row : ∀ i, i < m → FrL w B (V i) (n i) (M i)
 ne0 : ∀ i, i < m → ∀ g, v0.ownBlock = some g → (V i).ownBlock ≠ some g
 inj : ∀ i j, i < m → j < m → i ≠ j → ∀ g, (V i).ownBlock = some g → (V j).ownBlock ≠ some g
def updV {α : Type} (x : Nat → α) (j : Nat) (q : α) : Nat → α := fun i => if i = j then q else x i
section
variable {w w' : World} {B m : Nat} {v0 : Value} {V : Nat → Value} {n : Nat → Nat} {M : Nat → Nat → Rat}
theorem Mat.stp {r : Option Nat} (h : Mat w B v0 m V n M) (hs : Stp w w' r) (h0 : ∀ g, v0.ownBlock = some g → r ≠ some g) (hr : ∀ i, i < m → ∀ g, (V i).ownBlock = some g → r ≠ some g) : Mat w' B v0 m V n M :=
 ⟨h.out.kept hs.gr h0, fun i hi => (h.row i hi).stp hs (hr i hi), h.ne0, h.inj⟩
theorem Mat.below (h : Mat w B v0 m V n M) (hb : Below w.heap.size w w') : Mat w' B v0 m V n M := h.stp (qca hb) (fun _ _ e => by cases e) (fun _ _ _ _ e => by cases e)
theorem Mat.lt (h : Mat w B v0 m V n M) {g : Nat} (hg : v0.ownBlock = some g) : B ≤ g ∧ g < w.heap.size := World.ownsRow.lt h.out.1 g hg
theorem Mat.congr (h : Mat w B v0 m V n M) {N : Nat → Nat → Rat} (e : ∀ i, i < m → ∀ j, j < n i → M i j = N i j) : Mat w B v0 m V n N :=
 ⟨h.out, fun i hi => (h.row i hi).congr (e i hi), h.ne0, h.inj⟩
theorem Mat.rowPut (h : Mat w B v0 m V n M) {i : Nat} (hi : i < m) {x : Nat → Rat} (hx : FrL w' B (V i) (n i) x) (hs : Stp w w' (V i).ownBlock) : Mat w' B v0 m V n (fun a => if a = i then x else M a) := by
 refine ⟨h.out.kept hs.gr (fun g hg e => h.ne0 i hi g hg e), fun a ha => ?_, h.ne0, h.inj⟩
 by_cases e : a = i
 ·subst e; simp only [if_true]; exact hx
 ·simp only [if_neg e]
  exact (h.row a ha).stp hs (fun g hg k => h.inj a i ha hi e g hg k)
theorem map_at {V : Nat → Value} {i m : Nat} (hi : i < m) : ((List.range m).map V)[i]? = some (V i) := by
 rw [List.getElem?_map, List.getElem?_range hi]; rfl
theorem spl_map {V : Nat → Value} {i m : Nat} (hi : i < m) (v : Value) : spl ((List.range m).map V) i [v] = (List.range m).map (updV V i v) := by
 apply List.ext_getElem?
 intro j
 rw [spl_at (by simp; omega)]
 simp only [List.length_cons, List.length_nil, Nat.zero_add]
 by_cases hj : j < m
 ·rw [map_at hj, map_at hj]
  unfold updV
  by_cases a : j < i
  ·rw [if_pos a, if_neg (by omega)]
  ·rw [if_neg a]
   by_cases b : j = i
   ·subst b; rw [if_pos (by omega), if_pos rfl, Nat.sub_self]; rfl
   ·rw [if_neg (by omega), if_neg b]
 ·rw [if_neg (by omega), if_neg (by omega), List.getElem?_eq_none (by simp; omega), List.getElem?_eq_none (by simp; omega)]
theorem noU1 {o : Option Addr} {k c : Nat} : noU [.slice o k c] := by
 intro u hu n
 simp only [List.mem_cons, List.not_mem_nil, or_false] at hu
 subst hu; exact fun e => by cases e
theorem Mat.outPut {g0 c0 : Nat} (h : qbm w B 28 1 (.slice (some ⟨g0, 0, none⟩) m c0) m ((List.range m).map V)) {i : Nat} (hi : i < m) {o : Option Addr} {k c : Nat} (hw : w' = putL w g0 i [.slice o k c]) :
  qbm w' B 28 1 (.slice (some ⟨g0, 0, none⟩) m c0) m ((List.range m).map (updV V i (.slice o k c))) ∧ Stp w w' (some g0) := by
 have := h.write hw (by simp; omega) noU1
 rwa [spl_map hi] at this
theorem Mat.setRow {w1 : World} {g0 c0 : Nat} (h : Mat w B (.slice (some ⟨g0, 0, none⟩) m c0) m V n M) {i : Nat} (hi : i < m) {r : Option Nat} {o : Option Addr} {k c : Nat} {x : Nat → Rat} (hr : ∀ g, r = some g → (V i).ownBlock = some g)
  (hs : Stp w w1 r) (hx : FrL w1 B (.slice o k c) k x) (hf : ∀ g, g < w.heap.size → (V i).ownBlock ≠ some g → (Value.slice o k c).ownBlock ≠ some g) (hw : w' = putL w1 g0 i [.slice o k c]) :
  Mat w' B (.slice (some ⟨g0, 0, none⟩) m c0) m (updV V i (.slice o k c)) (updV n i k) (fun a => if a = i then x else M a) ∧ Stp w1 w' (some g0) := by
 have hV : ∀ a, a < m → a ≠ i → ∀ g, (V a).ownBlock = some g → r ≠ some g := fun a ha hne g hg e => h.inj a i ha hi hne g hg (hr g e)
 have h0 : ∀ g, (Value.slice (some ⟨g0, 0, none⟩) m c0).ownBlock = some g → r ≠ some g := fun g hg e => h.ne0 i hi g hg (hr g e)
 obtain ⟨k1, k2⟩ := Mat.outPut (h.out.kept hs.gr h0) hi hw
 have hg0 := (h.lt (g := g0) rfl).2
 have hn0 := hf g0 hg0 (h.ne0 i hi g0 rfl)
 refine ⟨⟨k1, fun a ha => ?_, fun a ha g hg => ?_, fun a b ha hb hne g hg => ?_⟩, k2⟩
 ·unfold updV
  by_cases e : a = i
  ·subst e
   simp only [if_true]
   exact hx.stp k2 (fun g hg e => by cases e; exact hn0 hg)
  ·simp only [if_neg e]
   exact ((h.row a ha).stp hs (hV a ha e)).stp k2 (fun g hg e => by cases e; exact h.ne0 a ha g0 rfl hg)
 ·unfold updV
  by_cases e : a = i
  ·rw [if_pos e]; cases hg; exact hn0
  ·rw [if_neg e]; exact h.ne0 a ha g hg
 ·unfold updV at hg ⊢
  by_cases e : a = i
  ·rw [if_pos e] at hg
   have e2 : ¬ b = i := fun q => hne (by rw [e, q])
   rw [if_neg e2]
   intro hb2
   have hlt := (h.row b hb).lt hb2
   exact hf g hlt.2 (fun q => h.inj b i hb hi e2 g hb2 q) hg
  ·rw [if_neg e] at hg
   by_cases e2 : b = i
   ·rw [if_pos e2]
    have hlt := (h.row a ha).lt hg
    exact hf g hlt.2 (fun q => h.inj a i ha hi e g hg q)
   ·rw [if_neg e2]; exact h.inj a b ha hb hne g hg
end
/-! stores of one cell -/
section
variable {P : Program} {w : World} {ops : Array Oper} {rest : List Oper} {a : Act} {Q : Exit → Act → World → Prop}
theorem run_store1 (ty : TypeId) (g j : Nat) (v : Value) {cs : Array Value} {T : TypeId} (hg : w.heap[g]? = some (.cells cs T)) (hj : j < cs.size) (hi : (P.info? ty).map (·.size) = some 1) (h1 : v.oneCell' = true) (hc : v.cells = #[v]) :
  (storeVar ty ⟨g, j, none⟩ v).run P w = .ok () (putL w g j [v]) := by
 have h := run_storeVar_mid (P := P) w g j ty #[v] (there_row hg (by simp; omega)) (by simpa using hi) (by simp [h1])
 have e : storeVar ty ⟨g, j, none⟩ (.agg #[v]) = storeVar ty ⟨g, j, none⟩ v := by unfold storeVar; rw [hc]; rfl
 rw [← e, h, putL_eq]
theorem wpList_st1 {ty tt : TypeId} {x y : Operand} {pos : String} {af : Array Edge} (g j : Nat) (v : Value) {cs : Array Value} {T : TypeId} (hg : w.heap[g]? = some (.cells cs T)) (hx : a.eval x = .pointer (some ⟨g, j, none⟩)) (hy : a.eval y = v)
  (hj : j < cs.size) (hi : (P.info? ty).map (·.size) = some 1) (h1 : v.oneCell' = true) (hc : v.cells = #[v]) (hK : ∀ w', w' = putL w g j [v] → wpList P ops Q rest a w') :
  qal (wpList P ops Q (⟨none, .store ty x y, tt, pos, af, none⟩ :: rest) a w) := by
 refine wpList_plain rfl fun _ hK' => ?_
 unfold Oper.wp execOp
 simp only [hx, hy, Instr.storeAt, Instr.sureAddr, Sem.run_bind, Sem.run_pure, Result.andThen_ok, run_store1 ty g j v hg hj hi h1 hc]
 exact hK' _ _ (hK _ rfl)
theorem qcc {ty tt : TypeId} {x y : Operand} {pos : String} {af : Array Edge} (g j : Nat) {o : Option Addr} {k c : Nat} {cs : Array Value} {T : TypeId} (hg : w.heap[g]? = some (.cells cs T)) (hx : a.eval x = .pointer (some ⟨g, j, none⟩)) (hy : a.eval y = .slice o k c)
  (hj : j < cs.size) (hi : (P.info? ty).map (·.size) = some 1) (hK : ∀ w', w' = putL w g j [.slice o k c] → wpList P ops Q rest a w') :
  qal (wpList P ops Q (⟨none, .store ty x y, tt, pos, af, none⟩ :: rest) a w) := wpList_st1 g j _ hg hx hy hj hi rfl rfl hK
theorem wpList_stI {ty tt : TypeId} {x y : Operand} {pos : String} {af : Array Edge} (g j : Nat) {k : Int} {cs : Array Value} {T : TypeId} (hg : w.heap[g]? = some (.cells cs T)) (hx : a.eval x = .pointer (some ⟨g, j, none⟩)) (hy : a.eval y = .int .i64 k)
  (hj : j < cs.size) (hi : (P.info? ty).map (·.size) = some 1) (hK : ∀ w', w' = putL w g j [.int .i64 k] → wpList P ops Q rest a w') :
  qal (wpList P ops Q (⟨none, .store ty x y, tt, pos, af, none⟩ :: rest) a w) := wpList_st1 g j _ hg hx hy hj hi rfl rfl hK
theorem wpList_stB {ty tt : TypeId} {x y : Operand} {pos : String} {af : Array Edge} (g j : Nat) {b : Bool} {cs : Array Value} {T : TypeId} (hg : w.heap[g]? = some (.cells cs T)) (hx : a.eval x = .pointer (some ⟨g, j, none⟩)) (hy : a.eval y = .bool b)
  (hj : j < cs.size) (hi : (P.info? ty).map (·.size) = some 1) (hK : ∀ w', w' = putL w g j [.bool b] → wpList P ops Q rest a w') :
  qal (wpList P ops Q (⟨none, .store ty x y, tt, pos, af, none⟩ :: rest) a w) := wpList_st1 g j _ hg hx hy hj hi rfl rfl hK
end
section
variable {P : Program} {ops : Array Oper} {md : Region.Mode}
structure DrawInvG (md : Region.Mode) (ops : Array Oper) (n : Nat) (F : Nat → Value → World → Prop) (AL : Nat → Bool) (Ac : Bool → World → Prop) (sp : Nat) (a0 : Act) (listed : Array Bool) (a : Act) (w : World) : Prop where
 head : HeadInv md ops n listed
 acc : Ac (listed.getD sp false) w
 vals : ∃ vals : Nat → Value, a = qat ops (fun j => listed.getD j false) vals a0 n ∧ (∀ j, j < n → listed.getD j false = true → F j (vals j) w) ∧
  (∀ j, j < n → listed.getD j false = true → AL j = true → ∃ g, vals j = .pointer (some ⟨g, 0, none⟩) ∧ g < w.heap.size) ∧
  (∀ j k, j < n → k < n → j ≠ k → listed.getD j false = true → listed.getD k false = true → AL j = true → AL k = true → vals j ≠ vals k)

def LeavesG (F : Nat → Value → World → Prop) (AL : Nat → Bool) (Ac : Bool → World → Prop) (sp i : Nat) (b : Bool) (w1 : World) (v : Value) (w2 : World) : Prop :=
 w1.heap.size ≤ w2.heap.size ∧ (∀ j u, j ≠ i → F j u w1 → F j u w2) ∧ Ac (b || i == sp) w2 ∧ F i v w2 ∧ (AL i = true → v = .pointer (some ⟨w1.heap.size, 0, none⟩) ∧ w1.heap.size < w2.heap.size)
theorem leavesG_mk {F : Nat → Value → World → Prop} {AL : Nat → Bool} {Ac : Bool → World → Prop} {sp i : Nat} {b : Bool} {w1 w2 : World} {v : Value} (hM : ∀ j v w1 w2, F j v w1 → Below w1.heap.size w1 w2 → F j v w2) (hAM : ∀ b w1 w2, Ac b w1 → Below w1.heap.size w1 w2 → Ac b w2) (hi : (i == sp) = false) (hac : Ac b w1)
  (hb : Below w1.heap.size w1 w2) (hf : F i v w2) (hal : AL i = true → v = .pointer (some ⟨w1.heap.size, 0, none⟩) ∧ w1.heap.size < w2.heap.size) : LeavesG F AL Ac sp i b w1 v w2 :=
 ⟨hb.size, fun j u _ h => hM j u w1 w2 h hb, by rw [hi, Bool.or_false]; exact hAM b w1 w2 hac hb, hf, hal⟩
theorem qLg {F : Nat → Value → World → Prop} {AL : Nat → Bool} {Ac : Bool → World → Prop} {sp i : Nat} {b : Bool} {w1 : World} {v : Value} (hM : ∀ j v w1 w2, F j v w1 → Below w1.heap.size w1 w2 → F j v w2) (hAM : ∀ b w1 w2, Ac b w1 → Below w1.heap.size w1 w2 → Ac b w2) (hi : (i == sp) = false) (hac : Ac b w1)
    (hf : F i v w1) (h : AL i = false) : LeavesG F AL Ac sp i b w1 v w1 := leavesG_mk hM hAM hi hac (Below.refl _ _) hf (fun k => by rw [h] at k; cases k)
theorem DrawInvG.next {n i : Nat} {oi : Oper} {fl : List Nat} {F : Nat → Value → World → Prop} {AL : Nat → Bool} {Ac : Bool → World → Prop} {sp : Nat} {w w' : World} {a0 a : Act} {listed : Array Bool} {v : Value} (hB : headB md ops fl n = true)
  (inv : DrawInvG md ops n F AL Ac sp a0 listed a w) (hi : i ∈ Region.ready md ops listed) (hin : i < n) (hoi : ops[i]? = some oi)
  (h : LeavesG F AL Ac sp i (listed.getD sp false) w v w') : DrawInvG md ops n F AL Ac sp a0 (listed.setIfInBounds i true) (a.put oi.dst v) w' := by
 obtain ⟨hiu, oi', hoi', hdeps⟩ := mem_ready.1 hi
 have : oi' = oi := Option.some.inj (hoi'.symm.trans hoi)
 subst this
 have hiu' := getD_both hiu
 have ok := headB_ok hB hin hoi
 have his : i < listed.size := by rw [inv.head.size]; exact (Array.getElem?_eq_some_iff.1 hoi).1
 have hdst : qby ops i = oi'.dst := by unfold qby; rw [hoi]; rfl
 obtain ⟨vals, rfl, hv, hg, hd⟩ := inv.vals
 obtain ⟨hb, hsv, hacc, hf, hal⟩ := h
 have hAcc : Ac ((listed.setIfInBounds i true).getD sp false) w' := by
  by_cases hs : i = sp
  ·subst hs
   have : (listed.setIfInBounds i true).getD i false = true := by simp [his]
   rw [this]; simpa using hacc
  ·rw [getD_set_ne false hs]
   have : (i == sp) = false := by simpa using hs
   rw [this, Bool.or_false] at hacc; exact hacc
 refine ⟨inv.head.set hi hin, hAcc, fun j => if j = i then v else vals j, ?_, ?_, ?_, ?_⟩
 ·rw [← hdst, ← putsTo_set hiu' n hin (fun j hj hji => by rw [hdst]; exact ok.dst j hj hji)]
  refine putsTo_congr fun j hj => ⟨?_, fun _ => rfl⟩
  by_cases hji : j = i
  ·subst hji; rw [if_pos rfl]; simp [his]
  ·rw [if_neg hji, getD_set_ne false (Ne.symm hji)]
 ·intro j hj hl
  show F j (if j = i then v else vals j) w'
  by_cases hji : j = i
  ·subst hji; rw [if_pos rfl]; exact hf
  ·rw [if_neg hji]
   rw [getD_set_ne false (Ne.symm hji)] at hl
   exact hsv _ _ hji (hv j hj hl)
 ·intro j hj hl aj
  show ∃ g, (if j = i then v else vals j) = _ ∧ _
  by_cases hji : j = i
  ·subst hji; rw [if_pos rfl]
   obtain ⟨e1, e2⟩ := hal aj
   exact ⟨_, e1, e2⟩
  ·rw [if_neg hji]
   rw [getD_set_ne false (Ne.symm hji)] at hl
   obtain ⟨g, e1, e2⟩ := hg j hj hl aj
   exact ⟨g, e1, Nat.lt_of_lt_of_le e2 hb⟩
 ·intro j k' hj hk' hjk hl hl' aj ak
  show (if j = i then v else vals j) ≠ (if k' = i then v else vals k')
  by_cases hji : j = i
  ·subst hji
   have hki : k' ≠ j := fun e => hjk e.symm
   rw [if_pos rfl, if_neg hki]
   rw [getD_set_ne false (Ne.symm hki)] at hl'
   obtain ⟨e1, e2⟩ := hal aj
   obtain ⟨g, e3, e4⟩ := hg k' hk' hl' ak
   rw [e1, e3]
   intro h
   cases h; omega
  ·rw [if_neg hji]
   rw [getD_set_ne false (Ne.symm hji)] at hl
   by_cases hki : k' = i
   ·subst hki
    rw [if_pos rfl]
    obtain ⟨e1, e2⟩ := hal ak
    obtain ⟨g, e3, e4⟩ := hg j hj hl aj
    rw [e1, e3]
    intro h
    cases h; omega
   ·rw [if_neg hki]
    rw [getD_set_ne false (Ne.symm hki)] at hl'
    exact hd j k' hj hk' hjk hl hl' aj ak

section
variable {fl : List Nat} {F : Nat → Value → World → Prop} {AL : Nat → Bool} {Ac : Bool → World → Prop} {sp : Nat} {A : (Nat → Value) → Act} {i : Nat} {o : Oper} {l : List Oper}
end
end
theorem qax {w w' : World} {g i : Nat} {x0 x1 x2 : Value} (h : w.cell? ⟨g, i, none⟩ = some x0 ∧ w.cell? ⟨g, i + 1, none⟩ = some x1 ∧ w.cell? ⟨g, i + 2, none⟩ = some x2) (hb : Below w.heap.size w w') :
  w'.cell? ⟨g, i, none⟩ = some x0 ∧ w'.cell? ⟨g, i + 1, none⟩ = some x1 ∧ w'.cell? ⟨g, i + 2, none⟩ = some x2 := by
 obtain ⟨h0, h1, h2⟩ := h
 have hl := World.block_lt_of_cell? w _ h0
 exact ⟨by rw [hb.cell (p := ⟨g, i, none⟩) hl]; exact h0, by rw [hb.cell (p := ⟨g, i + 1, none⟩) hl]; exact h1, by rw [hb.cell (p := ⟨g, i + 2, none⟩) hl]; exact h2⟩
theorem Stp.refl (w : World) (r : Option Nat) : Stp w w r := ⟨World.grownBy.refl _ _, fun _ _ _ h => h⟩
theorem Stp.trans {w a b : World} {r r' : Option Nat} (h : Stp w a r) (k : Stp a b r') (hr : ∀ g, r' = some g → r = some g ∨ w.heap.size ≤ g) : Stp w b r := by
 refine ⟨⟨k.gr.os.trans h.gr.os, k.gr.tape.trans h.gr.tape, k.gr.output.trans h.gr.output, Nat.le_trans h.gr.size k.gr.size, fun i hi hne => ?_⟩, fun b i n q => k.word _ _ _ (h.word _ _ _ q)⟩
 rw [k.gr.block i (Nat.lt_of_lt_of_le hi h.gr.size) (fun e => by
  rcases hr i e.symm with q | q
  ·exact hne q.symm
  ·omega)]
 exact h.gr.block i hi hne
theorem sgz0 : sg 0 = 0 := by unfold sg; decide
theorem sgnz {p : Rat} (h : p ≠ 0) : (sg p == 0) = false ∧ (sg p != 0) = true := by
 have : sg p ≠ 0 := by
  unfold sg
  rw [if_neg h]; split <;> decide
 exact ⟨by simpa using this, by simpa using this⟩
theorem qbe {w : World} {B n g c : Nat} {x : Nat → Rat} (h : FrL w B (.slice (some ⟨g, 0, none⟩) n c) n x) : ∃ cs, w.heap[g]? = some (.cells cs 37) ∧ n * 3 ≤ cs.size := by
 obtain ⟨xs, h1, _⟩ := h
 rcases h1.1.2 with ⟨h0, _⟩ | ⟨g', cap, cur, hv, hb, hg, hnc, hcm, hcs, ht⟩
 ·cases h0
 ·simp only [Value.slice.injEq, Option.some.injEq, Addr.mk.injEq, and_true, true_and] at hv
  obtain ⟨rfl, rfl⟩ := hv
  exact ⟨cur, hg, by rw [hcs]; exact Nat.mul_le_mul hnc (Nat.le_refl _)⟩
def RetLess (w : World) (g1 B c c1 : Nat) (x : Nat → Rat) (e : Ending) (w' : World) : Prop := e = .returned (.tuple #[]) ∧ FrL w' B (.slice (some ⟨g1, 0, none⟩) c c1) c x ∧ Stp w w' (some g1)
def mix (k : Nat) (x y : Nat → Rat) : Nat → Rat := fun j => if j < k then y j else x j
theorem mix_next (k : Nat) (x y : Nat → Rat) : updR (mix k x y) k (y k) = mix (k + 1) x y := by
 funext j
 unfold updR mix
 by_cases h : j = k
 ·subst h; rw [if_pos rfl, if_pos (by omega)]
 ·rw [if_neg h]
  by_cases h2 : j < k
  ·rw [if_pos h2, if_pos (by omega)]
  ·rw [if_neg h2, if_neg (by omega)]
theorem mix_same {k : Nat} {x y : Nat → Rat} (h : x k = y k) : mix k x y = mix (k + 1) x y := by
 funext j
 unfold mix
 by_cases h2 : j < k
 ·rw [if_pos h2, if_pos (by omega)]
 ·rw [if_neg h2]
  by_cases h3 : j = k
  ·subst h3; rw [if_pos (by omega)]; exact h
  ·rw [if_neg (by omega)]
theorem less_any (g1 g2 c c1 c2 B B2 : Nat) (x y : Nat → Rat) (vf : Value) (q : Rat) (w : World) (hx : FrL w B (.slice (some ⟨g1, 0, none⟩) c c1) c x) (hy : FrL w B2 (.slice (some ⟨g2, 0, none⟩) c c2) c y) (hne : g1 ≠ g2) (hq : IsR w vf q)
  (lx : ∀ j, j < c → rl (x j) ≤ 30000) (ly : ∀ j, j < c → rl (y j) ≤ 30000) (lq : rl q ≤ 30000) (hc : c ≤ 1000) (hc1 : c ≤ c1 ∧ c1 ≤ 9223372036854775807) (hc2 : c ≤ c2 ∧ c2 ≤ 9223372036854775807) :
  Calls Tryz.prog 78 #[.slice (some ⟨g1, 0, none⟩) c c1, .slice (some ⟨g2, 0, none⟩) c c2, vf] w (RetLess w g1 B c c1 (fun j => x j - q * y j)) := by
 obtain ⟨sf, of, nf, cf, af, mf, df, rfl⟩ := hq.shape
 have l1 := (hx.lt (g := g1) rfl).2
 have l2 := (hy.lt (g := g2) rfl).2
 obtain ⟨W, hW, hbW, g5, hG5, hg5⟩ := qBx5 w (.cells #[.bool sf, .slice of nf cf, .slice af mf df] 37)
 have n51 : g5 ≠ g1 := by omega
 have HX := qHd (hx.below hbW); have HY := qHd (hy.below hbW); have G5 := qHd hg5; have IF := qHd (hq.below hbW)
 have HS := qHd (show Stp w W (some g1) from (Stp.refl w (some g1)).trans (qca hbW) (fun _ e => by cases e))
 have LX := qHd lx; have LY := qHd ly; have LQ0 := qHd lq
 have LQ := qHd (show rl q ≤ 100000 by omega)
 have NE := qHd hne; have N5 := qHd n51
 clear hx hy hq hbW hg5 lx ly lq hne n51
 have ls5 : w.heap.size ≤ g5 := by omega
 go_enter Tryz.func78, Tryz.ntmps78
 go_wp2_with (with_reducible first | refine qah ?_ | refine qae ?_)
 rw [← hW, ← hG5]; clear hW hG5
 refine qal.mk ?_
 go_loopw [9] (fun i' wx => ∃ k : Nat, k ≤ c ∧ i' = .int .i64 k ∧ Hid (FrL wx B (.slice (some ⟨g1, 0, none⟩) c c1) c (mix k x (fun j => x j - q * y j))) ∧ Hid (FrL wx B2 (.slice (some ⟨g2, 0, none⟩) c c2) c y) ∧ Hid (wx.heap[g5]? = some (.cells #[.bool sf, .slice of nf cf, .slice af mf df] 37)) ∧ Hid (IsR wx (.agg #[.bool sf, .slice of nf cf, .slice af mf df]) q) ∧ Hid (Stp w wx (some g1))) (fun i' _ => c - (intOf i').toNat)
 case atStart => exact ⟨0, Nat.zero_le _, rfl, qHd (HX.out.congr (fun j _ => (if_neg (by omega)).symm)), HY, G5, IF, HS⟩
 case round =>
  obtain ⟨k, hk, rfl, HX, HY, G5, IF, HS⟩ := hrel
  obtain ⟨wo, rfl⟩ : ∃ wo : World, wo = wr := ⟨_, rfl⟩
  by_cases hlt : k < c
  ·have hltz : (k : Int) < (c : Int) := by omega
   obtain ⟨sx, ox, nx, cx, ax, mx, dx, x0, x1, x2, hIx⟩ := HX.out.at hlt
   obtain ⟨sy, oy, ny, cy, ay, my, dy, y0, y1, y2, hIy⟩ := HY.out.at hlt
   have ex : mix k x (fun j => x j - q * y j) k = x k := if_neg (by omega)
   rw [ex] at hIx
   have hlx := LX.out k hlt
   have hly := LY.out k hlt
   have hNX := mix_next k x (fun j => x j - q * y j)
   obtain ⟨F, hF⟩ : ∃ F, F = mix k x (fun j => x j - q * y j) := ⟨_, rfl⟩
   have hSM := fun (h : x k = x k - q * y k) => mix_same (k := k) (x := x) (y := fun j => x j - q * y j) h
   rw [← hF] at hNX hSM HX
   obtain ⟨xk, hxk⟩ : ∃ xk, xk = x k := ⟨_, rfl⟩
   obtain ⟨yk, hyk⟩ : ∃ yk, yk = y k := ⟨_, rfl⟩
   simp only [← hxk, ← hyk] at hNX hSM hIx hIy hlx hly
   have hNX : updR F k (xk - q * yk) = mix (k + 1) x (fun j => x j - q * y j) := by rw [← hNX, hxk, hyk]
   have HNX := qHd hNX; have HSM := qHd hSM; have IX := qHd hIx; have IY := qHd hIy
   have CX := qHd (And.intro x0 (And.intro x1 x2)); have CY := qHd (And.intro y0 (And.intro y1 y2))
   have lp := rl_mul q yk
   have LXK := qHd (show rl xk ≤ 100000 by omega); have LYK := qHd (show rl yk ≤ 100000 by omega)
   have LP := qHd (show rl (q * yk) ≤ 100000 by have := LQ0.out; omega)
   clear hNX hSM hIx hIy hlx hly lp hF hxk hyk ex x0 x1 x2
   have HK := qHd (sign_any _ yk wo (IY.out.is LYK.out))
   go_wp2_with (with_reducible refine qag ?_)
   clear y0 y1 y2
   refine qal.mk ?_
   (with_reducible refine HK.out.mono ?_); rintro e w3 ⟨rfl, hb3⟩
   have HX := qHd (HX.out.below hb3); have HY := qHd (HY.out.below hb3); have G5 := qHd (qab G5.out hb3)
   have IF := qHd (IF.out.below hb3); have IX := qHd (IX.out.below hb3); have IY := qHd (IY.out.below hb3)
   have CX := qHd (qax CX.out hb3); have CY := qHd (qax CY.out hb3)
   have HS := qHd (HS.out.trans (qca hb3) (fun _ e => by cases e))
   clear hb3 HK
   by_cases hz : yk = 0
   ·have hsg : sg yk = 0 := by rw [hz]; exact sgz0
    rw [hsg]
    have HE := qHd (HSM.out (by rw [hz]; grind))
    clear hsg hz
    go_wp2_with fail
    go_roundw
    case rel => exact ⟨k + 1, by omega, by go_num, qHd (by rw [← HE.out]; exact HX.out), HY, G5, IF, HS⟩
    case measure => simp [intOf]; omega
   ·obtain ⟨hsg, hsg2⟩ := sgnz hz
    obtain ⟨sgy, hsgy⟩ : ∃ s, s = sg yk := ⟨_, rfl⟩
    rw [← hsgy] at hsg hsg2 ⊢
    clear hsgy hz
    go_wp2_with (with_reducible first | refine qag ?_ | refine qah ?_ | refine qbb ?_ | refine qbc ?_ | refine qae ?_)
    refine qal.mk ?_
    refine qaj (A := ?aaLS) (w := w3) 14 [] (by kernel_rfl) (Fl [KEq (.slice (some ⟨g1, 0, none⟩) c c1), KEq (.int .i64 (k : Nat)), KEq (.slice (some ⟨g1, 0, none⟩) c c1), KEq (.int .i64 (k : Nat)), KEq (.pointer (some ⟨g1, k * 3, none⟩)), KEq (.agg #[.bool sx, .slice ox nx cx, .slice ax mx dx]), KEq (.agg #[.bool sf, .slice of nf cf, .slice af mf df]), KEq (.slice (some ⟨g2, 0, none⟩) c c2), KEq (.int .i64 (k : Nat)), KEq (.pointer (some ⟨g2, k * 3, none⟩)), KEq (.agg #[.bool sy, .slice oy ny cy, .slice ay my dy]), KIs (q * yk), KIs (xk - q * yk), KEq (.pointer (some ⟨g1, k * 3, none⟩))]) (fun i => false) (by kernel_rfl) ?hqLS (qdk (qad (kEq _) (qad (kEq _) (qad (kEq _) (qad (kEq _) (qad (kEq _) (qad (kEq _) (qad (kEq _) (qad (kEq _) (qad (kEq _) (qad (kEq _) (qad (kEq _) (qad (kIs _) (qad (kIs _) (qad (kEq _) qdj))))))))))))))) ?haLS ?stLS ?tlLS
    case hqLS =>
     intro c a d v w h
     first | (simp only [Exit.then] at h ⊢; exact h) | (simp only [Exit.inBlock, Exit.then] at h ⊢; exact h) | exact h
    case haLS =>
     intro vals
     simp only [qat, qby, if_true, Act.put, List.setIfInBounds_toArray, List.set_cons_zero, List.set_cons_succ, List.getElem?_toArray, List.getElem?_cons_zero, List.getElem?_cons_succ, Option.bind_some]
     exact rfl
    case stLS =>
     simp only [List.take_succ_cons, List.take_zero]
     refine qaa rfl rfl ?_ (qaa rfl rfl ?_ (qaa rfl rfl ?_ (qaa rfl rfl ?_ (qaa rfl rfl ?_ (qaa rfl rfl ?_ (qaa rfl rfl ?_ (qaa rfl rfl ?_ (qaa rfl rfl ?_ (qaa rfl rfl ?_ (qaa rfl rfl ?_ (qaa rfl rfl ?_ (qaa rfl rfl ?_ (qaa rfl rfl ?_ (qau))))))))))))))
     ·intro vals w1 hb hd
      refine qSv (.slice (some ⟨g1, 0, none⟩) c c1) (by go_simp) (qLk rfl rfl)
     ·intro vals w1 hb hd
      refine qSv (.int .i64 (k : Nat)) (by go_simp) (qLk rfl rfl)
     ·intro vals w1 hb hd
      refine qSv (.slice (some ⟨g1, 0, none⟩) c c1) (by go_simp) (qLk rfl rfl)
     ·intro vals w1 hb hd
      refine qSv (.int .i64 (k : Nat)) (by go_simp) (qLk rfl rfl)
     ·intro vals w1 hb hd
      rw [show vals 2 = .slice (some ⟨g1, 0, none⟩) c c1 from hd 2 (by kernel_rfl)]
      rw [show vals 3 = .int .i64 (k : Nat) from hd 3 (by kernel_rfl)]
      refine qSv (.pointer (some ⟨g1, k * 3, none⟩)) (by go_simp) (qLk rfl rfl)
     ·intro vals w1 hb hd
      obtain ⟨e0, e1, e2⟩ := qax CX.out hb
      rw [show vals 4 = .pointer (some ⟨g1, k * 3, none⟩) from hd 4 (by kernel_rfl)]
      refine qSv (.agg #[.bool sx, .slice ox nx cx, .slice ax mx dx]) (by go_simp) (qLk rfl rfl)
     ·intro vals w1 hb hd
      obtain ⟨e0, e1, e2⟩ := row3 (qab G5.out hb)
      refine qSv (.agg #[.bool sf, .slice of nf cf, .slice af mf df]) (by go_simp) (qLk rfl rfl)
     ·intro vals w1 hb hd
      refine qSv (.slice (some ⟨g2, 0, none⟩) c c2) (by go_simp) (qLk rfl rfl)
     ·intro vals w1 hb hd
      refine qSv (.int .i64 (k : Nat)) (by go_simp) (qLk rfl rfl)
     ·intro vals w1 hb hd
      rw [show vals 7 = .slice (some ⟨g2, 0, none⟩) c c2 from hd 7 (by kernel_rfl)]
      rw [show vals 8 = .int .i64 (k : Nat) from hd 8 (by kernel_rfl)]
      refine qSv (.pointer (some ⟨g2, k * 3, none⟩)) (by go_simp) (qLk rfl rfl)
     ·intro vals w1 hb hd
      obtain ⟨e0, e1, e2⟩ := qax CY.out hb
      rw [show vals 9 = .pointer (some ⟨g2, k * 3, none⟩) from hd 9 (by kernel_rfl)]
      refine qSv (.agg #[.bool sy, .slice oy ny cy, .slice ay my dy]) (by go_simp) (qLk rfl rfl)
     ·intro vals w1 hb hd
      have d6 : KEq (.agg #[.bool sf, .slice of nf cf, .slice af mf df]) (vals 6) w1 := hd 6 (by kernel_rfl)
      have d10 : KEq (.agg #[.bool sy, .slice oy ny cy, .slice ay my dy]) (vals 10) w1 := hd 10 (by kernel_rfl)
      have HS := qHd (mulq_any _ q _ yk w1 ((IF.out.below hb).is LQ.out) ((IY.out.below hb).is LYK.out))
      have z6 : vals 6 = _ := d6
      rw [z6]; clear z6
      have z10 : vals 10 = _ := d10
      rw [z10]; clear z10
      refine qar (by go_simp; first | done | exact ⟨⟨rfl, rfl⟩, rfl⟩) ?_
      (with_reducible refine HS.out.mono ?_); rintro e w2 ⟨v, rfl, hb2, hn⟩
      exact ⟨v, rfl, qai hb2 hn (fun h => by cases h)⟩
     ·intro vals w1 hb hd
      have d11 : KIs (q * yk) (vals 11) w1 := hd 11 (by kernel_rfl)
      have HS2 := qHd (subq_any _ xk _ (q * yk) w1 ((IX.out.below hb).is LXK.out) (IsR.is d11 LP.out))
      rw [show vals 5 = .agg #[.bool sx, .slice ox nx cx, .slice ax mx dx] from hd 5 (by kernel_rfl)]
      refine qar (by go_simp; first | done | exact ⟨⟨rfl, rfl⟩, rfl⟩) ?_
      (with_reducible refine HS2.out.mono ?_); rintro e w2 ⟨v, rfl, hb2, hn⟩
      exact ⟨v, rfl, qai hb2 hn (fun h => by cases h)⟩
     ·intro vals w1 hb hd
      rw [show vals 0 = .slice (some ⟨g1, 0, none⟩) c c1 from hd 0 (by kernel_rfl)]
      rw [show vals 1 = .int .i64 (k : Nat) from hd 1 (by kernel_rfl)]
      refine qSv (.pointer (some ⟨g1, k * 3, none⟩)) (by go_simp) (qLk rfl rfl)
    case tlLS =>
     intro vals w4 hb4 hf hdis
     simp only [List.drop_succ_cons, List.drop_zero]
     have z13 : vals 13 = _ := hf 13 (by decide)
     have hn : IsR w4 (vals 12) (xk - q * yk) := hf 12 (by decide)
     rw [z13]
     obtain ⟨r, hr⟩ : ∃ r, r = vals 12 := ⟨_, rfl⟩
     rw [← hr] at hn ⊢
     clear z13 hf hdis hr
     obtain ⟨sz, oz, nz, cz, az, mz, dz, rfl⟩ := hn.shape
     have HX := qHd (HX.out.below hb4); have HY := qHd (HY.out.below hb4); have G5 := qHd (qab G5.out hb4); have IF := qHd (IF.out.below hb4)
     have HS := qHd (HS.out.trans (qca hb4) (fun _ e => by cases e))
     have IZ := qHd hn
     clear hb4 hn CX CY IX IY
     obtain ⟨cs, hcs, hsz⟩ := qbe HX.out
     go_wp2_with (with_reducible refine qan ?_)
     refine qba g1 (k * 3) [.bool sz, .slice oz nz cz, .slice az mz dz] hcs rfl rfl (by simp only [List.length_cons, List.length_nil]; omega) (by kernel_rfl) rfl ?_
     intro wz hpz
     obtain ⟨hX, hSt⟩ := HX.out.put hlt IZ.out hpz
     have HX := qHd hX
     have HY := qHd (HY.out.stp hSt (fun g e q => by cases e; cases q; exact NE.out rfl))
     have G5 := qHd (hSt.heap G5.out (fun e => by cases e; exact N5.out rfl))
     have IF := qHd (hSt.I IF.out)
     have HS := qHd (HS.out.trans hSt (fun g e => .inl e))
     clear hX hSt hpz hcs IZ
     go_wp2_with fail
     go_roundw
     case rel => exact ⟨k + 1, by omega, by go_num, qHd (by rw [← HNX.out]; exact HX.out), HY, G5, IF, HS⟩
     case measure => simp [intOf]; omega
  ·have hk' : k = c := by omega
   subst hk'
   go_wp2_with fail
   go_end0
   exact ⟨rfl, HX.out.congr (fun j hj => if_pos hj), HS.out⟩
end Go.Proofs.YtblekfkmianmeaaGreatDoor
namespace Go.Proofs.YtblekfkmianmeaaGreatDoor
structure Mv where
 a : Nat
 b : Nat
 r : Rat
def flow : List Mv → Nat → (Nat → Rat) → Rat
 | [], _, _ => 0
 | m :: l, i, T => (if m.a = i then m.r * (T i - T m.b) else 0) + flow l i T
inductive qcf (ms : List Mv) (dn : Nat → Bool) (s0 : Nat) : Nat → Prop
 | start : dn s0 = false → qcf ms dn s0 s0
 | step (m : Mv) : qcf ms dn s0 m.a → m ∈ ms → dn m.b = false → qcf ms dn s0 m.b
inductive Ends (ms : List Mv) (dn : Nat → Bool) : Nat → Prop
 | down (i : Nat) : dn i = true → Ends ms dn i
 | step (m : Mv) : m ∈ ms → Ends ms dn m.b → Ends ms dn m.a
structure ChOK (n : Nat) (ms : List Mv) (s0 : Nat) : Prop where
 st : s0 < n
 mv : ∀ m ∈ ms, m.a < n ∧ m.b < n ∧ m.a ≠ m.b ∧ 0 < m.r
structure IsT (ms : List Mv) (dn : Nat → Bool) (s0 : Nat) (T : Nat → Rat) : Prop where
 out : ∀ i, ¬ qcf ms dn s0 i → T i = 0
 eq : ∀ i, qcf ms dn s0 i → flow ms i T = 1
theorem qcf.up {ms : List Mv} {dn : Nat → Bool} {s0 i : Nat} (h : qcf ms dn s0 i) : dn i = false := by
 cases h with
 | start h => exact h
 | step m _ _ h => exact h
theorem qcf.lt {n : Nat} {ms : List Mv} {dn : Nat → Bool} {s0 i : Nat} (hc : ChOK n ms s0) (h : qcf ms dn s0 i) : i < n := by
 cases h with
 | start _ => exact hc.st
 | step m _ hm _ => exact (hc.mv m hm).2.1
theorem least_of (T : Nat → Rat) : ∀ n, 0 < n → ∃ i, i < n ∧ ∀ j, j < n → T i ≤ T j
 | 0, h => absurd h (by decide)
 | 1, _ => ⟨0, by decide, fun j hj => by rw [show j = 0 by omega]; exact Rat.le_refl⟩
 | n + 2, _ => by
  obtain ⟨i, hi, hm⟩ := least_of T (n + 1) (by omega)
  by_cases h : T i ≤ T (n + 1)
  ·refine ⟨i, by omega, fun j hj => ?_⟩
   rcases Nat.lt_or_ge j (n + 1) with k | k
   ·exact hm j k
   ·rw [show j = n + 1 by omega]; exact h
  ·refine ⟨n + 1, by omega, fun j hj => ?_⟩
   rcases Nat.lt_or_ge j (n + 1) with k | k
   ·have := hm j k; grind
   ·rw [show j = n + 1 by omega]; exact Rat.le_refl
theorem flow_le {T : Nat → Rat} {i : Nat} : ∀ (ms : List Mv), (∀ m ∈ ms, m.a = i → 0 ≤ m.r ∧ T i ≤ T m.b) → flow ms i T ≤ 0
 | [], _ => Rat.le_refl
 | m :: l, h => by
  have ih := flow_le l (fun x hx => h x (List.mem_cons_of_mem _ hx))
  simp only [flow]
  split
  ·rename_i e
   obtain ⟨h1, h2⟩ := h m (List.mem_cons_self ..) e
   have h3 : m.r * (T i - T m.b) ≤ 0 := by
    have := Rat.mul_nonneg h1 (show 0 ≤ T m.b - T i by grind)
    grind
   grind
  ·grind
theorem flow_neg (T : Nat → Rat) (i : Nat) : ∀ (ms : List Mv), flow ms i (fun j => - T j) = - flow ms i T
 | [] => by simp only [flow]; grind
 | m :: l => by
  have ih := flow_neg T i l
  simp only [flow]
  split <;> grind
theorem flow_sub (T U : Nat → Rat) (i : Nat) : ∀ (ms : List Mv), flow ms i (fun j => T j - U j) = flow ms i T - flow ms i U
 | [] => by simp only [flow]; grind
 | m :: l => by
  have ih := flow_sub T U i l
  simp only [flow]
  split <;> grind
theorem IsT.nonneg {n : Nat} {ms : List Mv} {dn : Nat → Bool} {s0 : Nat} {T : Nat → Rat} (hc : ChOK n ms s0) (h : IsT ms dn s0 T) (i : Nat) : 0 ≤ T i := by
 by_cases hr : qcf ms dn s0 i
 ·obtain ⟨k, hk, hm⟩ := least_of T n (Nat.lt_of_le_of_lt (Nat.zero_le _) hc.st)
  have hki := hm i (hr.lt hc)
  by_cases hk0 : qcf ms dn s0 k
  ·have e := h.eq k hk0
   have l := flow_le (T := T) (i := k) ms (fun m hmm _ => ⟨by have := (hc.mv m hmm).2.2.2; grind, hm _ (hc.mv m hmm).2.1⟩)
   rw [e] at l
   exact absurd l (by decide)
  ·rw [h.out k hk0] at hki; exact hki
 ·rw [h.out i hr]; exact Rat.le_refl
theorem flow_zero {T : Nat → Rat} {i : Nat} : ∀ (ms : List Mv), (∀ m ∈ ms, m.a = i → 0 < m.r ∧ T m.b ≤ T i) → flow ms i T = 0 → ∀ m ∈ ms, m.a = i → T m.b = T i
 | [], _, _, m, hm, _ => by cases hm
 | x :: l, h, h0, m, hm, hi => by
  have hl : ∀ y ∈ l, y.a = i → 0 < y.r ∧ T y.b ≤ T i := fun y hy => h y (List.mem_cons_of_mem _ hy)
  have hn : 0 ≤ flow l i T := by
   have := flow_le (T := fun j => - T j) (i := i) l (fun y hy e => ⟨by have := (hl y hy e).1; grind, by have := (hl y hy e).2; grind⟩)
   rw [flow_neg] at this; grind
  simp only [flow] at h0
  have hx : 0 ≤ (if x.a = i then x.r * (T i - T x.b) else 0) := by
   split
   ·rename_i e
    obtain ⟨h1, h2⟩ := h x (List.mem_cons_self ..) e
    exact Rat.mul_nonneg (by grind) (by grind)
   ·exact Rat.le_refl
  rcases List.mem_cons.1 hm with e | e
  ·subst e
   rw [if_pos hi] at h0 hx
   obtain ⟨h1, h2⟩ := h m (List.mem_cons_self ..) hi
   have hz : m.r * (T i - T m.b) = 0 := by grind
   rcases Rat.mul_eq_zero.1 hz with k | k
   ·grind
   ·grind
  ·exact flow_zero l hl (by grind) m e hi
theorem hom_le {n : Nat} {ms : List Mv} {dn : Nat → Bool} {s0 : Nat} {D : Nat → Rat} (hc : ChOK n ms s0) (ho : ∀ i, ¬ qcf ms dn s0 i → D i = 0) (he : ∀ i, qcf ms dn s0 i → flow ms i D = 0)
  (hr : ∀ i, qcf ms dn s0 i → Ends ms dn i) (i : Nat) : D i ≤ 0 := by
 obtain ⟨k, hk, hm⟩ := least_of (fun j => - D j) n (Nat.lt_of_le_of_lt (Nat.zero_le _) hc.st)
 have hmax : ∀ j, j < n → D j ≤ D k := fun j hj => by have := hm j hj; grind
 by_cases hp : D k ≤ 0
 ·by_cases hi : qcf ms dn s0 i
  ·have := hmax i (hi.lt hc); grind
  ·rw [ho i hi]; exact Rat.le_refl
 ·exfalso
  have key : ∀ i, Ends ms dn i → D i = D k → False := by
   intro i h
   induction h with
   | down i hd =>
    intro e
    have : ¬ qcf ms dn s0 i := fun q => by rw [q.up] at hd; cases hd
    rw [ho i this] at e; grind
   | step m hmm _ ih =>
    intro e
    have hra : qcf ms dn s0 m.a := Classical.byContradiction fun q => by rw [ho _ q] at e; grind
    have := flow_zero ms (fun y hy ey => ⟨(hc.mv y hy).2.2.2, by rw [e]; exact hmax _ (hc.mv y hy).2.1⟩) (he _ hra) m hmm rfl
    exact ih (by rw [this]; exact e)
  have hrk : qcf ms dn s0 k := Classical.byContradiction fun q => by rw [ho _ q] at hp; exact hp Rat.le_refl
  exact key k (hr k hrk) rfl
theorem hom_zero {n : Nat} {ms : List Mv} {dn : Nat → Bool} {s0 : Nat} {D : Nat → Rat} (hc : ChOK n ms s0) (ho : ∀ i, ¬ qcf ms dn s0 i → D i = 0) (he : ∀ i, qcf ms dn s0 i → flow ms i D = 0)
  (hr : ∀ i, qcf ms dn s0 i → Ends ms dn i) (i : Nat) : D i = 0 := by
 have h1 := hom_le hc ho he hr i
 have h2 := hom_le (D := fun j => - D j) hc (fun i hi => by rw [ho i hi]; grind) (fun i hi => by rw [flow_neg, he i hi]; grind) hr i
 grind
theorem IsT.uniq {n : Nat} {ms : List Mv} {dn : Nat → Bool} {s0 : Nat} {T U : Nat → Rat} (hc : ChOK n ms s0) (hr : ∀ i, qcf ms dn s0 i → Ends ms dn i) (h : IsT ms dn s0 T) (k : IsT ms dn s0 U) (i : Nat) : T i = U i := by
 have := hom_zero (D := fun j => T j - U j) hc (fun i hi => by rw [h.out i hi, k.out i hi]; grind) (fun i hi => by rw [flow_sub, h.eq i hi, k.eq i hi]; grind) hr i
 grind

/-! the distributions -/
def qcq (f : Nat → Rat) : Nat → Rat
 | 0 => 0
 | n + 1 => qcq f n + f n
theorem qbw {f g : Nat → Rat} : ∀ n, (∀ i, i < n → f i = g i) → qcq f n = qcq g n
 | 0, _ => rfl
 | n + 1, h => by simp only [qcq]; rw [qbw n (fun i hi => h i (by omega)), h n (by omega)]
theorem sumN_add (f g : Nat → Rat) : ∀ n, qcq (fun i => f i + g i) n = qcq f n + qcq g n
 | 0 => by simp only [qcq]; grind
 | n + 1 => by have := sumN_add f g n; simp only [qcq]; grind
theorem sumN_mul (c : Rat) (f : Nat → Rat) : ∀ n, qcq (fun i => c * f i) n = c * qcq f n
 | 0 => by simp only [qcq]; grind
 | n + 1 => by have := sumN_mul c f n; simp only [qcq]; grind
theorem sumN_zero {f : Nat → Rat} : ∀ n, (∀ i, i < n → f i = 0) → qcq f n = 0
 | 0, _ => rfl
 | n + 1, h => by simp only [qcq]; rw [sumN_zero n (fun i hi => h i (by omega)), h n (by omega)]; grind
theorem sumN_one {f : Nat → Rat} (a : Nat) : ∀ n, a < n → (∀ i, i < n → i ≠ a → f i = 0) → qcq f n = f a
 | 0, h, _ => absurd h (by omega)
 | n + 1, h, h0 => by
  simp only [qcq]
  by_cases e : a = n
  ·subst e
   rw [sumN_zero a (fun i hi => h0 i (by omega) (by omega))]; grind
  ·rw [sumN_one a n (by omega) (fun i hi hne => h0 i (by omega) hne), h0 n (by omega) (fun q => e q.symm)]; grind
theorem sumN_nonneg {f : Nat → Rat} : ∀ n, (∀ i, i < n → 0 ≤ f i) → 0 ≤ qcq f n
 | 0, _ => Rat.le_refl
 | n + 1, h => by
  have h1 := sumN_nonneg n (fun i hi => h i (by omega))
  have h2 := h n (by omega)
  simp only [qcq]; grind
def moved (w : Nat → Rat) (a b : Nat) (s : Rat) : Nat → Rat := fun j => if j = a then w j - s else if j = b then w j + s else w j
def qda (dn : Nat → Bool) (q : Rat) (v : Nat → Rat) : List Mv → (Nat → Rat) → (Nat → Rat)
 | [], w => w
 | m :: l, w => qda dn q v l (if dn m.a then w else moved w m.a m.b (v m.a * m.r / q))
theorem moved_dot (T w : Nat → Rat) {a b n : Nat} (s : Rat) (ha : a < n) (hb : b < n) (hne : a ≠ b) : qcq (fun j => moved w a b s j * T j) n = qcq (fun j => w j * T j) n + s * (T b - T a) := by
 have e : ∀ j, moved w a b s j * T j = w j * T j + ((if j = a then - s * T a else 0) + (if j = b then s * T b else 0)) := fun j => by
  unfold moved
  by_cases h1 : j = a
  ·subst h1
   rw [if_pos rfl, if_pos rfl, if_neg hne]; grind
  ·rw [if_neg h1, if_neg h1]
   by_cases h2 : j = b
   ·subst h2; rw [if_pos rfl, if_pos rfl]; grind
   ·rw [if_neg h2, if_neg h2]; grind
 rw [qbw n (fun j _ => e j), sumN_add, sumN_add, sumN_one (f := fun j => if j = a then - s * T a else 0) a n ha (fun i _ h => if_neg h), sumN_one (f := fun j => if j = b then s * T b else 0) b n hb (fun i _ h => if_neg h)]
 simp only [if_pos]
 grind
def carried (dn : Nat → Bool) (q : Rat) (v T : Nat → Rat) : List Mv → Rat
 | [] => 0
 | m :: l => (if dn m.a then 0 else v m.a * m.r / q * (T m.b - T m.a)) + carried dn q v T l
theorem stepA_dot (dn : Nat → Bool) (q : Rat) (v T : Nat → Rat) {n : Nat} : ∀ (ms : List Mv) (w : Nat → Rat), (∀ m ∈ ms, m.a < n ∧ m.b < n ∧ m.a ≠ m.b) → qcq (fun j => qda dn q v ms w j * T j) n = qcq (fun j => w j * T j) n + carried dn q v T ms
 | [], w, _ => by simp only [qda, carried]; grind
 | m :: l, w, h => by
  obtain ⟨h1, h2, h3⟩ := h m (List.mem_cons_self ..)
  simp only [qda, carried]
  rw [stepA_dot dn q v T l _ (fun x hx => h x (List.mem_cons_of_mem _ hx))]
  cases hd : dn m.a with
  | true => simp; grind
  | false =>
   simp only [Bool.false_eq_true, if_false]
   rw [moved_dot T w _ h1 h2 h3]; grind
theorem carried_flow (dn : Nat → Bool) (q : Rat) (v T : Nat → Rat) {n : Nat} : ∀ (ms : List Mv), (∀ m ∈ ms, m.a < n) → carried dn q v T ms = qcq (fun i => if dn i then 0 else - (v i / q * flow ms i T)) n
 | [], _ => by
  rw [sumN_zero n (fun i _ => by simp only [flow]; split <;> grind)]; rfl
 | m :: l, h => by
  have ih := carried_flow dn q v T l (fun x hx => h x (List.mem_cons_of_mem _ hx))
  have ha := h m (List.mem_cons_self ..)
  simp only [carried]
  rw [ih]
  have e : ∀ i, (if dn i then 0 else - (v i / q * flow (m :: l) i T)) = (if i = m.a then (if dn m.a then 0 else v m.a * m.r / q * (T m.b - T m.a)) else 0) + (if dn i then 0 else - (v i / q * flow l i T)) := fun i => by
   simp only [flow]
   by_cases h1 : i = m.a
   ·subst h1
    rw [if_pos rfl, if_pos rfl]
    cases hd : dn m.a with
    | true => simp; grind
    | false => simp only [Bool.false_eq_true, if_false]; grind
   ·have hne : ¬ m.a = i := fun k => h1 k.symm
    cases hd : dn i with
    | true => simp only [if_true, if_neg h1]; grind
    | false => simp only [Bool.false_eq_true, if_false, if_neg h1, if_neg hne]; grind
  rw [qbw n (fun i _ => e i), sumN_add, sumN_one (f := fun i => if i = m.a then (if dn m.a then 0 else v m.a * m.r / q * (T m.b - T m.a)) else 0) m.a n ha (fun i _ h => if_neg h)]
  simp only [if_pos]
def qbt : List Mv → Nat → Rat
 | [], _ => 0
 | m :: l, i => (if m.a = i then m.r else 0) + qbt l i
def inS2 (dn : Nat → Bool) (q : Rat) (v : Nat → Rat) : List Mv → Nat → Rat
 | [], _ => 0
 | m :: l, j => (if dn m.a then 0 else if m.b = j then v m.a * m.r / q else 0) + inS2 dn q v l j
theorem stepA_at (dn : Nat → Bool) (q : Rat) (v : Nat → Rat) (j : Nat) : ∀ (ms : List Mv) (w : Nat → Rat), (∀ m ∈ ms, m.a ≠ m.b) → qda dn q v ms w j = w j - (if dn j then 0 else v j * qbt ms j / q) + inS2 dn q v ms j
 | [], w, _ => by simp only [qda, qbt, inS2]; split <;> grind
 | m :: l, w, h => by
  have hne := h m (List.mem_cons_self ..)
  simp only [qda, qbt, inS2]
  rw [stepA_at dn q v j l _ (fun x hx => h x (List.mem_cons_of_mem _ hx))]
  cases hd : dn m.a with
  | true =>
   simp only [if_true]
   by_cases e : m.a = j
   ·subst e; simp only [hd, if_true]; grind
   ·simp only [if_neg e]; split <;> grind
  | false =>
   simp only [Bool.false_eq_true, if_false]
   unfold moved
   by_cases e : m.a = j
   ·subst e
    simp only [hd, Bool.false_eq_true, if_false, if_true]
    rw [if_neg (fun k => hne k.symm)]; grind
   ·rw [if_neg (fun k => e k.symm), if_neg e]
    by_cases e2 : m.b = j
    ·subst e2; simp only [if_true]; split <;> grind
    ·rw [if_neg (fun k => e2 k.symm), if_neg e2]; split <;> grind
theorem inS2_nonneg {dn : Nat → Bool} {q : Rat} {v : Nat → Rat} (hq : 0 < q) (hv : ∀ i, 0 ≤ v i) (j : Nat) : ∀ (ms : List Mv), (∀ m ∈ ms, 0 < m.r) → 0 ≤ inS2 dn q v ms j
 | [], _ => Rat.le_refl
 | m :: l, h => by
  have ih := inS2_nonneg (dn := dn) hq hv j l (fun x hx => h x (List.mem_cons_of_mem _ hx))
  have hr := h m (List.mem_cons_self ..)
  have hx : 0 ≤ v m.a * m.r / q := by
   rw [Rat.div_def]
   exact Rat.mul_nonneg (Rat.mul_nonneg (hv _) (by grind)) (by have := Rat.inv_pos.2 hq; grind)
  simp only [inS2]
  split
  ·grind
  ·split <;> grind
theorem inS2_some {dn : Nat → Bool} {q : Rat} {v : Nat → Rat} {j : Nat} : ∀ (ms : List Mv), inS2 dn q v ms j ≠ 0 → ∃ m ∈ ms, dn m.a = false ∧ m.b = j ∧ v m.a ≠ 0
 | [], h => absurd rfl h
 | m :: l, h => by
  simp only [inS2] at h
  by_cases k : inS2 dn q v l j = 0
  ·rw [k] at h
   cases hd : dn m.a with
   | true => rw [hd] at h; simp at h; exact absurd (by grind) h
   | false =>
    rw [hd] at h
    simp only [Bool.false_eq_true, if_false] at h
    by_cases e : m.b = j
    ·refine ⟨m, List.mem_cons_self .., hd, e, fun hz => ?_⟩
     rw [if_pos e, hz] at h
     apply h; grind
    ·rw [if_neg e] at h; exact absurd (by grind) h
  ·obtain ⟨x, hx, h2⟩ := inS2_some l k
   exact ⟨x, List.mem_cons_of_mem _ hx, h2⟩
structure Dist (n : Nat) (ms : List Mv) (dn : Nat → Bool) (s0 : Nat) (v : Nat → Rat) : Prop where
 nn : ∀ i, 0 ≤ v i
 one : qcq v n = 1
 sup : ∀ i, v i ≠ 0 → dn i = false → qcf ms dn s0 i
theorem Dist.start {n : Nat} {ms : List Mv} {dn : Nat → Bool} {s0 : Nat} (hc : ChOK n ms s0) : Dist n ms dn s0 (fun i => if i = s0 then 1 else 0) := by
 refine ⟨fun i => ?_, ?_, fun i h hd => ?_⟩
 ·show 0 ≤ (if i = s0 then (1 : Rat) else 0)
  split
  ·decide
  ·exact Rat.le_refl
 ·rw [sumN_one (f := fun i => if i = s0 then (1 : Rat) else 0) s0 n hc.st (fun i _ h => if_neg h)]; simp
 ·by_cases e : i = s0
  ·subst e; exact .start hd
  ·exact absurd (if_neg e) h
theorem Dist.step {n : Nat} {ms : List Mv} {dn : Nat → Bool} {s0 : Nat} {v : Nat → Rat} {q : Rat} (hc : ChOK n ms s0) (hq : 0 < q) (he : ∀ i, qbt ms i ≤ q) (h : Dist n ms dn s0 v) : Dist n ms dn s0 (qda dn q v ms v) := by
 have hne : ∀ m ∈ ms, m.a ≠ m.b := fun m hm => (hc.mv m hm).2.2.1
 refine ⟨fun j => ?_, ?_, fun j hj hd => ?_⟩
 ·rw [stepA_at dn q v j ms v hne]
  have hi := inS2_nonneg (dn := dn) hq h.nn j ms (fun m hm => (hc.mv m hm).2.2.2)
  have hv := h.nn j
  have hx : v j * qbt ms j / q ≤ v j := by
   have h1 : 0 ≤ v j * (q - qbt ms j) := Rat.mul_nonneg hv (by have := he j; grind)
   have h2 : 0 ≤ v j * (q - qbt ms j) / q := by rw [Rat.div_def]; exact Rat.mul_nonneg h1 (by have := Rat.inv_pos.2 hq; grind)
   have h3 : v j * (q - qbt ms j) / q = v j - v j * qbt ms j / q := by
    have : q ≠ 0 := by grind
    grind
   grind
  split <;> grind
 ·have e := stepA_dot dn q v (fun _ => 1) (n := n) ms v (fun m hm => ⟨(hc.mv m hm).1, (hc.mv m hm).2.1, hne m hm⟩)
  have z : ∀ l : List Mv, carried dn q v (fun _ => 1) l = 0 := by
   intro l
   induction l with
   | nil => rfl
   | cons m l ih => simp only [carried]; rw [ih]; split <;> grind
  rw [z] at e
  have e1 : qcq (fun j => qda dn q v ms v j * 1) n = qcq (qda dn q v ms v) n := qbw n (fun i _ => by grind)
  have e2 : qcq (fun j => v j * 1) n = qcq v n := qbw n (fun i _ => by grind)
  rw [e1, e2, h.one] at e
  grind
 ·rw [stepA_at dn q v j ms v hne] at hj
  by_cases hv : v j = 0
  ·have hi : inS2 dn q v ms j ≠ 0 := fun k => hj (by rw [k, hv]; split <;> grind)
   obtain ⟨m, hm, h1, h2, h3⟩ := inS2_some ms hi
   have := h.sup m.a h3 h1
   rw [← h2]
   exact .step m this hm (by rw [h2]; exact hd)
  ·exact h.sup j hv hd
def failed (dn : Nat → Bool) (v : Nat → Rat) (n : Nat) : Rat := qcq (fun i => if dn i then v i else 0) n
theorem Dist.less {n : Nat} {ms : List Mv} {dn : Nat → Bool} {s0 : Nat} {v T : Nat → Rat} {q : Rat} (hc : ChOK n ms s0) (hq : 0 < q) (ht : IsT ms dn s0 T) (h : Dist n ms dn s0 v) :
  q * qcq (fun j => qda dn q v ms v j * T j) n = q * qcq (fun j => v j * T j) n - (1 - failed dn v n) := by
 rw [stepA_dot dn q v T (n := n) ms v (fun m hm => ⟨(hc.mv m hm).1, (hc.mv m hm).2.1, (hc.mv m hm).2.2.1⟩), carried_flow dn q v T ms (fun m hm => (hc.mv m hm).1)]
 have hq0 : q ≠ 0 := by grind
 have e : ∀ i, (if dn i then 0 else - (v i / q * flow ms i T)) = (1 / q) * (if dn i then v i else 0) + (- (1 / q)) * v i := fun i => by
  cases hd : dn i with
  | true => simp only [if_true]; grind
  | false =>
   simp only [Bool.false_eq_true, if_false]
   by_cases hv : v i = 0
   ·rw [hv]; grind
   ·rw [ht.eq i (h.sup i hv hd)]; grind
 rw [qbw n (fun i _ => e i), sumN_add, sumN_mul, sumN_mul]
 have h1 : qcq (fun i => v i) n = 1 := h.one
 rw [h1]
 show q * (qcq (fun j => v j * T j) n + (1 / q * failed dn v n + -(1 / q) * 1)) = _
 grind
def qbp (dn : Nat → Bool) (q : Rat) (ms : List Mv) (s0 : Nat) : Nat → Nat → Rat
 | 0 => fun i => if i = s0 then 1 else 0
 | k + 1 => qda dn q (qbp dn q ms s0 k) ms (qbp dn q ms s0 k)
theorem distK_ok {n : Nat} {ms : List Mv} {dn : Nat → Bool} {s0 : Nat} {q : Rat} (hc : ChOK n ms s0) (hq : 0 < q) (he : ∀ i, qbt ms i ≤ q) : ∀ k, Dist n ms dn s0 (qbp dn q ms s0 k)
 | 0 => Dist.start hc
 | k + 1 => Dist.step hc hq he (distK_ok hc hq he k)
def psumT (dn : Nat → Bool) (q : Rat) (ms : List Mv) (s0 n : Nat) : Nat → Rat
 | 0 => 0
 | k + 1 => psumT dn q ms s0 n k + (1 - failed dn (qbp dn q ms s0 k) n)
theorem psumT_eq {n : Nat} {ms : List Mv} {dn : Nat → Bool} {s0 : Nat} {q : Rat} {T : Nat → Rat} (hc : ChOK n ms s0) (hq : 0 < q) (he : ∀ i, qbt ms i ≤ q) (ht : IsT ms dn s0 T) :
  ∀ k, psumT dn q ms s0 n k = q * T s0 - q * qcq (fun j => qbp dn q ms s0 k j * T j) n
 | 0 => by
  have e : qcq (fun j => qbp dn q ms s0 0 j * T j) n = T s0 := by
   rw [sumN_one (f := fun j => qbp dn q ms s0 0 j * T j) s0 n hc.st (fun i _ h => by simp only [qbp]; rw [if_neg h]; grind)]
   simp only [qbp, if_pos]; grind
  simp only [psumT]; rw [e]; grind
 | k + 1 => by
  have h1 := Dist.less (T := T) hc hq ht (distK_ok hc hq he k)
  have ih := psumT_eq hc hq he ht k
  simp only [psumT, qbp]
  rw [ih, h1]; grind
theorem psumT_le {n : Nat} {ms : List Mv} {dn : Nat → Bool} {s0 : Nat} {q : Rat} {T : Nat → Rat} (hc : ChOK n ms s0) (hq : 0 < q) (he : ∀ i, qbt ms i ≤ q) (ht : IsT ms dn s0 T) (k : Nat) : psumT dn q ms s0 n k ≤ q * T s0 := by
 rw [psumT_eq hc hq he ht k]
 have h1 : 0 ≤ qcq (fun j => qbp dn q ms s0 k j * T j) n := sumN_nonneg n (fun i _ => Rat.mul_nonneg ((distK_ok (dn := dn) hc hq he k).nn i) (ht.nonneg hc i))
 have h2 : 0 ≤ q * qcq (fun j => qbp dn q ms s0 k j * T j) n := Rat.mul_nonneg (by grind) h1
 grind
def qcd (ms : List Mv) : List Mv := ms.map fun m => ⟨m.a, m.b, m.r + m.r⟩
theorem reach_twice {ms : List Mv} {dn : Nat → Bool} {s0 i : Nat} : qcf (qcd ms) dn s0 i ↔ qcf ms dn s0 i := by
 constructor
 ·intro h
  induction h with
  | start h => exact .start h
  | step m _ hm hd ih =>
   obtain ⟨x, hx, rfl⟩ := List.mem_map.1 hm
   exact .step x ih hx hd
 ·intro h
  induction h with
  | start h => exact .start h
  | step m _ hm hd ih => exact qcf.step (⟨m.a, m.b, m.r + m.r⟩ : Mv) ih (List.mem_map.2 ⟨m, hm, rfl⟩) hd
theorem ends_twice {ms : List Mv} {dn : Nat → Bool} {i : Nat} : Ends (qcd ms) dn i ↔ Ends ms dn i := by
 constructor
 ·intro h
  induction h with
  | down i h => exact .down i h
  | step m hm _ ih =>
   obtain ⟨x, hx, rfl⟩ := List.mem_map.1 hm
   exact .step x hx ih
 ·intro h
  induction h with
  | down i h => exact .down i h
  | step m hm _ ih => exact Ends.step (⟨m.a, m.b, m.r + m.r⟩ : Mv) (List.mem_map.2 ⟨m, hm, rfl⟩) ih
theorem flow_twice (T : Nat → Rat) (i : Nat) : ∀ ms : List Mv, flow (qcd ms) i T = flow ms i (fun j => T j + T j)
 | [] => rfl
 | m :: l => by
  have ih := flow_twice T i l
  unfold qcd at ih ⊢
  simp only [List.map_cons, flow]
  rw [ih]
  split <;> grind
theorem half_twice {n : Nat} {ms : List Mv} {dn : Nat → Bool} {s0 : Nat} {T H : Nat → Rat} (hc : ChOK n ms s0) (hr : ∀ i, qcf ms dn s0 i → Ends ms dn i) (ht : IsT ms dn s0 T) (hh : IsT (qcd ms) dn s0 H) (i : Nat) : H i + H i = T i := by
 have h2 : IsT ms dn s0 (fun j => H j + H j) := ⟨fun i hi => by
  show H i + H i = 0
  rw [hh.out i (fun k => hi (reach_twice.1 k))]; grind, fun i hi => by
  rw [← flow_twice]; exact hh.eq i (reach_twice.2 hi)⟩
 exact h2.uniq hc hr ht i
def dotM (M : Nat → Nat → Rat) (c : Nat) (z : Nat → Rat) (i : Nat) : Rat := qcq (fun j => M i j * z j) c
def KerM (M : Nat → Nat → Rat) (m c : Nat) (z : Nat → Rat) : Prop := ∀ i, i < m → dotM M c z i = 0
def fswap (M : Nat → Nat → Rat) (a b : Nat) : Nat → Nat → Rat := fun i => if i = a then M b else if i = b then M a else M i
def fdiv (M : Nat → Nat → Rat) (k : Nat) (f : Rat) : Nat → Nat → Rat := fun i j => if i = k then M i j / f else M i j
def fless (M : Nat → Nat → Rat) (i k : Nat) (f : Rat) : Nat → Nat → Rat := fun r j => if r = i then M r j - f * M k j else M r j
theorem ker_swap {M : Nat → Nat → Rat} {a b m c : Nat} {z : Nat → Rat} (ha : a < m) (hb : b < m) : KerM (fswap M a b) m c z ↔ KerM M m c z := by
 have e : ∀ i, dotM (fswap M a b) c z i = if i = a then dotM M c z b else if i = b then dotM M c z a else dotM M c z i := fun i => by
  unfold dotM fswap
  by_cases h1 : i = a
  ·simp only [if_pos h1]
  ·simp only [if_neg h1]
   by_cases h2 : i = b
   ·simp only [if_pos h2]
   ·simp only [if_neg h2]
 constructor
 ·intro h i hi
  by_cases h1 : i = a
  ·have := h b hb
   rw [e] at this
   by_cases h2 : b = a
   ·rw [if_pos h2] at this; rw [h1, ← h2]; exact this
   ·rw [if_neg h2, if_pos rfl] at this; rw [h1]; exact this
  ·by_cases h2 : i = b
   ·have := h a ha
    rw [e, if_pos rfl] at this
    rw [h2]; exact this
   ·have := h i hi
    rw [e, if_neg h1, if_neg h2] at this
    exact this
 ·intro h i hi
  rw [e]
  split
  ·exact h b hb
  ·split
   ·exact h a ha
   ·exact h i hi
theorem ker_div {M : Nat → Nat → Rat} {k m c : Nat} {f : Rat} {z : Nat → Rat} (hf : f ≠ 0) : KerM (fdiv M k f) m c z ↔ KerM M m c z := by
 have e : ∀ i, dotM (fdiv M k f) c z i = if i = k then (1 / f) * dotM M c z i else dotM M c z i := fun i => by
  unfold dotM fdiv
  by_cases h1 : i = k
  ·simp only [if_pos h1]
   rw [← sumN_mul]
   exact qbw c (fun j _ => by grind)
  ·simp only [if_neg h1]
 constructor
 ·intro h i hi
  have := h i hi
  rw [e] at this
  split at this
  ·have h2 : f * (1 / f * dotM M c z i) = 0 := by rw [this]; grind
   grind
  ·exact this
 ·intro h i hi
  rw [e, h i hi]
  split <;> grind
theorem ker_less {M : Nat → Nat → Rat} {i k m c : Nat} {f : Rat} {z : Nat → Rat} (hk : k < m) (hne : i ≠ k) : KerM (fless M i k f) m c z ↔ KerM M m c z := by
 have e : ∀ r, dotM (fless M i k f) c z r = if r = i then dotM M c z r + (- f) * dotM M c z k else dotM M c z r := fun r => by
  unfold dotM fless
  by_cases h1 : r = i
  ·simp only [if_pos h1]
   rw [← sumN_mul, ← sumN_add]
   exact qbw c (fun j _ => by grind)
  ·simp only [if_neg h1]
 constructor
 ·intro h r hr
  have hk0 := h k hk
  rw [e, if_neg (fun q => hne q.symm)] at hk0
  have := h r hr
  rw [e] at this
  split at this
  ·rw [hk0] at this; grind
  ·exact this
 ·intro h r hr
  rw [e, h r hr, h k hk]
  split <;> grind
def clr (M : Nat → Nat → Rat) (k : Nat) : Nat → Nat → Nat → Rat
 | 0 => M
 | i + 1 => if i = k ∨ clr M k i i k = 0 then clr M k i else fless (clr M k i) i k (clr M k i i k)
theorem clr_ker {M : Nat → Nat → Rat} {k m c : Nat} {z : Nat → Rat} (hk : k < m) : ∀ n, KerM (clr M k n) m c z ↔ KerM M m c z
 | 0 => Iff.rfl
 | n + 1 => by
  simp only [clr]
  split
  ·exact clr_ker hk n
  ·rename_i h
   exact (ker_less hk (fun e => h (.inl e))).trans (clr_ker hk n)
theorem clr_row (M : Nat → Nat → Rat) (k : Nat) : ∀ n, (∀ j, clr M k n k j = M k j) ∧ ∀ i, n ≤ i → ∀ j, clr M k n i j = M i j
 | 0 => ⟨fun _ => rfl, fun _ _ _ => rfl⟩
 | n + 1 => by
  obtain ⟨h1, h2⟩ := clr_row M k n
  simp only [clr]
  split
  ·exact ⟨h1, fun i hi => h2 i (by omega)⟩
  ·rename_i h
   refine ⟨fun j => ?_, fun i hi j => ?_⟩
   ·unfold fless; rw [if_neg (fun e => h (.inl e.symm))]; exact h1 j
   ·unfold fless; rw [if_neg (by omega)]; exact h2 i (by omega) j
theorem clr_col {M : Nat → Nat → Rat} {k : Nat} (h1 : M k k = 1) : ∀ n i, i < n → i ≠ k → clr M k n i k = 0
 | 0, _, h, _ => absurd h (by omega)
 | n + 1, i, hi, hne => by
  obtain ⟨r1, r2⟩ := clr_row M k n
  simp only [clr]
  by_cases e : i = n
  ·subst e
   split
   ·rename_i h
    rcases h with h | h
    ·exact absurd h hne
    ·exact h
   ·unfold fless; rw [if_pos rfl, r1 k, h1]; grind
  ·split
   ·exact clr_col h1 n i (by omega) hne
   ·unfold fless; rw [if_neg e]; exact clr_col h1 n i (by omega) hne
theorem clr_keep {M : Nat → Nat → Rat} {k j : Nat} (h0 : M k j = 0) : ∀ n i, clr M k n i j = M i j
 | 0, _ => rfl
 | n + 1, i => by
  have ih := clr_keep h0 n
  simp only [clr]
  split
  ·exact ih i
  ·unfold fless
   split
   ·rw [ih i, ih k, h0]; grind
   ·exact ih i
def UnitC (M : Nat → Nat → Rat) (m k : Nat) : Prop := ∀ i, i < m → ∀ j, j < k → M i j = if i = j then 1 else 0
theorem step_unit {M : Nat → Nat → Rat} {m k r : Nat} (hu : UnitC M m k) (hk : k < m) (hr : k ≤ r) (hrm : r < m) (hp : M r k ≠ 0) : UnitC (clr (fdiv (fswap M k r) k (M r k)) k m) m (k + 1) := by
 intro i hi j hj
 have hkk : fdiv (fswap M k r) k (M r k) k k = 1 := by
  unfold fdiv fswap
  simp only [if_pos]
  rw [Rat.div_def]; exact Rat.mul_inv_cancel _ hp
 by_cases e : j = k
 ·subst e
  by_cases e2 : i = j
  ·subst e2
   rw [(clr_row _ i m).1 i, hkk, if_pos rfl]
  ·rw [clr_col hkk m i hi e2, if_neg e2]
 ·have hjk : j < k := by omega
  have h0 : fdiv (fswap M k r) k (M r k) k j = 0 := by
   unfold fdiv fswap
   simp only [if_pos]
   rw [hu r hrm j hjk, if_neg (by omega)]; grind
  rw [clr_keep h0 m i]
  unfold fdiv fswap
  by_cases e2 : i = k
  ·subst e2
   simp only [if_pos]
   rw [hu r hrm j hjk, if_neg (by omega), if_neg (by omega)]; grind
  ·simp only [if_neg e2]
   by_cases e3 : i = r
   ·subst e3
    simp only [if_pos]
    rw [hu k hk j hjk, if_neg (by omega), if_neg (by omega)]
   ·simp only [if_neg e3]
    exact hu i hi j hjk
theorem step_ker {M : Nat → Nat → Rat} {m c k r : Nat} {z : Nat → Rat} (hk : k < m) (hrm : r < m) (hp : M r k ≠ 0) : KerM (clr (fdiv (fswap M k r) k (M r k)) k m) m c z ↔ KerM M m c z :=
 ((clr_ker hk m).trans (ker_div hp)).trans (ker_swap hk hrm)
def NonSing (M : Nat → Nat → Rat) (m : Nat) : Prop := ∀ z, KerM M m (m + 1) z → z m = 0 → ∀ j, j < m → z j = 0
theorem sumN_two {f : Nat → Rat} (a b : Nat) (hne : a ≠ b) : ∀ n, a < n → b < n → (∀ i, i < n → i ≠ a → i ≠ b → f i = 0) → qcq f n = f a + f b
 | 0, h, _, _ => absurd h (by omega)
 | n + 1, ha, hb, h0 => by
  simp only [qcq]
  by_cases e : a = n
  ·subst e
   rw [sumN_one b a (by omega) (fun i hi hi2 => h0 i (by omega) (by omega) hi2)]; grind
  ·by_cases e2 : b = n
   ·subst e2
    rw [sumN_one a b (by omega) (fun i hi hi2 => h0 i (by omega) hi2 (by omega))]
   ·rw [sumN_two a b hne n (by omega) (by omega) (fun i hi => h0 i (by omega)), h0 n (by omega) (fun q => e q.symm) (fun q => e2 q.symm)]; grind
theorem pivot_some {M : Nat → Nat → Rat} {m k : Nat} (hn : NonSing M m) (hu : UnitC M m k) (hk : k < m) : ∃ r, k ≤ r ∧ r < m ∧ M r k ≠ 0 := by
 refine Classical.byContradiction fun hno => ?_
 have hz : ∀ r, k ≤ r → r < m → M r k = 0 := fun r h1 h2 => Classical.byContradiction fun h3 => hno ⟨r, h1, h2, h3⟩
 have hker : KerM M m (m + 1) (fun j => if j < k then - M j k else if j = k then 1 else 0) := by
  intro i hi
  unfold dotM
  by_cases hik : i < k
  ·rw [sumN_two i k (by omega) (m + 1) (by omega) (by omega) (fun j hj h1 h2 => ?_)]
   ·simp only [if_pos hik, if_neg (Nat.lt_irrefl k), if_true]
    rw [hu i hi i hik, if_pos rfl]; grind
   ·by_cases hjk : j < k
    ·rw [hu i hi j hjk, if_neg (fun e => h1 e.symm)]; grind
    ·simp only [if_neg hjk, if_neg h2]; grind
  ·rw [sumN_one k (m + 1) (by omega) (fun j hj h2 => ?_)]
   ·simp only [if_neg (Nat.lt_irrefl k), if_true]
    rw [hz i (by omega) hi]; grind
   ·by_cases hjk : j < k
    ·rw [hu i hi j hjk, if_neg (by omega)]; grind
    ·simp only [if_neg hjk, if_neg h2]; grind
 have := hn _ hker (by rw [if_neg (by omega), if_neg (by omega)]) k hk
 rw [if_neg (by omega), if_pos rfl] at this
 exact absurd this (by decide)
theorem solved {M N : Nat → Nat → Rat} {m : Nat} (hu : UnitC N m m) (hk : ∀ z, KerM N m (m + 1) z ↔ KerM M m (m + 1) z) (i : Nat) (hi : i < m) : qcq (fun j => M i j * N j m) m = M i m := by
 have h1 : KerM N m (m + 1) (fun j => if j < m then N j m else -1) := by
  intro i hi
  unfold dotM
  rw [sumN_two i m (by omega) (m + 1) (by omega) (by omega) (fun j hj h1 h2 => ?_)]
  ·simp only [if_pos hi, if_neg (Nat.lt_irrefl m)]
   rw [hu i hi i hi, if_pos rfl]; grind
  ·rw [hu i hi j (by omega), if_neg (fun e => h1 e.symm)]; grind
 have h2 := (hk _).1 h1 i hi
 unfold dotM at h2
 simp only [qcq, if_neg (Nat.lt_irrefl m)] at h2
 have e : qcq (fun j => M i j * (if j < m then N j m else -1)) m = qcq (fun j => M i j * N j m) m := qbw m (fun j hj => by rw [if_pos hj])
 rw [e] at h2
 grind
theorem NonSing.of {M N : Nat → Nat → Rat} {m : Nat} (h : NonSing M m) (hk : ∀ z, KerM N m (m + 1) z ↔ KerM M m (m + 1) z) : NonSing N m := fun z hz => h z ((hk z).1 hz)
def addM (M : Nat → Nat → Rat) (i j : Nat) (r : Rat) : Nat → Nat → Rat := fun x y => if x = i ∧ y = j then M x y + r else M x y
def sysM (L : Nat → Bool) (pl : Nat → Nat) : List Mv → (Nat → Nat → Rat) → (Nat → Nat → Rat)
 | [], M => M
 | m :: l, M => sysM L pl l (if L m.a then (if L m.b then addM (addM M (pl m.a) (pl m.a) m.r) (pl m.a) (pl m.b) (- m.r) else addM M (pl m.a) (pl m.a) m.r) else M)
structure Places (L : Nat → Bool) (pl st : Nat → Nat) (k : Nat) : Prop where
 sts : ∀ i, i < k → L (st i) = true ∧ pl (st i) = i
 pls : ∀ s, L s = true → pl s < k ∧ st (pl s) = s
def liftT (L : Nat → Bool) (pl : Nat → Nat) (x : Nat → Rat) : Nat → Rat := fun s => if L s then x (pl s) else 0
theorem addM_dot (M : Nat → Nat → Rat) (i a b : Nat) (r : Rat) (x : Nat → Rat) {k : Nat} (hb : b < k) : qcq (fun j => addM M a b r i j * x j) k = qcq (fun j => M i j * x j) k + if i = a then r * x b else 0 := by
 by_cases e : i = a
 ·rw [if_pos e]
  have h : ∀ j, addM M a b r i j * x j = M i j * x j + (if j = b then r * x b else 0) := fun j => by
   unfold addM
   by_cases e2 : j = b
   ·rw [if_pos ⟨e, e2⟩, if_pos e2, e2]; grind
   ·rw [if_neg (fun q => e2 q.2), if_neg e2]; grind
  rw [qbw k (fun j _ => h j), sumN_add, sumN_one (f := fun j => if j = b then r * x b else 0) b k hb (fun j _ q => if_neg q), if_pos rfl]
 ·rw [if_neg e]
  have h : ∀ j, addM M a b r i j * x j = M i j * x j := fun j => by unfold addM; rw [if_neg (fun q => e q.1)]
  rw [qbw k (fun j _ => h j)]; grind
theorem sys_dot {L : Nat → Bool} {pl st : Nat → Nat} {k : Nat} (hp : Places L pl st k) (x : Nat → Rat) {i : Nat} (hi : i < k) : ∀ (ms : List Mv) (M : Nat → Nat → Rat),
  qcq (fun j => sysM L pl ms M i j * x j) k = qcq (fun j => M i j * x j) k + flow ms (st i) (liftT L pl x)
 | [], M => by simp only [sysM, flow]; grind
 | m :: l, M => by
  obtain ⟨h1, h2⟩ := hp.sts i hi
  simp only [sysM, flow]
  rw [sys_dot hp x hi l]
  have hx : liftT L pl x (st i) = x i := by unfold liftT; rw [h1, if_pos rfl, h2]
  cases ha : L m.a with
  | false =>
   have hne : ¬ m.a = st i := fun e => by rw [e, h1] at ha; cases ha
   simp only [Bool.false_eq_true, if_false, if_neg hne]; grind
  | true =>
   obtain ⟨p1, p2⟩ := hp.pls m.a ha
   have hiff : i = pl m.a ↔ m.a = st i := ⟨fun e => by rw [e, p2], fun e => by rw [e, h2]⟩
   cases hb : L m.b with
   | false =>
    have hz : liftT L pl x m.b = 0 := by unfold liftT; rw [hb]; simp
    simp only [if_true, Bool.false_eq_true, if_false]
    rw [addM_dot M i (pl m.a) (pl m.a) m.r x p1]
    by_cases e : i = pl m.a
    ·rw [if_pos e, if_pos (hiff.1 e), hx, hz, ← e]; grind
    ·rw [if_neg e, if_neg (fun q => e (hiff.2 q))]; grind
   | true =>
    obtain ⟨q1, q2⟩ := hp.pls m.b hb
    have hz : liftT L pl x m.b = x (pl m.b) := by unfold liftT; rw [hb, if_pos rfl]
    simp only [if_true]
    rw [addM_dot _ i (pl m.a) (pl m.b) (- m.r) x q1, addM_dot M i (pl m.a) (pl m.a) m.r x p1]
    by_cases e : i = pl m.a
    ·rw [if_pos e, if_pos e, if_pos (hiff.1 e), hx, hz, ← e]; grind
    ·rw [if_neg e, if_neg e, if_neg (fun q => e (hiff.2 q))]; grind
def augM (A : Nat → Nat → Rat) (k : Nat) : Nat → Nat → Rat := fun i j => if j < k then A i j else 1
theorem aug_dot (A : Nat → Nat → Rat) (k i : Nat) (z : Nat → Rat) : dotM (augM A k) (k + 1) z i = qcq (fun j => A i j * z j) k + z k := by
 unfold dotM augM
 simp only [qcq, if_neg (Nat.lt_irrefl k)]
 rw [qbw k (fun j hj => by rw [if_pos hj] : ∀ j, j < k → (if j < k then A i j else 1) * z j = A i j * z j)]
 grind
theorem sumN_null (x : Nat → Rat) : ∀ k, qcq (fun j => (0 : Rat) * x j) k = 0 := fun k => sumN_zero k (fun _ _ => by grind)
theorem sys_nonsing {n : Nat} {ms : List Mv} {dn : Nat → Bool} {s0 : Nat} {L : Nat → Bool} {pl st : Nat → Nat} {k : Nat} (hc : ChOK n ms s0) (hr : ∀ i, qcf ms dn s0 i → Ends ms dn i) (hL : ∀ i, L i = true ↔ qcf ms dn s0 i) (hp : Places L pl st k) :
  NonSing (augM (sysM L pl ms (fun _ _ => 0)) k) k := by
 intro z hz h0 j hj
 have hf : ∀ i, i < k → flow ms (st i) (liftT L pl z) = 0 := fun i hi => by
  have := hz i hi
  rw [aug_dot, h0, sys_dot hp z hi ms, sumN_null] at this
  grind
 have hD := hom_zero (D := liftT L pl z) hc (fun i hi => by
   unfold liftT
   rw [if_neg (fun q => hi ((hL i).1 q))]) (fun i hi => by
   obtain ⟨p1, p2⟩ := hp.pls i ((hL i).2 hi)
   have := hf _ p1
   rw [p2] at this; exact this) hr (st j)
 obtain ⟨h1, h2⟩ := hp.sts j hj
 unfold liftT at hD
 rw [h1, if_pos rfl, h2] at hD
 exact hD
theorem sys_times {ms : List Mv} {dn : Nat → Bool} {s0 : Nat} {L : Nat → Bool} {pl st : Nat → Nat} {k : Nat} {x : Nat → Rat} (hL : ∀ i, L i = true ↔ qcf ms dn s0 i) (hp : Places L pl st k)
  (hx : ∀ i, i < k → qcq (fun j => sysM L pl ms (fun _ _ => 0) i j * x j) k = 1) : IsT ms dn s0 (liftT L pl x) := by
 refine ⟨fun i hi => by unfold liftT; rw [if_neg (fun q => hi ((hL i).1 q))], fun i hi => ?_⟩
 obtain ⟨p1, p2⟩ := hp.pls i ((hL i).2 hi)
 have := hx _ p1
 rw [sys_dot hp x p1 ms, sumN_null, p2] at this
 grind
def DenB (D : Nat) (q : Rat) : Prop := ∃ z : Int, q * (D : Rat) = (z : Rat)
theorem DenB.zero (D : Nat) : DenB D 0 := ⟨0, by grind⟩
theorem DenB.one (D : Nat) : DenB D 1 := ⟨D, by rw [Rat.one_mul]; rfl⟩
theorem DenB.add {D : Nat} {p q : Rat} (h : DenB D p) (k : DenB D q) : DenB D (p + q) := by
 obtain ⟨a, ha⟩ := h
 obtain ⟨b, hb⟩ := k
 exact ⟨a + b, by rw [Rat.intCast_add, ← ha, ← hb]; grind⟩
theorem DenB.sub {D : Nat} {p q : Rat} (h : DenB D p) (k : DenB D q) : DenB D (p - q) := by
 obtain ⟨a, ha⟩ := h
 obtain ⟨b, hb⟩ := k
 exact ⟨a - b, by rw [Rat.intCast_sub, ← ha, ← hb]; grind⟩
theorem DenB.mul {D E : Nat} {p q : Rat} (h : DenB D p) (k : DenB E q) : DenB (D * E) (p * q) := by
 obtain ⟨a, ha⟩ := h
 obtain ⟨b, hb⟩ := k
 exact ⟨a * b, by rw [Rat.intCast_mul, ← ha, ← hb, Rat.natCast_mul]; grind⟩
theorem DenB.up {D E : Nat} {q : Rat} (h : DenB D q) : DenB (D * E) q := by
 have := h.mul (DenB.one E)
 rwa [Rat.mul_one] at this
theorem num_div (q : Rat) : (q.num : Rat) / (q.den : Rat) = q := by rw [← Rat.mkRat_eq_div, Rat.mkRat_self]
theorem DenB.own (q : Rat) : DenB q.den q := ⟨q.num, by
 have h := num_div q
 have hd : (q.den : Rat) ≠ 0 := by
  intro e
  exact q.den_nz (by exact_mod_cast e)
 have : q = (q.num : Rat) / (q.den : Rat) := h.symm
 grind⟩
theorem rl_den {D c : Nat} {q : Rat} (hD : D ≠ 0) (hc : 0 < c) (h : DenB D q) (h1 : -(c : Rat) ≤ q) (h2 : q ≤ (c : Rat)) : rl q ≤ (wd (c * D)).length := by
 obtain ⟨z, hz⟩ := h
 have hDp : (0 : Rat) < (D : Rat) := by
  have : 0 < D := Nat.pos_of_ne_zero hD
  exact_mod_cast this
 have hb : z.natAbs ≤ c * D := by
  have k1 : (z : Rat) ≤ ((c * D : Nat) : Rat) := by
   rw [← hz, Rat.natCast_mul]
   have := Rat.mul_nonneg (show 0 ≤ (c : Rat) - q by grind) (show 0 ≤ (D : Rat) by grind)
   grind
  have k2 : -((c * D : Nat) : Rat) ≤ (z : Rat) := by
   rw [← hz, Rat.natCast_mul]
   have := Rat.mul_nonneg (show 0 ≤ (c : Rat) + q by grind) (show 0 ≤ (D : Rat) by grind)
   grind
  have k1' : z ≤ ((c * D : Nat) : Int) := by exact_mod_cast k1
  have k2' : -((c * D : Nat) : Int) ≤ z := Rat.intCast_le_intCast.1 (by rw [Rat.intCast_neg]; exact k2)
  omega
 have hs : sgn (decide (z < 0)) z.natAbs = z := by
  unfold sgn
  by_cases hneg : z < 0
  ·simp only [hneg, decide_true, if_true]; omega
  ·simp only [hneg, decide_false, Bool.false_eq_true, if_false]; omega
 have hq : q = qm (decide (z < 0)) z.natAbs D := by
  rw [qcu, hs, ← hz]; grind
 rw [hq]
 exact rl_qm hD (qas hb) (qas (Nat.le_mul_of_pos_left D hc))
theorem stepA_den {dn : Nat → Bool} {q : Rat} {v : Nat → Rat} {D Q : Nat} (hq : 0 < q) (hv : ∀ i, DenB D (v i) ∧ 0 ≤ v i ∧ v i ≤ 1) (j : Nat) : ∀ (ms : List Mv) (w : Nat → Rat) (K : Nat), (∀ m ∈ ms, DenB Q (m.r / q) ∧ 0 < m.r ∧ m.r ≤ q) →
  (∀ i, DenB (D * Q) (w i) ∧ -(K : Rat) ≤ w i ∧ w i ≤ (K : Rat)) → DenB (D * Q) (qda dn q v ms w j) ∧ -((K + ms.length : Nat) : Rat) ≤ qda dn q v ms w j ∧ qda dn q v ms w j ≤ ((K + ms.length : Nat) : Rat)
 | [], w, K, _, hw => hw j
 | m :: l, w, K, hm, hw => by
  obtain ⟨h1, h2, h3⟩ := hm m (List.mem_cons_self ..)
  simp only [qda]
  have hs : DenB (D * Q) (v m.a * m.r / q) ∧ 0 ≤ v m.a * m.r / q ∧ v m.a * m.r / q ≤ 1 := by
   obtain ⟨a1, a2, a3⟩ := hv m.a
   have e : v m.a * m.r / q = v m.a * (m.r / q) := by rw [Rat.div_def, Rat.div_def, Rat.mul_assoc]
   have hr0 : 0 ≤ m.r / q := by rw [Rat.div_def]; exact Rat.mul_nonneg (by grind) (by have := Rat.inv_pos.2 hq; grind)
   have hr1 : m.r / q ≤ 1 := by
    have k := Rat.mul_nonneg (show 0 ≤ q - m.r by grind) (show 0 ≤ q⁻¹ by have := Rat.inv_pos.2 hq; grind)
    rw [Rat.div_def]
    have : q * q⁻¹ = 1 := Rat.mul_inv_cancel _ (by grind)
    grind
   rw [e]
   refine ⟨a1.mul h1, Rat.mul_nonneg a2 hr0, ?_⟩
   have k := Rat.mul_nonneg a2 (show 0 ≤ 1 - m.r / q by grind)
   grind
  have key := stepA_den (dn := dn) hq hv j l (if dn m.a then w else moved w m.a m.b (v m.a * m.r / q)) (K + 1) (fun x hx => hm x (List.mem_cons_of_mem _ hx)) (fun i => ?_)
  ·rw [List.length_cons, show K + (l.length + 1) = K + 1 + l.length by omega]
   exact key
  ·obtain ⟨w1, w2, w3⟩ := hw i
   have hK : ((K + 1 : Nat) : Rat) = (K : Rat) + 1 := by rw [Rat.natCast_add]; rfl
   rw [hK]
   split
   ·exact ⟨w1, by grind, by grind⟩
   ·unfold moved
    split
    ·exact ⟨w1.sub hs.1, by have := hs.2; grind, by have := hs.2; grind⟩
    ·split
     ·exact ⟨w1.add hs.1, by have := hs.2; grind, by have := hs.2; grind⟩
     ·exact ⟨w1, by grind, by grind⟩
theorem sumN_ge {f : Nat → Rat} (a : Nat) : ∀ n, a < n → (∀ i, 0 ≤ f i) → f a ≤ qcq f n
 | 0, h, _ => absurd h (by omega)
 | n + 1, h, h0 => by
  simp only [qcq]
  have hn := h0 n
  by_cases e : a = n
  ·subst e
   have := sumN_nonneg (f := f) a (fun i _ => h0 i); grind
  ·have := sumN_ge a n (by omega) h0; grind
def qdd : List Mv → Nat
 | [] => 1
 | m :: l => m.r.den * qdd l
theorem prodD_nz : ∀ ms, qdd ms ≠ 0
 | [] => by decide
 | m :: l => Nat.mul_ne_zero m.r.den_nz (prodD_nz l)
theorem prodD_den : ∀ (ms : List Mv) m, m ∈ ms → DenB (qdd ms) m.r
 | x :: l, m, h => by
  rcases List.mem_cons.1 h with e | e
  ·subst e; exact (DenB.own m.r).up
  ·simp only [qdd]
   rw [Nat.mul_comm]
   exact (prodD_den l m e).up
theorem rate_den {ms : List Mv} {m : Mv} {q : Rat} (hq : 0 < q) (hm : m ∈ ms) : DenB (qdd ms * q.num.natAbs) (m.r / q) := by
 obtain ⟨z, hz⟩ := prodD_den ms m hm
 have hn : 0 < q.num := by
  have h1 := Rat.num_nonneg.2 (show 0 ≤ q by grind)
  have h0 : q.num ≠ 0 := fun e => by
   rw [Rat.num_eq_zero.1 e] at hq
   exact absurd hq (by decide)
  omega
 have hqe : q = (q.num : Rat) / (q.den : Rat) := (num_div q).symm
 have hd : (q.den : Rat) ≠ 0 := fun e => q.den_nz (by exact_mod_cast e)
 have hnz : (q.num : Rat) ≠ 0 := fun e => by
  have : q.num = 0 := by exact_mod_cast e
  omega
 have en : ((q.num.natAbs : Nat) : Rat) = (q.num : Rat) := by
  have h : ((q.num.natAbs : Nat) : Int) = q.num := by omega
  exact congrArg (fun x : Int => (x : Rat)) h
 refine ⟨z * q.den, ?_⟩
 rw [Rat.intCast_mul, ← hz, Rat.natCast_mul, en]
 have hq0 : q ≠ 0 := by grind
 have e2 : (q.num : Rat) = q * (q.den : Rat) := by grind
 rw [e2]
 have e3 : ((q.den : Int) : Rat) = (q.den : Rat) := rfl
 rw [e3, Rat.div_def]
 have e4 : q⁻¹ * q = 1 := Rat.inv_mul_cancel _ hq0
 grind
theorem distK_den {n : Nat} {ms : List Mv} {dn : Nat → Bool} {s0 : Nat} {q : Rat} (hc : ChOK n ms s0) (hq : 0 < q) (he : ∀ i, qbt ms i ≤ q) (hr : ∀ m ∈ ms, m.r ≤ q) :
  ∀ k i, DenB ((qdd ms * q.num.natAbs) ^ k) (qbp dn q ms s0 k i) ∧ 0 ≤ qbp dn q ms s0 k i ∧ qbp dn q ms s0 k i ≤ 1
 | 0, i => by
  simp only [qbp]
  split
  ·exact ⟨DenB.one _, by decide, Rat.le_refl⟩
  ·exact ⟨DenB.zero _, Rat.le_refl, by decide⟩
 | k + 1, i => by
  have ih := distK_den (dn := dn) hc hq he hr k
  have hd := distK_ok (dn := dn) hc hq he (k + 1)
  have h1 := stepA_den (dn := dn) hq ih i ms (qbp dn q ms s0 k) 1 (fun m hm => ⟨rate_den hq hm, (hc.mv m hm).2.2.2, hr m hm⟩) (fun i => ⟨(ih i).1.up, by have := (ih i).2.1; grind, by have := (ih i).2.2; grind⟩)
  refine ⟨by rw [Nat.pow_succ]; exact h1.1, hd.nn i, ?_⟩
  by_cases hi : i < n
  ·have := sumN_ge (f := qbp dn q ms s0 (k + 1)) i n hi hd.nn
   rw [hd.one] at this; exact this
  ·have hz : qbp dn q ms s0 (k + 1) i = 0 := by
    refine Classical.byContradiction fun hne => ?_
    have h2 := distK_ok (dn := dn) hc hq he k
    simp only [qbp] at hne
    rw [stepA_at dn q _ i ms _ (fun m hm => (hc.mv m hm).2.2.1)] at hne
    have z0 : ∀ k, qbp dn q ms s0 k i = 0 := by
     intro k
     induction k with
     | zero => simp only [qbp]; exact if_neg (by have := hc.st; omega)
     | succ k ihk =>
      simp only [qbp]
      rw [stepA_at dn q _ i ms _ (fun m hm => (hc.mv m hm).2.2.1), ihk]
      have hin : inS2 dn q (qbp dn q ms s0 k) ms i = 0 := by
       refine Classical.byContradiction fun hh => ?_
       obtain ⟨m, hm, _, e, _⟩ := inS2_some ms hh
       have := (hc.mv m hm).2.1; omega
      rw [hin]; split <;> grind
    have hin : inS2 dn q (qbp dn q ms s0 k) ms i = 0 := by
     refine Classical.byContradiction fun hh => ?_
     obtain ⟨m, hm, _, e, _⟩ := inS2_some ms hh
     have := (hc.mv m hm).2.1; omega
    rw [hin, z0 k] at hne
    apply hne; split <;> grind
   rw [hz]; decide
end Go.Proofs.YtblekfkmianmeaaGreatDoor
