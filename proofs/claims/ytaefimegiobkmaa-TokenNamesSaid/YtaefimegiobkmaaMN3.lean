/-
  The texts Rat6, Rat7, Rat8, TokVal, Shelf, Tok1, Rat10, Rat11, Rat12, SpanMath, Draw, DrawR, Span0, Step, one behind the other (what the law leans on).
  Conditions: each theorem's own.
-/
import Derived.Deep.MidRow
import Derived.Test.YtaefimegiobkmaaMN2
/-
  rational.Neg, Abs, Mul, Add: what they hand back.
  Conditions: each theorem's own.
-/
namespace Go.Proofs.Ytaefimegiobkmaa
open Go.RowKit Go.ChangeShapes Go.WideShapes

theorem nest1_0 (w : World) (a : Obj) : (w.alloc a).heap[w.heap.size]? = some a := heap_alloc_new w a
theorem nest2_0 (w : World) (a b : Obj) : ((w.alloc a).alloc b).heap[w.heap.size]? = some a := by
  rw [heap_alloc_old _ _ (by simp), heap_alloc_new]
theorem nest2_1 (w : World) (a b : Obj) : ((w.alloc a).alloc b).heap[w.heap.size + 1]? = some b := by
  rw [show w.heap.size + 1 = (w.alloc a).heap.size from by simp, heap_alloc_new]
theorem nest3_0 (w : World) (a b c : Obj) : (((w.alloc a).alloc b).alloc c).heap[w.heap.size]? = some a := by
  rw [heap_alloc_old _ _ (by simp; omega), nest2_0]
theorem nest3_1 (w : World) (a b c : Obj) : (((w.alloc a).alloc b).alloc c).heap[w.heap.size + 1]? = some b := by
  rw [heap_alloc_old _ _ (by simp), nest2_1]
theorem nest3_2 (w : World) (a b c : Obj) : (((w.alloc a).alloc b).alloc c).heap[w.heap.size + 2]? = some c := by
  rw [show w.heap.size + 2 = ((w.alloc a).alloc b).heap.size from by simp, heap_alloc_new]
theorem q_mul' (p q : Rat) : qm (!(ng p == ng q)) (nn p * nn q) (p.den * q.den) = p * q := q_mul p q
theorem q_div' (p q : Rat) (h : q ≠ 0) : qm (!(ng p == ng q)) (nn p * q.den) (p.den * nn q) = p / q := q_div p q h

set_option maxRecDepth 100000 in
set_option maxHeartbeats 3200000 in
theorem mulq_any (vp : Value) (p : Rat) (vq : Value) (q : Rat) (w : World) (hp : RatIs w vp p) (hq : RatIs w vq q)  :
    Calls Try.prog 26 #[vp, vq] w (RetR w (p * q)) := by
  obtain ⟨sp, op, np, cp, ap, mp, dp, rfl⟩ := hp.shape
  have hlp := hp.rl
  obtain ⟨sq, oq, nq, cq, aq, mq, dq, rfl⟩ := hq.shape
  have hlq := hq.rl
  have hb0 := ((((Below.refl w.heap.size w).alloc (by first | (simp; done) | (simp; omega)) (.cells #[.bool sp, .slice op np cp, .slice ap mp dp] 32)).alloc (by first | (simp; done) | (simp; omega)) (.cells #[.bool sq, .slice oq nq cq, .slice aq mq dq] 32)).alloc (by first | (simp; done) | (simp; omega)) (.cells #[.bool false, .slice none 0 0, .slice none 0 0] 32))
  have hxp := nest3_0 w (.cells #[.bool sp, .slice op np cp, .slice ap mp dp] 32) (.cells #[.bool sq, .slice oq nq cq, .slice aq mq dq] 32) (.cells #[.bool false, .slice none 0 0, .slice none 0 0] 32)
  have hxq := nest3_1 w (.cells #[.bool sp, .slice op np cp, .slice ap mp dp] 32) (.cells #[.bool sq, .slice oq nq cq, .slice aq mq dq] 32) (.cells #[.bool false, .slice none 0 0, .slice none 0 0] 32)
  have hxR := nest3_2 w (.cells #[.bool sp, .slice op np cp, .slice ap mp dp] 32) (.cells #[.bool sq, .slice oq nq cq, .slice aq mq dq] 32) (.cells #[.bool false, .slice none 0 0, .slice none 0 0] 32)
  have hpp := hp.below hb0
  have hpq := hq.below hb0
  obtain ⟨w0, hw0⟩ : ∃ w0, w0 = (((w.alloc (.cells #[.bool sp, .slice op np cp, .slice ap mp dp] 32)).alloc (.cells #[.bool sq, .slice oq nq cq, .slice aq mq dq] 32)).alloc (.cells #[.bool false, .slice none 0 0, .slice none 0 0] 32)) := ⟨_, rfl⟩
  rw [← hw0] at hb0 hxp hxq hxR hpp hpq
  have HB0 := Lib.hid hb0; have HW0 := Lib.hid hw0
  have BXp := Lib.hid hxp
  have BXq := Lib.hid hxq
  have BXR := Lib.hid hxR
  have Fp := Lib.hid hpp
  have Fq := Lib.hid hpq
  clear hb0 hw0 hxp hxq hxR hpp hp hpq hq
  have l1 := rl_n p; have l2 := rl_d p; have l3 := rl_n q; have l4 := rl_d q
  have L1 : (wd (nn p * nn q)).length ≤ 200000 := by have := wd_mul_len (nn p) (nn q); have := rl_n p; have := rl_n q; omega
  have L2 : (wd (p.den * q.den)).length ≤ 200000 := by have := wd_mul_len p.den q.den; have := rl_d p; have := rl_d q; omega
  go_enter Try.func26, Try.ntmps26
  have hs := parts_any _ p w0 Fp.out
  have HS := Lib.hid hs; clear hs
  go_wp2_with fail
  rw [← HW0.out]
  (with_reducible refine HS.out.mono ?_); rintro e w1 ⟨v1, u1, rfl, hb1, hn1, hm1⟩
  clear HS
  have HB1 := Lib.hid (HB0.out.step hb1)
  have Fp := Lib.hid (Fp.out.below hb1)
  have Fq := Lib.hid (Fq.out.below hb1)
  have BXp := Lib.hid (heap_below BXp.out hb1)
  have BXq := Lib.hid (heap_below BXq.out hb1)
  have BXR := Lib.hid (heap_below BXR.out hb1)
  have N := Lib.hid hn1
  have D := Lib.hid hm1
  clear hn1 hm1
  clear hb1
  have hs := parts_any _ q w1 Fq.out
  have HS := Lib.hid hs; clear hs
  obtain ⟨eq0, eq1, eq2⟩ := row3 BXq.out
  go_wp2_with fail
  clear eq0 eq1 eq2
  (with_reducible refine HS.out.mono ?_); rintro e w2 ⟨v2, u2, rfl, hb2, hn2, hm2⟩
  clear HS
  have HB2 := Lib.hid (HB1.out.step hb2)
  have Fp := Lib.hid (Fp.out.below hb2)
  have Fq := Lib.hid (Fq.out.below hb2)
  have N := Lib.hid (N.out.below hb2)
  have D := Lib.hid (D.out.below hb2)
  have BXp := Lib.hid (heap_below BXp.out hb2)
  have BXq := Lib.hid (heap_below BXq.out hb2)
  have BXR := Lib.hid (heap_below BXR.out hb2)
  have M := Lib.hid hn2
  have E := Lib.hid hm2
  clear hn2 hm2
  clear hb2
  have hs := mulN N.out M.out (by omega) (by omega)
  have HS := Lib.hid hs; clear hs
  go_wp2_with fail
  (with_reducible refine HS.out.mono ?_); rintro e w3 ⟨v3, rfl, hb3, hn3⟩
  clear HS
  have HB3 := Lib.hid (HB2.out.step hb3)
  have Fp := Lib.hid (Fp.out.below hb3)
  have Fq := Lib.hid (Fq.out.below hb3)
  have N := Lib.hid (N.out.below hb3)
  have D := Lib.hid (D.out.below hb3)
  have M := Lib.hid (M.out.below hb3)
  have E := Lib.hid (E.out.below hb3)
  have BXp := Lib.hid (heap_below BXp.out hb3)
  have BXq := Lib.hid (heap_below BXq.out hb3)
  have BXR := Lib.hid (heap_below BXR.out hb3)
  have NM := Lib.hid hn3; clear hn3
  clear hb3
  have hs := mulN D.out E.out (by omega) (by omega)
  have HS := Lib.hid hs; clear hs
  go_wp2_with fail
  (with_reducible refine HS.out.mono ?_); rintro e w4 ⟨v4, rfl, hb4, hn4⟩
  clear HS
  have HB4 := Lib.hid (HB3.out.step hb4)
  have Fp := Lib.hid (Fp.out.below hb4)
  have Fq := Lib.hid (Fq.out.below hb4)
  have N := Lib.hid (N.out.below hb4)
  have D := Lib.hid (D.out.below hb4)
  have M := Lib.hid (M.out.below hb4)
  have E := Lib.hid (E.out.below hb4)
  have NM := Lib.hid (NM.out.below hb4)
  have BXp := Lib.hid (heap_below BXp.out hb4)
  have BXq := Lib.hid (heap_below BXq.out hb4)
  have BXR := Lib.hid (heap_below BXR.out hb4)
  have DE := Lib.hid hn4; clear hn4
  clear hb4
  have hs := formN (!(ng p == ng q)) NM.out DE.out (by omega) (by omega) (den_mul_nz p.den_nz q.den_nz)
  rw [q_mul'] at hs
  have HS := Lib.hid hs; clear hs
  go_wp2_with fail
  (with_reducible refine HS.out.mono ?_); rintro e w5 ⟨v5, rfl, hb5, hn5⟩
  clear HS
  have HB5 := Lib.hid (HB4.out.step hb5)
  have Fp := Lib.hid (Fp.out.below hb5)
  have Fq := Lib.hid (Fq.out.below hb5)
  have N := Lib.hid (N.out.below hb5)
  have D := Lib.hid (D.out.below hb5)
  have M := Lib.hid (M.out.below hb5)
  have E := Lib.hid (E.out.below hb5)
  have NM := Lib.hid (NM.out.below hb5)
  have DE := Lib.hid (DE.out.below hb5)
  have BXp := Lib.hid (heap_below BXp.out hb5)
  have BXq := Lib.hid (heap_below BXq.out hb5)
  have BXR := Lib.hid (heap_below BXR.out hb5)
  have Q := Lib.hid hn5; clear hn5
  clear hb5
  obtain ⟨sQ, oQ, nQ, cQ, aQ, mQ, dQ, rfl⟩ := Q.out.shape
  obtain ⟨eR0, eR1, eR2⟩ := row3 BXR.out
  obtain ⟨fR0, fR1, fR2⟩ := froz3 BXR.out
  go_wp2_with fail
  clear eR0 eR1 eR2 fR0 fR1 fR2
  refine ret_rat rfl (w.heap.size + 2) _ _ _ rfl (put3_heap BXR.out) rfl ?_
  exact ⟨_, rfl, put3_below HB5.out (by omega) _ _ _, isR_put Q.out BXR.out⟩
set_option maxRecDepth 100000 in
set_option maxHeartbeats 3200000 in
theorem add_same (vp : Value) (p : Rat) (vq : Value) (q : Rat) (w : World) (hp : RatIs w vp p) (hq : RatIs w vq q) (hs : ng p = ng q) :
    Calls Try.prog 45 #[vp, vq] w (RetR w (p + q)) := by
  obtain ⟨sp, op, np, cp, ap, mp, dp, rfl⟩ := hp.shape
  have hlp := hp.rl
  obtain ⟨sq, oq, nq, cq, aq, mq, dq, rfl⟩ := hq.shape
  have hlq := hq.rl
  have hb0 := ((((Below.refl w.heap.size w).alloc (by first | (simp; done) | (simp; omega)) (.cells #[.bool sp, .slice op np cp, .slice ap mp dp] 32)).alloc (by first | (simp; done) | (simp; omega)) (.cells #[.bool sq, .slice oq nq cq, .slice aq mq dq] 32)).alloc (by first | (simp; done) | (simp; omega)) (.cells #[.bool false, .slice none 0 0, .slice none 0 0] 32))
  have hxp := nest3_0 w (.cells #[.bool sp, .slice op np cp, .slice ap mp dp] 32) (.cells #[.bool sq, .slice oq nq cq, .slice aq mq dq] 32) (.cells #[.bool false, .slice none 0 0, .slice none 0 0] 32)
  have hxq := nest3_1 w (.cells #[.bool sp, .slice op np cp, .slice ap mp dp] 32) (.cells #[.bool sq, .slice oq nq cq, .slice aq mq dq] 32) (.cells #[.bool false, .slice none 0 0, .slice none 0 0] 32)
  have hxR := nest3_2 w (.cells #[.bool sp, .slice op np cp, .slice ap mp dp] 32) (.cells #[.bool sq, .slice oq nq cq, .slice aq mq dq] 32) (.cells #[.bool false, .slice none 0 0, .slice none 0 0] 32)
  have hpp := hp.below hb0
  have hpq := hq.below hb0
  obtain ⟨w0, hw0⟩ : ∃ w0, w0 = (((w.alloc (.cells #[.bool sp, .slice op np cp, .slice ap mp dp] 32)).alloc (.cells #[.bool sq, .slice oq nq cq, .slice aq mq dq] 32)).alloc (.cells #[.bool false, .slice none 0 0, .slice none 0 0] 32)) := ⟨_, rfl⟩
  rw [← hw0] at hb0 hxp hxq hxR hpp hpq
  have HB0 := Lib.hid hb0; have HW0 := Lib.hid hw0
  have BXp := Lib.hid hxp
  have BXq := Lib.hid hxq
  have BXR := Lib.hid hxR
  have Fp := Lib.hid hpp
  have Fq := Lib.hid hpq
  clear hb0 hw0 hxp hxq hxR hpp hp hpq hq
  have l1 := rl_n p; have l2 := rl_d p; have l3 := rl_n q; have l4 := rl_d q
  have L1 : (wd (nn p * q.den)).length ≤ 200000 := by have := wd_mul_len (nn p) q.den; omega
  have L2 : (wd (nn q * p.den)).length ≤ 200000 := by have := wd_mul_len (nn q) p.den; omega
  have L3 : (wd (p.den * q.den)).length ≤ 200000 := by have := wd_mul_len p.den q.den; omega
  have heq := q_add_same p q hs
  have HEQ := Lib.hid heq; clear heq
  have L4 : (wd (nn p * q.den + nn q * p.den)).length ≤ 200001 := by have := wd_add_len (nn p * q.den) (nn q * p.den); omega
  have f1 : (ng p == ng q) = true := by rw [beq_iff_eq]; exact hs
  obtain ⟨x, hx⟩ : ∃ x, x = ng p := ⟨_, rfl⟩; obtain ⟨y, hy⟩ : ∃ y, y = ng q := ⟨_, rfl⟩
  rw [← hx, ← hy] at f1
  have HX := Lib.hid hx; have HY := Lib.hid hy; clear hx hy hs
  go_enter Try.func45, Try.ntmps45
  have hs := parts_any _ p w0 Fp.out
  have HS := Lib.hid hs; clear hs
  go_wp2_with fail
  rw [← HW0.out]
  (with_reducible refine HS.out.mono ?_); rintro e w1 ⟨v1, u1, rfl, hb1, hn1, hm1⟩
  clear HS
  have HB1 := Lib.hid (HB0.out.step hb1)
  have Fp := Lib.hid (Fp.out.below hb1)
  have Fq := Lib.hid (Fq.out.below hb1)
  have BXp := Lib.hid (heap_below BXp.out hb1)
  have BXq := Lib.hid (heap_below BXq.out hb1)
  have BXR := Lib.hid (heap_below BXR.out hb1)
  have N := Lib.hid hn1
  have D := Lib.hid hm1
  clear hn1 hm1
  clear hb1
  rw [← HX.out]
  have hs := parts_any _ q w1 Fq.out
  have HS := Lib.hid hs; clear hs
  obtain ⟨eq0, eq1, eq2⟩ := row3 BXq.out
  go_wp2_with fail
  clear eq0 eq1 eq2
  (with_reducible refine HS.out.mono ?_); rintro e w2 ⟨v2, u2, rfl, hb2, hn2, hm2⟩
  clear HS
  have HB2 := Lib.hid (HB1.out.step hb2)
  have Fp := Lib.hid (Fp.out.below hb2)
  have Fq := Lib.hid (Fq.out.below hb2)
  have N := Lib.hid (N.out.below hb2)
  have D := Lib.hid (D.out.below hb2)
  have BXp := Lib.hid (heap_below BXp.out hb2)
  have BXq := Lib.hid (heap_below BXq.out hb2)
  have BXR := Lib.hid (heap_below BXR.out hb2)
  have M := Lib.hid hn2
  have E := Lib.hid hm2
  clear hn2 hm2
  clear hb2
  rw [← HY.out]
  have hs := mulN N.out E.out (by omega) (by omega)
  have HS := Lib.hid hs; clear hs
  go_wp2_with fail
  (with_reducible refine HS.out.mono ?_); rintro e w3 ⟨v3, rfl, hb3, hn3⟩
  clear HS
  have HB3 := Lib.hid (HB2.out.step hb3)
  have Fp := Lib.hid (Fp.out.below hb3)
  have Fq := Lib.hid (Fq.out.below hb3)
  have N := Lib.hid (N.out.below hb3)
  have D := Lib.hid (D.out.below hb3)
  have M := Lib.hid (M.out.below hb3)
  have E := Lib.hid (E.out.below hb3)
  have BXp := Lib.hid (heap_below BXp.out hb3)
  have BXq := Lib.hid (heap_below BXq.out hb3)
  have BXR := Lib.hid (heap_below BXR.out hb3)
  have X := Lib.hid hn3; clear hn3
  clear hb3
  have hs := mulN M.out D.out (by omega) (by omega)
  have HS := Lib.hid hs; clear hs
  go_wp2_with fail
  (with_reducible refine HS.out.mono ?_); rintro e w4 ⟨v4, rfl, hb4, hn4⟩
  clear HS
  have HB4 := Lib.hid (HB3.out.step hb4)
  have Fp := Lib.hid (Fp.out.below hb4)
  have Fq := Lib.hid (Fq.out.below hb4)
  have N := Lib.hid (N.out.below hb4)
  have D := Lib.hid (D.out.below hb4)
  have M := Lib.hid (M.out.below hb4)
  have E := Lib.hid (E.out.below hb4)
  have X := Lib.hid (X.out.below hb4)
  have BXp := Lib.hid (heap_below BXp.out hb4)
  have BXq := Lib.hid (heap_below BXq.out hb4)
  have BXR := Lib.hid (heap_below BXR.out hb4)
  have Y := Lib.hid hn4; clear hn4
  clear hb4
  have hs := mulN D.out E.out (by omega) (by omega)
  have HS := Lib.hid hs; clear hs
  go_wp2_with fail
  (with_reducible refine HS.out.mono ?_); rintro e w5 ⟨v5, rfl, hb5, hn5⟩
  clear HS
  have HB5 := Lib.hid (HB4.out.step hb5)
  have Fp := Lib.hid (Fp.out.below hb5)
  have Fq := Lib.hid (Fq.out.below hb5)
  have N := Lib.hid (N.out.below hb5)
  have D := Lib.hid (D.out.below hb5)
  have M := Lib.hid (M.out.below hb5)
  have E := Lib.hid (E.out.below hb5)
  have X := Lib.hid (X.out.below hb5)
  have Y := Lib.hid (Y.out.below hb5)
  have BXp := Lib.hid (heap_below BXp.out hb5)
  have BXq := Lib.hid (heap_below BXq.out hb5)
  have BXR := Lib.hid (heap_below BXR.out hb5)
  have DE := Lib.hid hn5; clear hn5
  clear hb5
  have hs := addN X.out Y.out (by omega) (by omega)
  have HS := Lib.hid hs; clear hs
  go_wp2_with fail
  (with_reducible refine HS.out.mono ?_); rintro e w6 ⟨v6, rfl, hb6, hn6⟩
  clear HS
  have HB6 := Lib.hid (HB5.out.step hb6)
  have Fp := Lib.hid (Fp.out.below hb6)
  have Fq := Lib.hid (Fq.out.below hb6)
  have N := Lib.hid (N.out.below hb6)
  have D := Lib.hid (D.out.below hb6)
  have M := Lib.hid (M.out.below hb6)
  have E := Lib.hid (E.out.below hb6)
  have X := Lib.hid (X.out.below hb6)
  have Y := Lib.hid (Y.out.below hb6)
  have DE := Lib.hid (DE.out.below hb6)
  have BXp := Lib.hid (heap_below BXp.out hb6)
  have BXq := Lib.hid (heap_below BXq.out hb6)
  have BXR := Lib.hid (heap_below BXR.out hb6)
  have S := Lib.hid hn6; clear hn6
  clear hb6
  have hs := formN x S.out DE.out (by omega) (by omega) (den_mul_nz p.den_nz q.den_nz)
  have HS := Lib.hid hs; clear hs
  go_wp2_with fail
  (with_reducible refine HS.out.mono ?_); rintro e w7 ⟨v7, rfl, hb7, hn7⟩
  clear HS
  have HB7 := Lib.hid (HB6.out.step hb7)
  have Fp := Lib.hid (Fp.out.below hb7)
  have Fq := Lib.hid (Fq.out.below hb7)
  have N := Lib.hid (N.out.below hb7)
  have D := Lib.hid (D.out.below hb7)
  have M := Lib.hid (M.out.below hb7)
  have E := Lib.hid (E.out.below hb7)
  have X := Lib.hid (X.out.below hb7)
  have Y := Lib.hid (Y.out.below hb7)
  have DE := Lib.hid (DE.out.below hb7)
  have S := Lib.hid (S.out.below hb7)
  have BXp := Lib.hid (heap_below BXp.out hb7)
  have BXq := Lib.hid (heap_below BXq.out hb7)
  have BXR := Lib.hid (heap_below BXR.out hb7)
  have Q := Lib.hid hn7; clear hn7
  clear hb7
  have hq := Q.out; rw [HX.out, HEQ.out] at hq; have Q := Lib.hid hq; clear hq
  obtain ⟨sQ, oQ, nQ, cQ, aQ, mQ, dQ, rfl⟩ := Q.out.shape
  obtain ⟨eR0, eR1, eR2⟩ := row3 BXR.out
  obtain ⟨fR0, fR1, fR2⟩ := froz3 BXR.out
  go_wp2_with fail
  clear eR0 eR1 eR2 fR0 fR1 fR2
  refine ret_rat rfl (w.heap.size + 2) _ _ _ rfl (put3_heap BXR.out) rfl ?_
  exact ⟨_, rfl, put3_below HB7.out (by omega) _ _ _, isR_put Q.out BXR.out⟩
set_option maxRecDepth 100000 in
set_option maxHeartbeats 3200000 in
theorem add_diff (vp : Value) (p : Rat) (vq : Value) (q : Rat) (w : World) (hp : RatIs w vp p) (hq : RatIs w vq q) (hs : ng p ≠ ng q) (hle : nn q * p.den ≤ nn p * q.den) :
    Calls Try.prog 45 #[vp, vq] w (RetR w (p + q)) := by
  obtain ⟨sp, op, np, cp, ap, mp, dp, rfl⟩ := hp.shape
  have hlp := hp.rl
  obtain ⟨sq, oq, nq, cq, aq, mq, dq, rfl⟩ := hq.shape
  have hlq := hq.rl
  have hb0 := ((((Below.refl w.heap.size w).alloc (by first | (simp; done) | (simp; omega)) (.cells #[.bool sp, .slice op np cp, .slice ap mp dp] 32)).alloc (by first | (simp; done) | (simp; omega)) (.cells #[.bool sq, .slice oq nq cq, .slice aq mq dq] 32)).alloc (by first | (simp; done) | (simp; omega)) (.cells #[.bool false, .slice none 0 0, .slice none 0 0] 32))
  have hxp := nest3_0 w (.cells #[.bool sp, .slice op np cp, .slice ap mp dp] 32) (.cells #[.bool sq, .slice oq nq cq, .slice aq mq dq] 32) (.cells #[.bool false, .slice none 0 0, .slice none 0 0] 32)
  have hxq := nest3_1 w (.cells #[.bool sp, .slice op np cp, .slice ap mp dp] 32) (.cells #[.bool sq, .slice oq nq cq, .slice aq mq dq] 32) (.cells #[.bool false, .slice none 0 0, .slice none 0 0] 32)
  have hxR := nest3_2 w (.cells #[.bool sp, .slice op np cp, .slice ap mp dp] 32) (.cells #[.bool sq, .slice oq nq cq, .slice aq mq dq] 32) (.cells #[.bool false, .slice none 0 0, .slice none 0 0] 32)
  have hpp := hp.below hb0
  have hpq := hq.below hb0
  obtain ⟨w0, hw0⟩ : ∃ w0, w0 = (((w.alloc (.cells #[.bool sp, .slice op np cp, .slice ap mp dp] 32)).alloc (.cells #[.bool sq, .slice oq nq cq, .slice aq mq dq] 32)).alloc (.cells #[.bool false, .slice none 0 0, .slice none 0 0] 32)) := ⟨_, rfl⟩
  rw [← hw0] at hb0 hxp hxq hxR hpp hpq
  have HB0 := Lib.hid hb0; have HW0 := Lib.hid hw0
  have BXp := Lib.hid hxp
  have BXq := Lib.hid hxq
  have BXR := Lib.hid hxR
  have Fp := Lib.hid hpp
  have Fq := Lib.hid hpq
  clear hb0 hw0 hxp hxq hxR hpp hp hpq hq
  have l1 := rl_n p; have l2 := rl_d p; have l3 := rl_n q; have l4 := rl_d q
  have L1 : (wd (nn p * q.den)).length ≤ 200000 := by have := wd_mul_len (nn p) q.den; omega
  have L2 : (wd (nn q * p.den)).length ≤ 200000 := by have := wd_mul_len (nn q) p.den; omega
  have L3 : (wd (p.den * q.den)).length ≤ 200000 := by have := wd_mul_len p.den q.den; omega
  have heq := q_add_diff p q hs hle
  have HEQ := Lib.hid heq; clear heq
  have f1 : (ng p == ng q) = false := by rw [beq_eq_false_iff_ne]; exact hs
  obtain ⟨c, hc⟩ : ∃ c, c = cmpN (nn p * q.den) (nn q * p.den) := ⟨_, rfl⟩
  have L4 : (wd (nn p * q.den - nn q * p.den)).length ≤ 200000 := by exact Nat.le_trans (wd_length_mono (Nat.sub_le _ _)) L1
  have f2 : decide (0 ≤ c) = true := by rw [hc, decide_eq_true_eq]; unfold cmpN; rw [if_neg (by omega)]; split <;> decide
  have HC := Lib.hid hc; have HLE := Lib.hid hle; clear hc hle
  obtain ⟨x, hx⟩ : ∃ x, x = ng p := ⟨_, rfl⟩; obtain ⟨y, hy⟩ : ∃ y, y = ng q := ⟨_, rfl⟩
  rw [← hx, ← hy] at f1
  have HX := Lib.hid hx; have HY := Lib.hid hy; clear hx hy hs
  go_enter Try.func45, Try.ntmps45
  have hs := parts_any _ p w0 Fp.out
  have HS := Lib.hid hs; clear hs
  go_wp2_with fail
  rw [← HW0.out]
  (with_reducible refine HS.out.mono ?_); rintro e w1 ⟨v1, u1, rfl, hb1, hn1, hm1⟩
  clear HS
  have HB1 := Lib.hid (HB0.out.step hb1)
  have Fp := Lib.hid (Fp.out.below hb1)
  have Fq := Lib.hid (Fq.out.below hb1)
  have BXp := Lib.hid (heap_below BXp.out hb1)
  have BXq := Lib.hid (heap_below BXq.out hb1)
  have BXR := Lib.hid (heap_below BXR.out hb1)
  have N := Lib.hid hn1
  have D := Lib.hid hm1
  clear hn1 hm1
  clear hb1
  rw [← HX.out]
  have hs := parts_any _ q w1 Fq.out
  have HS := Lib.hid hs; clear hs
  obtain ⟨eq0, eq1, eq2⟩ := row3 BXq.out
  go_wp2_with fail
  clear eq0 eq1 eq2
  (with_reducible refine HS.out.mono ?_); rintro e w2 ⟨v2, u2, rfl, hb2, hn2, hm2⟩
  clear HS
  have HB2 := Lib.hid (HB1.out.step hb2)
  have Fp := Lib.hid (Fp.out.below hb2)
  have Fq := Lib.hid (Fq.out.below hb2)
  have N := Lib.hid (N.out.below hb2)
  have D := Lib.hid (D.out.below hb2)
  have BXp := Lib.hid (heap_below BXp.out hb2)
  have BXq := Lib.hid (heap_below BXq.out hb2)
  have BXR := Lib.hid (heap_below BXR.out hb2)
  have M := Lib.hid hn2
  have E := Lib.hid hm2
  clear hn2 hm2
  clear hb2
  rw [← HY.out]
  have hs := mulN N.out E.out (by omega) (by omega)
  have HS := Lib.hid hs; clear hs
  go_wp2_with fail
  (with_reducible refine HS.out.mono ?_); rintro e w3 ⟨v3, rfl, hb3, hn3⟩
  clear HS
  have HB3 := Lib.hid (HB2.out.step hb3)
  have Fp := Lib.hid (Fp.out.below hb3)
  have Fq := Lib.hid (Fq.out.below hb3)
  have N := Lib.hid (N.out.below hb3)
  have D := Lib.hid (D.out.below hb3)
  have M := Lib.hid (M.out.below hb3)
  have E := Lib.hid (E.out.below hb3)
  have BXp := Lib.hid (heap_below BXp.out hb3)
  have BXq := Lib.hid (heap_below BXq.out hb3)
  have BXR := Lib.hid (heap_below BXR.out hb3)
  have X := Lib.hid hn3; clear hn3
  clear hb3
  have hs := mulN M.out D.out (by omega) (by omega)
  have HS := Lib.hid hs; clear hs
  go_wp2_with fail
  (with_reducible refine HS.out.mono ?_); rintro e w4 ⟨v4, rfl, hb4, hn4⟩
  clear HS
  have HB4 := Lib.hid (HB3.out.step hb4)
  have Fp := Lib.hid (Fp.out.below hb4)
  have Fq := Lib.hid (Fq.out.below hb4)
  have N := Lib.hid (N.out.below hb4)
  have D := Lib.hid (D.out.below hb4)
  have M := Lib.hid (M.out.below hb4)
  have E := Lib.hid (E.out.below hb4)
  have X := Lib.hid (X.out.below hb4)
  have BXp := Lib.hid (heap_below BXp.out hb4)
  have BXq := Lib.hid (heap_below BXq.out hb4)
  have BXR := Lib.hid (heap_below BXR.out hb4)
  have Y := Lib.hid hn4; clear hn4
  clear hb4
  have hs := mulN D.out E.out (by omega) (by omega)
  have HS := Lib.hid hs; clear hs
  go_wp2_with fail
  (with_reducible refine HS.out.mono ?_); rintro e w5 ⟨v5, rfl, hb5, hn5⟩
  clear HS
  have HB5 := Lib.hid (HB4.out.step hb5)
  have Fp := Lib.hid (Fp.out.below hb5)
  have Fq := Lib.hid (Fq.out.below hb5)
  have N := Lib.hid (N.out.below hb5)
  have D := Lib.hid (D.out.below hb5)
  have M := Lib.hid (M.out.below hb5)
  have E := Lib.hid (E.out.below hb5)
  have X := Lib.hid (X.out.below hb5)
  have Y := Lib.hid (Y.out.below hb5)
  have BXp := Lib.hid (heap_below BXp.out hb5)
  have BXq := Lib.hid (heap_below BXq.out hb5)
  have BXR := Lib.hid (heap_below BXR.out hb5)
  have DE := Lib.hid hn5; clear hn5
  clear hb5
  have hs := cmpN_ X.out Y.out (by omega) (by omega)
  rw [← HC.out] at hs
  have HS := Lib.hid hs; clear hs
  go_wp2_with fail
  (with_reducible refine HS.out.mono ?_); rintro e w6 ⟨rfl, hb6⟩
  clear HS
  have HB6 := Lib.hid (HB5.out.step hb6)
  have Fp := Lib.hid (Fp.out.below hb6)
  have Fq := Lib.hid (Fq.out.below hb6)
  have N := Lib.hid (N.out.below hb6)
  have D := Lib.hid (D.out.below hb6)
  have M := Lib.hid (M.out.below hb6)
  have E := Lib.hid (E.out.below hb6)
  have X := Lib.hid (X.out.below hb6)
  have Y := Lib.hid (Y.out.below hb6)
  have DE := Lib.hid (DE.out.below hb6)
  have BXp := Lib.hid (heap_below BXp.out hb6)
  have BXq := Lib.hid (heap_below BXq.out hb6)
  have BXR := Lib.hid (heap_below BXR.out hb6)
  clear hb6
  have hs := subN X.out Y.out (by omega) (by omega) HLE.out
  have HS := Lib.hid hs; clear hs
  go_wp2_with fail
  (with_reducible refine HS.out.mono ?_); rintro e w7 ⟨v7, rfl, hb7, hn7⟩
  clear HS
  have HB7 := Lib.hid (HB6.out.step hb7)
  have Fp := Lib.hid (Fp.out.below hb7)
  have Fq := Lib.hid (Fq.out.below hb7)
  have N := Lib.hid (N.out.below hb7)
  have D := Lib.hid (D.out.below hb7)
  have M := Lib.hid (M.out.below hb7)
  have E := Lib.hid (E.out.below hb7)
  have X := Lib.hid (X.out.below hb7)
  have Y := Lib.hid (Y.out.below hb7)
  have DE := Lib.hid (DE.out.below hb7)
  have BXp := Lib.hid (heap_below BXp.out hb7)
  have BXq := Lib.hid (heap_below BXq.out hb7)
  have BXR := Lib.hid (heap_below BXR.out hb7)
  have S := Lib.hid hn7; clear hn7
  clear hb7
  have hs := formN x S.out DE.out (by omega) (by omega) (den_mul_nz p.den_nz q.den_nz)
  have HS := Lib.hid hs; clear hs
  go_wp2_with fail
  (with_reducible refine HS.out.mono ?_); rintro e w8 ⟨v8, rfl, hb8, hn8⟩
  clear HS
  have HB8 := Lib.hid (HB7.out.step hb8)
  have Fp := Lib.hid (Fp.out.below hb8)
  have Fq := Lib.hid (Fq.out.below hb8)
  have N := Lib.hid (N.out.below hb8)
  have D := Lib.hid (D.out.below hb8)
  have M := Lib.hid (M.out.below hb8)
  have E := Lib.hid (E.out.below hb8)
  have X := Lib.hid (X.out.below hb8)
  have Y := Lib.hid (Y.out.below hb8)
  have DE := Lib.hid (DE.out.below hb8)
  have S := Lib.hid (S.out.below hb8)
  have BXp := Lib.hid (heap_below BXp.out hb8)
  have BXq := Lib.hid (heap_below BXq.out hb8)
  have BXR := Lib.hid (heap_below BXR.out hb8)
  have Q := Lib.hid hn8; clear hn8
  clear hb8
  have hq := Q.out; rw [HX.out, HEQ.out] at hq; have Q := Lib.hid hq; clear hq
  obtain ⟨sQ, oQ, nQ, cQ, aQ, mQ, dQ, rfl⟩ := Q.out.shape
  obtain ⟨eR0, eR1, eR2⟩ := row3 BXR.out
  obtain ⟨fR0, fR1, fR2⟩ := froz3 BXR.out
  go_wp2_with fail
  clear eR0 eR1 eR2 fR0 fR1 fR2
  refine ret_rat rfl (w.heap.size + 2) _ _ _ rfl (put3_heap BXR.out) rfl ?_
  exact ⟨_, rfl, put3_below HB8.out (by omega) _ _ _, isR_put Q.out BXR.out⟩
set_option maxRecDepth 100000 in
set_option maxHeartbeats 3200000 in
theorem add_diff' (vp : Value) (p : Rat) (vq : Value) (q : Rat) (w : World) (hp : RatIs w vp p) (hq : RatIs w vq q) (hs : ng p ≠ ng q) (hle : nn p * q.den < nn q * p.den) :
    Calls Try.prog 45 #[vp, vq] w (RetR w (p + q)) := by
  obtain ⟨sp, op, np, cp, ap, mp, dp, rfl⟩ := hp.shape
  have hlp := hp.rl
  obtain ⟨sq, oq, nq, cq, aq, mq, dq, rfl⟩ := hq.shape
  have hlq := hq.rl
  have hb0 := ((((Below.refl w.heap.size w).alloc (by first | (simp; done) | (simp; omega)) (.cells #[.bool sp, .slice op np cp, .slice ap mp dp] 32)).alloc (by first | (simp; done) | (simp; omega)) (.cells #[.bool sq, .slice oq nq cq, .slice aq mq dq] 32)).alloc (by first | (simp; done) | (simp; omega)) (.cells #[.bool false, .slice none 0 0, .slice none 0 0] 32))
  have hxp := nest3_0 w (.cells #[.bool sp, .slice op np cp, .slice ap mp dp] 32) (.cells #[.bool sq, .slice oq nq cq, .slice aq mq dq] 32) (.cells #[.bool false, .slice none 0 0, .slice none 0 0] 32)
  have hxq := nest3_1 w (.cells #[.bool sp, .slice op np cp, .slice ap mp dp] 32) (.cells #[.bool sq, .slice oq nq cq, .slice aq mq dq] 32) (.cells #[.bool false, .slice none 0 0, .slice none 0 0] 32)
  have hxR := nest3_2 w (.cells #[.bool sp, .slice op np cp, .slice ap mp dp] 32) (.cells #[.bool sq, .slice oq nq cq, .slice aq mq dq] 32) (.cells #[.bool false, .slice none 0 0, .slice none 0 0] 32)
  have hpp := hp.below hb0
  have hpq := hq.below hb0
  obtain ⟨w0, hw0⟩ : ∃ w0, w0 = (((w.alloc (.cells #[.bool sp, .slice op np cp, .slice ap mp dp] 32)).alloc (.cells #[.bool sq, .slice oq nq cq, .slice aq mq dq] 32)).alloc (.cells #[.bool false, .slice none 0 0, .slice none 0 0] 32)) := ⟨_, rfl⟩
  rw [← hw0] at hb0 hxp hxq hxR hpp hpq
  have HB0 := Lib.hid hb0; have HW0 := Lib.hid hw0
  have BXp := Lib.hid hxp
  have BXq := Lib.hid hxq
  have BXR := Lib.hid hxR
  have Fp := Lib.hid hpp
  have Fq := Lib.hid hpq
  clear hb0 hw0 hxp hxq hxR hpp hp hpq hq
  have l1 := rl_n p; have l2 := rl_d p; have l3 := rl_n q; have l4 := rl_d q
  have L1 : (wd (nn p * q.den)).length ≤ 200000 := by have := wd_mul_len (nn p) q.den; omega
  have L2 : (wd (nn q * p.den)).length ≤ 200000 := by have := wd_mul_len (nn q) p.den; omega
  have L3 : (wd (p.den * q.den)).length ≤ 200000 := by have := wd_mul_len p.den q.den; omega
  have heq := q_add_diff' p q hs (Nat.le_of_lt hle)
  have HEQ := Lib.hid heq; clear heq
  have f1 : (ng p == ng q) = false := by rw [beq_eq_false_iff_ne]; exact hs
  obtain ⟨c, hc⟩ : ∃ c, c = cmpN (nn p * q.den) (nn q * p.den) := ⟨_, rfl⟩
  have L4 : (wd (nn q * p.den - nn p * q.den)).length ≤ 200000 := by exact Nat.le_trans (wd_length_mono (Nat.sub_le _ _)) L2
  have f2 : decide (0 ≤ c) = false := by rw [hc, decide_eq_false_iff_not]; unfold cmpN; rw [if_pos hle]; decide
  have HC := Lib.hid hc; have HLE := Lib.hid hle; clear hc hle
  obtain ⟨x, hx⟩ : ∃ x, x = ng p := ⟨_, rfl⟩; obtain ⟨y, hy⟩ : ∃ y, y = ng q := ⟨_, rfl⟩
  rw [← hx, ← hy] at f1
  have HX := Lib.hid hx; have HY := Lib.hid hy; clear hx hy hs
  go_enter Try.func45, Try.ntmps45
  have hs := parts_any _ p w0 Fp.out
  have HS := Lib.hid hs; clear hs
  go_wp2_with fail
  rw [← HW0.out]
  (with_reducible refine HS.out.mono ?_); rintro e w1 ⟨v1, u1, rfl, hb1, hn1, hm1⟩
  clear HS
  have HB1 := Lib.hid (HB0.out.step hb1)
  have Fp := Lib.hid (Fp.out.below hb1)
  have Fq := Lib.hid (Fq.out.below hb1)
  have BXp := Lib.hid (heap_below BXp.out hb1)
  have BXq := Lib.hid (heap_below BXq.out hb1)
  have BXR := Lib.hid (heap_below BXR.out hb1)
  have N := Lib.hid hn1
  have D := Lib.hid hm1
  clear hn1 hm1
  clear hb1
  rw [← HX.out]
  have hs := parts_any _ q w1 Fq.out
  have HS := Lib.hid hs; clear hs
  obtain ⟨eq0, eq1, eq2⟩ := row3 BXq.out
  go_wp2_with fail
  clear eq0 eq1 eq2
  (with_reducible refine HS.out.mono ?_); rintro e w2 ⟨v2, u2, rfl, hb2, hn2, hm2⟩
  clear HS
  have HB2 := Lib.hid (HB1.out.step hb2)
  have Fp := Lib.hid (Fp.out.below hb2)
  have Fq := Lib.hid (Fq.out.below hb2)
  have N := Lib.hid (N.out.below hb2)
  have D := Lib.hid (D.out.below hb2)
  have BXp := Lib.hid (heap_below BXp.out hb2)
  have BXq := Lib.hid (heap_below BXq.out hb2)
  have BXR := Lib.hid (heap_below BXR.out hb2)
  have M := Lib.hid hn2
  have E := Lib.hid hm2
  clear hn2 hm2
  clear hb2
  rw [← HY.out]
  have hs := mulN N.out E.out (by omega) (by omega)
  have HS := Lib.hid hs; clear hs
  go_wp2_with fail
  (with_reducible refine HS.out.mono ?_); rintro e w3 ⟨v3, rfl, hb3, hn3⟩
  clear HS
  have HB3 := Lib.hid (HB2.out.step hb3)
  have Fp := Lib.hid (Fp.out.below hb3)
  have Fq := Lib.hid (Fq.out.below hb3)
  have N := Lib.hid (N.out.below hb3)
  have D := Lib.hid (D.out.below hb3)
  have M := Lib.hid (M.out.below hb3)
  have E := Lib.hid (E.out.below hb3)
  have BXp := Lib.hid (heap_below BXp.out hb3)
  have BXq := Lib.hid (heap_below BXq.out hb3)
  have BXR := Lib.hid (heap_below BXR.out hb3)
  have X := Lib.hid hn3; clear hn3
  clear hb3
  have hs := mulN M.out D.out (by omega) (by omega)
  have HS := Lib.hid hs; clear hs
  go_wp2_with fail
  (with_reducible refine HS.out.mono ?_); rintro e w4 ⟨v4, rfl, hb4, hn4⟩
  clear HS
  have HB4 := Lib.hid (HB3.out.step hb4)
  have Fp := Lib.hid (Fp.out.below hb4)
  have Fq := Lib.hid (Fq.out.below hb4)
  have N := Lib.hid (N.out.below hb4)
  have D := Lib.hid (D.out.below hb4)
  have M := Lib.hid (M.out.below hb4)
  have E := Lib.hid (E.out.below hb4)
  have X := Lib.hid (X.out.below hb4)
  have BXp := Lib.hid (heap_below BXp.out hb4)
  have BXq := Lib.hid (heap_below BXq.out hb4)
  have BXR := Lib.hid (heap_below BXR.out hb4)
  have Y := Lib.hid hn4; clear hn4
  clear hb4
  have hs := mulN D.out E.out (by omega) (by omega)
  have HS := Lib.hid hs; clear hs
  go_wp2_with fail
  (with_reducible refine HS.out.mono ?_); rintro e w5 ⟨v5, rfl, hb5, hn5⟩
  clear HS
  have HB5 := Lib.hid (HB4.out.step hb5)
  have Fp := Lib.hid (Fp.out.below hb5)
  have Fq := Lib.hid (Fq.out.below hb5)
  have N := Lib.hid (N.out.below hb5)
  have D := Lib.hid (D.out.below hb5)
  have M := Lib.hid (M.out.below hb5)
  have E := Lib.hid (E.out.below hb5)
  have X := Lib.hid (X.out.below hb5)
  have Y := Lib.hid (Y.out.below hb5)
  have BXp := Lib.hid (heap_below BXp.out hb5)
  have BXq := Lib.hid (heap_below BXq.out hb5)
  have BXR := Lib.hid (heap_below BXR.out hb5)
  have DE := Lib.hid hn5; clear hn5
  clear hb5
  have hs := cmpN_ X.out Y.out (by omega) (by omega)
  rw [← HC.out] at hs
  have HS := Lib.hid hs; clear hs
  go_wp2_with fail
  (with_reducible refine HS.out.mono ?_); rintro e w6 ⟨rfl, hb6⟩
  clear HS
  have HB6 := Lib.hid (HB5.out.step hb6)
  have Fp := Lib.hid (Fp.out.below hb6)
  have Fq := Lib.hid (Fq.out.below hb6)
  have N := Lib.hid (N.out.below hb6)
  have D := Lib.hid (D.out.below hb6)
  have M := Lib.hid (M.out.below hb6)
  have E := Lib.hid (E.out.below hb6)
  have X := Lib.hid (X.out.below hb6)
  have Y := Lib.hid (Y.out.below hb6)
  have DE := Lib.hid (DE.out.below hb6)
  have BXp := Lib.hid (heap_below BXp.out hb6)
  have BXq := Lib.hid (heap_below BXq.out hb6)
  have BXR := Lib.hid (heap_below BXR.out hb6)
  clear hb6
  have hs := subN Y.out X.out (by omega) (by omega) (Nat.le_of_lt HLE.out)
  have HS := Lib.hid hs; clear hs
  go_wp2_with fail
  (with_reducible refine HS.out.mono ?_); rintro e w7 ⟨v7, rfl, hb7, hn7⟩
  clear HS
  have HB7 := Lib.hid (HB6.out.step hb7)
  have Fp := Lib.hid (Fp.out.below hb7)
  have Fq := Lib.hid (Fq.out.below hb7)
  have N := Lib.hid (N.out.below hb7)
  have D := Lib.hid (D.out.below hb7)
  have M := Lib.hid (M.out.below hb7)
  have E := Lib.hid (E.out.below hb7)
  have X := Lib.hid (X.out.below hb7)
  have Y := Lib.hid (Y.out.below hb7)
  have DE := Lib.hid (DE.out.below hb7)
  have BXp := Lib.hid (heap_below BXp.out hb7)
  have BXq := Lib.hid (heap_below BXq.out hb7)
  have BXR := Lib.hid (heap_below BXR.out hb7)
  have S := Lib.hid hn7; clear hn7
  clear hb7
  have hs := formN y S.out DE.out (by omega) (by omega) (den_mul_nz p.den_nz q.den_nz)
  have HS := Lib.hid hs; clear hs
  go_wp2_with fail
  (with_reducible refine HS.out.mono ?_); rintro e w8 ⟨v8, rfl, hb8, hn8⟩
  clear HS
  have HB8 := Lib.hid (HB7.out.step hb8)
  have Fp := Lib.hid (Fp.out.below hb8)
  have Fq := Lib.hid (Fq.out.below hb8)
  have N := Lib.hid (N.out.below hb8)
  have D := Lib.hid (D.out.below hb8)
  have M := Lib.hid (M.out.below hb8)
  have E := Lib.hid (E.out.below hb8)
  have X := Lib.hid (X.out.below hb8)
  have Y := Lib.hid (Y.out.below hb8)
  have DE := Lib.hid (DE.out.below hb8)
  have S := Lib.hid (S.out.below hb8)
  have BXp := Lib.hid (heap_below BXp.out hb8)
  have BXq := Lib.hid (heap_below BXq.out hb8)
  have BXR := Lib.hid (heap_below BXR.out hb8)
  have Q := Lib.hid hn8; clear hn8
  clear hb8
  have hq := Q.out; rw [HY.out, HEQ.out] at hq; have Q := Lib.hid hq; clear hq
  obtain ⟨sQ, oQ, nQ, cQ, aQ, mQ, dQ, rfl⟩ := Q.out.shape
  obtain ⟨eR0, eR1, eR2⟩ := row3 BXR.out
  obtain ⟨fR0, fR1, fR2⟩ := froz3 BXR.out
  go_wp2_with fail
  clear eR0 eR1 eR2 fR0 fR1 fR2
  refine ret_rat rfl (w.heap.size + 2) _ _ _ rfl (put3_heap BXR.out) rfl ?_
  exact ⟨_, rfl, put3_below HB8.out (by omega) _ _ _, isR_put Q.out BXR.out⟩
theorem addq_any (vp : Value) (p : Rat) (vq : Value) (q : Rat) (w : World) (hp : RatIs w vp p) (hq : RatIs w vq q) :
    Calls Try.prog 45 #[vp, vq] w (RetR w (p + q)) := by
  by_cases h : ng p = ng q
  · exact add_same vp p vq q w hp hq h
  · rcases Nat.lt_or_ge (nn p * q.den) (nn q * p.den) with h2 | h2
    · exact add_diff' vp p vq q w hp hq h h2
    · exact add_diff vp p vq q w hp hq h h2
end Go.Proofs.Ytaefimegiobkmaa
/-
  rational.size, Of, Make, Sub, Sign, Cmp, same, Min, Max, Div: what they hand back.
  Conditions: each theorem's own.
-/
namespace Go.Proofs.Ytaefimegiobkmaa
open Go.RowKit Go.ChangeShapes Go.WideShapes

theorem wd_two63 : wd 9223372036854775808 = [0, 2147483648] := by
  rw [wd_pos (by decide), show (9223372036854775808 : Nat) % 4294967296 = 0 from rfl, show (9223372036854775808 : Nat) / 4294967296 = 2147483648 from rfl, wd_one (by decide) (by decide)]
theorem wd_small {n : Nat} (h : n ≤ 9223372036854775808) : (wd n).length ≤ 2 := wd_length_of_lt (Nat.lt_of_le_of_lt h (by decide))
set_option maxRecDepth 100000 in
set_option maxHeartbeats 800000 in
theorem size_any (n : Int) (w : World) (h0 : -9223372036854775808 ≤ n) (h1 : n < 9223372036854775808) :
    Calls Try.prog 46 #[.int .i64 n] w (RetN w n.natAbs) := by
  by_cases h : n = -9223372036854775808
  · subst h
    go_enter Try.func46, Try.ntmps46
    go_wp2_with fail
    go_ret
    refine ⟨_, rfl, (Below.refl _ _).alloc (Nat.le_refl _) _, ?_⟩
    rw [show (-9223372036854775808 : Int).natAbs = 9223372036854775808 from rfl, wd_two63]
    exact num_lit w 70 _ [0, 2147483648] 2 (U32.cons (by decide) (U32.cons (by decide) U32.nil)) rfl (by simp) rfl
  · have f1 : (n == -9223372036854775808) = false := by rw [beq_eq_false_iff_ne]; exact h
    have hof := of_any (max n (-n)) w (by omega) (by omega)
    rw [show (max n (-n)).toNat = n.natAbs by omega] at hof
    have HO := Lib.hid hof
    have hwr : wrap64 (-n) = -n := by unfold wrap64; omega
    clear hof h
    go_enter Try.func46, Try.ntmps46
    go_wp2_with fail
    (with_reducible refine HO.out.mono ?_); rintro e w1 ⟨v1, l1, rfl, hb1, hn1, rfl⟩
    go_wp2_with fail
    go_ret
    exact ⟨_, rfl, hb1, hn1⟩
theorem sgn_int (n : Int) : sgn (decide (n < 0)) n.natAbs = n := by
  unfold sgn
  by_cases h : n < 0
  · rw [decide_eq_true h, if_pos rfl]; omega
  · rw [decide_eq_false h, if_neg (by decide)]; omega
theorem q_int (n : Int) : qm (decide (n < 0)) n.natAbs 1 = (n : Rat) := by rw [qm_one, sgn_int]
theorem q_ints (n d : Int) : qm (!(decide (n < 0) == decide (d < 0))) n.natAbs d.natAbs = (n : Rat) / (d : Rat) := by
  rw [show (!(decide (n < 0) == decide (d < 0))) = (decide (n < 0) != decide (d < 0)) from rfl, qm_eq_div]
  by_cases h : d = 0
  · subst h
    rw [show (0 : Int).natAbs = 0 from rfl, show ((0 : Nat) : Rat) = 0 from rfl, show ((0 : Int) : Rat) = 0 from rfl]; grind
  · have e : (d : Rat) = ((sgn (decide (d < 0)) d.natAbs : Int) : Rat) := by rw [sgn_int]
    have e2 : ((sgn (decide (n < 0) != decide (d < 0)) n.natAbs : Int) : Rat) * (d : Rat) = (n : Rat) * ((d.natAbs : Nat) : Rat) := by
      rw [← Rat.intCast_natCast, ← Rat.intCast_mul, ← Rat.intCast_mul]
      congr 1
      have st : ∀ m : Nat, sgn true m = -(m : Int) := fun _ => rfl
      have sf : ∀ m : Nat, sgn false m = (m : Int) := fun _ => rfl
      by_cases h1 : n < 0 <;> by_cases h2 : d < 0
      · rw [decide_eq_true h1, decide_eq_true h2, show (true != true) = false from rfl, sf, show ((d.natAbs : Nat) : Int) = -d by omega, show ((n.natAbs : Nat) : Int) = -n by omega]; simp [Int.neg_mul, Int.mul_neg]
      · rw [decide_eq_true h1, decide_eq_false h2, show (true != false) = true from rfl, st, show ((d.natAbs : Nat) : Int) = d by omega, show ((n.natAbs : Nat) : Int) = -n by omega]; simp
      · rw [decide_eq_false h1, decide_eq_true h2, show (false != true) = true from rfl, st, show ((d.natAbs : Nat) : Int) = -d by omega, show ((n.natAbs : Nat) : Int) = n by omega]; simp [Int.neg_mul, Int.mul_neg]
      · rw [decide_eq_false h1, decide_eq_false h2, show (false != false) = false from rfl, sf, show ((d.natAbs : Nat) : Int) = d by omega, show ((n.natAbs : Nat) : Int) = n by omega]
    have d1 : (d : Rat) ≠ 0 := fun e => h (Rat.intCast_eq_zero_iff.1 e)
    have d2 : ((d.natAbs : Nat) : Rat) ≠ 0 := fun e => by have := Rat.natCast_eq_zero_iff.1 e; omega
    grind

set_option maxRecDepth 100000 in
set_option maxHeartbeats 3200000 in
theorem ofq_any (n : Int) (w : World)  (h0 : -9223372036854775808 ≤ n) (h1 : n < 9223372036854775808) :
    Calls Try.prog 25 #[.int .i64 n] w (RetR w (n : Rat)) := by
  have hb0 := ((Below.refl w.heap.size w).alloc (by first | (simp; done) | (simp; omega)) (.cells #[.bool false, .slice none 0 0, .slice none 0 0] 32))
  have hxR := nest1_0 w (.cells #[.bool false, .slice none 0 0, .slice none 0 0] 32)
  obtain ⟨w0, hw0⟩ : ∃ w0, w0 = (w.alloc (.cells #[.bool false, .slice none 0 0, .slice none 0 0] 32)) := ⟨_, rfl⟩
  rw [← hw0] at hb0 hxR
  have HB0 := Lib.hid hb0; have HW0 := Lib.hid hw0
  have BXR := Lib.hid hxR
  clear hb0 hw0 hxR
  have L1 : (wd (n.natAbs)).length ≤ 2 := by exact wd_small (by omega)
  have L2 : (wd (1)).length ≤ 1 := by rw [wd_one_len]; exact Nat.le_refl _
  have BD := Lib.hid (And.intro h0 h1)
  go_enter Try.func25, Try.ntmps25
  have hs := size_any n w0 BD.out.1 BD.out.2
  have HS := Lib.hid hs; clear hs
  go_wp2_with fail
  rw [← HW0.out]
  (with_reducible refine HS.out.mono ?_); rintro e w1 ⟨v1, rfl, hb1, hn1⟩
  clear HS
  have HB1 := Lib.hid (HB0.out.step hb1)
  have BXR := Lib.hid (heap_below BXR.out hb1)
  have N := Lib.hid hn1; clear hn1
  clear hb1
  have hs := one_any w1
  have HS := Lib.hid hs; clear hs
  go_wp2_with fail
  (with_reducible refine HS.out.mono ?_); rintro e w2 ⟨v2, rfl, hb2, hn2⟩
  clear HS
  have HB2 := Lib.hid (HB1.out.step hb2)
  have N := Lib.hid (N.out.below hb2)
  have BXR := Lib.hid (heap_below BXR.out hb2)
  have O := Lib.hid hn2; clear hn2
  clear hb2
  have hs := formN (decide (n < 0)) N.out O.out (by omega) (by omega) (by decide)
  rw [q_int] at hs
  have HS := Lib.hid hs; clear hs
  go_wp2_with fail
  (with_reducible refine HS.out.mono ?_); rintro e w3 ⟨v3, rfl, hb3, hn3⟩
  clear HS
  have HB3 := Lib.hid (HB2.out.step hb3)
  have N := Lib.hid (N.out.below hb3)
  have O := Lib.hid (O.out.below hb3)
  have BXR := Lib.hid (heap_below BXR.out hb3)
  have Q := Lib.hid hn3; clear hn3
  clear hb3
  obtain ⟨sQ, oQ, nQ, cQ, aQ, mQ, dQ, rfl⟩ := Q.out.shape
  obtain ⟨eR0, eR1, eR2⟩ := row3 BXR.out
  obtain ⟨fR0, fR1, fR2⟩ := froz3 BXR.out
  go_wp2_with fail
  clear eR0 eR1 eR2 fR0 fR1 fR2
  refine ret_rat rfl w.heap.size _ _ _ rfl (put3_heap BXR.out) rfl ?_
  exact ⟨_, rfl, put3_below HB3.out (by omega) _ _ _, isR_put Q.out BXR.out⟩
end Go.Proofs.Ytaefimegiobkmaa
/-
  rational.Div, Floor, Round, Power: what they hand back.
  Conditions: each theorem's own.
-/
namespace Go.Proofs.Ytaefimegiobkmaa
open Go.RowKit Go.ChangeShapes Go.WideShapes

/-- the number of the error of a division -/
def dc (q : Rat) : Nat := if q = 0 then 8 else 0
theorem div_zero_rat (p : Rat) : p / 0 = 0 := by grind
set_option maxRecDepth 100000 in
set_option maxHeartbeats 3200000 in
theorem div_ok (vp : Value) (p : Rat) (vq : Value) (q : Rat) (w : World) (hp : RatIs w vp p) (hq : RatIs w vq q) (h0 : q ≠ 0) :
    Calls Try.prog 23 #[vp, vq] w (RetRE w (p / q) (errV 0)) := by
  obtain ⟨sp, op, np, cp, ap, mp, dp, rfl⟩ := hp.shape
  have hlp := hp.rl
  obtain ⟨sq, oq, nq, cq, aq, mq, dq, rfl⟩ := hq.shape
  have hlq := hq.rl
  rw [errV_zero]
  have hb0 := ((((Below.refl w.heap.size w).alloc (by first | (simp; done) | (simp; omega)) (.cells #[.bool sp, .slice op np cp, .slice ap mp dp] 32)).alloc (by first | (simp; done) | (simp; omega)) (.cells #[.bool sq, .slice oq nq cq, .slice aq mq dq] 32)).alloc (by first | (simp; done) | (simp; omega)) (.cells #[.bool false, .slice none 0 0, .slice none 0 0] 32))
  have hxp := nest3_0 w (.cells #[.bool sp, .slice op np cp, .slice ap mp dp] 32) (.cells #[.bool sq, .slice oq nq cq, .slice aq mq dq] 32) (.cells #[.bool false, .slice none 0 0, .slice none 0 0] 32)
  have hxq := nest3_1 w (.cells #[.bool sp, .slice op np cp, .slice ap mp dp] 32) (.cells #[.bool sq, .slice oq nq cq, .slice aq mq dq] 32) (.cells #[.bool false, .slice none 0 0, .slice none 0 0] 32)
  have hxR := nest3_2 w (.cells #[.bool sp, .slice op np cp, .slice ap mp dp] 32) (.cells #[.bool sq, .slice oq nq cq, .slice aq mq dq] 32) (.cells #[.bool false, .slice none 0 0, .slice none 0 0] 32)
  have hpp := hp.below hb0
  have hpq := hq.below hb0
  obtain ⟨w0, hw0⟩ : ∃ w0, w0 = (((w.alloc (.cells #[.bool sp, .slice op np cp, .slice ap mp dp] 32)).alloc (.cells #[.bool sq, .slice oq nq cq, .slice aq mq dq] 32)).alloc (.cells #[.bool false, .slice none 0 0, .slice none 0 0] 32)) := ⟨_, rfl⟩
  rw [← hw0] at hb0 hxp hxq hxR hpp hpq
  have HB0 := Lib.hid hb0; have HW0 := Lib.hid hw0
  have BXp := Lib.hid hxp
  have BXq := Lib.hid hxq
  have BXR := Lib.hid hxR
  have Fp := Lib.hid hpp
  have Fq := Lib.hid hpq
  clear hb0 hw0 hxp hxq hxR hpp hp hpq hq
  have l1 := rl_n p; have l2 := rl_d p; have l3 := rl_n q; have l4 := rl_d q
  have L1 : (wd (nn p * q.den)).length ≤ 200000 := by have := wd_mul_len (nn p) q.den; omega
  have L2 : (wd (p.den * nn q)).length ≤ 200000 := by have := wd_mul_len p.den (nn q); omega
  have hn0 : nn q ≠ 0 := fun e => h0 (nn_eq_zero.1 e)
  have heq := q_div' p q h0
  have hz : (((wd (nn q)).length : Int) == 0) = false := by rw [beq_eq_false_iff_ne]; intro h; exact wd_ne hn0 (List.eq_nil_of_length_eq_zero (by omega))
  obtain ⟨L, hL⟩ : ∃ L, L = (wd (nn q)).length := ⟨_, rfl⟩
  rw [← hL] at hz
  have HL := Lib.hid hL; have HEQ := Lib.hid heq; have HN0 := Lib.hid hn0; clear hL heq hn0 h0
  go_enter Try.func23, Try.ntmps23
  have hs := parts_any _ p w0 Fp.out
  have HS := Lib.hid hs; clear hs
  go_wp2_with fail
  rw [← HW0.out]
  (with_reducible refine HS.out.mono ?_); rintro e w1 ⟨v1, u1, rfl, hb1, hn1, hm1⟩
  clear HS
  have HB1 := Lib.hid (HB0.out.step hb1)
  have Fp := Lib.hid (Fp.out.below hb1)
  have Fq := Lib.hid (Fq.out.below hb1)
  have BXp := Lib.hid (heap_below BXp.out hb1)
  have BXq := Lib.hid (heap_below BXq.out hb1)
  have BXR := Lib.hid (heap_below BXR.out hb1)
  have N := Lib.hid hn1
  have D := Lib.hid hm1
  clear hn1 hm1
  clear hb1
  have hs := parts_any _ q w1 Fq.out
  have HS := Lib.hid hs; clear hs
  obtain ⟨eq0, eq1, eq2⟩ := row3 BXq.out
  go_wp2_with fail
  clear eq0 eq1 eq2
  (with_reducible refine HS.out.mono ?_); rintro e w2 ⟨v2, u2, rfl, hb2, hn2, hm2⟩
  clear HS
  obtain ⟨mo, mc, rfl, _, _, _⟩ := hn2.shape
  rw [← HL.out] at hn2 ⊢
  have HB2 := Lib.hid (HB1.out.step hb2)
  have Fp := Lib.hid (Fp.out.below hb2)
  have Fq := Lib.hid (Fq.out.below hb2)
  have N := Lib.hid (N.out.below hb2)
  have D := Lib.hid (D.out.below hb2)
  have BXp := Lib.hid (heap_below BXp.out hb2)
  have BXq := Lib.hid (heap_below BXq.out hb2)
  have BXR := Lib.hid (heap_below BXR.out hb2)
  have M := Lib.hid hn2
  have E := Lib.hid hm2
  clear hn2 hm2
  clear hb2
  have hs := mulN N.out E.out (by omega) (by omega)
  have HS := Lib.hid hs; clear hs
  go_wp2_with fail
  (with_reducible refine HS.out.mono ?_); rintro e w3 ⟨v3, rfl, hb3, hn3⟩
  clear HS
  have HB3 := Lib.hid (HB2.out.step hb3)
  have Fp := Lib.hid (Fp.out.below hb3)
  have Fq := Lib.hid (Fq.out.below hb3)
  have N := Lib.hid (N.out.below hb3)
  have D := Lib.hid (D.out.below hb3)
  have M := Lib.hid (M.out.below hb3)
  have E := Lib.hid (E.out.below hb3)
  have BXp := Lib.hid (heap_below BXp.out hb3)
  have BXq := Lib.hid (heap_below BXq.out hb3)
  have BXR := Lib.hid (heap_below BXR.out hb3)
  have X := Lib.hid hn3; clear hn3
  clear hb3
  have hs := mulN D.out M.out (by omega) (by omega)
  have HS := Lib.hid hs; clear hs
  go_wp2_with fail
  (with_reducible refine HS.out.mono ?_); rintro e w4 ⟨v4, rfl, hb4, hn4⟩
  clear HS
  have HB4 := Lib.hid (HB3.out.step hb4)
  have Fp := Lib.hid (Fp.out.below hb4)
  have Fq := Lib.hid (Fq.out.below hb4)
  have N := Lib.hid (N.out.below hb4)
  have D := Lib.hid (D.out.below hb4)
  have M := Lib.hid (M.out.below hb4)
  have E := Lib.hid (E.out.below hb4)
  have X := Lib.hid (X.out.below hb4)
  have BXp := Lib.hid (heap_below BXp.out hb4)
  have BXq := Lib.hid (heap_below BXq.out hb4)
  have BXR := Lib.hid (heap_below BXR.out hb4)
  have Y := Lib.hid hn4; clear hn4
  clear hb4
  have hs := formN (!(ng p == ng q)) X.out Y.out (by omega) (by omega) (den_mul_nz p.den_nz HN0.out)
  rw [HEQ.out] at hs
  have HS := Lib.hid hs; clear hs
  go_wp2_with fail
  (with_reducible refine HS.out.mono ?_); rintro e w5 ⟨v5, rfl, hb5, hn5⟩
  clear HS
  have HB5 := Lib.hid (HB4.out.step hb5)
  have Fp := Lib.hid (Fp.out.below hb5)
  have Fq := Lib.hid (Fq.out.below hb5)
  have N := Lib.hid (N.out.below hb5)
  have D := Lib.hid (D.out.below hb5)
  have M := Lib.hid (M.out.below hb5)
  have E := Lib.hid (E.out.below hb5)
  have X := Lib.hid (X.out.below hb5)
  have Y := Lib.hid (Y.out.below hb5)
  have BXp := Lib.hid (heap_below BXp.out hb5)
  have BXq := Lib.hid (heap_below BXq.out hb5)
  have BXR := Lib.hid (heap_below BXR.out hb5)
  have Q := Lib.hid hn5; clear hn5
  clear hb5
  obtain ⟨sQ, oQ, nQ, cQ, aQ, mQ, dQ, rfl⟩ := Q.out.shape
  obtain ⟨eR0, eR1, eR2⟩ := row3 BXR.out
  obtain ⟨fR0, fR1, fR2⟩ := froz3 BXR.out
  go_wp2_with fail
  clear eR0 eR1 eR2 fR0 fR1 fR2
  refine ret_rat2 rfl (w.heap.size + 2) _ _ _ rfl (put3_heap BXR.out) rfl ?_
  exact ⟨_, rfl, put3_below HB5.out (by omega) _ _ _, isR_put Q.out BXR.out⟩
set_option maxRecDepth 100000 in
set_option maxHeartbeats 3200000 in
theorem div_none (vp : Value) (p : Rat) (vq : Value) (q : Rat) (w : World) (hp : RatIs w vp p) (hq : RatIs w vq q) (h0 : q = 0) :
    Calls Try.prog 23 #[vp, vq] w (RetRE w 0 (errV 8)) := by
  obtain ⟨sp, op, np, cp, ap, mp, dp, rfl⟩ := hp.shape
  have hlp := hp.rl
  obtain ⟨sq, oq, nq, cq, aq, mq, dq, rfl⟩ := hq.shape
  have hlq := hq.rl
  rw [errV_pos (by decide)]
  have hb0 := ((((Below.refl w.heap.size w).alloc (by first | (simp; done) | (simp; omega)) (.cells #[.bool sp, .slice op np cp, .slice ap mp dp] 32)).alloc (by first | (simp; done) | (simp; omega)) (.cells #[.bool sq, .slice oq nq cq, .slice aq mq dq] 32)).alloc (by first | (simp; done) | (simp; omega)) (.cells #[.bool false, .slice none 0 0, .slice none 0 0] 32))
  have hxp := nest3_0 w (.cells #[.bool sp, .slice op np cp, .slice ap mp dp] 32) (.cells #[.bool sq, .slice oq nq cq, .slice aq mq dq] 32) (.cells #[.bool false, .slice none 0 0, .slice none 0 0] 32)
  have hxq := nest3_1 w (.cells #[.bool sp, .slice op np cp, .slice ap mp dp] 32) (.cells #[.bool sq, .slice oq nq cq, .slice aq mq dq] 32) (.cells #[.bool false, .slice none 0 0, .slice none 0 0] 32)
  have hxR := nest3_2 w (.cells #[.bool sp, .slice op np cp, .slice ap mp dp] 32) (.cells #[.bool sq, .slice oq nq cq, .slice aq mq dq] 32) (.cells #[.bool false, .slice none 0 0, .slice none 0 0] 32)
  have hpp := hp.below hb0
  have hpq := hq.below hb0
  obtain ⟨w0, hw0⟩ : ∃ w0, w0 = (((w.alloc (.cells #[.bool sp, .slice op np cp, .slice ap mp dp] 32)).alloc (.cells #[.bool sq, .slice oq nq cq, .slice aq mq dq] 32)).alloc (.cells #[.bool false, .slice none 0 0, .slice none 0 0] 32)) := ⟨_, rfl⟩
  rw [← hw0] at hb0 hxp hxq hxR hpp hpq
  have HB0 := Lib.hid hb0; have HW0 := Lib.hid hw0
  have BXp := Lib.hid hxp
  have BXq := Lib.hid hxq
  have BXR := Lib.hid hxR
  have Fp := Lib.hid hpp
  have Fq := Lib.hid hpq
  clear hb0 hw0 hxp hxq hxR hpp hp hpq hq
  have H0 := Lib.hid h0; clear h0
  go_enter Try.func23, Try.ntmps23
  have hs := parts_any _ p w0 Fp.out
  have HS := Lib.hid hs; clear hs
  go_wp2_with fail
  rw [← HW0.out]
  (with_reducible refine HS.out.mono ?_); rintro e w1 ⟨v1, u1, rfl, hb1, hn1, hm1⟩
  clear HS
  have HB1 := Lib.hid (HB0.out.step hb1)
  have Fp := Lib.hid (Fp.out.below hb1)
  have Fq := Lib.hid (Fq.out.below hb1)
  have BXp := Lib.hid (heap_below BXp.out hb1)
  have BXq := Lib.hid (heap_below BXq.out hb1)
  have BXR := Lib.hid (heap_below BXR.out hb1)
  have N := Lib.hid hn1
  have D := Lib.hid hm1
  clear hn1 hm1
  clear hb1
  have hs := parts_any _ q w1 Fq.out
  have HS := Lib.hid hs; clear hs
  obtain ⟨eq0, eq1, eq2⟩ := row3 BXq.out
  go_wp2_with fail
  clear eq0 eq1 eq2
  (with_reducible refine HS.out.mono ?_); rintro e w2 ⟨v2, u2, rfl, hb2, hn2, hm2⟩
  clear HS
  rw [H0.out, nn_zero, wd_zero] at hn2
  obtain ⟨mo, mc, rfl, _, _, _⟩ := hn2.shape
  rw [List.length_nil] at hn2 ⊢
  have HB2 := Lib.hid (HB1.out.step hb2)
  have Fp := Lib.hid (Fp.out.below hb2)
  have Fq := Lib.hid (Fq.out.below hb2)
  have N := Lib.hid (N.out.below hb2)
  have D := Lib.hid (D.out.below hb2)
  have BXp := Lib.hid (heap_below BXp.out hb2)
  have BXq := Lib.hid (heap_below BXq.out hb2)
  have BXR := Lib.hid (heap_below BXR.out hb2)
  have M := Lib.hid hn2
  have E := Lib.hid hm2
  clear hn2 hm2
  clear hb2
  obtain ⟨eR0, eR1, eR2⟩ := row3 BXR.out
  obtain ⟨fR0, fR1, fR2⟩ := froz3 BXR.out
  go_wp2_with fail
  clear eR0 eR1 eR2 fR0 fR1 fR2
  refine ret_rat2 rfl (w.heap.size + 2) _ _ _ rfl (put3_heap BXR.out) rfl ?_
  exact ⟨_, rfl, put3_below HB2.out (by omega) _ _ _, isR_zero _⟩
theorem divq_any (vp : Value) (p : Rat) (vq : Value) (q : Rat) (w : World) (hp : RatIs w vp p) (hq : RatIs w vq q) :
    Calls Try.prog 23 #[vp, vq] w (RetRE w (p / q) (errV (dc q))) := by
  unfold dc
  by_cases h : q = 0
  · rw [if_pos h, h, div_zero_rat]; rw [h] at hq; exact div_none vp p vq 0 w hp hq rfl
  · rw [if_neg h]; exact div_ok vp p vq q w hp hq h
theorem rl_small {n : Int} (h0 : -9223372036854775808 ≤ n) (h1 : n < 9223372036854775808) : rl (n : Rat) ≤ 2 := by
  rw [rl_int]; have := wd_small (n := n.natAbs) (by omega); omega
end Go.Proofs.Ytaefimegiobkmaa
/-
  The value of a number's text: plain numbers, fractions, decimal fractions.
  Conditions: none beyond each theorem's own.
-/
namespace Go.Proofs.Ytaefimegiobkmaa

/-- a digit's value, the number of some digits -/
def dgQ (b : Nat) : Rat := ((((b : Int) - 48 : Int)) : Rat)
def numQ (l : List Nat) : Rat := l.foldl (fun v b => v * ((10 : Int) : Rat) + dgQ b) 0
theorem numQ_nil : numQ [] = 0 := rfl
theorem numQ_snoc (l : List Nat) (b : Nat) : numQ (l ++ [b]) = numQ l * ((10 : Int) : Rat) + dgQ b := by simp [numQ, List.foldl_append]
def tenQ (k : Nat) : Rat := ((10 : Int) : Rat) ^ k
theorem tenQ_zero : tenQ 0 = ((1 : Int) : Rat) := Rat.pow_zero _
theorem tenQ_succ (k : Nat) : tenQ (k + 1) = tenQ k * ((10 : Int) : Rat) := Rat.pow_succ _ _
theorem tenQ_ne (k : Nat) : tenQ k ≠ 0 := pow_rat_ne _ (by decide) k
theorem numQ_app (a b : List Nat) : numQ (a ++ b) = numQ a * tenQ b.length + numQ b := by
  obtain ⟨n, hn⟩ : ∃ n, n = b.length := ⟨_, rfl⟩
  induction n generalizing b with
  | zero =>
    have hb : b = [] := List.length_eq_zero_iff.1 hn.symm
    subst hb
    rw [List.append_nil, List.length_nil, tenQ_zero, numQ_nil]
    rw [show ((1 : Int) : Rat) = 1 from rfl]; grind
  | succ n ih =>
    obtain ⟨c, x, rfl⟩ : ∃ c x, b = c ++ [x] := by
      have h0 : b ≠ [] := by rintro rfl; simp at hn
      exact ⟨b.dropLast, b.getLast h0, (List.dropLast_concat_getLast h0).symm⟩
    have hc : n = c.length := by simp at hn; omega
    rw [← List.append_assoc, numQ_snoc, numQ_snoc, ih c hc, List.length_append, List.length_singleton, tenQ_succ]
    grind
theorem rl_dg {b : Nat} (h : b < 256) : rl (dgQ b) ≤ 2 := rl_small (by omega) (by omega)
theorem rl_ten : rl ((10 : Int) : Rat) ≤ 2 := rl_small (by decide) (by decide)
theorem rl_numQ (l : List Nat) (h : ∀ b ∈ l, b < 256) : rl (numQ l) ≤ 1 + 5 * l.length := by
  obtain ⟨n, hn⟩ : ∃ n, n = l.length := ⟨_, rfl⟩
  induction n generalizing l with
  | zero =>
    have hb : l = [] := List.length_eq_zero_iff.1 hn.symm
    subst hb; rw [numQ_nil, rl_zero]; omega
  | succ n ih =>
    obtain ⟨c, x, rfl⟩ : ∃ c x, l = c ++ [x] := by
      have h0 : l ≠ [] := by rintro rfl; simp at hn
      exact ⟨l.dropLast, l.getLast h0, (List.dropLast_concat_getLast h0).symm⟩
    have hc : n = c.length := by simp at hn; omega
    have i := ih c (fun b hb => h b (List.mem_append_left _ hb)) hc
    have h1 := rl_add (numQ c * ((10 : Int) : Rat)) (dgQ x)
    have h2 := rl_mul (numQ c) ((10 : Int) : Rat)
    have h3 := rl_ten
    have h4 := rl_dg (h x (by simp))
    rw [numQ_snoc]
    simp only [List.length_append, List.length_singleton]
    omega
theorem rl_tenQ (k : Nat) : rl (tenQ k) ≤ 1 + 2 * k := by
  induction k with
  | zero => rw [tenQ_zero]; rw [show ((1 : Int) : Rat) = 1 from rfl, rl_one]; omega
  | succ k ih =>
    rw [tenQ_succ]
    have h2 := rl_mul (tenQ k) ((10 : Int) : Rat)
    have h3 := rl_ten
    omega

/-- the end of the first digits, the text behind the next byte -/
def nE (l : List Nat) : Nat := run isDigit l 0
def nA (l : List Nat) : List Nat := l.take (nE l)
def nB (l : List Nat) : List Nat := l.drop (nE l + 1)
/-- the text is a number -/
def isNum (l : List Nat) : Prop := l ≠ [] ∧ isDigit (gd l 0) = true ∧ numEnd l 0 = l.length
instance (l : List Nat) : Decidable (isNum l) := by unfold isNum; exact inferInstance
/-- the number of the error, the value -/
def tvC (l : List Nat) : Nat :=
  if 100 < l.length then 4 else if ¬ isNum l then 2 else if nE l < l.length ∧ gd l (nE l) = 47 then dc (numQ (nB l)) else 0
def tvQ (l : List Nat) : Rat :=
  if 100 < l.length then 0 else if ¬ isNum l then 0 else if nE l < l.length ∧ gd l (nE l) = 47 then numQ (nA l) / numQ (nB l) else numQ (nA l) + numQ (nB l) / tenQ (nB l).length
theorem tvC_long {l : List Nat} (h : 100 < l.length) : tvC l = 4 ∧ tvQ l = 0 := by unfold tvC tvQ; rw [if_pos h, if_pos h]; exact ⟨rfl, rfl⟩
theorem tvC_bad {l : List Nat} (h : ¬ 100 < l.length) (h2 : ¬ isNum l) : tvC l = 2 ∧ tvQ l = 0 := by unfold tvC tvQ; rw [if_neg h, if_neg h, if_pos h2, if_pos h2]; exact ⟨rfl, rfl⟩
theorem tvC_slash {l : List Nat} (h : ¬ 100 < l.length) (h2 : isNum l) (h3 : nE l < l.length) (h4 : gd l (nE l) = 47) : tvC l = dc (numQ (nB l)) ∧ tvQ l = numQ (nA l) / numQ (nB l) := by
  unfold tvC tvQ
  have hn : ¬ ¬ isNum l := fun k => k h2
  rw [if_neg h, if_neg hn, if_pos ⟨h3, h4⟩, if_neg h, if_neg hn, if_pos ⟨h3, h4⟩]; exact ⟨rfl, rfl⟩
theorem tvC_plain {l : List Nat} (h : ¬ 100 < l.length) (h2 : isNum l) (h3 : ¬ (nE l < l.length ∧ gd l (nE l) = 47)) : tvC l = 0 ∧ tvQ l = numQ (nA l) + numQ (nB l) / tenQ (nB l).length := by
  unfold tvC tvQ
  have hn : ¬ ¬ isNum l := fun k => k h2
  rw [if_neg h, if_neg hn, if_neg h3, if_neg h, if_neg hn, if_neg h3]; exact ⟨rfl, rfl⟩
theorem nE_le (l : List Nat) : nE l ≤ l.length := run_le (Nat.zero_le _)
theorem run_all' {p : Nat → Bool} {l : List Nat} {k j : Nat} (h1 : k ≤ j) (h2 : j < run p l k) : p (gd l j) = true := run_all _ k (Nat.le_refl _) j h1 h2
theorem nE_digit {l : List Nat} {j : Nat} (h : j < nE l) : isDigit (gd l j) = true := run_all' (Nat.zero_le _) h
/-- behind the first digits: nothing, or a point or a stroke and digits alone -/
theorem num_forms {l : List Nat} (h : isNum l) : nE l = l.length ∨ (nE l + 1 < l.length ∧ (gd l (nE l) = 46 ∨ gd l (nE l) = 47) ∧ ∀ j, nE l < j → j < l.length → isDigit (gd l j) = true) := by
  obtain ⟨h0, h1, h2⟩ := h
  unfold numEnd at h2
  split at h2
  · rename_i hc
    refine .inr ⟨hc.1, hc.2.1, fun j a b => ?_⟩
    exact run_all' (k := run isDigit l 0 + 1) a (by rw [h2]; exact b)
  · exact .inl h2
theorem num_digit {l : List Nat} (h : isNum l) {j : Nat} (hj : j < l.length) (hne : j ≠ nE l) : isDigit (gd l j) = true := by
  rcases num_forms h with e | ⟨_, _, k⟩
  · exact nE_digit (by omega)
  · rcases Nat.lt_or_gt_of_ne hne with a | a
    · exact nE_digit a
    · exact k j a hj
/-- the decimal form: all digits over a power of ten -/
theorem dec_value (a b : List Nat) : numQ (a ++ b) / tenQ b.length = numQ a + numQ b / tenQ b.length := by
  rw [numQ_app]
  have h := tenQ_ne b.length
  obtain ⟨t, ht⟩ : ∃ t, t = tenQ b.length := ⟨_, rfl⟩
  rw [← ht] at h ⊢
  rw [Rat.div_def, Rat.add_mul, Rat.mul_assoc, Rat.mul_inv_cancel _ h, Rat.mul_one, Rat.div_def]
/-- divided by ten k times -/
def tenDn (q : Rat) (k : Nat) : Rat := q / tenQ k
theorem tenDn_zero (q : Rat) : tenDn q 0 = q := by unfold tenDn; rw [tenQ_zero, show ((1 : Int) : Rat) = 1 from rfl]; grind
theorem tenDn_succ (q : Rat) (k : Nat) : tenDn q (k + 1) = tenDn q k / ((10 : Int) : Rat) := by
  unfold tenDn
  rw [tenQ_succ]
  have h := tenQ_ne k
  grind
theorem rl_tenDn (q : Rat) (k : Nat) : rl (tenDn q k) ≤ rl q + 1 + 2 * k := by
  have h1 := rl_div q (tenQ k) (tenQ_ne k)
  have h2 := rl_tenQ k
  unfold tenDn; omega
/-- a text is a name -/
def isName (l : List Nat) : Bool := decide (0 < l.length ∧ l.length ≤ 24) && isLetter (gd l 0) && decide (run isIn l 0 = l.length)
end Go.Proofs.Ytaefimegiobkmaa
/-
  DERIVED: THE SHELF's CONTRACTS AT THIS DUMP, IN PLAIN WORDS (tools/lay-plain.mjs out of 'TryShelfPick.lean', which tools/lay-shelf.mjs wrote): THE SAME DECLARATIONS UNDER THE SAME NAMES: 'import', 'namespace', 'open', 'def', 'theorem' AND NOTHING ELSE: no command of the shelf's: FOR A HAND-IN. Each laying: the table of numbers ('.._ren') and one theorem, a field a fact of the dump's own or the kernel's comparison; each contract: ONE APPLICATION.
-/
namespace Go.Proofs
open Go.Shelf
def Try.lays137_ren : Go.Shelf.Ren := ⟨fun | 137 => 39 | 217 => 60 | 266 => 78 | n => n, fun | 9 => 9 | 5 => 5 | 3 => 3 | n => n, fun | n => n⟩
theorem Try.lays137 : Go.Proofs.Lays.n137 Try.prog Try.lays137_ren := {
  mixed := by kernel_rfl
  f137 := Try.func39.trans (congrArg some (by kernel_rfl))
  f217 := Try.func60.trans (congrArg some (by kernel_rfl))
  f266 := Try.func78.trans (congrArg some (by kernel_rfl))
  t3 := Try.underlying3
  a3 := Try.isAgg3
  z3 := Try.sizeOf3
  v3 := Try.zeroValue3
  t5 := Try.underlying5
  a5 := Try.isAgg5
  z5 := Try.sizeOf5
  v5 := Try.zeroValue5
  t9 := Try.underlying9
  a9 := Try.isAgg9
  z9 := Try.sizeOf9
  v9 := Try.zeroValue9 }
open Go.RowKit in
/-- strings.IndexByte: "IndexByte returns the index of the first instance of c in s, or -1 if c is not present in s.": IT RETURNS 'Lib.indexByte s c'; the world is as it was. (LAID: no walk: one application.) -/
theorem Try.strings_IndexByte (s : ByteArray) (c : Int) (w : World) :
    Calls Try.prog 39 #[.string s, .int .u8 c] w fun e w' => e = .returned (.int .i64 (Lib.indexByte s.data.toList c.toNat.toUInt8)) ∧ w' = w := Any.strings_IndexByte Try.lays137 s c w
end Go.Proofs
/-
  The small functions of package token and of its reference: kinds of bytes, ends of words and numbers.
  Conditions: each theorem's own (a byte is below 256, a place lies in the text).
-/
namespace Go.Proofs.Ytaefimegiobkmaa
open Go.RowKit Go.ChangeShapes Go.WideShapes

theorem run_index_gb {P : Program} (s : ByteArray) (t : TypeId) (ht : P.underlying t = some .string) (k : Nat) (h : k < s.size) (w : World) :
    (Instr.index t (.string s) (.int .i64 k)).run P w = .ok (.int .u8 (gd (bs s) k : Nat)) w := by
  rw [run_index_string w t s _ _ ht, dif_pos (by omega)]
  congr 2
  simp only [Int.toNat_natCast]
  rw [bs_getElem s k h]

theorem blank_index : ∀ b : Nat, b < 256 → decide (0 ≤ Lib.indexByte [32, 9, 10, 13] (UInt8.ofNat b)) = isBlank b := by decide +kernel
theorem sign_index : ∀ b : Nat, b < 256 → decide (0 ≤ Lib.indexByte [123, 125, 59, 58, 64] (UInt8.ofNat b)) = isSign b := by decide +kernel

set_option maxRecDepth 100000 in
theorem letter_any (b : Nat) (w : World) (hb : b < 256) : Calls Try.prog 17 #[.int .u8 b] w (RetS w (.bool (isLetter b))) := by
  obtain ⟨r, hr⟩ : ∃ r, r = isLetter b := ⟨_, rfl⟩
  rw [← hr]
  have HR := Lib.hid hr; clear hr
  go_enter Try.func17, Try.ntmps17
  go_wp2
  all_goals go_ret
  all_goals (refine ⟨ret_bool ?_, rfl⟩; rw [HR.out, Bool.eq_iff_iff]; simp [isLetter]; try omega)

set_option maxRecDepth 100000 in
theorem digit_any (b : Nat) (w : World) (hb : b < 256) : Calls Try.prog 19 #[.int .u8 b] w (RetS w (.bool (isDigit b))) := by
  obtain ⟨r, hr⟩ : ∃ r, r = isDigit b := ⟨_, rfl⟩
  rw [← hr]
  have HR := Lib.hid hr; clear hr
  go_enter Try.func19, Try.ntmps19
  go_wp2
  all_goals go_ret
  all_goals (refine ⟨ret_bool ?_, rfl⟩; rw [HR.out, Bool.eq_iff_iff]; simp [isDigit]; try omega)

set_option maxRecDepth 100000 in
theorem rletter_any (b : Nat) (w : World) (hb : b < 256) : Calls Try.prog 36 #[.int .u8 b] w (RetS w (.bool (isLetter b))) := by
  obtain ⟨r, hr⟩ : ∃ r, r = isLetter b := ⟨_, rfl⟩
  rw [← hr]
  have HR := Lib.hid hr; clear hr
  go_enter Try.func36, Try.ntmps36
  go_wp2
  all_goals go_ret
  all_goals (refine ⟨ret_bool ?_, rfl⟩; rw [HR.out, Bool.eq_iff_iff]; simp [isLetter]; try omega)

set_option maxRecDepth 100000 in
theorem rdigit_any (b : Nat) (w : World) (hb : b < 256) : Calls Try.prog 27 #[.int .u8 b] w (RetS w (.bool (isDigit b))) := by
  obtain ⟨r, hr⟩ : ∃ r, r = isDigit b := ⟨_, rfl⟩
  rw [← hr]
  have HR := Lib.hid hr; clear hr
  go_enter Try.func27, Try.ntmps27
  go_wp2
  all_goals go_ret
  all_goals (refine ⟨ret_bool ?_, rfl⟩; rw [HR.out, Bool.eq_iff_iff]; simp [isDigit]; try omega)

set_option maxRecDepth 100000 in
theorem blank_any (b : Nat) (w : World) (hb : b < 256) : Calls Try.prog 16 #[.int .u8 b] w (RetS w (.bool (isBlank b))) := by
  have HR := Lib.hid (blank_index b hb)
  go_enter Try.func16, Try.ntmps16
  go_wp2_with (go_at_call 39; (with_reducible refine (Try.strings_IndexByte _ _ _).mono ?_); rintro e w' ⟨rfl, rfl⟩)
  all_goals go_ret
  all_goals (refine ⟨ret_bool ?_, rfl⟩; rw [← HR.out])

set_option maxRecDepth 100000 in
theorem tsign_any (b : Nat) (w : World) (hb : b < 256) : Calls Try.prog 21 #[.int .u8 b] w (RetS w (.bool (isSign b))) := by
  have HR := Lib.hid (sign_index b hb)
  go_enter Try.func21, Try.ntmps21
  go_wp2_with (go_at_call 39; (with_reducible refine (Try.strings_IndexByte _ _ _).mono ?_); rintro e w' ⟨rfl, rfl⟩)
  all_goals go_ret
  all_goals (refine ⟨ret_bool ?_, rfl⟩; rw [← HR.out])

set_option maxRecDepth 100000 in
set_option maxHeartbeats 400000 in
theorem digits_any (s : ByteArray) (k : Nat) (w : World) (hs : s.size ≤ 9223372036854775806) (hk : k ≤ s.size) :
    Calls Try.prog 40 #[.string s, .int .i64 k] w (RetS w (.int .i64 (run isDigit (bs s) k : Nat))) := by
  go_enter Try.func40, Try.ntmps40
  go_wp2_with fail
  go_loop [1] (fun i => ∃ j : Nat, j ≤ s.size ∧ i = .int .i64 j ∧ run isDigit (bs s) j = run isDigit (bs s) k) (fun i => s.size - (intOf i).toNat)
  case atStart => exact ⟨k, hk, rfl, rfl⟩
  case round =>
    obtain ⟨j, hj, rfl, hd⟩ := hrel
    have HD := Lib.hid hd; clear hd
    by_cases hlt : j < s.size
    · have hix := run_index_gb (P := Try.prog) s 9 Try.underlying9 j hlt
      go_wp2_with (go_at_call 19; (with_reducible refine (digit_any _ _ (bs_lt _ _)).mono ?_); rintro e w' ⟨rfl, rfl⟩)
      · have hp : isDigit (gd (bs s) j) = true := by assumption
        go_round
        case rel => exact ⟨j + 1, by omega, by go_num, by rw [run_yes (by rw [bs_length]; exact hlt) hp]; exact HD.out⟩
        case measure => simp [intOf]; omega
      · have hp : isDigit (gd (bs s) j) = false := by assumption
        go_ret
        exact ⟨ret_int (by rw [← HD.out, run_no hp]), rfl⟩
    · go_wp2_with fail
      go_ret
      exact ⟨ret_int (by rw [← HD.out, run_end (by rw [bs_length]; omega)]), rfl⟩

set_option maxRecDepth 100000 in
set_option maxHeartbeats 400000 in
theorem rdigits_any (s : ByteArray) (k : Nat) (w : World) (hs : s.size ≤ 9223372036854775806) (hk : k ≤ s.size) :
    Calls Try.prog 29 #[.string s, .int .i64 k] w (RetS w (.int .i64 (run isDigit (bs s) k : Nat))) := by
  go_enter Try.func29, Try.ntmps29
  go_wp2_with fail
  go_loop [1] (fun i => ∃ j : Nat, j ≤ s.size ∧ i = .int .i64 j ∧ run isDigit (bs s) j = run isDigit (bs s) k) (fun i => s.size - (intOf i).toNat)
  case atStart => exact ⟨k, hk, rfl, rfl⟩
  case round =>
    obtain ⟨j, hj, rfl, hd⟩ := hrel
    have HD := Lib.hid hd; clear hd
    by_cases hlt : j < s.size
    · have hix := run_index_gb (P := Try.prog) s 9 Try.underlying9 j hlt
      go_wp2_with (go_at_call 27; (with_reducible refine (rdigit_any _ _ (bs_lt _ _)).mono ?_); rintro e w' ⟨rfl, rfl⟩)
      · have hp : isDigit (gd (bs s) j) = true := by assumption
        go_round
        case rel => exact ⟨j + 1, by omega, by go_num, by rw [run_yes (by rw [bs_length]; exact hlt) hp]; exact HD.out⟩
        case measure => simp [intOf]; omega
      · have hp : isDigit (gd (bs s) j) = false := by assumption
        go_ret
        exact ⟨ret_int (by rw [← HD.out, run_no hp]), rfl⟩
    · go_wp2_with fail
      go_ret
      exact ⟨ret_int (by rw [← HD.out, run_end (by rw [bs_length]; omega)]), rfl⟩

theorem isIn_cases (b : Nat) : (isIn b = true ∧ (isLetter b = true ∨ (isLetter b = false ∧ isDigit b = true) ∨ (isLetter b = false ∧ isDigit b = false ∧ ((b : Int) == 95) = true) ∨
    (isLetter b = false ∧ isDigit b = false ∧ ((b : Int) == 95) = false ∧ ((b : Int) == 46) = true))) ∨ (isIn b = false ∧ isLetter b = false ∧ isDigit b = false ∧ ((b : Int) == 95) = false ∧ ((b : Int) == 46) = false) := by
  unfold isIn
  cases h1 : isLetter b
  · cases h2 : isDigit b
    · by_cases h3 : b = 95
      · subst h3; left; simp
      · by_cases h4 : b = 46
        · subst h4; left; simp
        · right; simp [h3, h4]; omega
    · left; simp
  · left; simp
set_option maxRecDepth 100000 in
set_option maxHeartbeats 400000 in
theorem inside_any (b : Nat) (w : World) (hb : b < 256) : Calls Try.prog 37 #[.int .u8 b] w (RetS w (.bool (isIn b))) := by
  obtain ⟨r, hr⟩ : ∃ r, r = isIn b := ⟨_, rfl⟩
  rw [← hr]
  have HR := Lib.hid hr; clear hr
  go_enter Try.func37, Try.ntmps37
  go_wp2_with (first | (go_at_call 36; (with_reducible refine (rletter_any _ _ hb).mono ?_); rintro e w' ⟨rfl, rfl⟩) | (go_at_call 27; (with_reducible refine (rdigit_any _ _ hb).mono ?_); rintro e w' ⟨rfl, rfl⟩))
  all_goals go_ret
  all_goals (refine ⟨ret_bool ?_, rfl⟩; rw [HR.out]; unfold isIn; simp [*]; first | done | omega | (rw [Bool.eq_iff_iff]; simp; omega))

set_option maxRecDepth 100000 in
set_option maxHeartbeats 800000 in
theorem wordEnd_any (s : ByteArray) (k : Nat) (w : World) (hs : s.size ≤ 9223372036854775806) (hk : k ≤ s.size) :
    Calls Try.prog 18 #[.string s, .int .i64 k] w (RetS w (.int .i64 (run isIn (bs s) k : Nat))) := by
  go_enter Try.func18, Try.ntmps18
  go_wp2_with fail
  go_loop [1] (fun i => ∃ j : Nat, j ≤ s.size ∧ i = .int .i64 j ∧ run isIn (bs s) j = run isIn (bs s) k) (fun i => s.size - (intOf i).toNat)
  case atStart => exact ⟨k, hk, rfl, rfl⟩
  case round =>
    obtain ⟨j, hj, rfl, hd⟩ := hrel
    have HD := Lib.hid hd; clear hd
    by_cases hlt : j < s.size
    · have hix := run_index_gb (P := Try.prog) s 9 Try.underlying9 j hlt
      rcases isIn_cases (gd (bs s) j) with ⟨hp, hc⟩ | ⟨hp, h1, h2, h3, h4⟩
      · have HP := Lib.hid hp; clear hp
        rcases hc with h1 | ⟨h1, h2⟩ | ⟨h1, h2, h3⟩ | ⟨h1, h2, h3, h4⟩
        all_goals
          go_wp2_with (first | (go_at_call 17; (with_reducible refine (letter_any _ _ (bs_lt _ _)).mono ?_); rintro e w' ⟨rfl, rfl⟩) | (go_at_call 19; (with_reducible refine (digit_any _ _ (bs_lt _ _)).mono ?_); rintro e w' ⟨rfl, rfl⟩))
          go_round
          case rel => exact ⟨j + 1, by omega, by go_num, by rw [run_yes (by rw [bs_length]; exact hlt) HP.out]; exact HD.out⟩
          case measure => simp [intOf]; omega
      · have HP := Lib.hid hp; clear hp
        go_wp2_with (first | (go_at_call 17; (with_reducible refine (letter_any _ _ (bs_lt _ _)).mono ?_); rintro e w' ⟨rfl, rfl⟩) | (go_at_call 19; (with_reducible refine (digit_any _ _ (bs_lt _ _)).mono ?_); rintro e w' ⟨rfl, rfl⟩))
        go_ret
        exact ⟨ret_int (by rw [← HD.out, run_no HP.out]), rfl⟩
    · go_wp2_with fail
      go_ret
      exact ⟨ret_int (by rw [← HD.out, run_end (by rw [bs_length]; omega)]), rfl⟩
end Go.Proofs.Ytaefimegiobkmaa
/-
  The reference: Neg, Abs, Mul, Add, Sub, Sign, Cmp: what they hand back.
  Conditions: each theorem's own.
-/
namespace Go.Proofs.Ytaefimegiobkmaa
open Go.RowKit Go.ChangeShapes Go.WideShapes

theorem rfromK {u v : Value} {m n : Nat} {w : World} (s : Bool) (h1 : Num w u (wd m)) (h2 : Num w v (wd n)) (l1 : (wd m).length ≤ 400000) (l2 : (wd n).length ≤ 400000) (h0 : n ≠ 0) :
    Calls Try.prog 50 #[.bool s, u, v] w (RetRE w (qm s m n) (.int .i64 0)) := by
  have h := rfromN s h1 h2 l1 l2
  unfold zc at h; rw [if_neg h0] at h; exact h
set_option maxRecDepth 100000 in
set_option maxHeartbeats 3200000 in
theorem rmulq_any (vp : Value) (p : Rat) (vq : Value) (q : Rat) (w : World) (hp : RatIs w vp p) (hq : RatIs w vq q)  :
    Calls Try.prog 48 #[vp, vq] w (RetR w (p * q)) := by
  obtain ⟨sp, op, np, cp, ap, mp, dp, rfl⟩ := hp.shape
  have hlp := hp.rl
  obtain ⟨sq, oq, nq, cq, aq, mq, dq, rfl⟩ := hq.shape
  have hlq := hq.rl
  have hb0 := ((((Below.refl w.heap.size w).alloc (by first | (simp; done) | (simp; omega)) (.cells #[.bool sp, .slice op np cp, .slice ap mp dp] 32)).alloc (by first | (simp; done) | (simp; omega)) (.cells #[.bool sq, .slice oq nq cq, .slice aq mq dq] 32)).alloc (by first | (simp; done) | (simp; omega)) (.cells #[.bool false, .slice none 0 0, .slice none 0 0] 32))
  have hxp := nest3_0 w (.cells #[.bool sp, .slice op np cp, .slice ap mp dp] 32) (.cells #[.bool sq, .slice oq nq cq, .slice aq mq dq] 32) (.cells #[.bool false, .slice none 0 0, .slice none 0 0] 32)
  have hxq := nest3_1 w (.cells #[.bool sp, .slice op np cp, .slice ap mp dp] 32) (.cells #[.bool sq, .slice oq nq cq, .slice aq mq dq] 32) (.cells #[.bool false, .slice none 0 0, .slice none 0 0] 32)
  have hxR := nest3_2 w (.cells #[.bool sp, .slice op np cp, .slice ap mp dp] 32) (.cells #[.bool sq, .slice oq nq cq, .slice aq mq dq] 32) (.cells #[.bool false, .slice none 0 0, .slice none 0 0] 32)
  have hpp := hp.below hb0
  have hpq := hq.below hb0
  obtain ⟨w0, hw0⟩ : ∃ w0, w0 = (((w.alloc (.cells #[.bool sp, .slice op np cp, .slice ap mp dp] 32)).alloc (.cells #[.bool sq, .slice oq nq cq, .slice aq mq dq] 32)).alloc (.cells #[.bool false, .slice none 0 0, .slice none 0 0] 32)) := ⟨_, rfl⟩
  rw [← hw0] at hb0 hxp hxq hxR hpp hpq
  have HB0 := Lib.hid hb0; have HW0 := Lib.hid hw0
  have BXp := Lib.hid hxp
  have BXq := Lib.hid hxq
  have BXR := Lib.hid hxR
  have Fp := Lib.hid hpp
  have Fq := Lib.hid hpq
  clear hb0 hw0 hxp hxq hxR hpp hp hpq hq
  have l1 := rl_n p; have l2 := rl_d p; have l3 := rl_n q; have l4 := rl_d q
  have L1 : (wd (nn p * nn q)).length ≤ 200000 := by have := wd_mul_len (nn p) (nn q); omega
  have L2 : (wd (p.den * q.den)).length ≤ 200000 := by have := wd_mul_len p.den q.den; omega
  go_enter Try.func48, Try.ntmps48
  have hs := rparts_any _ p w0 Fp.out
  have HS := Lib.hid hs; clear hs
  go_wp2_with fail
  rw [← HW0.out]
  (with_reducible refine HS.out.mono ?_); rintro e w1 ⟨v1, u1, rfl, hb1, hn1, hm1⟩
  clear HS
  have HB1 := Lib.hid (HB0.out.step hb1)
  have Fp := Lib.hid (Fp.out.below hb1)
  have Fq := Lib.hid (Fq.out.below hb1)
  have BXp := Lib.hid (heap_below BXp.out hb1)
  have BXq := Lib.hid (heap_below BXq.out hb1)
  have BXR := Lib.hid (heap_below BXR.out hb1)
  have N := Lib.hid hn1
  have D := Lib.hid hm1
  clear hn1 hm1
  clear hb1
  have hs := rparts_any _ q w1 Fq.out
  have HS := Lib.hid hs; clear hs
  obtain ⟨eq0, eq1, eq2⟩ := row3 BXq.out
  go_wp2_with fail
  (with_reducible refine HS.out.mono ?_); rintro e w2 ⟨v2, u2, rfl, hb2, hn2, hm2⟩
  clear HS
  have HB2 := Lib.hid (HB1.out.step hb2)
  have Fp := Lib.hid (Fp.out.below hb2)
  have Fq := Lib.hid (Fq.out.below hb2)
  have N := Lib.hid (N.out.below hb2)
  have D := Lib.hid (D.out.below hb2)
  have BXp := Lib.hid (heap_below BXp.out hb2)
  have BXq := Lib.hid (heap_below BXq.out hb2)
  have BXR := Lib.hid (heap_below BXR.out hb2)
  have M := Lib.hid hn2
  have E := Lib.hid hm2
  clear hn2 hm2
  clear hb2
  have hs := rmulN N.out M.out (by omega) (by omega)
  have HS := Lib.hid hs; clear hs
  go_wp2_with fail
  (with_reducible refine HS.out.mono ?_); rintro e w3 ⟨v3, rfl, hb3, hn3⟩
  clear HS
  have HB3 := Lib.hid (HB2.out.step hb3)
  have Fp := Lib.hid (Fp.out.below hb3)
  have Fq := Lib.hid (Fq.out.below hb3)
  have N := Lib.hid (N.out.below hb3)
  have D := Lib.hid (D.out.below hb3)
  have M := Lib.hid (M.out.below hb3)
  have E := Lib.hid (E.out.below hb3)
  have BXp := Lib.hid (heap_below BXp.out hb3)
  have BXq := Lib.hid (heap_below BXq.out hb3)
  have BXR := Lib.hid (heap_below BXR.out hb3)
  have NM := Lib.hid hn3; clear hn3
  clear hb3
  have hs := rmulN D.out E.out (by omega) (by omega)
  have HS := Lib.hid hs; clear hs
  go_wp2_with fail
  (with_reducible refine HS.out.mono ?_); rintro e w4 ⟨v4, rfl, hb4, hn4⟩
  clear HS
  have HB4 := Lib.hid (HB3.out.step hb4)
  have Fp := Lib.hid (Fp.out.below hb4)
  have Fq := Lib.hid (Fq.out.below hb4)
  have N := Lib.hid (N.out.below hb4)
  have D := Lib.hid (D.out.below hb4)
  have M := Lib.hid (M.out.below hb4)
  have E := Lib.hid (E.out.below hb4)
  have NM := Lib.hid (NM.out.below hb4)
  have BXp := Lib.hid (heap_below BXp.out hb4)
  have BXq := Lib.hid (heap_below BXq.out hb4)
  have BXR := Lib.hid (heap_below BXR.out hb4)
  have DE := Lib.hid hn4; clear hn4
  clear hb4
  have hs := rfromK (!(ng p == ng q)) NM.out DE.out (by omega) (by omega) (den_mul_nz p.den_nz q.den_nz)
  rw [q_mul'] at hs
  have HS := Lib.hid hs; clear hs
  go_wp2_with fail
  (with_reducible refine HS.out.mono ?_); rintro e w5 ⟨v5, rfl, hb5, hn5⟩
  clear HS
  have HB5 := Lib.hid (HB4.out.step hb5)
  have Fp := Lib.hid (Fp.out.below hb5)
  have Fq := Lib.hid (Fq.out.below hb5)
  have N := Lib.hid (N.out.below hb5)
  have D := Lib.hid (D.out.below hb5)
  have M := Lib.hid (M.out.below hb5)
  have E := Lib.hid (E.out.below hb5)
  have NM := Lib.hid (NM.out.below hb5)
  have DE := Lib.hid (DE.out.below hb5)
  have BXp := Lib.hid (heap_below BXp.out hb5)
  have BXq := Lib.hid (heap_below BXq.out hb5)
  have BXR := Lib.hid (heap_below BXR.out hb5)
  have Q := Lib.hid hn5; clear hn5
  clear hb5
  obtain ⟨sQ, oQ, nQ, cQ, aQ, mQ, dQ, rfl⟩ := Q.out.shape
  have hal : Below w5.heap.size w5 (w5.alloc (.cells #[.bool sQ, .slice oQ nQ cQ, .slice aQ mQ dQ] 32)) := (Below.refl _ _).alloc (Nat.le_refl _) _
  have HXA := Lib.hid (heap_below BXR.out hal); have HAL := Lib.hid hal; clear hal
  obtain ⟨eR0, eR1, eR2⟩ := row3 HXA.out
  obtain ⟨fR0, fR1, fR2⟩ := froz3 HXA.out
  go_wp2_with fail
  refine ret_rat rfl (w.heap.size + 2) _ _ _ rfl (put3_heap HXA.out) rfl ?_
  exact ⟨_, rfl, put3_below (HB5.out.step HAL.out) (by omega) _ _ _, isR_put (Q.out.below HAL.out) HXA.out⟩
set_option maxRecDepth 100000 in
set_option maxHeartbeats 3200000 in
theorem rdivq_any (vp : Value) (p : Rat) (vq : Value) (q : Rat) (w : World) (hp : RatIs w vp p) (hq : RatIs w vq q)  :
    Calls Try.prog 31 #[vp, vq] w (RetRE w (p / q) (.int .i64 (dc q : Nat))) := by
  obtain ⟨sp, op, np, cp, ap, mp, dp, rfl⟩ := hp.shape
  have hlp := hp.rl
  obtain ⟨sq, oq, nq, cq, aq, mq, dq, rfl⟩ := hq.shape
  have hlq := hq.rl
  have hb0 := ((((Below.refl w.heap.size w).alloc (by first | (simp; done) | (simp; omega)) (.cells #[.bool sp, .slice op np cp, .slice ap mp dp] 32)).alloc (by first | (simp; done) | (simp; omega)) (.cells #[.bool sq, .slice oq nq cq, .slice aq mq dq] 32)).alloc (by first | (simp; done) | (simp; omega)) (.cells #[.bool false, .slice none 0 0, .slice none 0 0] 32))
  have hxp := nest3_0 w (.cells #[.bool sp, .slice op np cp, .slice ap mp dp] 32) (.cells #[.bool sq, .slice oq nq cq, .slice aq mq dq] 32) (.cells #[.bool false, .slice none 0 0, .slice none 0 0] 32)
  have hxq := nest3_1 w (.cells #[.bool sp, .slice op np cp, .slice ap mp dp] 32) (.cells #[.bool sq, .slice oq nq cq, .slice aq mq dq] 32) (.cells #[.bool false, .slice none 0 0, .slice none 0 0] 32)
  have hxR := nest3_2 w (.cells #[.bool sp, .slice op np cp, .slice ap mp dp] 32) (.cells #[.bool sq, .slice oq nq cq, .slice aq mq dq] 32) (.cells #[.bool false, .slice none 0 0, .slice none 0 0] 32)
  have hpp := hp.below hb0
  have hpq := hq.below hb0
  obtain ⟨w0, hw0⟩ : ∃ w0, w0 = (((w.alloc (.cells #[.bool sp, .slice op np cp, .slice ap mp dp] 32)).alloc (.cells #[.bool sq, .slice oq nq cq, .slice aq mq dq] 32)).alloc (.cells #[.bool false, .slice none 0 0, .slice none 0 0] 32)) := ⟨_, rfl⟩
  rw [← hw0] at hb0 hxp hxq hxR hpp hpq
  have HB0 := Lib.hid hb0; have HW0 := Lib.hid hw0
  have BXp := Lib.hid hxp
  have BXq := Lib.hid hxq
  have BXR := Lib.hid hxR
  have Fp := Lib.hid hpp
  have Fq := Lib.hid hpq
  clear hb0 hw0 hxp hxq hxR hpp hp hpq hq
  have l1 := rl_n p; have l2 := rl_d p; have l3 := rl_n q; have l4 := rl_d q
  have L1 : (wd (nn p * q.den)).length ≤ 200000 := by have := wd_mul_len (nn p) q.den; omega
  have L2 : (wd (p.den * nn q)).length ≤ 200000 := by have := wd_mul_len p.den (nn q); omega
  have heq : qm (!(ng p == ng q)) (nn p * q.den) (p.den * nn q) = p / q := by
    by_cases h0 : q = 0
    · rw [h0, nn_zero, Nat.mul_zero, qm_den0, div_zero_rat]
    · exact q_div' p q h0
  have hcd : zc (p.den * nn q) = dc q := by
    unfold zc dc
    by_cases h0 : q = 0
    · rw [if_pos h0, h0, nn_zero, Nat.mul_zero, if_pos rfl]
    · rw [if_neg h0, if_neg (den_mul_nz p.den_nz (fun e => h0 (nn_eq_zero.1 e)))]
  have HEQ := Lib.hid heq; have HCD := Lib.hid hcd; clear heq hcd
  obtain ⟨dq, hdq⟩ : ∃ dq, dq = dc q := ⟨_, rfl⟩
  rw [← hdq]
  have HDQ := Lib.hid hdq; clear hdq
  go_enter Try.func31, Try.ntmps31
  have hs := rparts_any _ p w0 Fp.out
  have HS := Lib.hid hs; clear hs
  go_wp2_with fail
  rw [← HW0.out]
  (with_reducible refine HS.out.mono ?_); rintro e w1 ⟨v1, u1, rfl, hb1, hn1, hm1⟩
  clear HS
  have HB1 := Lib.hid (HB0.out.step hb1)
  have Fp := Lib.hid (Fp.out.below hb1)
  have Fq := Lib.hid (Fq.out.below hb1)
  have BXp := Lib.hid (heap_below BXp.out hb1)
  have BXq := Lib.hid (heap_below BXq.out hb1)
  have BXR := Lib.hid (heap_below BXR.out hb1)
  have N := Lib.hid hn1
  have D := Lib.hid hm1
  clear hn1 hm1
  clear hb1
  have hs := rparts_any _ q w1 Fq.out
  have HS := Lib.hid hs; clear hs
  obtain ⟨eq0, eq1, eq2⟩ := row3 BXq.out
  go_wp2_with fail
  (with_reducible refine HS.out.mono ?_); rintro e w2 ⟨v2, u2, rfl, hb2, hn2, hm2⟩
  clear HS
  have HB2 := Lib.hid (HB1.out.step hb2)
  have Fp := Lib.hid (Fp.out.below hb2)
  have Fq := Lib.hid (Fq.out.below hb2)
  have N := Lib.hid (N.out.below hb2)
  have D := Lib.hid (D.out.below hb2)
  have BXp := Lib.hid (heap_below BXp.out hb2)
  have BXq := Lib.hid (heap_below BXq.out hb2)
  have BXR := Lib.hid (heap_below BXR.out hb2)
  have M := Lib.hid hn2
  have E := Lib.hid hm2
  clear hn2 hm2
  clear hb2
  have hs := rmulN N.out E.out (by omega) (by omega)
  have HS := Lib.hid hs; clear hs
  go_wp2_with fail
  (with_reducible refine HS.out.mono ?_); rintro e w3 ⟨v3, rfl, hb3, hn3⟩
  clear HS
  have HB3 := Lib.hid (HB2.out.step hb3)
  have Fp := Lib.hid (Fp.out.below hb3)
  have Fq := Lib.hid (Fq.out.below hb3)
  have N := Lib.hid (N.out.below hb3)
  have D := Lib.hid (D.out.below hb3)
  have M := Lib.hid (M.out.below hb3)
  have E := Lib.hid (E.out.below hb3)
  have BXp := Lib.hid (heap_below BXp.out hb3)
  have BXq := Lib.hid (heap_below BXq.out hb3)
  have BXR := Lib.hid (heap_below BXR.out hb3)
  have X := Lib.hid hn3; clear hn3
  clear hb3
  have hs := rmulN D.out M.out (by omega) (by omega)
  have HS := Lib.hid hs; clear hs
  go_wp2_with fail
  (with_reducible refine HS.out.mono ?_); rintro e w4 ⟨v4, rfl, hb4, hn4⟩
  clear HS
  have HB4 := Lib.hid (HB3.out.step hb4)
  have Fp := Lib.hid (Fp.out.below hb4)
  have Fq := Lib.hid (Fq.out.below hb4)
  have N := Lib.hid (N.out.below hb4)
  have D := Lib.hid (D.out.below hb4)
  have M := Lib.hid (M.out.below hb4)
  have E := Lib.hid (E.out.below hb4)
  have X := Lib.hid (X.out.below hb4)
  have BXp := Lib.hid (heap_below BXp.out hb4)
  have BXq := Lib.hid (heap_below BXq.out hb4)
  have BXR := Lib.hid (heap_below BXR.out hb4)
  have Y := Lib.hid hn4; clear hn4
  clear hb4
  have hs := rfromN (!(ng p == ng q)) X.out Y.out (by omega) (by omega)
  rw [HEQ.out, HCD.out, ← HDQ.out] at hs
  have HS := Lib.hid hs; clear hs
  go_wp2_with fail
  (with_reducible refine HS.out.mono ?_); rintro e w5 ⟨v5, rfl, hb5, hn5⟩
  clear HS
  have HB5 := Lib.hid (HB4.out.step hb5)
  have Fp := Lib.hid (Fp.out.below hb5)
  have Fq := Lib.hid (Fq.out.below hb5)
  have N := Lib.hid (N.out.below hb5)
  have D := Lib.hid (D.out.below hb5)
  have M := Lib.hid (M.out.below hb5)
  have E := Lib.hid (E.out.below hb5)
  have X := Lib.hid (X.out.below hb5)
  have Y := Lib.hid (Y.out.below hb5)
  have BXp := Lib.hid (heap_below BXp.out hb5)
  have BXq := Lib.hid (heap_below BXq.out hb5)
  have BXR := Lib.hid (heap_below BXR.out hb5)
  have Q := Lib.hid hn5; clear hn5
  clear hb5
  obtain ⟨sQ, oQ, nQ, cQ, aQ, mQ, dQ, rfl⟩ := Q.out.shape
  obtain ⟨eR0, eR1, eR2⟩ := row3 BXR.out
  obtain ⟨fR0, fR1, fR2⟩ := froz3 BXR.out
  go_wp2_with fail
  refine ret_rat2 rfl (w.heap.size + 2) _ _ _ rfl (put3_heap BXR.out) rfl ?_
  exact ⟨_, rfl, put3_below HB5.out (by omega) _ _ _, isR_put Q.out BXR.out⟩
end Go.Proofs.Ytaefimegiobkmaa
/-
  The reference: Add, Sub, Sign, Cmp: what they hand back.
  Conditions: each theorem's own.
-/
namespace Go.Proofs.Ytaefimegiobkmaa
open Go.RowKit Go.ChangeShapes Go.WideShapes

set_option maxRecDepth 100000 in
set_option maxHeartbeats 3200000 in
theorem radd_same (vp : Value) (p : Rat) (vq : Value) (q : Rat) (w : World) (hp : RatIs w vp p) (hq : RatIs w vq q) (hs : ng p = ng q) :
    Calls Try.prog 33 #[vp, vq] w (RetR w (p + q)) := by
  obtain ⟨sp, op, np, cp, ap, mp, dp, rfl⟩ := hp.shape
  have hlp := hp.rl
  obtain ⟨sq, oq, nq, cq, aq, mq, dq, rfl⟩ := hq.shape
  have hlq := hq.rl
  have hb0 := ((((Below.refl w.heap.size w).alloc (by first | (simp; done) | (simp; omega)) (.cells #[.bool sp, .slice op np cp, .slice ap mp dp] 32)).alloc (by first | (simp; done) | (simp; omega)) (.cells #[.bool sq, .slice oq nq cq, .slice aq mq dq] 32)).alloc (by first | (simp; done) | (simp; omega)) (.cells #[.bool false, .slice none 0 0, .slice none 0 0] 32))
  have hxp := nest3_0 w (.cells #[.bool sp, .slice op np cp, .slice ap mp dp] 32) (.cells #[.bool sq, .slice oq nq cq, .slice aq mq dq] 32) (.cells #[.bool false, .slice none 0 0, .slice none 0 0] 32)
  have hxq := nest3_1 w (.cells #[.bool sp, .slice op np cp, .slice ap mp dp] 32) (.cells #[.bool sq, .slice oq nq cq, .slice aq mq dq] 32) (.cells #[.bool false, .slice none 0 0, .slice none 0 0] 32)
  have hxR := nest3_2 w (.cells #[.bool sp, .slice op np cp, .slice ap mp dp] 32) (.cells #[.bool sq, .slice oq nq cq, .slice aq mq dq] 32) (.cells #[.bool false, .slice none 0 0, .slice none 0 0] 32)
  have hpp := hp.below hb0
  have hpq := hq.below hb0
  obtain ⟨w0, hw0⟩ : ∃ w0, w0 = (((w.alloc (.cells #[.bool sp, .slice op np cp, .slice ap mp dp] 32)).alloc (.cells #[.bool sq, .slice oq nq cq, .slice aq mq dq] 32)).alloc (.cells #[.bool false, .slice none 0 0, .slice none 0 0] 32)) := ⟨_, rfl⟩
  rw [← hw0] at hb0 hxp hxq hxR hpp hpq
  have HB0 := Lib.hid hb0; have HW0 := Lib.hid hw0
  have BXp := Lib.hid hxp
  have BXq := Lib.hid hxq
  have BXR := Lib.hid hxR
  have Fp := Lib.hid hpp
  have Fq := Lib.hid hpq
  clear hb0 hw0 hxp hxq hxR hpp hp hpq hq
  have l1 := rl_n p; have l2 := rl_d p; have l3 := rl_n q; have l4 := rl_d q
  have L1 : (wd (nn p * q.den)).length ≤ 200000 := by have := wd_mul_len (nn p) q.den; omega
  have L2 : (wd (nn q * p.den)).length ≤ 200000 := by have := wd_mul_len (nn q) p.den; omega
  have L3 : (wd (p.den * q.den)).length ≤ 200000 := by have := wd_mul_len p.den q.den; omega
  have heq := q_add_same p q hs
  have HEQ := Lib.hid heq; clear heq
  have L4 : (wd (nn p * q.den + nn q * p.den)).length ≤ 200001 := by have := wd_add_len (nn p * q.den) (nn q * p.den); omega
  have f1 : (ng p == ng q) = true := by rw [beq_iff_eq]; exact hs
  obtain ⟨x, hx⟩ : ∃ x, x = ng p := ⟨_, rfl⟩; obtain ⟨y, hy⟩ : ∃ y, y = ng q := ⟨_, rfl⟩
  rw [← hx, ← hy] at f1
  have HX := Lib.hid hx; have HY := Lib.hid hy; clear hx hy hs
  go_enter Try.func33, Try.ntmps33
  have hs := rparts_any _ p w0 Fp.out
  have HS := Lib.hid hs; clear hs
  go_wp2_with fail
  rw [← HW0.out]
  (with_reducible refine HS.out.mono ?_); rintro e w1 ⟨v1, u1, rfl, hb1, hn1, hm1⟩
  clear HS
  have HB1 := Lib.hid (HB0.out.step hb1)
  have Fp := Lib.hid (Fp.out.below hb1)
  have Fq := Lib.hid (Fq.out.below hb1)
  have BXp := Lib.hid (heap_below BXp.out hb1)
  have BXq := Lib.hid (heap_below BXq.out hb1)
  have BXR := Lib.hid (heap_below BXR.out hb1)
  have N := Lib.hid hn1
  have D := Lib.hid hm1
  clear hn1 hm1
  clear hb1
  rw [← HX.out]
  have hs := rparts_any _ q w1 Fq.out
  have HS := Lib.hid hs; clear hs
  obtain ⟨eq0, eq1, eq2⟩ := row3 BXq.out
  go_wp2_with fail
  (with_reducible refine HS.out.mono ?_); rintro e w2 ⟨v2, u2, rfl, hb2, hn2, hm2⟩
  clear HS
  have HB2 := Lib.hid (HB1.out.step hb2)
  have Fp := Lib.hid (Fp.out.below hb2)
  have Fq := Lib.hid (Fq.out.below hb2)
  have N := Lib.hid (N.out.below hb2)
  have D := Lib.hid (D.out.below hb2)
  have BXp := Lib.hid (heap_below BXp.out hb2)
  have BXq := Lib.hid (heap_below BXq.out hb2)
  have BXR := Lib.hid (heap_below BXR.out hb2)
  have M := Lib.hid hn2
  have E := Lib.hid hm2
  clear hn2 hm2
  clear hb2
  rw [← HY.out]
  have hs := rmulN N.out E.out (by omega) (by omega)
  have HS := Lib.hid hs; clear hs
  go_wp2_with fail
  (with_reducible refine HS.out.mono ?_); rintro e w3 ⟨v3, rfl, hb3, hn3⟩
  clear HS
  have HB3 := Lib.hid (HB2.out.step hb3)
  have Fp := Lib.hid (Fp.out.below hb3)
  have Fq := Lib.hid (Fq.out.below hb3)
  have N := Lib.hid (N.out.below hb3)
  have D := Lib.hid (D.out.below hb3)
  have M := Lib.hid (M.out.below hb3)
  have E := Lib.hid (E.out.below hb3)
  have BXp := Lib.hid (heap_below BXp.out hb3)
  have BXq := Lib.hid (heap_below BXq.out hb3)
  have BXR := Lib.hid (heap_below BXR.out hb3)
  have X := Lib.hid hn3; clear hn3
  clear hb3
  have hs := rmulN M.out D.out (by omega) (by omega)
  have HS := Lib.hid hs; clear hs
  go_wp2_with fail
  (with_reducible refine HS.out.mono ?_); rintro e w4 ⟨v4, rfl, hb4, hn4⟩
  clear HS
  have HB4 := Lib.hid (HB3.out.step hb4)
  have Fp := Lib.hid (Fp.out.below hb4)
  have Fq := Lib.hid (Fq.out.below hb4)
  have N := Lib.hid (N.out.below hb4)
  have D := Lib.hid (D.out.below hb4)
  have M := Lib.hid (M.out.below hb4)
  have E := Lib.hid (E.out.below hb4)
  have X := Lib.hid (X.out.below hb4)
  have BXp := Lib.hid (heap_below BXp.out hb4)
  have BXq := Lib.hid (heap_below BXq.out hb4)
  have BXR := Lib.hid (heap_below BXR.out hb4)
  have Y := Lib.hid hn4; clear hn4
  clear hb4
  have hs := rmulN D.out E.out (by omega) (by omega)
  have HS := Lib.hid hs; clear hs
  go_wp2_with fail
  (with_reducible refine HS.out.mono ?_); rintro e w5 ⟨v5, rfl, hb5, hn5⟩
  clear HS
  have HB5 := Lib.hid (HB4.out.step hb5)
  have Fp := Lib.hid (Fp.out.below hb5)
  have Fq := Lib.hid (Fq.out.below hb5)
  have N := Lib.hid (N.out.below hb5)
  have D := Lib.hid (D.out.below hb5)
  have M := Lib.hid (M.out.below hb5)
  have E := Lib.hid (E.out.below hb5)
  have X := Lib.hid (X.out.below hb5)
  have Y := Lib.hid (Y.out.below hb5)
  have BXp := Lib.hid (heap_below BXp.out hb5)
  have BXq := Lib.hid (heap_below BXq.out hb5)
  have BXR := Lib.hid (heap_below BXR.out hb5)
  have DE := Lib.hid hn5; clear hn5
  clear hb5
  have hs := raddN X.out Y.out (by omega) (by omega)
  have HS := Lib.hid hs; clear hs
  go_wp2_with fail
  (with_reducible refine HS.out.mono ?_); rintro e w6 ⟨v6, rfl, hb6, hn6⟩
  clear HS
  have HB6 := Lib.hid (HB5.out.step hb6)
  have Fp := Lib.hid (Fp.out.below hb6)
  have Fq := Lib.hid (Fq.out.below hb6)
  have N := Lib.hid (N.out.below hb6)
  have D := Lib.hid (D.out.below hb6)
  have M := Lib.hid (M.out.below hb6)
  have E := Lib.hid (E.out.below hb6)
  have X := Lib.hid (X.out.below hb6)
  have Y := Lib.hid (Y.out.below hb6)
  have DE := Lib.hid (DE.out.below hb6)
  have BXp := Lib.hid (heap_below BXp.out hb6)
  have BXq := Lib.hid (heap_below BXq.out hb6)
  have BXR := Lib.hid (heap_below BXR.out hb6)
  have S := Lib.hid hn6; clear hn6
  clear hb6
  have hs := rfromK x S.out DE.out (by omega) (by omega) (den_mul_nz p.den_nz q.den_nz)
  have HS := Lib.hid hs; clear hs
  go_wp2_with fail
  (with_reducible refine HS.out.mono ?_); rintro e w7 ⟨v7, rfl, hb7, hn7⟩
  clear HS
  have HB7 := Lib.hid (HB6.out.step hb7)
  have Fp := Lib.hid (Fp.out.below hb7)
  have Fq := Lib.hid (Fq.out.below hb7)
  have N := Lib.hid (N.out.below hb7)
  have D := Lib.hid (D.out.below hb7)
  have M := Lib.hid (M.out.below hb7)
  have E := Lib.hid (E.out.below hb7)
  have X := Lib.hid (X.out.below hb7)
  have Y := Lib.hid (Y.out.below hb7)
  have DE := Lib.hid (DE.out.below hb7)
  have S := Lib.hid (S.out.below hb7)
  have BXp := Lib.hid (heap_below BXp.out hb7)
  have BXq := Lib.hid (heap_below BXq.out hb7)
  have BXR := Lib.hid (heap_below BXR.out hb7)
  have Q := Lib.hid hn7; clear hn7
  clear hb7
  have hq := Q.out; rw [HX.out, HEQ.out] at hq; have Q := Lib.hid hq; clear hq
  obtain ⟨sQ, oQ, nQ, cQ, aQ, mQ, dQ, rfl⟩ := Q.out.shape
  have hal : Below w7.heap.size w7 (w7.alloc (.cells #[.bool sQ, .slice oQ nQ cQ, .slice aQ mQ dQ] 32)) := (Below.refl _ _).alloc (Nat.le_refl _) _
  have HXA := Lib.hid (heap_below BXR.out hal); have HAL := Lib.hid hal; clear hal
  obtain ⟨eR0, eR1, eR2⟩ := row3 HXA.out
  obtain ⟨fR0, fR1, fR2⟩ := froz3 HXA.out
  go_wp2_with fail
  refine ret_rat rfl (w.heap.size + 2) _ _ _ rfl (put3_heap HXA.out) rfl ?_
  exact ⟨_, rfl, put3_below (HB7.out.step HAL.out) (by omega) _ _ _, isR_put (Q.out.below HAL.out) HXA.out⟩
set_option maxRecDepth 100000 in
set_option maxHeartbeats 3200000 in
theorem radd_diff (vp : Value) (p : Rat) (vq : Value) (q : Rat) (w : World) (hp : RatIs w vp p) (hq : RatIs w vq q) (hs : ng p ≠ ng q) (hle : nn q * p.den ≤ nn p * q.den) :
    Calls Try.prog 33 #[vp, vq] w (RetR w (p + q)) := by
  obtain ⟨sp, op, np, cp, ap, mp, dp, rfl⟩ := hp.shape
  have hlp := hp.rl
  obtain ⟨sq, oq, nq, cq, aq, mq, dq, rfl⟩ := hq.shape
  have hlq := hq.rl
  have hb0 := ((((Below.refl w.heap.size w).alloc (by first | (simp; done) | (simp; omega)) (.cells #[.bool sp, .slice op np cp, .slice ap mp dp] 32)).alloc (by first | (simp; done) | (simp; omega)) (.cells #[.bool sq, .slice oq nq cq, .slice aq mq dq] 32)).alloc (by first | (simp; done) | (simp; omega)) (.cells #[.bool false, .slice none 0 0, .slice none 0 0] 32))
  have hxp := nest3_0 w (.cells #[.bool sp, .slice op np cp, .slice ap mp dp] 32) (.cells #[.bool sq, .slice oq nq cq, .slice aq mq dq] 32) (.cells #[.bool false, .slice none 0 0, .slice none 0 0] 32)
  have hxq := nest3_1 w (.cells #[.bool sp, .slice op np cp, .slice ap mp dp] 32) (.cells #[.bool sq, .slice oq nq cq, .slice aq mq dq] 32) (.cells #[.bool false, .slice none 0 0, .slice none 0 0] 32)
  have hxR := nest3_2 w (.cells #[.bool sp, .slice op np cp, .slice ap mp dp] 32) (.cells #[.bool sq, .slice oq nq cq, .slice aq mq dq] 32) (.cells #[.bool false, .slice none 0 0, .slice none 0 0] 32)
  have hpp := hp.below hb0
  have hpq := hq.below hb0
  obtain ⟨w0, hw0⟩ : ∃ w0, w0 = (((w.alloc (.cells #[.bool sp, .slice op np cp, .slice ap mp dp] 32)).alloc (.cells #[.bool sq, .slice oq nq cq, .slice aq mq dq] 32)).alloc (.cells #[.bool false, .slice none 0 0, .slice none 0 0] 32)) := ⟨_, rfl⟩
  rw [← hw0] at hb0 hxp hxq hxR hpp hpq
  have HB0 := Lib.hid hb0; have HW0 := Lib.hid hw0
  have BXp := Lib.hid hxp
  have BXq := Lib.hid hxq
  have BXR := Lib.hid hxR
  have Fp := Lib.hid hpp
  have Fq := Lib.hid hpq
  clear hb0 hw0 hxp hxq hxR hpp hp hpq hq
  have l1 := rl_n p; have l2 := rl_d p; have l3 := rl_n q; have l4 := rl_d q
  have L1 : (wd (nn p * q.den)).length ≤ 200000 := by have := wd_mul_len (nn p) q.den; omega
  have L2 : (wd (nn q * p.den)).length ≤ 200000 := by have := wd_mul_len (nn q) p.den; omega
  have L3 : (wd (p.den * q.den)).length ≤ 200000 := by have := wd_mul_len p.den q.den; omega
  have heq := q_add_diff p q hs hle
  have HEQ := Lib.hid heq; clear heq
  have f1 : (ng p == ng q) = false := by rw [beq_eq_false_iff_ne]; exact hs
  obtain ⟨c, hc⟩ : ∃ c, c = cmpN (nn p * q.den) (nn q * p.den) := ⟨_, rfl⟩
  have L4 : (wd (nn p * q.den - nn q * p.den)).length ≤ 200000 := by exact Nat.le_trans (wd_length_mono (Nat.sub_le _ _)) L1
  have f2 : decide (c < 0) = false := by rw [hc, decide_eq_false_iff_not]; unfold cmpN; rw [if_neg (by omega)]; split <;> decide
  have HC := Lib.hid hc; have HLE := Lib.hid hle; clear hc hle
  obtain ⟨x, hx⟩ : ∃ x, x = ng p := ⟨_, rfl⟩; obtain ⟨y, hy⟩ : ∃ y, y = ng q := ⟨_, rfl⟩
  rw [← hx, ← hy] at f1
  have HX := Lib.hid hx; have HY := Lib.hid hy; clear hx hy hs
  go_enter Try.func33, Try.ntmps33
  have hs := rparts_any _ p w0 Fp.out
  have HS := Lib.hid hs; clear hs
  go_wp2_with fail
  rw [← HW0.out]
  (with_reducible refine HS.out.mono ?_); rintro e w1 ⟨v1, u1, rfl, hb1, hn1, hm1⟩
  clear HS
  have HB1 := Lib.hid (HB0.out.step hb1)
  have Fp := Lib.hid (Fp.out.below hb1)
  have Fq := Lib.hid (Fq.out.below hb1)
  have BXp := Lib.hid (heap_below BXp.out hb1)
  have BXq := Lib.hid (heap_below BXq.out hb1)
  have BXR := Lib.hid (heap_below BXR.out hb1)
  have N := Lib.hid hn1
  have D := Lib.hid hm1
  clear hn1 hm1
  clear hb1
  rw [← HX.out]
  have hs := rparts_any _ q w1 Fq.out
  have HS := Lib.hid hs; clear hs
  obtain ⟨eq0, eq1, eq2⟩ := row3 BXq.out
  go_wp2_with fail
  (with_reducible refine HS.out.mono ?_); rintro e w2 ⟨v2, u2, rfl, hb2, hn2, hm2⟩
  clear HS
  have HB2 := Lib.hid (HB1.out.step hb2)
  have Fp := Lib.hid (Fp.out.below hb2)
  have Fq := Lib.hid (Fq.out.below hb2)
  have N := Lib.hid (N.out.below hb2)
  have D := Lib.hid (D.out.below hb2)
  have BXp := Lib.hid (heap_below BXp.out hb2)
  have BXq := Lib.hid (heap_below BXq.out hb2)
  have BXR := Lib.hid (heap_below BXR.out hb2)
  have M := Lib.hid hn2
  have E := Lib.hid hm2
  clear hn2 hm2
  clear hb2
  rw [← HY.out]
  have hs := rmulN N.out E.out (by omega) (by omega)
  have HS := Lib.hid hs; clear hs
  go_wp2_with fail
  (with_reducible refine HS.out.mono ?_); rintro e w3 ⟨v3, rfl, hb3, hn3⟩
  clear HS
  have HB3 := Lib.hid (HB2.out.step hb3)
  have Fp := Lib.hid (Fp.out.below hb3)
  have Fq := Lib.hid (Fq.out.below hb3)
  have N := Lib.hid (N.out.below hb3)
  have D := Lib.hid (D.out.below hb3)
  have M := Lib.hid (M.out.below hb3)
  have E := Lib.hid (E.out.below hb3)
  have BXp := Lib.hid (heap_below BXp.out hb3)
  have BXq := Lib.hid (heap_below BXq.out hb3)
  have BXR := Lib.hid (heap_below BXR.out hb3)
  have X := Lib.hid hn3; clear hn3
  clear hb3
  have hs := rmulN M.out D.out (by omega) (by omega)
  have HS := Lib.hid hs; clear hs
  go_wp2_with fail
  (with_reducible refine HS.out.mono ?_); rintro e w4 ⟨v4, rfl, hb4, hn4⟩
  clear HS
  have HB4 := Lib.hid (HB3.out.step hb4)
  have Fp := Lib.hid (Fp.out.below hb4)
  have Fq := Lib.hid (Fq.out.below hb4)
  have N := Lib.hid (N.out.below hb4)
  have D := Lib.hid (D.out.below hb4)
  have M := Lib.hid (M.out.below hb4)
  have E := Lib.hid (E.out.below hb4)
  have X := Lib.hid (X.out.below hb4)
  have BXp := Lib.hid (heap_below BXp.out hb4)
  have BXq := Lib.hid (heap_below BXq.out hb4)
  have BXR := Lib.hid (heap_below BXR.out hb4)
  have Y := Lib.hid hn4; clear hn4
  clear hb4
  have hs := rmulN D.out E.out (by omega) (by omega)
  have HS := Lib.hid hs; clear hs
  go_wp2_with fail
  (with_reducible refine HS.out.mono ?_); rintro e w5 ⟨v5, rfl, hb5, hn5⟩
  clear HS
  have HB5 := Lib.hid (HB4.out.step hb5)
  have Fp := Lib.hid (Fp.out.below hb5)
  have Fq := Lib.hid (Fq.out.below hb5)
  have N := Lib.hid (N.out.below hb5)
  have D := Lib.hid (D.out.below hb5)
  have M := Lib.hid (M.out.below hb5)
  have E := Lib.hid (E.out.below hb5)
  have X := Lib.hid (X.out.below hb5)
  have Y := Lib.hid (Y.out.below hb5)
  have BXp := Lib.hid (heap_below BXp.out hb5)
  have BXq := Lib.hid (heap_below BXq.out hb5)
  have BXR := Lib.hid (heap_below BXR.out hb5)
  have DE := Lib.hid hn5; clear hn5
  clear hb5
  have hs := rcmpN_ X.out Y.out (by omega) (by omega)
  rw [← HC.out] at hs
  have HS := Lib.hid hs; clear hs
  go_wp2_with fail
  (with_reducible refine HS.out.mono ?_); rintro e wx ⟨rfl, rfl⟩
  clear HS
  have hs := rsubN X.out Y.out (by omega) (by omega) HLE.out
  have HS := Lib.hid hs; clear hs
  go_wp2_with fail
  (with_reducible refine HS.out.mono ?_); rintro e w7 ⟨v7, rfl, hb7, hn7⟩
  clear HS
  have HB7 := Lib.hid (HB5.out.step hb7)
  have Fp := Lib.hid (Fp.out.below hb7)
  have Fq := Lib.hid (Fq.out.below hb7)
  have N := Lib.hid (N.out.below hb7)
  have D := Lib.hid (D.out.below hb7)
  have M := Lib.hid (M.out.below hb7)
  have E := Lib.hid (E.out.below hb7)
  have X := Lib.hid (X.out.below hb7)
  have Y := Lib.hid (Y.out.below hb7)
  have DE := Lib.hid (DE.out.below hb7)
  have BXp := Lib.hid (heap_below BXp.out hb7)
  have BXq := Lib.hid (heap_below BXq.out hb7)
  have BXR := Lib.hid (heap_below BXR.out hb7)
  have S := Lib.hid hn7; clear hn7
  clear hb7
  have hs := rfromK x S.out DE.out (by omega) (by omega) (den_mul_nz p.den_nz q.den_nz)
  have HS := Lib.hid hs; clear hs
  go_wp2_with fail
  (with_reducible refine HS.out.mono ?_); rintro e w8 ⟨v8, rfl, hb8, hn8⟩
  clear HS
  have HB8 := Lib.hid (HB7.out.step hb8)
  have Fp := Lib.hid (Fp.out.below hb8)
  have Fq := Lib.hid (Fq.out.below hb8)
  have N := Lib.hid (N.out.below hb8)
  have D := Lib.hid (D.out.below hb8)
  have M := Lib.hid (M.out.below hb8)
  have E := Lib.hid (E.out.below hb8)
  have X := Lib.hid (X.out.below hb8)
  have Y := Lib.hid (Y.out.below hb8)
  have DE := Lib.hid (DE.out.below hb8)
  have S := Lib.hid (S.out.below hb8)
  have BXp := Lib.hid (heap_below BXp.out hb8)
  have BXq := Lib.hid (heap_below BXq.out hb8)
  have BXR := Lib.hid (heap_below BXR.out hb8)
  have Q := Lib.hid hn8; clear hn8
  clear hb8
  have hq := Q.out; rw [HX.out, HEQ.out] at hq; have Q := Lib.hid hq; clear hq
  obtain ⟨sQ, oQ, nQ, cQ, aQ, mQ, dQ, rfl⟩ := Q.out.shape
  have hal : Below w8.heap.size w8 (w8.alloc (.cells #[.bool sQ, .slice oQ nQ cQ, .slice aQ mQ dQ] 32)) := (Below.refl _ _).alloc (Nat.le_refl _) _
  have HXA := Lib.hid (heap_below BXR.out hal); have HAL := Lib.hid hal; clear hal
  obtain ⟨eR0, eR1, eR2⟩ := row3 HXA.out
  obtain ⟨fR0, fR1, fR2⟩ := froz3 HXA.out
  go_wp2_with fail
  refine ret_rat rfl (w.heap.size + 2) _ _ _ rfl (put3_heap HXA.out) rfl ?_
  exact ⟨_, rfl, put3_below (HB8.out.step HAL.out) (by omega) _ _ _, isR_put (Q.out.below HAL.out) HXA.out⟩
set_option maxRecDepth 100000 in
set_option maxHeartbeats 3200000 in
theorem radd_diff' (vp : Value) (p : Rat) (vq : Value) (q : Rat) (w : World) (hp : RatIs w vp p) (hq : RatIs w vq q) (hs : ng p ≠ ng q) (hle : nn p * q.den < nn q * p.den) :
    Calls Try.prog 33 #[vp, vq] w (RetR w (p + q)) := by
  obtain ⟨sp, op, np, cp, ap, mp, dp, rfl⟩ := hp.shape
  have hlp := hp.rl
  obtain ⟨sq, oq, nq, cq, aq, mq, dq, rfl⟩ := hq.shape
  have hlq := hq.rl
  have hb0 := ((((Below.refl w.heap.size w).alloc (by first | (simp; done) | (simp; omega)) (.cells #[.bool sp, .slice op np cp, .slice ap mp dp] 32)).alloc (by first | (simp; done) | (simp; omega)) (.cells #[.bool sq, .slice oq nq cq, .slice aq mq dq] 32)).alloc (by first | (simp; done) | (simp; omega)) (.cells #[.bool false, .slice none 0 0, .slice none 0 0] 32))
  have hxp := nest3_0 w (.cells #[.bool sp, .slice op np cp, .slice ap mp dp] 32) (.cells #[.bool sq, .slice oq nq cq, .slice aq mq dq] 32) (.cells #[.bool false, .slice none 0 0, .slice none 0 0] 32)
  have hxq := nest3_1 w (.cells #[.bool sp, .slice op np cp, .slice ap mp dp] 32) (.cells #[.bool sq, .slice oq nq cq, .slice aq mq dq] 32) (.cells #[.bool false, .slice none 0 0, .slice none 0 0] 32)
  have hxR := nest3_2 w (.cells #[.bool sp, .slice op np cp, .slice ap mp dp] 32) (.cells #[.bool sq, .slice oq nq cq, .slice aq mq dq] 32) (.cells #[.bool false, .slice none 0 0, .slice none 0 0] 32)
  have hpp := hp.below hb0
  have hpq := hq.below hb0
  obtain ⟨w0, hw0⟩ : ∃ w0, w0 = (((w.alloc (.cells #[.bool sp, .slice op np cp, .slice ap mp dp] 32)).alloc (.cells #[.bool sq, .slice oq nq cq, .slice aq mq dq] 32)).alloc (.cells #[.bool false, .slice none 0 0, .slice none 0 0] 32)) := ⟨_, rfl⟩
  rw [← hw0] at hb0 hxp hxq hxR hpp hpq
  have HB0 := Lib.hid hb0; have HW0 := Lib.hid hw0
  have BXp := Lib.hid hxp
  have BXq := Lib.hid hxq
  have BXR := Lib.hid hxR
  have Fp := Lib.hid hpp
  have Fq := Lib.hid hpq
  clear hb0 hw0 hxp hxq hxR hpp hp hpq hq
  have l1 := rl_n p; have l2 := rl_d p; have l3 := rl_n q; have l4 := rl_d q
  have L1 : (wd (nn p * q.den)).length ≤ 200000 := by have := wd_mul_len (nn p) q.den; omega
  have L2 : (wd (nn q * p.den)).length ≤ 200000 := by have := wd_mul_len (nn q) p.den; omega
  have L3 : (wd (p.den * q.den)).length ≤ 200000 := by have := wd_mul_len p.den q.den; omega
  have heq := q_add_diff' p q hs (Nat.le_of_lt hle)
  have HEQ := Lib.hid heq; clear heq
  have f1 : (ng p == ng q) = false := by rw [beq_eq_false_iff_ne]; exact hs
  obtain ⟨c, hc⟩ : ∃ c, c = cmpN (nn p * q.den) (nn q * p.den) := ⟨_, rfl⟩
  have L4 : (wd (nn q * p.den - nn p * q.den)).length ≤ 200000 := by exact Nat.le_trans (wd_length_mono (Nat.sub_le _ _)) L2
  have f2 : decide (c < 0) = true := by rw [hc, decide_eq_true_eq]; unfold cmpN; rw [if_pos hle]; decide
  have HC := Lib.hid hc; have HLE := Lib.hid hle; clear hc hle
  obtain ⟨x, hx⟩ : ∃ x, x = ng p := ⟨_, rfl⟩; obtain ⟨y, hy⟩ : ∃ y, y = ng q := ⟨_, rfl⟩
  rw [← hx, ← hy] at f1
  have HX := Lib.hid hx; have HY := Lib.hid hy; clear hx hy hs
  go_enter Try.func33, Try.ntmps33
  have hs := rparts_any _ p w0 Fp.out
  have HS := Lib.hid hs; clear hs
  go_wp2_with fail
  rw [← HW0.out]
  (with_reducible refine HS.out.mono ?_); rintro e w1 ⟨v1, u1, rfl, hb1, hn1, hm1⟩
  clear HS
  have HB1 := Lib.hid (HB0.out.step hb1)
  have Fp := Lib.hid (Fp.out.below hb1)
  have Fq := Lib.hid (Fq.out.below hb1)
  have BXp := Lib.hid (heap_below BXp.out hb1)
  have BXq := Lib.hid (heap_below BXq.out hb1)
  have BXR := Lib.hid (heap_below BXR.out hb1)
  have N := Lib.hid hn1
  have D := Lib.hid hm1
  clear hn1 hm1
  clear hb1
  rw [← HX.out]
  have hs := rparts_any _ q w1 Fq.out
  have HS := Lib.hid hs; clear hs
  obtain ⟨eq0, eq1, eq2⟩ := row3 BXq.out
  go_wp2_with fail
  (with_reducible refine HS.out.mono ?_); rintro e w2 ⟨v2, u2, rfl, hb2, hn2, hm2⟩
  clear HS
  have HB2 := Lib.hid (HB1.out.step hb2)
  have Fp := Lib.hid (Fp.out.below hb2)
  have Fq := Lib.hid (Fq.out.below hb2)
  have N := Lib.hid (N.out.below hb2)
  have D := Lib.hid (D.out.below hb2)
  have BXp := Lib.hid (heap_below BXp.out hb2)
  have BXq := Lib.hid (heap_below BXq.out hb2)
  have BXR := Lib.hid (heap_below BXR.out hb2)
  have M := Lib.hid hn2
  have E := Lib.hid hm2
  clear hn2 hm2
  clear hb2
  rw [← HY.out]
  have hs := rmulN N.out E.out (by omega) (by omega)
  have HS := Lib.hid hs; clear hs
  go_wp2_with fail
  (with_reducible refine HS.out.mono ?_); rintro e w3 ⟨v3, rfl, hb3, hn3⟩
  clear HS
  have HB3 := Lib.hid (HB2.out.step hb3)
  have Fp := Lib.hid (Fp.out.below hb3)
  have Fq := Lib.hid (Fq.out.below hb3)
  have N := Lib.hid (N.out.below hb3)
  have D := Lib.hid (D.out.below hb3)
  have M := Lib.hid (M.out.below hb3)
  have E := Lib.hid (E.out.below hb3)
  have BXp := Lib.hid (heap_below BXp.out hb3)
  have BXq := Lib.hid (heap_below BXq.out hb3)
  have BXR := Lib.hid (heap_below BXR.out hb3)
  have X := Lib.hid hn3; clear hn3
  clear hb3
  have hs := rmulN M.out D.out (by omega) (by omega)
  have HS := Lib.hid hs; clear hs
  go_wp2_with fail
  (with_reducible refine HS.out.mono ?_); rintro e w4 ⟨v4, rfl, hb4, hn4⟩
  clear HS
  have HB4 := Lib.hid (HB3.out.step hb4)
  have Fp := Lib.hid (Fp.out.below hb4)
  have Fq := Lib.hid (Fq.out.below hb4)
  have N := Lib.hid (N.out.below hb4)
  have D := Lib.hid (D.out.below hb4)
  have M := Lib.hid (M.out.below hb4)
  have E := Lib.hid (E.out.below hb4)
  have X := Lib.hid (X.out.below hb4)
  have BXp := Lib.hid (heap_below BXp.out hb4)
  have BXq := Lib.hid (heap_below BXq.out hb4)
  have BXR := Lib.hid (heap_below BXR.out hb4)
  have Y := Lib.hid hn4; clear hn4
  clear hb4
  have hs := rmulN D.out E.out (by omega) (by omega)
  have HS := Lib.hid hs; clear hs
  go_wp2_with fail
  (with_reducible refine HS.out.mono ?_); rintro e w5 ⟨v5, rfl, hb5, hn5⟩
  clear HS
  have HB5 := Lib.hid (HB4.out.step hb5)
  have Fp := Lib.hid (Fp.out.below hb5)
  have Fq := Lib.hid (Fq.out.below hb5)
  have N := Lib.hid (N.out.below hb5)
  have D := Lib.hid (D.out.below hb5)
  have M := Lib.hid (M.out.below hb5)
  have E := Lib.hid (E.out.below hb5)
  have X := Lib.hid (X.out.below hb5)
  have Y := Lib.hid (Y.out.below hb5)
  have BXp := Lib.hid (heap_below BXp.out hb5)
  have BXq := Lib.hid (heap_below BXq.out hb5)
  have BXR := Lib.hid (heap_below BXR.out hb5)
  have DE := Lib.hid hn5; clear hn5
  clear hb5
  have hs := rcmpN_ X.out Y.out (by omega) (by omega)
  rw [← HC.out] at hs
  have HS := Lib.hid hs; clear hs
  go_wp2_with fail
  (with_reducible refine HS.out.mono ?_); rintro e wx ⟨rfl, rfl⟩
  clear HS
  have hs := rsubN Y.out X.out (by omega) (by omega) (Nat.le_of_lt HLE.out)
  have HS := Lib.hid hs; clear hs
  go_wp2_with fail
  (with_reducible refine HS.out.mono ?_); rintro e w7 ⟨v7, rfl, hb7, hn7⟩
  clear HS
  have HB7 := Lib.hid (HB5.out.step hb7)
  have Fp := Lib.hid (Fp.out.below hb7)
  have Fq := Lib.hid (Fq.out.below hb7)
  have N := Lib.hid (N.out.below hb7)
  have D := Lib.hid (D.out.below hb7)
  have M := Lib.hid (M.out.below hb7)
  have E := Lib.hid (E.out.below hb7)
  have X := Lib.hid (X.out.below hb7)
  have Y := Lib.hid (Y.out.below hb7)
  have DE := Lib.hid (DE.out.below hb7)
  have BXp := Lib.hid (heap_below BXp.out hb7)
  have BXq := Lib.hid (heap_below BXq.out hb7)
  have BXR := Lib.hid (heap_below BXR.out hb7)
  have S := Lib.hid hn7; clear hn7
  clear hb7
  have hs := rfromK y S.out DE.out (by omega) (by omega) (den_mul_nz p.den_nz q.den_nz)
  have HS := Lib.hid hs; clear hs
  go_wp2_with fail
  (with_reducible refine HS.out.mono ?_); rintro e w8 ⟨v8, rfl, hb8, hn8⟩
  clear HS
  have HB8 := Lib.hid (HB7.out.step hb8)
  have Fp := Lib.hid (Fp.out.below hb8)
  have Fq := Lib.hid (Fq.out.below hb8)
  have N := Lib.hid (N.out.below hb8)
  have D := Lib.hid (D.out.below hb8)
  have M := Lib.hid (M.out.below hb8)
  have E := Lib.hid (E.out.below hb8)
  have X := Lib.hid (X.out.below hb8)
  have Y := Lib.hid (Y.out.below hb8)
  have DE := Lib.hid (DE.out.below hb8)
  have S := Lib.hid (S.out.below hb8)
  have BXp := Lib.hid (heap_below BXp.out hb8)
  have BXq := Lib.hid (heap_below BXq.out hb8)
  have BXR := Lib.hid (heap_below BXR.out hb8)
  have Q := Lib.hid hn8; clear hn8
  clear hb8
  have hq := Q.out; rw [HY.out, HEQ.out] at hq; have Q := Lib.hid hq; clear hq
  obtain ⟨sQ, oQ, nQ, cQ, aQ, mQ, dQ, rfl⟩ := Q.out.shape
  have hal : Below w8.heap.size w8 (w8.alloc (.cells #[.bool sQ, .slice oQ nQ cQ, .slice aQ mQ dQ] 32)) := (Below.refl _ _).alloc (Nat.le_refl _) _
  have HXA := Lib.hid (heap_below BXR.out hal); have HAL := Lib.hid hal; clear hal
  obtain ⟨eR0, eR1, eR2⟩ := row3 HXA.out
  obtain ⟨fR0, fR1, fR2⟩ := froz3 HXA.out
  go_wp2_with fail
  refine ret_rat rfl (w.heap.size + 2) _ _ _ rfl (put3_heap HXA.out) rfl ?_
  exact ⟨_, rfl, put3_below (HB8.out.step HAL.out) (by omega) _ _ _, isR_put (Q.out.below HAL.out) HXA.out⟩
theorem raddq_any (vp : Value) (p : Rat) (vq : Value) (q : Rat) (w : World) (hp : RatIs w vp p) (hq : RatIs w vq q) :
    Calls Try.prog 33 #[vp, vq] w (RetR w (p + q)) := by
  by_cases h : ng p = ng q
  · exact radd_same vp p vq q w hp hq h
  · rcases Nat.lt_or_ge (nn p * q.den) (nn q * p.den) with h2 | h2
    · exact radd_diff' vp p vq q w hp hq h h2
    · exact radd_diff vp p vq q w hp hq h h2
end Go.Proofs.Ytaefimegiobkmaa
/-
  The reference: size, Make, Of, Floor, Round: what they hand back.
  Conditions: each theorem's own.
-/
namespace Go.Proofs.Ytaefimegiobkmaa
open Go.RowKit Go.ChangeShapes Go.WideShapes

/-- two words of a number -/
def RetTwo (w : World) (n : Nat) (e : Ending) (w' : World) : Prop := ∃ v l, e = .returned v ∧ Below w.heap.size w w' ∧ Num w' v l ∧ val l = n ∧ l.length = 2
theorem two_words (n : Nat) : val [n % 4294967296, n / 4294967296] = n := by
  simp only [val]; omega
set_option maxRecDepth 100000 in
set_option maxHeartbeats 800000 in
theorem rsize_any (n : Int) (w : World) (h0 : -9223372036854775808 ≤ n) (h1 : n < 9223372036854775808) :
    Calls Try.prog 77 #[.int .i64 n] w (RetTwo w n.natAbs) := by
  obtain ⟨m, hm⟩ : ∃ m, m = n.natAbs := ⟨_, rfl⟩
  rw [← hm]
  have hmb : m ≤ 9223372036854775808 := by omega
  have hlo := num_lit w 70 #[.int .u32 ((m % 4294967296 : Nat) : Int), .int .u32 ((m / 4294967296 : Nat) : Int)] [m % 4294967296, m / 4294967296] 2 (U32.cons (by omega) (U32.cons (by omega) U32.nil)) rfl (by simp) rfl
  have HLO := Lib.hid hlo
  have e0 : ((m % 4294967296 : Nat) : Int) = (m : Int) % 4294967296 := by omega
  have e1 : ((m / 4294967296 : Nat) : Int) = (m : Int) / 4294967296 := by omega
  rw [e0, e1] at HLO
  by_cases h : n < 0
  · have hn : n = -(m : Int) := by omega
    subst hn
    have f1 : decide (-(m : Int) < 0) = true := decide_eq_true h
    have f2 : decide (0 < m) = true := decide_eq_true (by omega)
    have hwr : IntKind.u64.wrap (-IntKind.u64.wrap (-(m : Int))) = (m : Int) := by
      have e : ∀ n : Int, IntKind.u64.wrap n = n % 18446744073709551616 := fun n => rfl
      rw [e, e]; omega
    clear hm hlo e0 e1
    go_enter Try.func77, Try.ntmps77
    go_wp2_with fail
    go_ret
    exact ⟨_, _, rfl, (Below.refl _ _).alloc (Nat.le_refl _) _, HLO.out, two_words m, rfl⟩
  · have hn : n = (m : Int) := by omega
    subst hn
    have f1 : decide ((m : Int) < 0) = false := decide_eq_false h
    clear hm hlo e0 e1
    go_enter Try.func77, Try.ntmps77
    go_wp2_with fail
    go_ret
    exact ⟨_, _, rfl, (Below.refl _ _).alloc (Nat.le_refl _) _, HLO.out, two_words m, rfl⟩
set_option maxRecDepth 100000 in
set_option maxHeartbeats 3200000 in
theorem rmake_any (n : Int) (d : Int) (w : World)  (h0 : -9223372036854775808 ≤ n) (h1 : n < 9223372036854775808) (g0 : -9223372036854775808 ≤ d) (g1 : d < 9223372036854775808) :
    Calls Try.prog 52 #[.int .i64 n, .int .i64 d] w (RetRE w ((n : Rat) / (d : Rat)) (.int .i64 (zc d.natAbs : Nat))) := by
  have hb0 := ((Below.refl w.heap.size w).alloc (by first | (simp; done) | (simp; omega)) (.cells #[.bool false, .slice none 0 0, .slice none 0 0] 32))
  have hxR := nest1_0 w (.cells #[.bool false, .slice none 0 0, .slice none 0 0] 32)
  obtain ⟨w0, hw0⟩ : ∃ w0, w0 = (w.alloc (.cells #[.bool false, .slice none 0 0, .slice none 0 0] 32)) := ⟨_, rfl⟩
  rw [← hw0] at hb0 hxR
  have HB0 := Lib.hid hb0; have HW0 := Lib.hid hw0
  have BXR := Lib.hid hxR
  clear hb0 hw0 hxR
  have BD := Lib.hid (And.intro h0 h1); have BG := Lib.hid (And.intro g0 g1)
  obtain ⟨z, hz⟩ : ∃ z, z = zc d.natAbs := ⟨_, rfl⟩
  rw [← hz]
  have HZ := Lib.hid hz; clear hz
  go_enter Try.func52, Try.ntmps52
  have hs := rsize_any n w0 BD.out.1 BD.out.2
  have HS := Lib.hid hs; clear hs
  go_wp2_with fail
  rw [← HW0.out]
  (with_reducible refine HS.out.mono ?_); rintro e w1 ⟨v1, l1, rfl, hb1, hn1, hv1, hl1⟩
  clear HS
  have HB1 := Lib.hid (HB0.out.step hb1)
  have BXR := Lib.hid (heap_below BXR.out hb1)
  have N := Lib.hid hn1; have VN := Lib.hid hv1; have LN := Lib.hid hl1; clear hn1 hb1 hv1 hl1
  have hs := rsize_any d w1 BG.out.1 BG.out.2
  have HS := Lib.hid hs; clear hs
  go_wp2_with fail
  (with_reducible refine HS.out.mono ?_); rintro e w2 ⟨v2, l2, rfl, hb2, hn2, hv2, hl2⟩
  clear HS
  have HB2 := Lib.hid (HB1.out.step hb2)
  have N := Lib.hid (N.out.below hb2)
  have BXR := Lib.hid (heap_below BXR.out hb2)
  have D := Lib.hid hn2; have VD := Lib.hid hv2; have LD := Lib.hid hl2; clear hn2 hb2 hv2 hl2
  have hs := rfrom_any (!(decide (n < 0) == decide (d < 0))) _ _ _ _ w2 N.out D.out (by rw [LN.out]; decide) (by rw [LD.out]; decide)
  rw [VN.out, VD.out, q_ints, ← HZ.out] at hs
  have HS := Lib.hid hs; clear hs
  go_wp2_with fail
  (with_reducible refine HS.out.mono ?_); rintro e w3 ⟨v3, rfl, hb3, hn3⟩
  clear HS
  have HB3 := Lib.hid (HB2.out.step hb3)
  have N := Lib.hid (N.out.below hb3)
  have D := Lib.hid (D.out.below hb3)
  have BXR := Lib.hid (heap_below BXR.out hb3)
  have Q := Lib.hid hn3; clear hn3
  clear hb3
  obtain ⟨sQ, oQ, nQ, cQ, aQ, mQ, dQ, rfl⟩ := Q.out.shape
  obtain ⟨eR0, eR1, eR2⟩ := row3 BXR.out
  obtain ⟨fR0, fR1, fR2⟩ := froz3 BXR.out
  go_wp2_with fail
  refine ret_rat2 rfl w.heap.size _ _ _ rfl (put3_heap BXR.out) rfl ?_
  exact ⟨_, rfl, put3_below HB3.out (by omega) _ _ _, isR_put Q.out BXR.out⟩
set_option maxRecDepth 100000 in
set_option maxHeartbeats 3200000 in
theorem rofq_any (n : Int) (w : World)  (h0 : -9223372036854775808 ≤ n) (h1 : n < 9223372036854775808) :
    Calls Try.prog 32 #[.int .i64 n] w (RetR w (n : Rat)) := by
  have hb0 := ((Below.refl w.heap.size w).alloc (by first | (simp; done) | (simp; omega)) (.cells #[.bool false, .slice none 0 0, .slice none 0 0] 32))
  have hxR := nest1_0 w (.cells #[.bool false, .slice none 0 0, .slice none 0 0] 32)
  obtain ⟨w0, hw0⟩ : ∃ w0, w0 = (w.alloc (.cells #[.bool false, .slice none 0 0, .slice none 0 0] 32)) := ⟨_, rfl⟩
  rw [← hw0] at hb0 hxR
  have HB0 := Lib.hid hb0; have HW0 := Lib.hid hw0
  have BXR := Lib.hid hxR
  clear hb0 hw0 hxR
  have BD := Lib.hid (And.intro h0 h1)
  have hq1 : (n : Rat) / ((1 : Int) : Rat) = (n : Rat) := by rw [show ((1 : Int) : Rat) = 1 from rfl]; grind
  have HQ1 := Lib.hid hq1; clear hq1
  go_enter Try.func32, Try.ntmps32
  have hs := rmake_any n 1 w0 BD.out.1 BD.out.2 (by decide) (by decide)
  rw [HQ1.out, show zc (1 : Int).natAbs = 0 from rfl] at hs
  have HS := Lib.hid hs; clear hs
  go_wp2_with fail
  rw [← HW0.out]
  (with_reducible refine HS.out.mono ?_); rintro e w1 ⟨v1, rfl, hb1, hn1⟩
  clear HS
  have HB1 := Lib.hid (HB0.out.step hb1)
  have BXR := Lib.hid (heap_below BXR.out hb1)
  have Q := Lib.hid hn1; clear hn1
  clear hb1
  obtain ⟨sQ, oQ, nQ, cQ, aQ, mQ, dQ, rfl⟩ := Q.out.shape
  have hal : Below w1.heap.size w1 (w1.alloc (.cells #[.bool sQ, .slice oQ nQ cQ, .slice aQ mQ dQ] 32)) := (Below.refl _ _).alloc (Nat.le_refl _) _
  have HXA := Lib.hid (heap_below BXR.out hal); have HAL := Lib.hid hal; clear hal
  obtain ⟨eR0, eR1, eR2⟩ := row3 HXA.out
  obtain ⟨fR0, fR1, fR2⟩ := froz3 HXA.out
  go_wp2_with fail
  refine ret_rat rfl w.heap.size _ _ _ rfl (put3_heap HXA.out) rfl ?_
  exact ⟨_, rfl, put3_below (HB1.out.step HAL.out) (by omega) _ _ _, isR_put (Q.out.below HAL.out) HXA.out⟩
end Go.Proofs.Ytaefimegiobkmaa
/-
  Closed intervals of rational numbers: least and greatest, sums, products, quotients, hulls and common parts.
  Conditions: none.
-/
namespace Go.Proofs.Ytaefimegiobkmaa

/-- the number x lies in the interval a -/
def inS (a : Rat × Rat) (x : Rat) : Prop := a.1 ≤ x ∧ x ≤ a.2
instance (a : Rat × Rat) (x : Rat) : Decidable (inS a x) := by unfold inS; exact inferInstance
def subS (a b : Rat × Rat) : Prop := inS b a.1 ∧ inS b a.2
instance (a b : Rat × Rat) : Decidable (subS a b) := by unfold subS; exact inferInstance
end Go.Proofs.Ytaefimegiobkmaa
/-
  A statement that leaves its order open and holds calls and new variables: one walk, whatever the order: each operation leaves a fact that later operations keep.
  Conditions: each theorem's own.
-/
namespace Go.Proofs.Ytaefimegiobkmaa
open Go.RowKit Go.ChangeShapes Go.WideShapes

section
variable {P : Program} {ops : Array Oper} {md : Region.Mode}

/-- the slot that operation j writes -/
def dstOf (ops : Array Oper) (j : Nat) : Option Tmp := (ops[j]?).bind (·.dst)
/-- the frame behind the first n operations' values, of those that are listed -/
def putsTo (ops : Array Oper) (listed : Nat → Bool) (vals : Nat → Value) (a : Act) : Nat → Act
  | 0 => a
  | n + 1 => if listed n then (putsTo ops listed vals a n).put (dstOf ops n) (vals n) else putsTo ops listed vals a n
theorem putsTo_congr {l l' : Nat → Bool} {v v' : Nat → Value} {a : Act} {n : Nat} (h : ∀ j, j < n → l j = l' j ∧ (l j = true → v j = v' j)) : putsTo ops l v a n = putsTo ops l' v' a n := by
  induction n with
  | zero => rfl
  | succ n ih =>
    obtain ⟨h1, h2⟩ := h n (by omega)
    unfold putsTo
    rw [ih (fun j hj => h j (by omega)), ← h1]
    by_cases hl : l n = true
    · rw [if_pos hl, if_pos hl, h2 hl]
    · rw [if_neg hl, if_neg hl]
theorem putsTo_set {l : Nat → Bool} {vals : Nat → Value} {a : Act} {i : Nat} {v : Value} (hi : l i = false) :
    ∀ n, i < n → (∀ j, j < n → j ≠ i → ∀ d, dstOf ops i = some d → dstOf ops j ≠ some d) →
    putsTo ops (fun j => if j = i then true else l j) (fun j => if j = i then v else vals j) a n = (putsTo ops l vals a n).put (dstOf ops i) v := by
  intro n
  induction n with
  | zero => intro h; omega
  | succ n ih =>
    intro hin hd
    unfold putsTo
    by_cases hn : n = i
    · subst hn
      have e := putsTo_congr (ops := ops) (l := fun j => if j = n then true else l j) (l' := l) (v := fun j => if j = n then v else vals j) (v' := vals) (a := a) (n := n) (fun j hj => by
        have : j ≠ n := by omega
        exact ⟨by show (if j = n then true else l j) = l j; rw [if_neg this], fun _ => by show (if j = n then v else vals j) = vals j; rw [if_neg this]⟩)
      rw [e]
      simp only [if_true, hi, Bool.false_eq_true, if_false]
    · rw [if_neg hn, if_neg hn, ih (by omega) (fun j hj => hd j (by omega))]
      by_cases hl : l n = true
      · rw [if_pos hl, if_pos hl, Act.put_comm _ v (vals n) (hd n (by omega) hn)]
      · rw [if_neg hl, if_neg hl]
theorem getD_set_self (t : Array Value) (d : Nat) (v u : Value) : (t.setIfInBounds d v).getD d u = if d < t.size then v else u := by
  by_cases h : d < t.size <;> simp [h]
theorem putsTo_eval {l : Nat → Bool} {vals : Nat → Value} {a : Act} {x : Operand} : ∀ n, (∀ t, x = .tmp t → ∀ j, j < n → dstOf ops j = some t → l j = true) →
    (putsTo ops l vals a n).eval x = (putsTo ops (fun _ => true) vals a n).eval x ∧ (putsTo ops l vals a n).tmps.size = (putsTo ops (fun _ => true) vals a n).tmps.size := by
  have hsz : ∀ (a : Act) (d : Option Tmp) (v : Value), (a.put d v).tmps.size = a.tmps.size := fun a d v => by cases d <;> simp [Act.put]
  intro n
  induction n with
  | zero => intro _; exact ⟨rfl, rfl⟩
  | succ n ih =>
    intro h
    obtain ⟨h1, h2⟩ := ih (fun t ht j hj => h t ht j (by omega))
    unfold putsTo
    rw [if_pos rfl]
    by_cases hl : l n = true
    · rw [if_pos hl, hsz, hsz]
      refine ⟨?_, h2⟩
      cases hd : dstOf ops n with
      | none => exact h1
      | some d =>
        cases x with
        | tmp t =>
          by_cases htd : d = t
          · subst htd
            show ((putsTo ops l vals a n).tmps.setIfInBounds d (vals n)).getD d undef = ((putsTo ops (fun _ => true) vals a n).tmps.setIfInBounds d (vals n)).getD d undef
            rw [getD_set_self, getD_set_self, h2]
          · rw [Act.eval_put (fun e he hx => htd (by cases he; cases hx; rfl)), Act.eval_put (fun e he hx => htd (by cases he; cases hx; rfl))]; exact h1
        | _ => exact h1
    · rw [if_neg hl, hsz]
      refine ⟨?_, h2⟩
      rw [Act.eval_put (fun d hd hx => hl (h d hx n (by omega) hd))]; exact h1

/-- an operation, run at a frame, yields a value and a world as R says -/
def StepOK (P : Program) (o : Oper) (a : Act) (w : World) (R : Value → World → Prop) : Prop :=
  match (execOp a.eval o).run P w with
  | .ok (.value v) w' => R v w'
  | .ok (.enter f args) w' => Calls P f args w' fun e w'' => ∃ v, e = .returned v ∧ R v w''
  | _ => False
/-- an operation under its guard -/
def StepG (P : Program) (ops : Array Oper) (o : Oper) (a : Act) (w : World) (R : Value → World → Prop) : Prop :=
  if Region.wanted o (yielded ops a.tmps) = true then StepOK P o a w R else R undef w
theorem wpOp_of_stepG {o : Oper} {a a' : Act} {w : World} {i : Nat} {R : Value → World → Prop} {Q : Exit → Act → World → Prop} {K : Act → World → Prop} (hi : ops[i]? = some o)
    (hg : Region.wanted o (yielded ops a.tmps) = Region.wanted o (yielded ops a'.tmps))
    (he : execOp a.eval o = execOp a'.eval o) (h : StepG P ops o a' w R) (hK : ∀ v w', R v w' → K (a.put o.dst v) w') : wpOp P ops Q i K a w := by
  unfold wpOp
  simp only [hi]
  unfold StepG at h
  rw [hg]
  by_cases hw : Region.wanted o (yielded ops a'.tmps) = true
  · rw [if_pos hw] at h ⊢
    left
    unfold StepOK at h
    unfold Oper.wp
    rw [he]
    generalize (execOp a'.eval o).run P w = r at h
    cases r with
    | ok n w' =>
      cases n <;> simp only [Oper.upon] at h ⊢
      case value v => exact hK _ _ h
      case enter f args => exact h.mono fun e w'' ⟨v, hv, hr⟩ => by subst hv; exact hK _ _ hr
      all_goals exact h.elim
    | halt x w' => simp at h
  · rw [if_neg hw] at h ⊢
    exact hK _ _ h
theorem putsTo_wanted {l : Nat → Bool} {vals : Nat → Value} {a : Act} {o : Oper} (n : Nat) (h : ∀ g b, o.guard = some (g, b) → ∀ t, dstOf ops g = some t → ∀ j, j < n → dstOf ops j = some t → l j = true) :
    Region.wanted o (yielded ops (putsTo ops l vals a n).tmps) = Region.wanted o (yielded ops (putsTo ops (fun _ => true) vals a n).tmps) := by
  unfold Region.wanted
  cases hg : o.guard with
  | none => rfl
  | some gw =>
    obtain ⟨g, want⟩ := gw
    have hy : yielded ops (putsTo ops l vals a n).tmps g = yielded ops (putsTo ops (fun _ => true) vals a n).tmps g := by
      unfold yielded
      cases ht : (ops[g]?).bind (·.dst) with
      | none => rfl
      | some t =>
        obtain ⟨h1, h2⟩ := putsTo_eval (ops := ops) (l := l) (vals := vals) (a := a) (x := .tmp t) n (fun t' ht' j hj hd => h g want hg t ht j hj (by rw [hd]; cases ht'; rfl))
        have h3 : (putsTo ops l vals a n).tmps[t]? = (putsTo ops (fun _ => true) vals a n).tmps[t]? := by
          have h4 : (putsTo ops l vals a n).tmps.getD t undef = (putsTo ops (fun _ => true) vals a n).tmps.getD t undef := h1
          rcases Nat.lt_or_ge t (putsTo ops l vals a n).tmps.size with hl | hl
          · have hl2 : t < (putsTo ops (fun _ => true) vals a n).tmps.size := by rw [← h2]; exact hl
            rw [Array.getElem?_eq_getElem hl, Array.getElem?_eq_getElem hl2]
            simp [hl, hl2] at h4
            rw [h4]
          · rw [Array.getElem?_eq_none hl, Array.getElem?_eq_none (by omega)]
        show (match (some t).bind ((putsTo ops l vals a n).tmps[·]?) with | some (.bool b) => some b | _ => none) = (match (some t).bind ((putsTo ops (fun _ => true) vals a n).tmps[·]?) with | some (.bool b) => some b | _ => none)
        simp only [Option.bind_some, h3]
    simp only [hy]

/-- each operation of the head but the floating ones has a later one of the head, or the first behind it, that waits for it and does not float -/
def sinkF (md : Region.Mode) (ops : Array Oper) (fl : List Nat) (n : Nat) : Bool :=
  (List.range n).all fun i => fl.contains i || (List.range (n + 1)).any fun j => decide (i < j) && !fl.contains j && Region.waitsFor md ops j i
/-- a floating operation is out of all others' way -/
def floatB (md : Region.Mode) (ops : Array Oper) (fl : List Nat) : Bool :=
  fl.all fun i => match ops[i]? with
    | none => false
    | some oi => oi.guard.isNone && (List.range ops.size).all fun j => j == i || Region.waitsFor md ops j i || Region.waitsFor md ops i j || match ops[j]? with
      | some oj => oi.apart ops oj
      | none => true
/-- what the law asks of a region: n operations of its head wait for earlier ones alone, write slots of their own and read what they wait for; the rest stands behind them in one order -/
def headB (md : Region.Mode) (ops : Array Oper) (fl : List Nat) (n : Nat) : Bool :=
  Region.noSelect ops && decide (n < ops.size) && (sinkF md ops fl n && floatB md ops fl && fl.all (fun i => decide (i < n))) && Region.chainB md ops n &&
  ((List.range n).all fun k => match ops[k]? with
    | none => false
    | some o => (match o.guard with | none => true | some (g, _) => decide (g < n) && Region.waitsFor md ops k g) && (o.after.all fun e => !Region.binds md e || decide (e.on < k)) &&
      ((List.range n).all fun j => (j == k || o.dst.isNone || decide (dstOf ops j ≠ o.dst)) &&
        (o.op.operands.all fun x => match x with
          | .tmp t => decide (dstOf ops j ≠ some t) || Region.waitsFor md ops k j
          | _ => true))) &&
  Region.seqB md ops (ops.size - n) n ((Array.range ops.size).map fun i => decide (i < n))
/-- while something of the head that does not float is not listed, nothing behind the head comes up -/
theorem tail_waitsF {n : Nat} {fl : List Nat} {listed : Array Bool} (hs : sinkF md ops fl n = true) (hc : Region.chainB md ops n = true) (hn : n < ops.size) (inv : HeadInv md ops n listed) :
    ∀ (d i : Nat), n - i = d → i < n → fl.contains i = false → listed.getD i true = false → ∀ t, n ≤ t → t ∉ Region.ready md ops listed := by
  intro d
  induction d using Nat.strongRecOn with
  | _ d ih =>
    intro i hd hi hfi hun t ht hr
    obtain ⟨_, ot, hot, hall⟩ := mem_ready.1 hr
    have htlt : t < ops.size := (Array.getElem?_eq_some_iff.1 hot).1
    by_cases htn : t = n
    · subst htn
      have h1 := List.all_eq_true.1 hs i (List.mem_range.2 hi)
      rw [hfi, Bool.false_or] at h1
      obtain ⟨j, hj, hj2⟩ := List.any_eq_true.1 h1
      simp only [Bool.and_eq_true, decide_eq_true_eq, Bool.not_eq_true'] at hj2
      obtain ⟨oj, hoj, e, he, hb, hon⟩ := Region.waitsFor_spec hj2.2
      have hjle : j ≤ t := by have := List.mem_range.1 hj; omega
      by_cases hjt : j = t
      · subst hjt
        have : oj = ot := Option.some.inj (hoj.symm.trans hot)
        subst this
        have h2 := hall e he hb
        rw [hon, getD_both hun] at h2
        cases h2
      · cases hl : listed.getD j false with
        | true =>
          have h2 := inv.closed j oj hoj hl e he hb
          rw [hon, getD_both hun] at h2
          cases h2
        | false =>
          have hjs : j < listed.size := by rw [inv.size]; omega
          exact ih (t - j) (by omega) j rfl (by omega) hj2.1.2 (getD_in hjs hl) t (Nat.le_refl _) hr
    · have h1 := List.all_eq_true.1 hc t (List.mem_range.2 htlt)
      simp only [Bool.or_eq_true, decide_eq_true_eq] at h1
      rcases h1 with h1 | h1
      · omega
      · obtain ⟨o', ho', e, he, hb, hon⟩ := Region.waitsFor_spec h1
        have : o' = ot := Option.some.inj (ho'.symm.trans hot)
        subst this
        have h2 := hall e he hb
        rw [hon, getD_both (inv.tail (t - 1) (by omega) (by omega))] at h2
        cases h2

structure HeadOK (md : Region.Mode) (ops : Array Oper) (n k : Nat) (o : Oper) : Prop where
  guard : ∀ g b, o.guard = some (g, b) → g < n ∧ Region.waitsFor md ops k g = true
  early : ∀ e ∈ o.after, Region.binds md e = true → e.on < k
  dst : ∀ j, j < n → j ≠ k → ∀ d, o.dst = some d → dstOf ops j ≠ some d
  reads : ∀ x ∈ o.op.operands, ∀ t, x = .tmp t → ∀ j, j < n → dstOf ops j = some t → Region.waitsFor md ops k j = true
theorem headB_ok {n k : Nat} {fl : List Nat} {o : Oper} (h : headB md ops fl n = true) (hk : k < n) (ho : ops[k]? = some o) : HeadOK md ops n k o := by
  unfold headB at h
  simp only [Bool.and_eq_true] at h
  have h1 := List.all_eq_true.1 h.1.2 k (List.mem_range.2 hk)
  rw [ho] at h1
  simp only [Bool.and_eq_true, List.all_eq_true, List.mem_range] at h1
  obtain ⟨⟨g1, g2⟩, g3⟩ := h1
  refine ⟨fun g b hg => by
    rw [hg] at g1
    simpa using g1, fun e he hb => ?_, fun j hj hjk d hd => ?_, fun x hx t ht j hj hd => ?_⟩
  · have := Array.all_eq_true_iff_forall_mem.1 g2 e he
    rw [hb] at this; simpa using this
  · have := (g3 j hj).1
    rw [hd] at this
    simp only [Bool.or_eq_true, beq_iff_eq, Option.isNone_some, Bool.false_eq_true, or_false, decide_eq_true_eq] at this
    rcases this with h | h
    · exact absurd h hjk
    · exact h
  · have := Array.all_eq_true_iff_forall_mem.1 (g3 j hj).2 x hx
    subst ht
    simp only [Bool.or_eq_true, decide_eq_true_eq] at this
    rcases this with h | h
    · exact absurd hd h
    · exact h

/-- what stands behind some listed operations -/
structure DrawInv (md : Region.Mode) (ops : Array Oper) (n : Nat) (F : Nat → Value → World → Prop) (AL : Nat → Bool) (w0 : World) (a0 : Act) (listed : Array Bool) (a : Act) (w : World) : Prop where
  head : HeadInv md ops n listed
  below : Below w0.heap.size w0 w
  vals : ∃ vals : Nat → Value, a = putsTo ops (fun j => listed.getD j false) vals a0 n ∧ (∀ j, j < n → listed.getD j false = true → F j (vals j) w) ∧
    (∀ j, j < n → listed.getD j false = true → AL j = true → ∃ g, vals j = .pointer (some ⟨g, 0, none⟩) ∧ g < w.heap.size) ∧
    (∀ j k, j < n → k < n → j ≠ k → listed.getD j false = true → listed.getD k false = true → AL j = true → AL k = true → vals j ≠ vals k)

/-- how many of the first n are not listed -/
def unl (listed : Array Bool) : Nat → Nat
  | 0 => 0
  | n + 1 => unl listed n + if listed.getD n false then 0 else 1
theorem unl_zero {listed : Array Bool} : ∀ n, unl listed n = 0 → ∀ j, j < n → listed.getD j false = true
  | 0, _, j, hj => by omega
  | n + 1, h, j, hj => by
    unfold unl at h
    by_cases hn : listed.getD n false = true
    · rw [if_pos hn] at h
      by_cases hjn : j = n
      · subst hjn; exact hn
      · exact unl_zero n (by omega) j (by omega)
    · rw [if_neg hn] at h; omega
theorem unl_first {listed : Array Bool} : ∀ n, unl listed n ≠ 0 → ∃ k, k < n ∧ listed.getD k false = false ∧ ∀ j, j < k → listed.getD j false = true
  | 0, h => absurd rfl h
  | n + 1, h => by
    by_cases hz : unl listed n = 0
    · unfold unl at h
      refine ⟨n, by omega, ?_, unl_zero n hz⟩
      cases hn : listed.getD n false with
      | false => rfl
      | true => rw [hz, hn] at h; simp at h
    · obtain ⟨k, h1, h2⟩ := unl_first n hz
      exact ⟨k, by omega, h2⟩
theorem unl_congr {l l' : Array Bool} : ∀ n, (∀ j, j < n → l.getD j false = l'.getD j false) → unl l n = unl l' n
  | 0, _ => rfl
  | n + 1, h => by
    unfold unl
    rw [unl_congr n (fun j hj => h j (by omega)), h n (by omega)]
theorem unl_set {listed : Array Bool} {i : Nat} (hs : i < listed.size) (hi : listed.getD i false = false) : ∀ n, i < n → unl (listed.setIfInBounds i true) n + 1 = unl listed n
  | 0, h => by omega
  | n + 1, h => by
    unfold unl
    by_cases hn : n = i
    · subst hn
      rw [unl_congr (l' := listed) n (fun j hj => getD_set_ne false (by omega)), hi]
      have : (listed.setIfInBounds n true).getD n false = true := by simp [hs]
      rw [this]; simp
    · have ih := unl_set hs hi n (by omega)
      rw [getD_set_ne false (Ne.symm hn)]; omega

/-- a step that yields in whatever world -/
def StepPure (P : Program) (o : Oper) (a : Act) (R : Value → Prop) : Prop := ∃ v, (∀ w, (execOp a.eval o).run P w = .ok (.value v) w) ∧ R v
/-- what a step leaves -/
def Leaves (F : Nat → Value → World → Prop) (AL : Nat → Bool) (i : Nat) (w1 : World) (v : Value) (w2 : World) : Prop :=
  Below w1.heap.size w1 w2 ∧ F i v w2 ∧ (AL i = true → v = .pointer (some ⟨w1.heap.size, 0, none⟩) ∧ w1.heap.size < w2.heap.size)
theorem leaves_mk {F : Nat → Value → World → Prop} {AL : Nat → Bool} {i : Nat} {w1 w2 : World} {v : Value} (hb : Below w1.heap.size w1 w2) (hf : F i v w2) (hal : AL i = true → v = .pointer (some ⟨w1.heap.size, 0, none⟩) ∧ w1.heap.size < w2.heap.size) : Leaves F AL i w1 v w2 := ⟨hb, hf, hal⟩
theorem DrawInv.next {n i : Nat} {oi : Oper} {fl : List Nat} {F : Nat → Value → World → Prop} {AL : Nat → Bool} {w0 w w' : World} {a0 a : Act} {listed : Array Bool} {v : Value} (hB : headB md ops fl n = true)
    (hF : ∀ i v w1 w2, F i v w1 → Below w1.heap.size w1 w2 → F i v w2) (inv : DrawInv md ops n F AL w0 a0 listed a w) (hi : i ∈ Region.ready md ops listed) (hin : i < n) (hoi : ops[i]? = some oi)
    (h : Leaves F AL i w v w') : DrawInv md ops n F AL w0 a0 (listed.setIfInBounds i true) (a.put oi.dst v) w' := by
  obtain ⟨hiu, oi', hoi', hdeps⟩ := mem_ready.1 hi
  have : oi' = oi := Option.some.inj (hoi'.symm.trans hoi)
  subst this
  have hiu' := getD_both hiu
  have ok := headB_ok hB hin hoi
  have his : i < listed.size := by rw [inv.head.size]; exact (Array.getElem?_eq_some_iff.1 hoi).1
  have hdst : dstOf ops i = oi'.dst := by unfold dstOf; rw [hoi]; rfl
  obtain ⟨vals, rfl, hv, hg, hd⟩ := inv.vals
  obtain ⟨hb, hf, hal⟩ := h
  refine ⟨inv.head.set hi hin, inv.below.trans (hb.mono inv.below.size), fun j => if j = i then v else vals j, ?_, ?_, ?_, ?_⟩
  · rw [← hdst, ← putsTo_set hiu' n hin (fun j hj hji => by rw [hdst]; exact ok.dst j hj hji)]
    refine putsTo_congr fun j hj => ⟨?_, fun _ => rfl⟩
    by_cases hji : j = i
    · subst hji; rw [if_pos rfl]; simp [his]
    · rw [if_neg hji, getD_set_ne false (Ne.symm hji)]
  · intro j hj hl
    show F j (if j = i then v else vals j) w'
    by_cases hji : j = i
    · subst hji; rw [if_pos rfl]; exact hf
    · rw [if_neg hji]
      rw [getD_set_ne false (Ne.symm hji)] at hl
      exact hF _ _ _ _ (hv j hj hl) hb
  · intro j hj hl aj
    show ∃ g, (if j = i then v else vals j) = _ ∧ _
    by_cases hji : j = i
    · subst hji; rw [if_pos rfl]
      obtain ⟨e1, e2⟩ := hal aj
      exact ⟨_, e1, e2⟩
    · rw [if_neg hji]
      rw [getD_set_ne false (Ne.symm hji)] at hl
      obtain ⟨g, e1, e2⟩ := hg j hj hl aj
      exact ⟨g, e1, Nat.lt_of_lt_of_le e2 hb.size⟩
  · intro j k' hj hk' hjk hl hl' aj ak
    show (if j = i then v else vals j) ≠ (if k' = i then v else vals k')
    by_cases hji : j = i
    · subst hji
      have hki : k' ≠ j := fun e => hjk e.symm
      rw [if_pos rfl, if_neg hki]
      rw [getD_set_ne false (Ne.symm hki)] at hl'
      obtain ⟨e1, e2⟩ := hal aj
      obtain ⟨g, e3, e4⟩ := hg k' hk' hl' ak
      rw [e1, e3]
      intro h
      cases h; omega
    · rw [if_neg hji]
      rw [getD_set_ne false (Ne.symm hji)] at hl
      by_cases hki : k' = i
      · subst hki
        rw [if_pos rfl]
        obtain ⟨e1, e2⟩ := hal ak
        obtain ⟨g, e3, e4⟩ := hg j hj hl aj
        rw [e1, e3]
        intro h
        cases h; omega
      · rw [if_neg hki]
        rw [getD_set_ne false (Ne.symm hki)] at hl'
        exact hd j k' hj hk' hjk hl hl' aj ak

theorem wpAny_of_facts {n : Nat} {fl : List Nat} {Q : Exit → Act → World → Prop} {F : Nat → Value → World → Prop} {AL : Nat → Bool} {w0 : World} {a0 : Act} (hB : headB md ops fl n = true)
    (hQ : ∀ c (a : Act) (d : Tmp) v w, Q (.panic c) (a.put (some d) v) w → Q (.panic c) a w)
    (hF : ∀ i v w1 w2, F i v w1 → Below w1.heap.size w1 w2 → F i v w2)
    (hstep : ∀ i o, i < n → ops[i]? = some o → ∀ (vals : Nat → Value) (w1 : World), Below w0.heap.size w0 w1 → (∀ j, Region.waitsFor md ops i j = true → F j (vals j) w1) →
      if fl.contains i then StepPure P o (putsTo ops (fun _ => true) vals a0 n) (fun v => Leaves F AL i w1 v w1) else StepG P ops o (putsTo ops (fun _ => true) vals a0 n) w1 (Leaves F AL i w1))
    (hend : ∀ (vals : Nat → Value) (w1 : World), Below w0.heap.size w0 w1 → (∀ i, i < n → F i (vals i) w1) → (∀ i j, i < n → j < n → i ≠ j → AL i = true → AL j = true → vals i ≠ vals j) →
      wpList P ops Q (ops.toList.drop n) (putsTo ops (fun _ => true) vals a0 n) w1) :
    ∀ (m : Nat) (listed : Array Bool) (a : Act) (w : World), unl listed n = m → DrawInv md ops n F AL w0 a0 listed a w → wpAny P md ops Q (m + (ops.size - n)) listed a w := by
  have hB' := hB
  unfold headB at hB'
  simp only [Bool.and_eq_true, decide_eq_true_eq] at hB'
  obtain ⟨⟨⟨⟨⟨hsel, hn⟩, ⟨hs, hfb⟩, hfn⟩, hc⟩, _⟩, hseq⟩ := hB'
  intro m
  induction m with
  | zero =>
    intro listed a w hm inv
    have hall := unl_zero n hm
    obtain ⟨vals, rfl, hv, _, hd⟩ := inv.vals
    have hl : listed = (Array.range ops.size).map fun i => decide (i < n) := by
      apply Array.ext
      · simp [inv.head.size]
      · intro j h1 h2
        simp only [Array.getElem_map, Array.getElem_range]
        by_cases hj : j < n
        · have := hall j hj
          simp [h1] at this; rw [this, decide_eq_true hj]
        · have hjs : j < ops.size := by rw [← inv.head.size]; exact h1
          have := inv.head.tail j (by omega) hjs
          simp [h1] at this; rw [this, decide_eq_false hj]
    have hend' := hend vals w inv.below (fun i hi => hv i hi (hall i hi)) (fun i j hi hj hij ai aj => hd i j hi hj hij (hall i hi) (hall j hj) ai aj)
    rw [putsTo_congr (l' := fun _ => true) (v' := vals) (fun j hj => ⟨hall j hj, fun _ => rfl⟩)]
    rw [Nat.zero_add]
    have hlen : (ops.toList.drop n).length = ops.size - n := by simp
    have := wpAny_of_seq (P := P) (md := md) (Q' := Q) (ops.toList.drop n) n listed (putsTo ops (fun _ => true) vals a0 n) w (fun j => by simp [List.getElem?_drop]) (by rw [hlen, hl]; exact hseq) hend'
    rwa [hlen] at this
  | succ m ih =>
    intro listed a w hm inv
    have step : ∀ i oi, i ∈ Region.ready md ops listed → i < n → ops[i]? = some oi →
        (execOp a.eval oi = execOp (putsTo ops (fun _ => true) (Classical.choose inv.vals) a0 n).eval oi ∧ Region.wanted oi (yielded ops a.tmps) = Region.wanted oi (yielded ops (putsTo ops (fun _ => true) (Classical.choose inv.vals) a0 n).tmps)) ∧ (∀ j, Region.waitsFor md ops i j = true → F j (Classical.choose inv.vals j) w) ∧ unl (listed.setIfInBounds i true) n = m := by
      intro i oi hi hin hoi
      obtain ⟨ha, hv, _, _⟩ := Classical.choose_spec inv.vals
      obtain ⟨hiu, oi', hoi', hdeps⟩ := mem_ready.1 hi
      have : oi' = oi := Option.some.inj (hoi'.symm.trans hoi)
      subst this
      have ok := headB_ok hB hin hoi
      have his : i < listed.size := by rw [inv.head.size]; exact (Array.getElem?_eq_some_iff.1 hoi).1
      have hwl : ∀ j, Region.waitsFor md ops i j = true → listed.getD j false = true := fun j hj => by
        obtain ⟨o', ho', e, he, hb, hon⟩ := Region.waitsFor_spec hj
        have : o' = oi' := Option.some.inj (ho'.symm.trans hoi)
        subst this
        rw [← hon]; exact hdeps e he hb
      have hwn : ∀ j, Region.waitsFor md ops i j = true → j < n := fun j hj => by
        obtain ⟨o', ho', e, he, hb, hon⟩ := Region.waitsFor_spec hj
        have : o' = oi' := Option.some.inj (ho'.symm.trans hoi)
        subst this
        have := ok.early e he hb; omega
      refine ⟨?_, fun j hj => hv j (hwn j hj) (hwl j hj), by have := unl_set his (getD_both hiu) n hin; omega⟩
      have e := execOp_congr oi' (ρ := (putsTo ops (fun j => listed.getD j false) (Classical.choose inv.vals) a0 n).eval) (ρ' := (putsTo ops (fun _ => true) (Classical.choose inv.vals) a0 n).eval) (fun cs b => Region.noSelect_spec hsel i oi' cs b hoi)
        fun x hx => (putsTo_eval n (fun t ht j hj hdj => hwl j (ok.reads x hx t ht j hj hdj))).1
      have e2 := putsTo_wanted (ops := ops) (l := fun j => listed.getD j false) (vals := Classical.choose inv.vals) (a := a0) (o := oi') n (fun g b hg t ht j hj hdj => by
        obtain ⟨hgn, hw⟩ := ok.guard g b hg
        by_cases hjg : j = g
        · subst hjg; exact hwl _ hw
        · exfalso
          have hgs : g < ops.size := by omega
          have okg := headB_ok hB hgn (Array.getElem?_eq_getElem hgs)
          refine okg.dst j hj hjg t ?_ hdj
          unfold dstOf at ht
          rw [Array.getElem?_eq_getElem hgs] at ht; exact ht)
      rw [← ha] at e e2; exact ⟨e, e2⟩
    obtain ⟨k, hk, hku, hkl⟩ := unl_first (listed := listed) n (by omega)
    have hks : k < listed.size := by rw [inv.head.size]; omega
    have hkt := getD_in hks hku
    have hready : k ∈ Region.ready md ops listed := by
      rw [mem_ready]
      refine ⟨hkt, ops[k]'(by omega), by rw [Array.getElem?_eq_getElem], fun e he hb => ?_⟩
      exact hkl _ ((headB_ok hB hk (Array.getElem?_eq_getElem (by omega))).early e he hb)
    rw [show m + 1 + (ops.size - n) = (m + (ops.size - n)) + 1 by omega]
    by_cases hfl : ∃ i, i < n ∧ i ∈ Region.ready md ops listed ∧ fl.contains i = true
    · obtain ⟨i, hin, hi, hif⟩ := hfl
      obtain ⟨_, oi, hoi, _⟩ := mem_ready.1 hi
      obtain ⟨he, hdp, hu⟩ := step i oi hi hin hoi
      have st := hstep i oi hin hoi (Classical.choose inv.vals) w inv.below hdp
      rw [if_pos hif] at st
      obtain ⟨v, hv, hL⟩ := st
      have hfi := List.all_eq_true.1 hfb i (by simpa using hif)
      rw [hoi] at hfi
      simp only [Bool.and_eq_true] at hfi
      obtain ⟨hgn, hfi⟩ := hfi
      have hgn : oi.guard = none := by simpa using hgn
      refine wpAny_first hoi (Region.noSelect_spec hsel) (fun c a w h => by
        cases hd : oi.dst with
        | none => rw [hd] at h; exact h
        | some d => rw [hd] at h; exact hQ c a d v w h) _ listed a w ?_ hi (.inl ⟨by simp [Region.wanted, hgn], fun w' => by rw [he.1]; exact hv w'⟩) (ih _ _ _ hu (inv.next hB hF hi hin hoi hL))
      intro j oj hj hji hun hno
      have h1 := List.all_eq_true.1 hfi j (List.mem_range.2 (Array.getElem?_eq_some_iff.1 hj).1)
      rw [hj] at h1
      simp only [Bool.or_eq_true, beq_iff_eq, hji, false_or] at h1
      rcases h1 with (h1 | h1) | h1
      · obtain ⟨o', ho', e, he, hb, hon⟩ := Region.waitsFor_spec h1
        have : o' = oj := Option.some.inj (ho'.symm.trans hj)
        subst this
        exact absurd hon (hno e he hb)
      · obtain ⟨o', ho', e, he, hb, hon⟩ := Region.waitsFor_spec h1
        obtain ⟨_, o2, ho2, hall⟩ := mem_ready.1 hi
        have : o' = o2 := Option.some.inj (ho'.symm.trans ho2)
        subst this
        have := hall e he hb
        rw [hon, getD_both hun] at this; cases this
      · exact h1
    · have hkf : fl.contains k = false := by
        cases h : fl.contains k with
        | false => rfl
        | true => exact absurd ⟨k, hk, hready, h⟩ hfl
      refine ⟨fun h0 => (by rw [h0] at hready; cases hready), fun i hi => ?_⟩
      have hin : i < n := by
        rcases Nat.lt_or_ge i n with h | h
        · exact h
        · exact absurd hi (tail_waitsF hs hc hn inv.head _ k rfl hk hkf hkt i h)
      obtain ⟨_, oi, hoi, _⟩ := mem_ready.1 hi
      obtain ⟨he, hdp, hu⟩ := step i oi hi hin hoi
      have st := hstep i oi hin hoi (Classical.choose inv.vals) w inv.below hdp
      rw [if_neg (fun h => hfl ⟨i, hin, hi, h⟩)] at st
      refine wpOp_of_stepG hoi he.2 he.1 st ?_
      intro v w' hL
      exact ih _ _ _ hu (inv.next hB hF hi hin hoi hL)

/-- a list of facts, one for each operation from number i on; A: the frame with all values of the head -/
def stepsOK (P : Program) (md : Region.Mode) (ops : Array Oper) (fl : List Nat) (F : Nat → Value → World → Prop) (AL : Nat → Bool) (w0 : World) (A : (Nat → Value) → Act) : List Oper → Nat → Prop
  | [], _ => True
  | o :: l, i => (∀ (vals : Nat → Value) (w1 : World), Below w0.heap.size w0 w1 → (∀ j, Region.waitsFor md ops i j = true → F j (vals j) w1) →
      if fl.contains i then StepPure P o (A vals) (fun v => Leaves F AL i w1 v w1) else StepG P ops o (A vals) w1 (Leaves F AL i w1)) ∧
    stepsOK P md ops fl F AL w0 A l (i + 1)
theorem stepsOK_at {fl : List Nat} {F : Nat → Value → World → Prop} {AL : Nat → Bool} {w0 : World} {A : (Nat → Value) → Act} : ∀ (l : List Oper) (i : Nat), stepsOK P md ops fl F AL w0 A l i → ∀ k o, l[k]? = some o →
    ∀ (vals : Nat → Value) (w1 : World), Below w0.heap.size w0 w1 → (∀ j, Region.waitsFor md ops (i + k) j = true → F j (vals j) w1) →
      if fl.contains (i + k) then StepPure P o (A vals) (fun v => Leaves F AL (i + k) w1 v w1) else StepG P ops o (A vals) w1 (Leaves F AL (i + k) w1)
  | [], _, _, k, o, h => by simp at h
  | x :: l, i, hs, 0, o, h => by
    simp at h; subst h
    exact hs.1
  | x :: l, i, hs, k + 1, o, h => by
    have := stepsOK_at l (i + 1) hs.2 k o (by simpa using h)
    rw [show i + 1 + k = i + (k + 1) by omega] at this
    exact this
/-- the law: whatever the order, each operation of the head leaves its fact; behind them the rest is walked -/
theorem wp_region_facts {id : Nat} {Q : Exit → Act → World → Prop} {a : Act} {w : World} {l : List Oper} {A : (Nat → Value) → Act} (n : Nat) (fl : List Nat) (hm : P.follows .mixedOrders = true) (F : Nat → Value → World → Prop) (AL : Nat → Bool)
    (hB : headB .any l.toArray fl n = true)
    (hQ : ∀ c (a : Act) (d : Tmp) v w, Q (.panic c) (a.put (some d) v) w → Q (.panic c) a w)
    (hF : ∀ i v w1 w2, F i v w1 → Below w1.heap.size w1 w2 → F i v w2)
    (hA : ∀ vals : Nat → Value, putsTo l.toArray (fun _ => true) vals a n = A vals)
    (hstep : stepsOK P .any l.toArray fl F AL w A (l.take n) 0)
    (hend : ∀ (vals : Nat → Value) (w1 : World), Below w.heap.size w w1 → (∀ i, i < n → F i (vals i) w1) → (∀ i j, i < n → j < n → i ≠ j → AL i = true → AL j = true → vals i ≠ vals j) →
      wpList P l.toArray Q (l.drop n) (A vals) w1) : (Code.region id l.toArray true).wp P Q a w := by
  refine wp_region_any hm ?_
  have hB' := hB
  unfold headB at hB'
  simp only [Bool.and_eq_true, decide_eq_true_eq] at hB'
  have hn : n < l.toArray.size := hB'.1.1.1.1.2
  have hu : ∀ k, unl (Array.replicate l.toArray.size false) k = k := fun k => by
    induction k with
    | zero => rfl
    | succ k ih => unfold unl; rw [ih, getD_replicate_false]; rfl
  have key := wpAny_of_facts (P := P) (Q := Q) (F := F) (AL := AL) (w0 := w) (a0 := a) hB hQ hF (fun i o hi ho vals w1 hb hd => by
      have := stepsOK_at (l.take n) 0 hstep i o (by
        rw [List.getElem?_take, if_pos hi]; simpa using ho)
      rw [Nat.zero_add] at this; rw [hA]; exact this vals w1 hb hd) (fun vals w1 hb hf hd => by rw [hA]; simpa using hend vals w1 hb hf hd) n (Array.replicate l.toArray.size false) a { w with drawn := w.drawn + 1 } (hu n)
    ⟨⟨by simp, fun j oj _ hl => (by rw [getD_replicate_false] at hl; cases hl), fun t _ ht => getD_in (by simpa using ht) (getD_replicate_false _ _)⟩,
      (Below.refl w.heap.size w).drew, fun _ => undef, by
        have : ∀ k, putsTo l.toArray (fun j => (Array.replicate l.toArray.size false).getD j false) (fun _ => undef) a k = a := fun k => by
          induction k with
          | zero => rfl
          | succ k ih => unfold putsTo; rw [if_neg (by rw [getD_replicate_false]; decide), ih]
        exact (this n).symm, fun j _ hl => (by rw [getD_replicate_false] at hl; cases hl), fun j _ hl => (by rw [getD_replicate_false] at hl; cases hl), fun j _ _ _ _ hl => (by rw [getD_replicate_false] at hl; cases hl)⟩
  rw [show n + (l.toArray.size - n) = l.toArray.size by omega] at key
  exact key
section
variable {fl : List Nat} {F : Nat → Value → World → Prop} {AL : Nat → Bool} {w0 : World} {A : (Nat → Value) → Act} {i : Nat} {o : Oper} {l : List Oper}
theorem stepsOK_nil : stepsOK P md ops fl F AL w0 A [] i := trivial
theorem stepsOK_cons (hi : fl.contains i = false) (hg : o.guard = none)
    (h : ∀ (vals : Nat → Value) (w1 : World), Below w0.heap.size w0 w1 → (∀ j, Region.waitsFor md ops i j = true → F j (vals j) w1) → StepOK P o (A vals) w1 (Leaves F AL i w1))
    (hl : stepsOK P md ops fl F AL w0 A l (i + 1)) : stepsOK P md ops fl F AL w0 A (o :: l) i := ⟨fun vals w1 hb hd => by rw [if_neg (by rw [hi]; decide)]; unfold StepG; rw [if_pos (by simp [Region.wanted, hg])]; exact h vals w1 hb hd, hl⟩
theorem stepsOK_pure (hi : fl.contains i = true)
    (h : ∀ (vals : Nat → Value) (w1 : World), Below w0.heap.size w0 w1 → (∀ j, Region.waitsFor md ops i j = true → F j (vals j) w1) → StepPure P o (A vals) (fun v => Leaves F AL i w1 v w1))
    (hl : stepsOK P md ops fl F AL w0 A l (i + 1)) : stepsOK P md ops fl F AL w0 A (o :: l) i := ⟨fun vals w1 hb hd => by rw [if_pos hi]; exact h vals w1 hb hd, hl⟩
end
theorem stepPure_value {o : Oper} {a : Act} {v : Value} {R : Value → Prop} (h : ∀ w, (execOp a.eval o).run P w = .ok (.value v) w) (hR : R v) : StepPure P o a R := ⟨v, h, hR⟩
theorem stepOK_value {o : Oper} {a : Act} {w w' : World} {v : Value} {R : Value → World → Prop} (h : (execOp a.eval o).run P w = .ok (.value v) w') (hR : R v w') : StepOK P o a w R := by
  unfold StepOK; rw [h]; exact hR
theorem stepOK_call {o : Oper} {a : Act} {w w' : World} {f : FuncId} {args : Array Value} {R : Value → World → Prop} (h : (execOp a.eval o).run P w = .ok (.enter f args) w')
    (hR : Calls P f args w' fun e w'' => ∃ v, e = .returned v ∧ R v w'') : StepOK P o a w R := by
  unfold StepOK; rw [h]; exact hR
end
/-- facts that later operations keep -/
def MonoF (p : Value → World → Prop) : Prop := ∀ v w1 w2, p v w1 → Below w1.heap.size w1 w2 → p v w2
def Fl (l : List (Value → World → Prop)) (i : Nat) : Value → World → Prop := l.getD i fun _ _ => True
theorem monoL {l : List (Value → World → Prop)} (h : ∀ p ∈ l, MonoF p) (i : Nat) (v : Value) (w1 w2 : World) (h1 : Fl l i v w1) (hb : Below w1.heap.size w1 w2) : Fl l i v w2 := by
  unfold Fl at *
  rw [List.getD_eq_getElem?_getD] at *
  cases hi : l[i]? with
  | none => trivial
  | some p =>
    rw [hi] at h1
    exact h p (List.mem_of_getElem? hi) v w1 w2 h1 hb
theorem monoN : ∀ p ∈ ([] : List (Value → World → Prop)), MonoF p := fun _ h => by cases h
theorem monoC {p : Value → World → Prop} {l : List (Value → World → Prop)} (hp : MonoF p) (h : ∀ p ∈ l, MonoF p) : ∀ q ∈ p :: l, MonoF q := fun q hq => by
  rcases List.mem_cons.1 hq with rfl | hq
  · exact hp
  · exact h q hq
def KEq (c : Value) : Value → World → Prop := fun v _ => v = c
theorem kEq (c : Value) : MonoF (KEq c) := fun _ _ _ h _ => h
end Go.Proofs.Ytaefimegiobkmaa
/-
  Statements of open order over fractions: the facts that operations leave.
  Conditions: each theorem's own.
-/
namespace Go.Proofs.Ytaefimegiobkmaa
open Go.RowKit Go.ChangeShapes Go.WideShapes

def KIs (q : Rat) : Value → World → Prop := fun v w => IsR w v q
theorem kIs (q : Rat) : MonoF (KIs q) := fun _ _ _ h hb => IsR.below h hb
/-- a fraction and an error -/
def KRE (q : Rat) (er : Value) : Value → World → Prop := fun v w => ∃ b, v = .tuple #[b, er] ∧ IsR w b q
theorem kRE (q : Rat) (er : Value) : MonoF (KRE q er) := fun _ _ _ ⟨b, h1, h2⟩ hb => ⟨b, h1, h2.below hb⟩
theorem below_lt {w1 : World} {g : Nat} {o : Obj} (h : w1.heap[g]? = some o) : g < w1.heap.size := (Array.getElem?_eq_some_iff.1 h).1
/-! what a store of a fraction into a variable keeps -/
section
variable {w w' : World} {g : Nat} {x y z v : Value} {s s' : Bool} {o p : Option Addr} {n c m d : Nat} {T : TypeId} {q : Rat} {a b : List Nat}
end
end Go.Proofs.Ytaefimegiobkmaa
/-
  Intervals in memory: what a value reads as, what a call hands back; six cells side by side.
  Conditions: none beyond each theorem's own.
-/
namespace Go.Proofs.Ytaefimegiobkmaa
open Go.RowKit Go.ChangeShapes Go.WideShapes

/-- the value reads as two fractions with these fields -/
def SpV (w : World) (v : Value) (s : Bool) (a b : List Nat) (t : Bool) (c d : List Nat) : Prop :=
  ∃ x0 x1 x2 x3 x4 x5, v = .agg #[x0, x1, x2, x3, x4, x5] ∧ RatV w (.agg #[x0, x1, x2]) s a b ∧ RatV w (.agg #[x3, x4, x5]) t c d
/-- the interval as which the fields count -/
def sq (s : Bool) (a b : List Nat) (t : Bool) (c d : List Nat) : Rat × Rat :=
  if Vld s a b ∧ Vld t c d ∧ rq s a b ≤ rq t c d then (rq s a b, rq t c d) else (0, 0)
/-- the value reads as the valid form of the interval -/
def IsSp (w : World) (v : Value) (S : Rat × Rat) : Prop :=
  ∃ x0 x1 x2 x3 x4 x5, v = .agg #[x0, x1, x2, x3, x4, x5] ∧ IsR w (.agg #[x0, x1, x2]) S.1 ∧ IsR w (.agg #[x3, x4, x5]) S.2
/-- the value reads as an interval of any fields that counts as S, its words not too many -/
def SpIs (w : World) (v : Value) (S : Rat × Rat) : Prop :=
  ∃ s a b t c d, SpV w v s a b t c d ∧ sq s a b t c d = S ∧ a.length ≤ 40000 ∧ b.length ≤ 40000 ∧ c.length ≤ 40000 ∧ d.length ≤ 40000
theorem SpV.below {w w' : World} {v : Value} {s t : Bool} {a b c d : List Nat} (h : SpV w v s a b t c d) (hb : Below w.heap.size w w') : SpV w' v s a b t c d := by
  obtain ⟨x0, x1, x2, x3, x4, x5, e, h1, h2⟩ := h
  exact ⟨x0, x1, x2, x3, x4, x5, e, h1.below hb, h2.below hb⟩
theorem IsSp.below {w w' : World} {v : Value} {S : Rat × Rat} (h : IsSp w v S) (hb : Below w.heap.size w w') : IsSp w' v S := by
  obtain ⟨x0, x1, x2, x3, x4, x5, e, h1, h2⟩ := h
  exact ⟨x0, x1, x2, x3, x4, x5, e, h1.below hb, h2.below hb⟩
theorem SpIs.below {w w' : World} {v : Value} {S : Rat × Rat} (h : SpIs w v S) (hb : Below w.heap.size w w') : SpIs w' v S := by
  obtain ⟨s, a, b, t, c, d, h1, h2⟩ := h
  exact ⟨s, a, b, t, c, d, h1.below hb, h2⟩
theorem sq_ok (s : Bool) (a b : List Nat) (t : Bool) (c d : List Nat) : (sq s a b t c d).1 ≤ (sq s a b t c d).2 := by
  unfold sq; split
  · rename_i h; exact h.2.2
  · exact Rat.le_refl
theorem SpIs.ok {w : World} {v : Value} {S : Rat × Rat} (h : SpIs w v S) : S.1 ≤ S.2 := by
  obtain ⟨s, a, b, t, c, d, h1, h2, _⟩ := h
  rw [← h2]; exact sq_ok _ _ _ _ _ _
theorem IsSp.is {w : World} {v : Value} {S : Rat × Rat} (h : IsSp w v S) (hle : S.1 ≤ S.2) (l1 : rl S.1 ≤ 40000) (l2 : rl S.2 ≤ 40000) : SpIs w v S := by
  obtain ⟨x0, x1, x2, x3, x4, x5, e, h1, h2⟩ := h
  refine ⟨_, _, _, _, _, _, ⟨x0, x1, x2, x3, x4, x5, e, h1, h2⟩, ?_, Nat.le_trans (rl_n _) l1, Nat.le_trans (dn_len _) l1, Nat.le_trans (rl_n _) l2, Nat.le_trans (dn_len _) l2⟩
  obtain ⟨v1, e1⟩ := vld_self S.1
  obtain ⟨v2, e2⟩ := vld_self S.2
  unfold sq
  rw [e1, e2, if_pos ⟨v1, v2, hle⟩]
theorem SpV.lt {w : World} {v : Value} {s t : Bool} {a b c d : List Nat} (h : SpV w v s a b t c d) : (U32 a ∧ U32 b) ∧ U32 c ∧ U32 d := by
  obtain ⟨x0, x1, x2, x3, x4, x5, e, h1, h2⟩ := h
  exact ⟨h1.lt, h2.lt⟩
theorem rl_sq {s t : Bool} {a b c d : List Nat} {L : Nat} (ha : U32 a) (hb : U32 b) (hc : U32 c) (hd : U32 d) (h1 : a.length ≤ L) (h2 : b.length ≤ L) (h3 : c.length ≤ L) (h4 : d.length ≤ L) (hL : 1 ≤ L) : rl (sq s a b t c d).1 ≤ L ∧ rl (sq s a b t c d).2 ≤ L := by
  unfold sq; split
  · exact ⟨rl_rq ha hb h1 h2 hL, rl_rq hc hd h3 h4 hL⟩
  · show rl 0 ≤ L ∧ rl 0 ≤ L
    rw [rl_zero]; exact ⟨hL, hL⟩
theorem SpIs.rl {w : World} {v : Value} {S : Rat × Rat} (h : SpIs w v S) : rl S.1 ≤ 40000 ∧ rl S.2 ≤ 40000 := by
  obtain ⟨s, a, b, t, c, d, h0, rfl, h1, h2, h3, h4⟩ := h
  obtain ⟨⟨u1, u2⟩, u3, u4⟩ := h0.lt
  exact rl_sq u1 u2 u3 u4 h1 h2 h3 h4 (by decide)
theorem SpV.shape {w : World} {v : Value} {s₀ t₀ : Bool} {a₀ b₀ c₀ d₀ : List Nat} (h : SpV w v s₀ a₀ b₀ t₀ c₀ d₀) : ∃ s ao n c bo m d s' ao' n' c' bo' m' d', v = .agg #[.bool s, .slice ao n c, .slice bo m d, .bool s', .slice ao' n' c', .slice bo' m' d'] := by
  obtain ⟨x0, x1, x2, x3, x4, x5, e, ⟨va, vb, e1, h1, h2⟩, ⟨vc, vd, e2, h3, h4⟩⟩ := h
  have e1' : x0 = .bool s₀ ∧ x1 = va ∧ x2 = vb := by simpa using e1
  have e2' : x3 = .bool t₀ ∧ x4 = vc ∧ x5 = vd := by simpa using e2
  obtain ⟨rfl, rfl, rfl⟩ := e1'
  obtain ⟨rfl, rfl, rfl⟩ := e2'
  obtain ⟨o1, c1, rfl, _⟩ := h1.shape
  obtain ⟨o2, c2, rfl, _⟩ := h2.shape
  obtain ⟨o3, c3, rfl, _⟩ := h3.shape
  obtain ⟨o4, c4, rfl, _⟩ := h4.shape
  exact ⟨_, _, _, _, _, _, _, _, _, _, _, _, _, _, e⟩
theorem SpIs.shape {w : World} {v : Value} {S : Rat × Rat} (h : SpIs w v S) : ∃ s ao n c bo m d s' ao' n' c' bo' m' d', v = .agg #[.bool s, .slice ao n c, .slice bo m d, .bool s', .slice ao' n' c', .slice bo' m' d'] := by
  obtain ⟨s, a, b, t, c, d, h1, _⟩ := h
  exact h1.shape
theorem IsSp.shape {w : World} {v : Value} {S : Rat × Rat} (h : IsSp w v S) : ∃ s ao n c bo m d s' ao' n' c' bo' m' d', v = .agg #[.bool s, .slice ao n c, .slice bo m d, .bool s', .slice ao' n' c', .slice bo' m' d'] := SpV.shape h
/-! six cells -/
/-- cells from a place on are written -/
def putL (w : World) (g : Nat) : Nat → List Value → World
  | _, [] => w
  | off, x :: l => putL (w.setCell ⟨g, off, none⟩ x) g (off + 1) l
theorem putL_ne {g p : Nat} (h : p ≠ g) : ∀ (l : List Value) (w : World) (off : Nat), (putL w g off l).heap[p]? = w.heap[p]?
  | [], _, _ => rfl
  | x :: l, w, off => by
    unfold putL; rw [putL_ne h l, Below.heap_setCell _ _ _ _ h]
theorem putL_size : ∀ (l : List Value) (w : World) (g off : Nat), (putL w g off l).heap.size = w.heap.size
  | [], _, _, _ => rfl
  | x :: l, w, g, off => by
    unfold putL; rw [putL_size l]; simp [World.setCell]
theorem putL_below {w0 : World} {B g : Nat} (hg : B ≤ g) : ∀ (l : List Value) (w : World) (off : Nat), Below B w0 w → Below B w0 (putL w g off l)
  | [], _, _, h => h
  | x :: l, w, off, h => by
    unfold putL; exact putL_below hg l _ _ (h.setCell hg x)
/-- cells that hold no words -/
def noW (cs : Array Value) : Prop := ∀ (j : Nat) (n : Int), cs[j]? ≠ some (.int .u32 n)
theorem putL_num {w w' : World} {g off : Nat} {l : List Value} {cs : Array Value} {T : TypeId} {v : Value} {k : List Nat} (hw : w' = putL w g off l) (hn : Num w v k) (h : w.heap[g]? = some (.cells cs T)) (hc : noW cs) : Num w' v k := by
  obtain ⟨ao, c, rfl, h1, h2, h3, h4, h5⟩ := hn
  refine ⟨ao, c, rfl, h1, h2, h3, ?_, h5⟩
  intro b' o s hs
  obtain ⟨k1, k2⟩ := h4 b' o s hs
  have hsz : w'.heap.size = w.heap.size := by rw [hw, putL_size]
  refine ⟨fun h0 => by rw [hsz]; exact k1 h0, fun j hj => ?_⟩
  by_cases he : b' = g
  · subst he
    have := k2 j hj
    have hx : w.cell? ⟨b', o + j, none⟩ = cs[o + j]? := by
      unfold World.cell?; simp only [h]; rfl
    rw [hx] at this
    exact absurd this (hc _ _)
  · rw [← k2 j hj]
    unfold World.cell?
    have e : w'.heap[b']? = w.heap[b']? := by rw [hw, putL_ne he]
    simp only [e]
section
variable {w w' : World} {g off : Nat} {l : List Value} {cs : Array Value} {T : TypeId} {v : Value} {q : Rat} {s t : Bool} {a b c d : List Nat} {S : Rat × Rat}
theorem putL_V (hw : w' = putL w g off l) (h : RatV w v s a b) (hg : w.heap[g]? = some (.cells cs T)) (hc : noW cs) : RatV w' v s a b := by
  obtain ⟨va, vb, e, h1, h2⟩ := h
  exact ⟨va, vb, e, putL_num hw h1 hg hc, putL_num hw h2 hg hc⟩
theorem putL_I (hw : w' = putL w g off l) (h : IsR w v q) (hg : w.heap[g]? = some (.cells cs T)) (hc : noW cs) : IsR w' v q := putL_V hw h hg hc
end
theorem noW3 {s : Bool} {o p : Option Addr} {n c m d : Nat} : noW #[.bool s, .slice o n c, .slice p m d] := by
  intro j n; match j with
  | 0 => simp
  | 1 => simp
  | 2 => simp
  | j + 3 => simp
theorem putL_r {w : World} {g : Nat} {x0 x1 x2 y0 y1 y2 : Value} {T : TypeId} (h : w.heap[g]? = some (.cells #[x0, x1, x2] T)) : (putL w g 0 [y0, y1, y2]).heap[g]? = some (.cells #[y0, y1, y2] T) := by
  simp [putL, World.setCell, Array.getElem?_modify, h]
theorem putLx {w w' : World} {g p off : Nat} {l : List Value} {o : Obj} (hw : w' = putL w g off l) (h : w.heap[p]? = some o) (hp : p ≠ g) : w'.heap[p]? = some o := by
  rw [hw, putL_ne hp]; exact h
theorem putLb {w0 w w' : World} {B g off : Nat} {l : List Value} (hw : w' = putL w g off l) (h : Below B w0 w) (hg : B ≤ g) : Below B w0 w' := by
  rw [hw]; exact putL_below hg _ _ _ h
end Go.Proofs.Ytaefimegiobkmaa
/-
  Stores of several cells, one operation at a time: the walk stands before a store, the store's law names the world behind it.
  Conditions: each theorem's own.
-/
namespace Go.Proofs.Ytaefimegiobkmaa
open Go.RowKit Go.ChangeShapes Go.WideShapes

/-- the walk stands here -/
def Pause (p : Prop) : Prop := p
theorem Pause.mk {p : Prop} (h : p) : Pause p := h
theorem wpList_pauseS {P : Program} {ops : Array Oper} {rest : List Oper} {a : Act} {w : World} {Q : Exit → Act → World → Prop} {d : Option Tmp} {ty tt : TypeId} {x y : Operand} {pos : String} {af : Array Edge}
    (h : Pause (wpList P ops Q (⟨d, .store ty x y, tt, pos, af, none⟩ :: rest) a w)) : wpList P ops Q (⟨d, .store ty x y, tt, pos, af, none⟩ :: rest) a w := h
theorem putL_eq : ∀ (l : List Value) (w : World) (g off : Nat), w.setCells g off l = putL w g off l
  | [], _, _, _ => rfl
  | x :: l, w, g, off => by unfold putL World.setCells; exact putL_eq l _ _ _
theorem there_row {w : World} {g : Nat} {cs : Array Value} {T : TypeId} (h : w.heap[g]? = some (.cells cs T)) {off n : Nat} (hn : off + n ≤ cs.size) : w.there g off n := by
  intro j hj
  refine ⟨?_, ?_⟩
  · rw [cell_of_row w g (off + j) cs T (0, 0) h, Array.getElem?_eq_getElem (show off + j < cs.size by omega)]; rfl
  · simp [World.frozen?, h]
theorem wpList_stL {P : Program} {ops : Array Oper} {rest : List Oper} {a : Act} {w : World} {Q : Exit → Act → World → Prop} {ty tt : TypeId} {x y : Operand} {pos : String} {af : Array Edge}
    (g off : Nat) (l : List Value) {cs : Array Value} {T : TypeId} (hg : w.heap[g]? = some (.cells cs T)) (hx : a.eval x = .pointer (some ⟨g, off, none⟩)) (hy : a.eval y = .agg l.toArray)
    (hle : off + l.length ≤ cs.size) (hi : (P.info? ty).map (·.size) = some l.length) (h1 : l.all (fun v => v.oneCell') = true) (hK : ∀ w', w' = putL w g off l → wpList P ops Q rest a w') :
    Pause (wpList P ops Q (⟨none, .store ty x y, tt, pos, af, none⟩ :: rest) a w) := by
  refine wpList_store_mid rfl ty x y rfl g off l.toArray hx hy (there_row hg (by simpa using hle)) (by simpa using hi) (all_oneCell_toArray (fun v hv => List.all_eq_true.1 h1 v hv)) ?_
  exact hK _ (putL_eq _ _ _ _)
theorem pauseCall {P : Program} {f : FuncId} {args : Array Value} {w : World} {R : Ending → World → Prop} (h : Pause (Calls P f args w R)) : Calls P f args w R := h
theorem pauseLoop {P : Program} {b : Code} {Q : Exit → Act → World → Prop} {a : Act} {w : World} (h : Pause (Code.wp P (.loop b) Q a w)) : Code.wp P (.loop b) Q a w := h
theorem pauseDraw {P : Program} {n : Nat} {ops : Array Oper} {Q : Exit → Act → World → Prop} {a : Act} {w : World} (h : Pause (Code.wp P (.region n ops true) Q a w)) : Code.wp P (.region n ops true) Q a w := h
theorem pauseBody {P : Program} {fn : Func} {R : Ending → World → Prop} {x : Exit} {a : Act} {w : World} (h : Pause (bodyPost P fn R x a w)) : bodyPost P fn R x a w := h
theorem pauseRounds {P : Program} {b : Code} {Q : Exit → Act → World → Prop} {n : Nat} {a : Act} {w : World} (h : Pause (Code.rounds P b Q n a w)) : Code.rounds P b Q n a w := h
end Go.Proofs.Ytaefimegiobkmaa
