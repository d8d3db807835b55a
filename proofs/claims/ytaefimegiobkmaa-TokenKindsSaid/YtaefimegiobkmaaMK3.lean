/-
  The texts Rat8, TokVal, SpanMath, Draw, DrawR, Span0, Step, TokV1, Rat13, ShelfR, Cut, RatMath4, TokV2, TokV3, SpanMath2, TokV4, ShelfB, TokPlace, TokMath6, TokMath7, TokV6, Close, one behind the other (what the law leans on).
  Conditions: each theorem's own.
-/
import Derived.Deep.MidRow
import Derived.Shelf.Strings.LastIndex
import Derived.Lib.Join
import Derived.Carry
import Derived.ShutString
import Derived.OpenShut
import Derived.Test.YtaefimegiobkmaaMK2
/-
  rational.Div, Floor, Round, Power: what they hand back.
  Conditions: each theorem's own.
-/
namespace Go.Proofs.Ytaefimegiobkmaa
open Go.RowKit Go.ChangeShapes Go.WideShapes

/-- the number of the error of a division -/
def dc (q : Rat) : Nat := if q = 0 then 8 else 0
theorem div_zero_rat (p : Rat) : p / 0 = 0 := by grind
set_option maxRecDepth 100000 in
set_option maxHeartbeats 3200000 in
theorem div_ok (vp : Value) (p : Rat) (vq : Value) (q : Rat) (w : World) (hp : RatIs w vp p) (hq : RatIs w vq q) (h0 : q ≠ 0) :
    Calls Try.prog 23 #[vp, vq] w (RetRE w (p / q) (errV 0)) := by
  obtain ⟨sp, op, np, cp, ap, mp, dp, rfl⟩ := hp.shape
  have hlp := hp.rl
  obtain ⟨sq, oq, nq, cq, aq, mq, dq, rfl⟩ := hq.shape
  have hlq := hq.rl
  rw [errV_zero]
  have hb0 := ((((Below.refl w.heap.size w).alloc (by first | (simp; done) | (simp; omega)) (.cells #[.bool sp, .slice op np cp, .slice ap mp dp] 32)).alloc (by first | (simp; done) | (simp; omega)) (.cells #[.bool sq, .slice oq nq cq, .slice aq mq dq] 32)).alloc (by first | (simp; done) | (simp; omega)) (.cells #[.bool false, .slice none 0 0, .slice none 0 0] 32))
  have hxp := nest3_0 w (.cells #[.bool sp, .slice op np cp, .slice ap mp dp] 32) (.cells #[.bool sq, .slice oq nq cq, .slice aq mq dq] 32) (.cells #[.bool false, .slice none 0 0, .slice none 0 0] 32)
  have hxq := nest3_1 w (.cells #[.bool sp, .slice op np cp, .slice ap mp dp] 32) (.cells #[.bool sq, .slice oq nq cq, .slice aq mq dq] 32) (.cells #[.bool false, .slice none 0 0, .slice none 0 0] 32)
  have hxR := nest3_2 w (.cells #[.bool sp, .slice op np cp, .slice ap mp dp] 32) (.cells #[.bool sq, .slice oq nq cq, .slice aq mq dq] 32) (.cells #[.bool false, .slice none 0 0, .slice none 0 0] 32)
  have hpp := hp.below hb0
  have hpq := hq.below hb0
  obtain ⟨w0, hw0⟩ : ∃ w0, w0 = (((w.alloc (.cells #[.bool sp, .slice op np cp, .slice ap mp dp] 32)).alloc (.cells #[.bool sq, .slice oq nq cq, .slice aq mq dq] 32)).alloc (.cells #[.bool false, .slice none 0 0, .slice none 0 0] 32)) := ⟨_, rfl⟩
  rw [← hw0] at hb0 hxp hxq hxR hpp hpq
  have HB0 := Lib.hid hb0; have HW0 := Lib.hid hw0
  have BXp := Lib.hid hxp
  have BXq := Lib.hid hxq
  have BXR := Lib.hid hxR
  have Fp := Lib.hid hpp
  have Fq := Lib.hid hpq
  clear hb0 hw0 hxp hxq hxR hpp hp hpq hq
  have l1 := rl_n p; have l2 := rl_d p; have l3 := rl_n q; have l4 := rl_d q
  have L1 : (wd (nn p * q.den)).length ≤ 200000 := by have := wd_mul_len (nn p) q.den; omega
  have L2 : (wd (p.den * nn q)).length ≤ 200000 := by have := wd_mul_len p.den (nn q); omega
  have hn0 : nn q ≠ 0 := fun e => h0 (nn_eq_zero.1 e)
  have heq := q_div' p q h0
  have hz : (((wd (nn q)).length : Int) == 0) = false := by rw [beq_eq_false_iff_ne]; intro h; exact wd_ne hn0 (List.eq_nil_of_length_eq_zero (by omega))
  obtain ⟨L, hL⟩ : ∃ L, L = (wd (nn q)).length := ⟨_, rfl⟩
  rw [← hL] at hz
  have HL := Lib.hid hL; have HEQ := Lib.hid heq; have HN0 := Lib.hid hn0; clear hL heq hn0 h0
  go_enter Try.func23, Try.ntmps23
  have hs := parts_any _ p w0 Fp.out
  have HS := Lib.hid hs; clear hs
  go_wp2_with fail
  rw [← HW0.out]
  (with_reducible refine HS.out.mono ?_); rintro e w1 ⟨v1, u1, rfl, hb1, hn1, hm1⟩
  clear HS
  have HB1 := Lib.hid (HB0.out.step hb1)
  have Fp := Lib.hid (Fp.out.below hb1)
  have Fq := Lib.hid (Fq.out.below hb1)
  have BXp := Lib.hid (heap_below BXp.out hb1)
  have BXq := Lib.hid (heap_below BXq.out hb1)
  have BXR := Lib.hid (heap_below BXR.out hb1)
  have N := Lib.hid hn1
  have D := Lib.hid hm1
  clear hn1 hm1
  clear hb1
  have hs := parts_any _ q w1 Fq.out
  have HS := Lib.hid hs; clear hs
  obtain ⟨eq0, eq1, eq2⟩ := row3 BXq.out
  go_wp2_with fail
  clear eq0 eq1 eq2
  (with_reducible refine HS.out.mono ?_); rintro e w2 ⟨v2, u2, rfl, hb2, hn2, hm2⟩
  clear HS
  obtain ⟨mo, mc, rfl, _, _, _⟩ := hn2.shape
  rw [← HL.out] at hn2 ⊢
  have HB2 := Lib.hid (HB1.out.step hb2)
  have Fp := Lib.hid (Fp.out.below hb2)
  have Fq := Lib.hid (Fq.out.below hb2)
  have N := Lib.hid (N.out.below hb2)
  have D := Lib.hid (D.out.below hb2)
  have BXp := Lib.hid (heap_below BXp.out hb2)
  have BXq := Lib.hid (heap_below BXq.out hb2)
  have BXR := Lib.hid (heap_below BXR.out hb2)
  have M := Lib.hid hn2
  have E := Lib.hid hm2
  clear hn2 hm2
  clear hb2
  have hs := mulN N.out E.out (by omega) (by omega)
  have HS := Lib.hid hs; clear hs
  go_wp2_with fail
  (with_reducible refine HS.out.mono ?_); rintro e w3 ⟨v3, rfl, hb3, hn3⟩
  clear HS
  have HB3 := Lib.hid (HB2.out.step hb3)
  have Fp := Lib.hid (Fp.out.below hb3)
  have Fq := Lib.hid (Fq.out.below hb3)
  have N := Lib.hid (N.out.below hb3)
  have D := Lib.hid (D.out.below hb3)
  have M := Lib.hid (M.out.below hb3)
  have E := Lib.hid (E.out.below hb3)
  have BXp := Lib.hid (heap_below BXp.out hb3)
  have BXq := Lib.hid (heap_below BXq.out hb3)
  have BXR := Lib.hid (heap_below BXR.out hb3)
  have X := Lib.hid hn3; clear hn3
  clear hb3
  have hs := mulN D.out M.out (by omega) (by omega)
  have HS := Lib.hid hs; clear hs
  go_wp2_with fail
  (with_reducible refine HS.out.mono ?_); rintro e w4 ⟨v4, rfl, hb4, hn4⟩
  clear HS
  have HB4 := Lib.hid (HB3.out.step hb4)
  have Fp := Lib.hid (Fp.out.below hb4)
  have Fq := Lib.hid (Fq.out.below hb4)
  have N := Lib.hid (N.out.below hb4)
  have D := Lib.hid (D.out.below hb4)
  have M := Lib.hid (M.out.below hb4)
  have E := Lib.hid (E.out.below hb4)
  have X := Lib.hid (X.out.below hb4)
  have BXp := Lib.hid (heap_below BXp.out hb4)
  have BXq := Lib.hid (heap_below BXq.out hb4)
  have BXR := Lib.hid (heap_below BXR.out hb4)
  have Y := Lib.hid hn4; clear hn4
  clear hb4
  have hs := formN (!(ng p == ng q)) X.out Y.out (by omega) (by omega) (den_mul_nz p.den_nz HN0.out)
  rw [HEQ.out] at hs
  have HS := Lib.hid hs; clear hs
  go_wp2_with fail
  (with_reducible refine HS.out.mono ?_); rintro e w5 ⟨v5, rfl, hb5, hn5⟩
  clear HS
  have HB5 := Lib.hid (HB4.out.step hb5)
  have Fp := Lib.hid (Fp.out.below hb5)
  have Fq := Lib.hid (Fq.out.below hb5)
  have N := Lib.hid (N.out.below hb5)
  have D := Lib.hid (D.out.below hb5)
  have M := Lib.hid (M.out.below hb5)
  have E := Lib.hid (E.out.below hb5)
  have X := Lib.hid (X.out.below hb5)
  have Y := Lib.hid (Y.out.below hb5)
  have BXp := Lib.hid (heap_below BXp.out hb5)
  have BXq := Lib.hid (heap_below BXq.out hb5)
  have BXR := Lib.hid (heap_below BXR.out hb5)
  have Q := Lib.hid hn5; clear hn5
  clear hb5
  obtain ⟨sQ, oQ, nQ, cQ, aQ, mQ, dQ, rfl⟩ := Q.out.shape
  obtain ⟨eR0, eR1, eR2⟩ := row3 BXR.out
  obtain ⟨fR0, fR1, fR2⟩ := froz3 BXR.out
  go_wp2_with fail
  clear eR0 eR1 eR2 fR0 fR1 fR2
  refine ret_rat2 rfl (w.heap.size + 2) _ _ _ rfl (put3_heap BXR.out) rfl ?_
  exact ⟨_, rfl, put3_below HB5.out (by omega) _ _ _, isR_put Q.out BXR.out⟩
set_option maxRecDepth 100000 in
set_option maxHeartbeats 3200000 in
theorem div_none (vp : Value) (p : Rat) (vq : Value) (q : Rat) (w : World) (hp : RatIs w vp p) (hq : RatIs w vq q) (h0 : q = 0) :
    Calls Try.prog 23 #[vp, vq] w (RetRE w 0 (errV 8)) := by
  obtain ⟨sp, op, np, cp, ap, mp, dp, rfl⟩ := hp.shape
  have hlp := hp.rl
  obtain ⟨sq, oq, nq, cq, aq, mq, dq, rfl⟩ := hq.shape
  have hlq := hq.rl
  rw [errV_pos (by decide)]
  have hb0 := ((((Below.refl w.heap.size w).alloc (by first | (simp; done) | (simp; omega)) (.cells #[.bool sp, .slice op np cp, .slice ap mp dp] 32)).alloc (by first | (simp; done) | (simp; omega)) (.cells #[.bool sq, .slice oq nq cq, .slice aq mq dq] 32)).alloc (by first | (simp; done) | (simp; omega)) (.cells #[.bool false, .slice none 0 0, .slice none 0 0] 32))
  have hxp := nest3_0 w (.cells #[.bool sp, .slice op np cp, .slice ap mp dp] 32) (.cells #[.bool sq, .slice oq nq cq, .slice aq mq dq] 32) (.cells #[.bool false, .slice none 0 0, .slice none 0 0] 32)
  have hxq := nest3_1 w (.cells #[.bool sp, .slice op np cp, .slice ap mp dp] 32) (.cells #[.bool sq, .slice oq nq cq, .slice aq mq dq] 32) (.cells #[.bool false, .slice none 0 0, .slice none 0 0] 32)
  have hxR := nest3_2 w (.cells #[.bool sp, .slice op np cp, .slice ap mp dp] 32) (.cells #[.bool sq, .slice oq nq cq, .slice aq mq dq] 32) (.cells #[.bool false, .slice none 0 0, .slice none 0 0] 32)
  have hpp := hp.below hb0
  have hpq := hq.below hb0
  obtain ⟨w0, hw0⟩ : ∃ w0, w0 = (((w.alloc (.cells #[.bool sp, .slice op np cp, .slice ap mp dp] 32)).alloc (.cells #[.bool sq, .slice oq nq cq, .slice aq mq dq] 32)).alloc (.cells #[.bool false, .slice none 0 0, .slice none 0 0] 32)) := ⟨_, rfl⟩
  rw [← hw0] at hb0 hxp hxq hxR hpp hpq
  have HB0 := Lib.hid hb0; have HW0 := Lib.hid hw0
  have BXp := Lib.hid hxp
  have BXq := Lib.hid hxq
  have BXR := Lib.hid hxR
  have Fp := Lib.hid hpp
  have Fq := Lib.hid hpq
  clear hb0 hw0 hxp hxq hxR hpp hp hpq hq
  have H0 := Lib.hid h0; clear h0
  go_enter Try.func23, Try.ntmps23
  have hs := parts_any _ p w0 Fp.out
  have HS := Lib.hid hs; clear hs
  go_wp2_with fail
  rw [← HW0.out]
  (with_reducible refine HS.out.mono ?_); rintro e w1 ⟨v1, u1, rfl, hb1, hn1, hm1⟩
  clear HS
  have HB1 := Lib.hid (HB0.out.step hb1)
  have Fp := Lib.hid (Fp.out.below hb1)
  have Fq := Lib.hid (Fq.out.below hb1)
  have BXp := Lib.hid (heap_below BXp.out hb1)
  have BXq := Lib.hid (heap_below BXq.out hb1)
  have BXR := Lib.hid (heap_below BXR.out hb1)
  have N := Lib.hid hn1
  have D := Lib.hid hm1
  clear hn1 hm1
  clear hb1
  have hs := parts_any _ q w1 Fq.out
  have HS := Lib.hid hs; clear hs
  obtain ⟨eq0, eq1, eq2⟩ := row3 BXq.out
  go_wp2_with fail
  clear eq0 eq1 eq2
  (with_reducible refine HS.out.mono ?_); rintro e w2 ⟨v2, u2, rfl, hb2, hn2, hm2⟩
  clear HS
  rw [H0.out, nn_zero, wd_zero] at hn2
  obtain ⟨mo, mc, rfl, _, _, _⟩ := hn2.shape
  rw [List.length_nil] at hn2 ⊢
  have HB2 := Lib.hid (HB1.out.step hb2)
  have Fp := Lib.hid (Fp.out.below hb2)
  have Fq := Lib.hid (Fq.out.below hb2)
  have N := Lib.hid (N.out.below hb2)
  have D := Lib.hid (D.out.below hb2)
  have BXp := Lib.hid (heap_below BXp.out hb2)
  have BXq := Lib.hid (heap_below BXq.out hb2)
  have BXR := Lib.hid (heap_below BXR.out hb2)
  have M := Lib.hid hn2
  have E := Lib.hid hm2
  clear hn2 hm2
  clear hb2
  obtain ⟨eR0, eR1, eR2⟩ := row3 BXR.out
  obtain ⟨fR0, fR1, fR2⟩ := froz3 BXR.out
  go_wp2_with fail
  clear eR0 eR1 eR2 fR0 fR1 fR2
  refine ret_rat2 rfl (w.heap.size + 2) _ _ _ rfl (put3_heap BXR.out) rfl ?_
  exact ⟨_, rfl, put3_below HB2.out (by omega) _ _ _, isR_zero _⟩
theorem divq_any (vp : Value) (p : Rat) (vq : Value) (q : Rat) (w : World) (hp : RatIs w vp p) (hq : RatIs w vq q) :
    Calls Try.prog 23 #[vp, vq] w (RetRE w (p / q) (errV (dc q))) := by
  unfold dc
  by_cases h : q = 0
  · rw [if_pos h, h, div_zero_rat]; rw [h] at hq; exact div_none vp p vq 0 w hp hq rfl
  · rw [if_neg h]; exact div_ok vp p vq q w hp hq h
theorem rl_small {n : Int} (h0 : -9223372036854775808 ≤ n) (h1 : n < 9223372036854775808) : rl (n : Rat) ≤ 2 := by
  rw [rl_int]; have := wd_small (n := n.natAbs) (by omega); omega
end Go.Proofs.Ytaefimegiobkmaa
/-
  The value of a number's text: plain numbers, fractions, decimal fractions.
  Conditions: none beyond each theorem's own.
-/
namespace Go.Proofs.Ytaefimegiobkmaa

/-- a digit's value, the number of some digits -/
def dgQ (b : Nat) : Rat := ((((b : Int) - 48 : Int)) : Rat)
def numQ (l : List Nat) : Rat := l.foldl (fun v b => v * ((10 : Int) : Rat) + dgQ b) 0
theorem numQ_nil : numQ [] = 0 := rfl
theorem numQ_snoc (l : List Nat) (b : Nat) : numQ (l ++ [b]) = numQ l * ((10 : Int) : Rat) + dgQ b := by simp [numQ, List.foldl_append]
def tenQ (k : Nat) : Rat := ((10 : Int) : Rat) ^ k
theorem tenQ_zero : tenQ 0 = ((1 : Int) : Rat) := Rat.pow_zero _
theorem tenQ_succ (k : Nat) : tenQ (k + 1) = tenQ k * ((10 : Int) : Rat) := Rat.pow_succ _ _
theorem tenQ_ne (k : Nat) : tenQ k ≠ 0 := pow_rat_ne _ (by decide) k
theorem numQ_app (a b : List Nat) : numQ (a ++ b) = numQ a * tenQ b.length + numQ b := by
  obtain ⟨n, hn⟩ : ∃ n, n = b.length := ⟨_, rfl⟩
  induction n generalizing b with
  | zero =>
    have hb : b = [] := List.length_eq_zero_iff.1 hn.symm
    subst hb
    rw [List.append_nil, List.length_nil, tenQ_zero, numQ_nil]
    rw [show ((1 : Int) : Rat) = 1 from rfl]; grind
  | succ n ih =>
    obtain ⟨c, x, rfl⟩ : ∃ c x, b = c ++ [x] := by
      have h0 : b ≠ [] := by rintro rfl; simp at hn
      exact ⟨b.dropLast, b.getLast h0, (List.dropLast_concat_getLast h0).symm⟩
    have hc : n = c.length := by simp at hn; omega
    rw [← List.append_assoc, numQ_snoc, numQ_snoc, ih c hc, List.length_append, List.length_singleton, tenQ_succ]
    grind
theorem rl_dg {b : Nat} (h : b < 256) : rl (dgQ b) ≤ 2 := rl_small (by omega) (by omega)
theorem rl_ten : rl ((10 : Int) : Rat) ≤ 2 := rl_small (by decide) (by decide)
theorem rl_numQ (l : List Nat) (h : ∀ b ∈ l, b < 256) : rl (numQ l) ≤ 1 + 5 * l.length := by
  obtain ⟨n, hn⟩ : ∃ n, n = l.length := ⟨_, rfl⟩
  induction n generalizing l with
  | zero =>
    have hb : l = [] := List.length_eq_zero_iff.1 hn.symm
    subst hb; rw [numQ_nil, rl_zero]; omega
  | succ n ih =>
    obtain ⟨c, x, rfl⟩ : ∃ c x, l = c ++ [x] := by
      have h0 : l ≠ [] := by rintro rfl; simp at hn
      exact ⟨l.dropLast, l.getLast h0, (List.dropLast_concat_getLast h0).symm⟩
    have hc : n = c.length := by simp at hn; omega
    have i := ih c (fun b hb => h b (List.mem_append_left _ hb)) hc
    have h1 := rl_add (numQ c * ((10 : Int) : Rat)) (dgQ x)
    have h2 := rl_mul (numQ c) ((10 : Int) : Rat)
    have h3 := rl_ten
    have h4 := rl_dg (h x (by simp))
    rw [numQ_snoc]
    simp only [List.length_append, List.length_singleton]
    omega
theorem rl_tenQ (k : Nat) : rl (tenQ k) ≤ 1 + 2 * k := by
  induction k with
  | zero => rw [tenQ_zero]; rw [show ((1 : Int) : Rat) = 1 from rfl, rl_one]; omega
  | succ k ih =>
    rw [tenQ_succ]
    have h2 := rl_mul (tenQ k) ((10 : Int) : Rat)
    have h3 := rl_ten
    omega

/-- the end of the first digits, the text behind the next byte -/
def nE (l : List Nat) : Nat := run isDigit l 0
def nA (l : List Nat) : List Nat := l.take (nE l)
def nB (l : List Nat) : List Nat := l.drop (nE l + 1)
/-- the text is a number -/
def isNum (l : List Nat) : Prop := l ≠ [] ∧ isDigit (gd l 0) = true ∧ numEnd l 0 = l.length
instance (l : List Nat) : Decidable (isNum l) := by unfold isNum; exact inferInstance
/-- the number of the error, the value -/
def tvC (l : List Nat) : Nat :=
  if 100 < l.length then 4 else if ¬ isNum l then 2 else if nE l < l.length ∧ gd l (nE l) = 47 then dc (numQ (nB l)) else 0
def tvQ (l : List Nat) : Rat :=
  if 100 < l.length then 0 else if ¬ isNum l then 0 else if nE l < l.length ∧ gd l (nE l) = 47 then numQ (nA l) / numQ (nB l) else numQ (nA l) + numQ (nB l) / tenQ (nB l).length
theorem tvC_long {l : List Nat} (h : 100 < l.length) : tvC l = 4 ∧ tvQ l = 0 := by unfold tvC tvQ; rw [if_pos h, if_pos h]; exact ⟨rfl, rfl⟩
theorem tvC_bad {l : List Nat} (h : ¬ 100 < l.length) (h2 : ¬ isNum l) : tvC l = 2 ∧ tvQ l = 0 := by unfold tvC tvQ; rw [if_neg h, if_neg h, if_pos h2, if_pos h2]; exact ⟨rfl, rfl⟩
theorem tvC_slash {l : List Nat} (h : ¬ 100 < l.length) (h2 : isNum l) (h3 : nE l < l.length) (h4 : gd l (nE l) = 47) : tvC l = dc (numQ (nB l)) ∧ tvQ l = numQ (nA l) / numQ (nB l) := by
  unfold tvC tvQ
  have hn : ¬ ¬ isNum l := fun k => k h2
  rw [if_neg h, if_neg hn, if_pos ⟨h3, h4⟩, if_neg h, if_neg hn, if_pos ⟨h3, h4⟩]; exact ⟨rfl, rfl⟩
theorem tvC_plain {l : List Nat} (h : ¬ 100 < l.length) (h2 : isNum l) (h3 : ¬ (nE l < l.length ∧ gd l (nE l) = 47)) : tvC l = 0 ∧ tvQ l = numQ (nA l) + numQ (nB l) / tenQ (nB l).length := by
  unfold tvC tvQ
  have hn : ¬ ¬ isNum l := fun k => k h2
  rw [if_neg h, if_neg hn, if_neg h3, if_neg h, if_neg hn, if_neg h3]; exact ⟨rfl, rfl⟩
theorem nE_le (l : List Nat) : nE l ≤ l.length := run_le (Nat.zero_le _)
theorem run_all' {p : Nat → Bool} {l : List Nat} {k j : Nat} (h1 : k ≤ j) (h2 : j < run p l k) : p (gd l j) = true := run_all _ k (Nat.le_refl _) j h1 h2
theorem nE_digit {l : List Nat} {j : Nat} (h : j < nE l) : isDigit (gd l j) = true := run_all' (Nat.zero_le _) h
/-- behind the first digits: nothing, or a point or a stroke and digits alone -/
theorem num_forms {l : List Nat} (h : isNum l) : nE l = l.length ∨ (nE l + 1 < l.length ∧ (gd l (nE l) = 46 ∨ gd l (nE l) = 47) ∧ ∀ j, nE l < j → j < l.length → isDigit (gd l j) = true) := by
  obtain ⟨h0, h1, h2⟩ := h
  unfold numEnd at h2
  split at h2
  · rename_i hc
    refine .inr ⟨hc.1, hc.2.1, fun j a b => ?_⟩
    exact run_all' (k := run isDigit l 0 + 1) a (by rw [h2]; exact b)
  · exact .inl h2
theorem num_digit {l : List Nat} (h : isNum l) {j : Nat} (hj : j < l.length) (hne : j ≠ nE l) : isDigit (gd l j) = true := by
  rcases num_forms h with e | ⟨_, _, k⟩
  · exact nE_digit (by omega)
  · rcases Nat.lt_or_gt_of_ne hne with a | a
    · exact nE_digit a
    · exact k j a hj
/-- the decimal form: all digits over a power of ten -/
theorem dec_value (a b : List Nat) : numQ (a ++ b) / tenQ b.length = numQ a + numQ b / tenQ b.length := by
  rw [numQ_app]
  have h := tenQ_ne b.length
  obtain ⟨t, ht⟩ : ∃ t, t = tenQ b.length := ⟨_, rfl⟩
  rw [← ht] at h ⊢
  rw [Rat.div_def, Rat.add_mul, Rat.mul_assoc, Rat.mul_inv_cancel _ h, Rat.mul_one, Rat.div_def]
/-- a text is a name -/
def isName (l : List Nat) : Bool := decide (0 < l.length ∧ l.length ≤ 24) && isLetter (gd l 0) && decide (run isIn l 0 = l.length)
end Go.Proofs.Ytaefimegiobkmaa
/-
  Closed intervals of rational numbers: least and greatest, sums, products, quotients, hulls and common parts.
  Conditions: none.
-/
namespace Go.Proofs.Ytaefimegiobkmaa

/-- the number x lies in the interval a -/
def inS (a : Rat × Rat) (x : Rat) : Prop := a.1 ≤ x ∧ x ≤ a.2
instance (a : Rat × Rat) (x : Rat) : Decidable (inS a x) := by unfold inS; exact inferInstance
def subS (a b : Rat × Rat) : Prop := inS b a.1 ∧ inS b a.2
instance (a b : Rat × Rat) : Decidable (subS a b) := by unfold subS; exact inferInstance
end Go.Proofs.Ytaefimegiobkmaa
/-
  A statement that leaves its order open and holds calls and new variables: one walk, whatever the order: each operation leaves a fact that later operations keep.
  Conditions: each theorem's own.
-/
namespace Go.Proofs.Ytaefimegiobkmaa
open Go.RowKit Go.ChangeShapes Go.WideShapes

section
variable {P : Program} {ops : Array Oper} {md : Region.Mode}

/-- the slot that operation j writes -/
def dstOf (ops : Array Oper) (j : Nat) : Option Tmp := (ops[j]?).bind (·.dst)
/-- the frame behind the first n operations' values, of those that are listed -/
def putsTo (ops : Array Oper) (listed : Nat → Bool) (vals : Nat → Value) (a : Act) : Nat → Act
  | 0 => a
  | n + 1 => if listed n then (putsTo ops listed vals a n).put (dstOf ops n) (vals n) else putsTo ops listed vals a n
theorem putsTo_congr {l l' : Nat → Bool} {v v' : Nat → Value} {a : Act} {n : Nat} (h : ∀ j, j < n → l j = l' j ∧ (l j = true → v j = v' j)) : putsTo ops l v a n = putsTo ops l' v' a n := by
  induction n with
  | zero => rfl
  | succ n ih =>
    obtain ⟨h1, h2⟩ := h n (by omega)
    unfold putsTo
    rw [ih (fun j hj => h j (by omega)), ← h1]
    by_cases hl : l n = true
    · rw [if_pos hl, if_pos hl, h2 hl]
    · rw [if_neg hl, if_neg hl]
theorem putsTo_set {l : Nat → Bool} {vals : Nat → Value} {a : Act} {i : Nat} {v : Value} (hi : l i = false) :
    ∀ n, i < n → (∀ j, j < n → j ≠ i → ∀ d, dstOf ops i = some d → dstOf ops j ≠ some d) →
    putsTo ops (fun j => if j = i then true else l j) (fun j => if j = i then v else vals j) a n = (putsTo ops l vals a n).put (dstOf ops i) v := by
  intro n
  induction n with
  | zero => intro h; omega
  | succ n ih =>
    intro hin hd
    unfold putsTo
    by_cases hn : n = i
    · subst hn
      have e := putsTo_congr (ops := ops) (l := fun j => if j = n then true else l j) (l' := l) (v := fun j => if j = n then v else vals j) (v' := vals) (a := a) (n := n) (fun j hj => by
        have : j ≠ n := by omega
        exact ⟨by show (if j = n then true else l j) = l j; rw [if_neg this], fun _ => by show (if j = n then v else vals j) = vals j; rw [if_neg this]⟩)
      rw [e]
      simp only [if_true, hi, Bool.false_eq_true, if_false]
    · rw [if_neg hn, if_neg hn, ih (by omega) (fun j hj => hd j (by omega))]
      by_cases hl : l n = true
      · rw [if_pos hl, if_pos hl, Act.put_comm _ v (vals n) (hd n (by omega) hn)]
      · rw [if_neg hl, if_neg hl]
theorem getD_set_self (t : Array Value) (d : Nat) (v u : Value) : (t.setIfInBounds d v).getD d u = if d < t.size then v else u := by
  by_cases h : d < t.size <;> simp [h]
theorem putsTo_eval {l : Nat → Bool} {vals : Nat → Value} {a : Act} {x : Operand} : ∀ n, (∀ t, x = .tmp t → ∀ j, j < n → dstOf ops j = some t → l j = true) →
    (putsTo ops l vals a n).eval x = (putsTo ops (fun _ => true) vals a n).eval x ∧ (putsTo ops l vals a n).tmps.size = (putsTo ops (fun _ => true) vals a n).tmps.size := by
  have hsz : ∀ (a : Act) (d : Option Tmp) (v : Value), (a.put d v).tmps.size = a.tmps.size := fun a d v => by cases d <;> simp [Act.put]
  intro n
  induction n with
  | zero => intro _; exact ⟨rfl, rfl⟩
  | succ n ih =>
    intro h
    obtain ⟨h1, h2⟩ := ih (fun t ht j hj => h t ht j (by omega))
    unfold putsTo
    rw [if_pos rfl]
    by_cases hl : l n = true
    · rw [if_pos hl, hsz, hsz]
      refine ⟨?_, h2⟩
      cases hd : dstOf ops n with
      | none => exact h1
      | some d =>
        cases x with
        | tmp t =>
          by_cases htd : d = t
          · subst htd
            show ((putsTo ops l vals a n).tmps.setIfInBounds d (vals n)).getD d undef = ((putsTo ops (fun _ => true) vals a n).tmps.setIfInBounds d (vals n)).getD d undef
            rw [getD_set_self, getD_set_self, h2]
          · rw [Act.eval_put (fun e he hx => htd (by cases he; cases hx; rfl)), Act.eval_put (fun e he hx => htd (by cases he; cases hx; rfl))]; exact h1
        | _ => exact h1
    · rw [if_neg hl, hsz]
      refine ⟨?_, h2⟩
      rw [Act.eval_put (fun d hd hx => hl (h d hx n (by omega) hd))]; exact h1

/-- an operation, run at a frame, yields a value and a world as R says -/
def StepOK (P : Program) (o : Oper) (a : Act) (w : World) (R : Value → World → Prop) : Prop :=
  match (execOp a.eval o).run P w with
  | .ok (.value v) w' => R v w'
  | .ok (.enter f args) w' => Calls P f args w' fun e w'' => ∃ v, e = .returned v ∧ R v w''
  | _ => False
/-- an operation under its guard -/
def StepG (P : Program) (ops : Array Oper) (o : Oper) (a : Act) (w : World) (R : Value → World → Prop) : Prop :=
  if Region.wanted o (yielded ops a.tmps) = true then StepOK P o a w R else R undef w
theorem wpOp_of_stepG {o : Oper} {a a' : Act} {w : World} {i : Nat} {R : Value → World → Prop} {Q : Exit → Act → World → Prop} {K : Act → World → Prop} (hi : ops[i]? = some o)
    (hg : Region.wanted o (yielded ops a.tmps) = Region.wanted o (yielded ops a'.tmps))
    (he : execOp a.eval o = execOp a'.eval o) (h : StepG P ops o a' w R) (hK : ∀ v w', R v w' → K (a.put o.dst v) w') : wpOp P ops Q i K a w := by
  unfold wpOp
  simp only [hi]
  unfold StepG at h
  rw [hg]
  by_cases hw : Region.wanted o (yielded ops a'.tmps) = true
  · rw [if_pos hw] at h ⊢
    left
    unfold StepOK at h
    unfold Oper.wp
    rw [he]
    generalize (execOp a'.eval o).run P w = r at h
    cases r with
    | ok n w' =>
      cases n <;> simp only [Oper.upon] at h ⊢
      case value v => exact hK _ _ h
      case enter f args => exact h.mono fun e w'' ⟨v, hv, hr⟩ => by subst hv; exact hK _ _ hr
      all_goals exact h.elim
    | halt x w' => simp at h
  · rw [if_neg hw] at h ⊢
    exact hK _ _ h
theorem putsTo_wanted {l : Nat → Bool} {vals : Nat → Value} {a : Act} {o : Oper} (n : Nat) (h : ∀ g b, o.guard = some (g, b) → ∀ t, dstOf ops g = some t → ∀ j, j < n → dstOf ops j = some t → l j = true) :
    Region.wanted o (yielded ops (putsTo ops l vals a n).tmps) = Region.wanted o (yielded ops (putsTo ops (fun _ => true) vals a n).tmps) := by
  unfold Region.wanted
  cases hg : o.guard with
  | none => rfl
  | some gw =>
    obtain ⟨g, want⟩ := gw
    have hy : yielded ops (putsTo ops l vals a n).tmps g = yielded ops (putsTo ops (fun _ => true) vals a n).tmps g := by
      unfold yielded
      cases ht : (ops[g]?).bind (·.dst) with
      | none => rfl
      | some t =>
        obtain ⟨h1, h2⟩ := putsTo_eval (ops := ops) (l := l) (vals := vals) (a := a) (x := .tmp t) n (fun t' ht' j hj hd => h g want hg t ht j hj (by rw [hd]; cases ht'; rfl))
        have h3 : (putsTo ops l vals a n).tmps[t]? = (putsTo ops (fun _ => true) vals a n).tmps[t]? := by
          have h4 : (putsTo ops l vals a n).tmps.getD t undef = (putsTo ops (fun _ => true) vals a n).tmps.getD t undef := h1
          rcases Nat.lt_or_ge t (putsTo ops l vals a n).tmps.size with hl | hl
          · have hl2 : t < (putsTo ops (fun _ => true) vals a n).tmps.size := by rw [← h2]; exact hl
            rw [Array.getElem?_eq_getElem hl, Array.getElem?_eq_getElem hl2]
            simp [hl, hl2] at h4
            rw [h4]
          · rw [Array.getElem?_eq_none hl, Array.getElem?_eq_none (by omega)]
        show (match (some t).bind ((putsTo ops l vals a n).tmps[·]?) with | some (.bool b) => some b | _ => none) = (match (some t).bind ((putsTo ops (fun _ => true) vals a n).tmps[·]?) with | some (.bool b) => some b | _ => none)
        simp only [Option.bind_some, h3]
    simp only [hy]

/-- each operation of the head but the floating ones has a later one of the head, or the first behind it, that waits for it and does not float -/
def sinkF (md : Region.Mode) (ops : Array Oper) (fl : List Nat) (n : Nat) : Bool :=
  (List.range n).all fun i => fl.contains i || (List.range (n + 1)).any fun j => decide (i < j) && !fl.contains j && Region.waitsFor md ops j i
/-- a floating operation is out of all others' way -/
def floatB (md : Region.Mode) (ops : Array Oper) (fl : List Nat) : Bool :=
  fl.all fun i => match ops[i]? with
    | none => false
    | some oi => oi.guard.isNone && (List.range ops.size).all fun j => j == i || Region.waitsFor md ops j i || Region.waitsFor md ops i j || match ops[j]? with
      | some oj => oi.apart ops oj
      | none => true
/-- what the law asks of a region: n operations of its head wait for earlier ones alone, write slots of their own and read what they wait for; the rest stands behind them in one order -/
def headB (md : Region.Mode) (ops : Array Oper) (fl : List Nat) (n : Nat) : Bool :=
  Region.noSelect ops && decide (n < ops.size) && (sinkF md ops fl n && floatB md ops fl && fl.all (fun i => decide (i < n))) && Region.chainB md ops n &&
  ((List.range n).all fun k => match ops[k]? with
    | none => false
    | some o => (match o.guard with | none => true | some (g, _) => decide (g < n) && Region.waitsFor md ops k g) && (o.after.all fun e => !Region.binds md e || decide (e.on < k)) &&
      ((List.range n).all fun j => (j == k || o.dst.isNone || decide (dstOf ops j ≠ o.dst)) &&
        (o.op.operands.all fun x => match x with
          | .tmp t => decide (dstOf ops j ≠ some t) || Region.waitsFor md ops k j
          | _ => true))) &&
  Region.seqB md ops (ops.size - n) n ((Array.range ops.size).map fun i => decide (i < n))
/-- while something of the head that does not float is not listed, nothing behind the head comes up -/
theorem tail_waitsF {n : Nat} {fl : List Nat} {listed : Array Bool} (hs : sinkF md ops fl n = true) (hc : Region.chainB md ops n = true) (hn : n < ops.size) (inv : HeadInv md ops n listed) :
    ∀ (d i : Nat), n - i = d → i < n → fl.contains i = false → listed.getD i true = false → ∀ t, n ≤ t → t ∉ Region.ready md ops listed := by
  intro d
  induction d using Nat.strongRecOn with
  | _ d ih =>
    intro i hd hi hfi hun t ht hr
    obtain ⟨_, ot, hot, hall⟩ := mem_ready.1 hr
    have htlt : t < ops.size := (Array.getElem?_eq_some_iff.1 hot).1
    by_cases htn : t = n
    · subst htn
      have h1 := List.all_eq_true.1 hs i (List.mem_range.2 hi)
      rw [hfi, Bool.false_or] at h1
      obtain ⟨j, hj, hj2⟩ := List.any_eq_true.1 h1
      simp only [Bool.and_eq_true, decide_eq_true_eq, Bool.not_eq_true'] at hj2
      obtain ⟨oj, hoj, e, he, hb, hon⟩ := Region.waitsFor_spec hj2.2
      have hjle : j ≤ t := by have := List.mem_range.1 hj; omega
      by_cases hjt : j = t
      · subst hjt
        have : oj = ot := Option.some.inj (hoj.symm.trans hot)
        subst this
        have h2 := hall e he hb
        rw [hon, getD_both hun] at h2
        cases h2
      · cases hl : listed.getD j false with
        | true =>
          have h2 := inv.closed j oj hoj hl e he hb
          rw [hon, getD_both hun] at h2
          cases h2
        | false =>
          have hjs : j < listed.size := by rw [inv.size]; omega
          exact ih (t - j) (by omega) j rfl (by omega) hj2.1.2 (getD_in hjs hl) t (Nat.le_refl _) hr
    · have h1 := List.all_eq_true.1 hc t (List.mem_range.2 htlt)
      simp only [Bool.or_eq_true, decide_eq_true_eq] at h1
      rcases h1 with h1 | h1
      · omega
      · obtain ⟨o', ho', e, he, hb, hon⟩ := Region.waitsFor_spec h1
        have : o' = ot := Option.some.inj (ho'.symm.trans hot)
        subst this
        have h2 := hall e he hb
        rw [hon, getD_both (inv.tail (t - 1) (by omega) (by omega))] at h2
        cases h2

structure HeadOK (md : Region.Mode) (ops : Array Oper) (n k : Nat) (o : Oper) : Prop where
  guard : ∀ g b, o.guard = some (g, b) → g < n ∧ Region.waitsFor md ops k g = true
  early : ∀ e ∈ o.after, Region.binds md e = true → e.on < k
  dst : ∀ j, j < n → j ≠ k → ∀ d, o.dst = some d → dstOf ops j ≠ some d
  reads : ∀ x ∈ o.op.operands, ∀ t, x = .tmp t → ∀ j, j < n → dstOf ops j = some t → Region.waitsFor md ops k j = true
theorem headB_ok {n k : Nat} {fl : List Nat} {o : Oper} (h : headB md ops fl n = true) (hk : k < n) (ho : ops[k]? = some o) : HeadOK md ops n k o := by
  unfold headB at h
  simp only [Bool.and_eq_true] at h
  have h1 := List.all_eq_true.1 h.1.2 k (List.mem_range.2 hk)
  rw [ho] at h1
  simp only [Bool.and_eq_true, List.all_eq_true, List.mem_range] at h1
  obtain ⟨⟨g1, g2⟩, g3⟩ := h1
  refine ⟨fun g b hg => by
    rw [hg] at g1
    simpa using g1, fun e he hb => ?_, fun j hj hjk d hd => ?_, fun x hx t ht j hj hd => ?_⟩
  · have := Array.all_eq_true_iff_forall_mem.1 g2 e he
    rw [hb] at this; simpa using this
  · have := (g3 j hj).1
    rw [hd] at this
    simp only [Bool.or_eq_true, beq_iff_eq, Option.isNone_some, Bool.false_eq_true, or_false, decide_eq_true_eq] at this
    rcases this with h | h
    · exact absurd h hjk
    · exact h
  · have := Array.all_eq_true_iff_forall_mem.1 (g3 j hj).2 x hx
    subst ht
    simp only [Bool.or_eq_true, decide_eq_true_eq] at this
    rcases this with h | h
    · exact absurd hd h
    · exact h

/-- what stands behind some listed operations -/
structure DrawInv (md : Region.Mode) (ops : Array Oper) (n : Nat) (F : Nat → Value → World → Prop) (AL : Nat → Bool) (w0 : World) (a0 : Act) (listed : Array Bool) (a : Act) (w : World) : Prop where
  head : HeadInv md ops n listed
  below : Below w0.heap.size w0 w
  vals : ∃ vals : Nat → Value, a = putsTo ops (fun j => listed.getD j false) vals a0 n ∧ (∀ j, j < n → listed.getD j false = true → F j (vals j) w) ∧
    (∀ j, j < n → listed.getD j false = true → AL j = true → ∃ g, vals j = .pointer (some ⟨g, 0, none⟩) ∧ g < w.heap.size) ∧
    (∀ j k, j < n → k < n → j ≠ k → listed.getD j false = true → listed.getD k false = true → AL j = true → AL k = true → vals j ≠ vals k)

/-- how many of the first n are not listed -/
def unl (listed : Array Bool) : Nat → Nat
  | 0 => 0
  | n + 1 => unl listed n + if listed.getD n false then 0 else 1
theorem unl_zero {listed : Array Bool} : ∀ n, unl listed n = 0 → ∀ j, j < n → listed.getD j false = true
  | 0, _, j, hj => by omega
  | n + 1, h, j, hj => by
    unfold unl at h
    by_cases hn : listed.getD n false = true
    · rw [if_pos hn] at h
      by_cases hjn : j = n
      · subst hjn; exact hn
      · exact unl_zero n (by omega) j (by omega)
    · rw [if_neg hn] at h; omega
theorem unl_first {listed : Array Bool} : ∀ n, unl listed n ≠ 0 → ∃ k, k < n ∧ listed.getD k false = false ∧ ∀ j, j < k → listed.getD j false = true
  | 0, h => absurd rfl h
  | n + 1, h => by
    by_cases hz : unl listed n = 0
    · unfold unl at h
      refine ⟨n, by omega, ?_, unl_zero n hz⟩
      cases hn : listed.getD n false with
      | false => rfl
      | true => rw [hz, hn] at h; simp at h
    · obtain ⟨k, h1, h2⟩ := unl_first n hz
      exact ⟨k, by omega, h2⟩
theorem unl_congr {l l' : Array Bool} : ∀ n, (∀ j, j < n → l.getD j false = l'.getD j false) → unl l n = unl l' n
  | 0, _ => rfl
  | n + 1, h => by
    unfold unl
    rw [unl_congr n (fun j hj => h j (by omega)), h n (by omega)]
theorem unl_set {listed : Array Bool} {i : Nat} (hs : i < listed.size) (hi : listed.getD i false = false) : ∀ n, i < n → unl (listed.setIfInBounds i true) n + 1 = unl listed n
  | 0, h => by omega
  | n + 1, h => by
    unfold unl
    by_cases hn : n = i
    · subst hn
      rw [unl_congr (l' := listed) n (fun j hj => getD_set_ne false (by omega)), hi]
      have : (listed.setIfInBounds n true).getD n false = true := by simp [hs]
      rw [this]; simp
    · have ih := unl_set hs hi n (by omega)
      rw [getD_set_ne false (Ne.symm hn)]; omega

/-- a step that yields in whatever world -/
def StepPure (P : Program) (o : Oper) (a : Act) (R : Value → Prop) : Prop := ∃ v, (∀ w, (execOp a.eval o).run P w = .ok (.value v) w) ∧ R v
/-- what a step leaves -/
def Leaves (F : Nat → Value → World → Prop) (AL : Nat → Bool) (i : Nat) (w1 : World) (v : Value) (w2 : World) : Prop :=
  Below w1.heap.size w1 w2 ∧ F i v w2 ∧ (AL i = true → v = .pointer (some ⟨w1.heap.size, 0, none⟩) ∧ w1.heap.size < w2.heap.size)
theorem leaves_mk {F : Nat → Value → World → Prop} {AL : Nat → Bool} {i : Nat} {w1 w2 : World} {v : Value} (hb : Below w1.heap.size w1 w2) (hf : F i v w2) (hal : AL i = true → v = .pointer (some ⟨w1.heap.size, 0, none⟩) ∧ w1.heap.size < w2.heap.size) : Leaves F AL i w1 v w2 := ⟨hb, hf, hal⟩
theorem DrawInv.next {n i : Nat} {oi : Oper} {fl : List Nat} {F : Nat → Value → World → Prop} {AL : Nat → Bool} {w0 w w' : World} {a0 a : Act} {listed : Array Bool} {v : Value} (hB : headB md ops fl n = true)
    (hF : ∀ i v w1 w2, F i v w1 → Below w1.heap.size w1 w2 → F i v w2) (inv : DrawInv md ops n F AL w0 a0 listed a w) (hi : i ∈ Region.ready md ops listed) (hin : i < n) (hoi : ops[i]? = some oi)
    (h : Leaves F AL i w v w') : DrawInv md ops n F AL w0 a0 (listed.setIfInBounds i true) (a.put oi.dst v) w' := by
  obtain ⟨hiu, oi', hoi', hdeps⟩ := mem_ready.1 hi
  have : oi' = oi := Option.some.inj (hoi'.symm.trans hoi)
  subst this
  have hiu' := getD_both hiu
  have ok := headB_ok hB hin hoi
  have his : i < listed.size := by rw [inv.head.size]; exact (Array.getElem?_eq_some_iff.1 hoi).1
  have hdst : dstOf ops i = oi'.dst := by unfold dstOf; rw [hoi]; rfl
  obtain ⟨vals, rfl, hv, hg, hd⟩ := inv.vals
  obtain ⟨hb, hf, hal⟩ := h
  refine ⟨inv.head.set hi hin, inv.below.trans (hb.mono inv.below.size), fun j => if j = i then v else vals j, ?_, ?_, ?_, ?_⟩
  · rw [← hdst, ← putsTo_set hiu' n hin (fun j hj hji => by rw [hdst]; exact ok.dst j hj hji)]
    refine putsTo_congr fun j hj => ⟨?_, fun _ => rfl⟩
    by_cases hji : j = i
    · subst hji; rw [if_pos rfl]; simp [his]
    · rw [if_neg hji, getD_set_ne false (Ne.symm hji)]
  · intro j hj hl
    show F j (if j = i then v else vals j) w'
    by_cases hji : j = i
    · subst hji; rw [if_pos rfl]; exact hf
    · rw [if_neg hji]
      rw [getD_set_ne false (Ne.symm hji)] at hl
      exact hF _ _ _ _ (hv j hj hl) hb
  · intro j hj hl aj
    show ∃ g, (if j = i then v else vals j) = _ ∧ _
    by_cases hji : j = i
    · subst hji; rw [if_pos rfl]
      obtain ⟨e1, e2⟩ := hal aj
      exact ⟨_, e1, e2⟩
    · rw [if_neg hji]
      rw [getD_set_ne false (Ne.symm hji)] at hl
      obtain ⟨g, e1, e2⟩ := hg j hj hl aj
      exact ⟨g, e1, Nat.lt_of_lt_of_le e2 hb.size⟩
  · intro j k' hj hk' hjk hl hl' aj ak
    show (if j = i then v else vals j) ≠ (if k' = i then v else vals k')
    by_cases hji : j = i
    · subst hji
      have hki : k' ≠ j := fun e => hjk e.symm
      rw [if_pos rfl, if_neg hki]
      rw [getD_set_ne false (Ne.symm hki)] at hl'
      obtain ⟨e1, e2⟩ := hal aj
      obtain ⟨g, e3, e4⟩ := hg k' hk' hl' ak
      rw [e1, e3]
      intro h
      cases h; omega
    · rw [if_neg hji]
      rw [getD_set_ne false (Ne.symm hji)] at hl
      by_cases hki : k' = i
      · subst hki
        rw [if_pos rfl]
        obtain ⟨e1, e2⟩ := hal ak
        obtain ⟨g, e3, e4⟩ := hg j hj hl aj
        rw [e1, e3]
        intro h
        cases h; omega
      · rw [if_neg hki]
        rw [getD_set_ne false (Ne.symm hki)] at hl'
        exact hd j k' hj hk' hjk hl hl' aj ak

theorem wpAny_of_facts {n : Nat} {fl : List Nat} {Q : Exit → Act → World → Prop} {F : Nat → Value → World → Prop} {AL : Nat → Bool} {w0 : World} {a0 : Act} (hB : headB md ops fl n = true)
    (hQ : ∀ c (a : Act) (d : Tmp) v w, Q (.panic c) (a.put (some d) v) w → Q (.panic c) a w)
    (hF : ∀ i v w1 w2, F i v w1 → Below w1.heap.size w1 w2 → F i v w2)
    (hstep : ∀ i o, i < n → ops[i]? = some o → ∀ (vals : Nat → Value) (w1 : World), Below w0.heap.size w0 w1 → (∀ j, Region.waitsFor md ops i j = true → F j (vals j) w1) →
      if fl.contains i then StepPure P o (putsTo ops (fun _ => true) vals a0 n) (fun v => Leaves F AL i w1 v w1) else StepG P ops o (putsTo ops (fun _ => true) vals a0 n) w1 (Leaves F AL i w1))
    (hend : ∀ (vals : Nat → Value) (w1 : World), Below w0.heap.size w0 w1 → (∀ i, i < n → F i (vals i) w1) → (∀ i j, i < n → j < n → i ≠ j → AL i = true → AL j = true → vals i ≠ vals j) →
      wpList P ops Q (ops.toList.drop n) (putsTo ops (fun _ => true) vals a0 n) w1) :
    ∀ (m : Nat) (listed : Array Bool) (a : Act) (w : World), unl listed n = m → DrawInv md ops n F AL w0 a0 listed a w → wpAny P md ops Q (m + (ops.size - n)) listed a w := by
  have hB' := hB
  unfold headB at hB'
  simp only [Bool.and_eq_true, decide_eq_true_eq] at hB'
  obtain ⟨⟨⟨⟨⟨hsel, hn⟩, ⟨hs, hfb⟩, hfn⟩, hc⟩, _⟩, hseq⟩ := hB'
  intro m
  induction m with
  | zero =>
    intro listed a w hm inv
    have hall := unl_zero n hm
    obtain ⟨vals, rfl, hv, _, hd⟩ := inv.vals
    have hl : listed = (Array.range ops.size).map fun i => decide (i < n) := by
      apply Array.ext
      · simp [inv.head.size]
      · intro j h1 h2
        simp only [Array.getElem_map, Array.getElem_range]
        by_cases hj : j < n
        · have := hall j hj
          simp [h1] at this; rw [this, decide_eq_true hj]
        · have hjs : j < ops.size := by rw [← inv.head.size]; exact h1
          have := inv.head.tail j (by omega) hjs
          simp [h1] at this; rw [this, decide_eq_false hj]
    have hend' := hend vals w inv.below (fun i hi => hv i hi (hall i hi)) (fun i j hi hj hij ai aj => hd i j hi hj hij (hall i hi) (hall j hj) ai aj)
    rw [putsTo_congr (l' := fun _ => true) (v' := vals) (fun j hj => ⟨hall j hj, fun _ => rfl⟩)]
    rw [Nat.zero_add]
    have hlen : (ops.toList.drop n).length = ops.size - n := by simp
    have := wpAny_of_seq (P := P) (md := md) (Q' := Q) (ops.toList.drop n) n listed (putsTo ops (fun _ => true) vals a0 n) w (fun j => by simp [List.getElem?_drop]) (by rw [hlen, hl]; exact hseq) hend'
    rwa [hlen] at this
  | succ m ih =>
    intro listed a w hm inv
    have step : ∀ i oi, i ∈ Region.ready md ops listed → i < n → ops[i]? = some oi →
        (execOp a.eval oi = execOp (putsTo ops (fun _ => true) (Classical.choose inv.vals) a0 n).eval oi ∧ Region.wanted oi (yielded ops a.tmps) = Region.wanted oi (yielded ops (putsTo ops (fun _ => true) (Classical.choose inv.vals) a0 n).tmps)) ∧ (∀ j, Region.waitsFor md ops i j = true → F j (Classical.choose inv.vals j) w) ∧ unl (listed.setIfInBounds i true) n = m := by
      intro i oi hi hin hoi
      obtain ⟨ha, hv, _, _⟩ := Classical.choose_spec inv.vals
      obtain ⟨hiu, oi', hoi', hdeps⟩ := mem_ready.1 hi
      have : oi' = oi := Option.some.inj (hoi'.symm.trans hoi)
      subst this
      have ok := headB_ok hB hin hoi
      have his : i < listed.size := by rw [inv.head.size]; exact (Array.getElem?_eq_some_iff.1 hoi).1
      have hwl : ∀ j, Region.waitsFor md ops i j = true → listed.getD j false = true := fun j hj => by
        obtain ⟨o', ho', e, he, hb, hon⟩ := Region.waitsFor_spec hj
        have : o' = oi' := Option.some.inj (ho'.symm.trans hoi)
        subst this
        rw [← hon]; exact hdeps e he hb
      have hwn : ∀ j, Region.waitsFor md ops i j = true → j < n := fun j hj => by
        obtain ⟨o', ho', e, he, hb, hon⟩ := Region.waitsFor_spec hj
        have : o' = oi' := Option.some.inj (ho'.symm.trans hoi)
        subst this
        have := ok.early e he hb; omega
      refine ⟨?_, fun j hj => hv j (hwn j hj) (hwl j hj), by have := unl_set his (getD_both hiu) n hin; omega⟩
      have e := execOp_congr oi' (ρ := (putsTo ops (fun j => listed.getD j false) (Classical.choose inv.vals) a0 n).eval) (ρ' := (putsTo ops (fun _ => true) (Classical.choose inv.vals) a0 n).eval) (fun cs b => Region.noSelect_spec hsel i oi' cs b hoi)
        fun x hx => (putsTo_eval n (fun t ht j hj hdj => hwl j (ok.reads x hx t ht j hj hdj))).1
      have e2 := putsTo_wanted (ops := ops) (l := fun j => listed.getD j false) (vals := Classical.choose inv.vals) (a := a0) (o := oi') n (fun g b hg t ht j hj hdj => by
        obtain ⟨hgn, hw⟩ := ok.guard g b hg
        by_cases hjg : j = g
        · subst hjg; exact hwl _ hw
        · exfalso
          have hgs : g < ops.size := by omega
          have okg := headB_ok hB hgn (Array.getElem?_eq_getElem hgs)
          refine okg.dst j hj hjg t ?_ hdj
          unfold dstOf at ht
          rw [Array.getElem?_eq_getElem hgs] at ht; exact ht)
      rw [← ha] at e e2; exact ⟨e, e2⟩
    obtain ⟨k, hk, hku, hkl⟩ := unl_first (listed := listed) n (by omega)
    have hks : k < listed.size := by rw [inv.head.size]; omega
    have hkt := getD_in hks hku
    have hready : k ∈ Region.ready md ops listed := by
      rw [mem_ready]
      refine ⟨hkt, ops[k]'(by omega), by rw [Array.getElem?_eq_getElem], fun e he hb => ?_⟩
      exact hkl _ ((headB_ok hB hk (Array.getElem?_eq_getElem (by omega))).early e he hb)
    rw [show m + 1 + (ops.size - n) = (m + (ops.size - n)) + 1 by omega]
    by_cases hfl : ∃ i, i < n ∧ i ∈ Region.ready md ops listed ∧ fl.contains i = true
    · obtain ⟨i, hin, hi, hif⟩ := hfl
      obtain ⟨_, oi, hoi, _⟩ := mem_ready.1 hi
      obtain ⟨he, hdp, hu⟩ := step i oi hi hin hoi
      have st := hstep i oi hin hoi (Classical.choose inv.vals) w inv.below hdp
      rw [if_pos hif] at st
      obtain ⟨v, hv, hL⟩ := st
      have hfi := List.all_eq_true.1 hfb i (by simpa using hif)
      rw [hoi] at hfi
      simp only [Bool.and_eq_true] at hfi
      obtain ⟨hgn, hfi⟩ := hfi
      have hgn : oi.guard = none := by simpa using hgn
      refine wpAny_first hoi (Region.noSelect_spec hsel) (fun c a w h => by
        cases hd : oi.dst with
        | none => rw [hd] at h; exact h
        | some d => rw [hd] at h; exact hQ c a d v w h) _ listed a w ?_ hi (.inl ⟨by simp [Region.wanted, hgn], fun w' => by rw [he.1]; exact hv w'⟩) (ih _ _ _ hu (inv.next hB hF hi hin hoi hL))
      intro j oj hj hji hun hno
      have h1 := List.all_eq_true.1 hfi j (List.mem_range.2 (Array.getElem?_eq_some_iff.1 hj).1)
      rw [hj] at h1
      simp only [Bool.or_eq_true, beq_iff_eq, hji, false_or] at h1
      rcases h1 with (h1 | h1) | h1
      · obtain ⟨o', ho', e, he, hb, hon⟩ := Region.waitsFor_spec h1
        have : o' = oj := Option.some.inj (ho'.symm.trans hj)
        subst this
        exact absurd hon (hno e he hb)
      · obtain ⟨o', ho', e, he, hb, hon⟩ := Region.waitsFor_spec h1
        obtain ⟨_, o2, ho2, hall⟩ := mem_ready.1 hi
        have : o' = o2 := Option.some.inj (ho'.symm.trans ho2)
        subst this
        have := hall e he hb
        rw [hon, getD_both hun] at this; cases this
      · exact h1
    · have hkf : fl.contains k = false := by
        cases h : fl.contains k with
        | false => rfl
        | true => exact absurd ⟨k, hk, hready, h⟩ hfl
      refine ⟨fun h0 => (by rw [h0] at hready; cases hready), fun i hi => ?_⟩
      have hin : i < n := by
        rcases Nat.lt_or_ge i n with h | h
        · exact h
        · exact absurd hi (tail_waitsF hs hc hn inv.head _ k rfl hk hkf hkt i h)
      obtain ⟨_, oi, hoi, _⟩ := mem_ready.1 hi
      obtain ⟨he, hdp, hu⟩ := step i oi hi hin hoi
      have st := hstep i oi hin hoi (Classical.choose inv.vals) w inv.below hdp
      rw [if_neg (fun h => hfl ⟨i, hin, hi, h⟩)] at st
      refine wpOp_of_stepG hoi he.2 he.1 st ?_
      intro v w' hL
      exact ih _ _ _ hu (inv.next hB hF hi hin hoi hL)

/-- a list of facts, one for each operation from number i on; A: the frame with all values of the head -/
def stepsOK (P : Program) (md : Region.Mode) (ops : Array Oper) (fl : List Nat) (F : Nat → Value → World → Prop) (AL : Nat → Bool) (w0 : World) (A : (Nat → Value) → Act) : List Oper → Nat → Prop
  | [], _ => True
  | o :: l, i => (∀ (vals : Nat → Value) (w1 : World), Below w0.heap.size w0 w1 → (∀ j, Region.waitsFor md ops i j = true → F j (vals j) w1) →
      if fl.contains i then StepPure P o (A vals) (fun v => Leaves F AL i w1 v w1) else StepG P ops o (A vals) w1 (Leaves F AL i w1)) ∧
    stepsOK P md ops fl F AL w0 A l (i + 1)
theorem stepsOK_at {fl : List Nat} {F : Nat → Value → World → Prop} {AL : Nat → Bool} {w0 : World} {A : (Nat → Value) → Act} : ∀ (l : List Oper) (i : Nat), stepsOK P md ops fl F AL w0 A l i → ∀ k o, l[k]? = some o →
    ∀ (vals : Nat → Value) (w1 : World), Below w0.heap.size w0 w1 → (∀ j, Region.waitsFor md ops (i + k) j = true → F j (vals j) w1) →
      if fl.contains (i + k) then StepPure P o (A vals) (fun v => Leaves F AL (i + k) w1 v w1) else StepG P ops o (A vals) w1 (Leaves F AL (i + k) w1)
  | [], _, _, k, o, h => by simp at h
  | x :: l, i, hs, 0, o, h => by
    simp at h; subst h
    exact hs.1
  | x :: l, i, hs, k + 1, o, h => by
    have := stepsOK_at l (i + 1) hs.2 k o (by simpa using h)
    rw [show i + 1 + k = i + (k + 1) by omega] at this
    exact this
/-- the law: whatever the order, each operation of the head leaves its fact; behind them the rest is walked -/
theorem wp_region_facts {id : Nat} {Q : Exit → Act → World → Prop} {a : Act} {w : World} {l : List Oper} {A : (Nat → Value) → Act} (n : Nat) (fl : List Nat) (hm : P.follows .mixedOrders = true) (F : Nat → Value → World → Prop) (AL : Nat → Bool)
    (hB : headB .any l.toArray fl n = true)
    (hQ : ∀ c (a : Act) (d : Tmp) v w, Q (.panic c) (a.put (some d) v) w → Q (.panic c) a w)
    (hF : ∀ i v w1 w2, F i v w1 → Below w1.heap.size w1 w2 → F i v w2)
    (hA : ∀ vals : Nat → Value, putsTo l.toArray (fun _ => true) vals a n = A vals)
    (hstep : stepsOK P .any l.toArray fl F AL w A (l.take n) 0)
    (hend : ∀ (vals : Nat → Value) (w1 : World), Below w.heap.size w w1 → (∀ i, i < n → F i (vals i) w1) → (∀ i j, i < n → j < n → i ≠ j → AL i = true → AL j = true → vals i ≠ vals j) →
      wpList P l.toArray Q (l.drop n) (A vals) w1) : (Code.region id l.toArray true).wp P Q a w := by
  refine wp_region_any hm ?_
  have hB' := hB
  unfold headB at hB'
  simp only [Bool.and_eq_true, decide_eq_true_eq] at hB'
  have hn : n < l.toArray.size := hB'.1.1.1.1.2
  have hu : ∀ k, unl (Array.replicate l.toArray.size false) k = k := fun k => by
    induction k with
    | zero => rfl
    | succ k ih => unfold unl; rw [ih, getD_replicate_false]; rfl
  have key := wpAny_of_facts (P := P) (Q := Q) (F := F) (AL := AL) (w0 := w) (a0 := a) hB hQ hF (fun i o hi ho vals w1 hb hd => by
      have := stepsOK_at (l.take n) 0 hstep i o (by
        rw [List.getElem?_take, if_pos hi]; simpa using ho)
      rw [Nat.zero_add] at this; rw [hA]; exact this vals w1 hb hd) (fun vals w1 hb hf hd => by rw [hA]; simpa using hend vals w1 hb hf hd) n (Array.replicate l.toArray.size false) a { w with drawn := w.drawn + 1 } (hu n)
    ⟨⟨by simp, fun j oj _ hl => (by rw [getD_replicate_false] at hl; cases hl), fun t _ ht => getD_in (by simpa using ht) (getD_replicate_false _ _)⟩,
      (Below.refl w.heap.size w).drew, fun _ => undef, by
        have : ∀ k, putsTo l.toArray (fun j => (Array.replicate l.toArray.size false).getD j false) (fun _ => undef) a k = a := fun k => by
          induction k with
          | zero => rfl
          | succ k ih => unfold putsTo; rw [if_neg (by rw [getD_replicate_false]; decide), ih]
        exact (this n).symm, fun j _ hl => (by rw [getD_replicate_false] at hl; cases hl), fun j _ hl => (by rw [getD_replicate_false] at hl; cases hl), fun j _ _ _ _ hl => (by rw [getD_replicate_false] at hl; cases hl)⟩
  rw [show n + (l.toArray.size - n) = l.toArray.size by omega] at key
  exact key
section
variable {fl : List Nat} {F : Nat → Value → World → Prop} {AL : Nat → Bool} {w0 : World} {A : (Nat → Value) → Act} {i : Nat} {o : Oper} {l : List Oper}
theorem stepsOK_nil : stepsOK P md ops fl F AL w0 A [] i := trivial
theorem stepsOK_cons (hi : fl.contains i = false) (hg : o.guard = none)
    (h : ∀ (vals : Nat → Value) (w1 : World), Below w0.heap.size w0 w1 → (∀ j, Region.waitsFor md ops i j = true → F j (vals j) w1) → StepOK P o (A vals) w1 (Leaves F AL i w1))
    (hl : stepsOK P md ops fl F AL w0 A l (i + 1)) : stepsOK P md ops fl F AL w0 A (o :: l) i := ⟨fun vals w1 hb hd => by rw [if_neg (by rw [hi]; decide)]; unfold StepG; rw [if_pos (by simp [Region.wanted, hg])]; exact h vals w1 hb hd, hl⟩
theorem stepsOK_pure (hi : fl.contains i = true)
    (h : ∀ (vals : Nat → Value) (w1 : World), Below w0.heap.size w0 w1 → (∀ j, Region.waitsFor md ops i j = true → F j (vals j) w1) → StepPure P o (A vals) (fun v => Leaves F AL i w1 v w1))
    (hl : stepsOK P md ops fl F AL w0 A l (i + 1)) : stepsOK P md ops fl F AL w0 A (o :: l) i := ⟨fun vals w1 hb hd => by rw [if_pos hi]; exact h vals w1 hb hd, hl⟩
end
theorem stepPure_value {o : Oper} {a : Act} {v : Value} {R : Value → Prop} (h : ∀ w, (execOp a.eval o).run P w = .ok (.value v) w) (hR : R v) : StepPure P o a R := ⟨v, h, hR⟩
theorem stepOK_value {o : Oper} {a : Act} {w w' : World} {v : Value} {R : Value → World → Prop} (h : (execOp a.eval o).run P w = .ok (.value v) w') (hR : R v w') : StepOK P o a w R := by
  unfold StepOK; rw [h]; exact hR
theorem stepOK_call {o : Oper} {a : Act} {w w' : World} {f : FuncId} {args : Array Value} {R : Value → World → Prop} (h : (execOp a.eval o).run P w = .ok (.enter f args) w')
    (hR : Calls P f args w' fun e w'' => ∃ v, e = .returned v ∧ R v w'') : StepOK P o a w R := by
  unfold StepOK; rw [h]; exact hR
end
/-- facts that later operations keep -/
def MonoF (p : Value → World → Prop) : Prop := ∀ v w1 w2, p v w1 → Below w1.heap.size w1 w2 → p v w2
def Fl (l : List (Value → World → Prop)) (i : Nat) : Value → World → Prop := l.getD i fun _ _ => True
theorem monoL {l : List (Value → World → Prop)} (h : ∀ p ∈ l, MonoF p) (i : Nat) (v : Value) (w1 w2 : World) (h1 : Fl l i v w1) (hb : Below w1.heap.size w1 w2) : Fl l i v w2 := by
  unfold Fl at *
  rw [List.getD_eq_getElem?_getD] at *
  cases hi : l[i]? with
  | none => trivial
  | some p =>
    rw [hi] at h1
    exact h p (List.mem_of_getElem? hi) v w1 w2 h1 hb
theorem monoN : ∀ p ∈ ([] : List (Value → World → Prop)), MonoF p := fun _ h => by cases h
theorem monoC {p : Value → World → Prop} {l : List (Value → World → Prop)} (hp : MonoF p) (h : ∀ p ∈ l, MonoF p) : ∀ q ∈ p :: l, MonoF q := fun q hq => by
  rcases List.mem_cons.1 hq with rfl | hq
  · exact hp
  · exact h q hq
def KEq (c : Value) : Value → World → Prop := fun v _ => v = c
theorem kEq (c : Value) : MonoF (KEq c) := fun _ _ _ h _ => h
end Go.Proofs.Ytaefimegiobkmaa
/-
  Statements of open order over fractions: the facts that operations leave.
  Conditions: each theorem's own.
-/
namespace Go.Proofs.Ytaefimegiobkmaa
open Go.RowKit Go.ChangeShapes Go.WideShapes

def KIs (q : Rat) : Value → World → Prop := fun v w => IsR w v q
theorem kIs (q : Rat) : MonoF (KIs q) := fun _ _ _ h hb => IsR.below h hb
/-- a fraction and an error -/
def KRE (q : Rat) (er : Value) : Value → World → Prop := fun v w => ∃ b, v = .tuple #[b, er] ∧ IsR w b q
theorem kRE (q : Rat) (er : Value) : MonoF (KRE q er) := fun _ _ _ ⟨b, h1, h2⟩ hb => ⟨b, h1, h2.below hb⟩
theorem below_lt {w1 : World} {g : Nat} {o : Obj} (h : w1.heap[g]? = some o) : g < w1.heap.size := (Array.getElem?_eq_some_iff.1 h).1
/-! what a store of a fraction into a variable keeps -/
section
variable {w w' : World} {g : Nat} {x y z v : Value} {s s' : Bool} {o p : Option Addr} {n c m d : Nat} {T : TypeId} {q : Rat} {a b : List Nat}
end
end Go.Proofs.Ytaefimegiobkmaa
/-
  Intervals in memory: what a value reads as, what a call hands back; six cells side by side.
  Conditions: none beyond each theorem's own.
-/
namespace Go.Proofs.Ytaefimegiobkmaa
open Go.RowKit Go.ChangeShapes Go.WideShapes

/-- the value reads as two fractions with these fields -/
def SpV (w : World) (v : Value) (s : Bool) (a b : List Nat) (t : Bool) (c d : List Nat) : Prop :=
  ∃ x0 x1 x2 x3 x4 x5, v = .agg #[x0, x1, x2, x3, x4, x5] ∧ RatV w (.agg #[x0, x1, x2]) s a b ∧ RatV w (.agg #[x3, x4, x5]) t c d
/-- the interval as which the fields count -/
def sq (s : Bool) (a b : List Nat) (t : Bool) (c d : List Nat) : Rat × Rat :=
  if Vld s a b ∧ Vld t c d ∧ rq s a b ≤ rq t c d then (rq s a b, rq t c d) else (0, 0)
/-- the value reads as the valid form of the interval -/
def IsSp (w : World) (v : Value) (S : Rat × Rat) : Prop :=
  ∃ x0 x1 x2 x3 x4 x5, v = .agg #[x0, x1, x2, x3, x4, x5] ∧ IsR w (.agg #[x0, x1, x2]) S.1 ∧ IsR w (.agg #[x3, x4, x5]) S.2
/-- the value reads as an interval of any fields that counts as S, its words not too many -/
def SpIs (w : World) (v : Value) (S : Rat × Rat) : Prop :=
  ∃ s a b t c d, SpV w v s a b t c d ∧ sq s a b t c d = S ∧ a.length ≤ 40000 ∧ b.length ≤ 40000 ∧ c.length ≤ 40000 ∧ d.length ≤ 40000
theorem SpV.below {w w' : World} {v : Value} {s t : Bool} {a b c d : List Nat} (h : SpV w v s a b t c d) (hb : Below w.heap.size w w') : SpV w' v s a b t c d := by
  obtain ⟨x0, x1, x2, x3, x4, x5, e, h1, h2⟩ := h
  exact ⟨x0, x1, x2, x3, x4, x5, e, h1.below hb, h2.below hb⟩
theorem IsSp.below {w w' : World} {v : Value} {S : Rat × Rat} (h : IsSp w v S) (hb : Below w.heap.size w w') : IsSp w' v S := by
  obtain ⟨x0, x1, x2, x3, x4, x5, e, h1, h2⟩ := h
  exact ⟨x0, x1, x2, x3, x4, x5, e, h1.below hb, h2.below hb⟩
theorem SpIs.below {w w' : World} {v : Value} {S : Rat × Rat} (h : SpIs w v S) (hb : Below w.heap.size w w') : SpIs w' v S := by
  obtain ⟨s, a, b, t, c, d, h1, h2⟩ := h
  exact ⟨s, a, b, t, c, d, h1.below hb, h2⟩
theorem sq_ok (s : Bool) (a b : List Nat) (t : Bool) (c d : List Nat) : (sq s a b t c d).1 ≤ (sq s a b t c d).2 := by
  unfold sq; split
  · rename_i h; exact h.2.2
  · exact Rat.le_refl
theorem SpIs.ok {w : World} {v : Value} {S : Rat × Rat} (h : SpIs w v S) : S.1 ≤ S.2 := by
  obtain ⟨s, a, b, t, c, d, h1, h2, _⟩ := h
  rw [← h2]; exact sq_ok _ _ _ _ _ _
theorem IsSp.is {w : World} {v : Value} {S : Rat × Rat} (h : IsSp w v S) (hle : S.1 ≤ S.2) (l1 : rl S.1 ≤ 40000) (l2 : rl S.2 ≤ 40000) : SpIs w v S := by
  obtain ⟨x0, x1, x2, x3, x4, x5, e, h1, h2⟩ := h
  refine ⟨_, _, _, _, _, _, ⟨x0, x1, x2, x3, x4, x5, e, h1, h2⟩, ?_, Nat.le_trans (rl_n _) l1, Nat.le_trans (dn_len _) l1, Nat.le_trans (rl_n _) l2, Nat.le_trans (dn_len _) l2⟩
  obtain ⟨v1, e1⟩ := vld_self S.1
  obtain ⟨v2, e2⟩ := vld_self S.2
  unfold sq
  rw [e1, e2, if_pos ⟨v1, v2, hle⟩]
theorem SpV.lt {w : World} {v : Value} {s t : Bool} {a b c d : List Nat} (h : SpV w v s a b t c d) : (U32 a ∧ U32 b) ∧ U32 c ∧ U32 d := by
  obtain ⟨x0, x1, x2, x3, x4, x5, e, h1, h2⟩ := h
  exact ⟨h1.lt, h2.lt⟩
theorem rl_sq {s t : Bool} {a b c d : List Nat} {L : Nat} (ha : U32 a) (hb : U32 b) (hc : U32 c) (hd : U32 d) (h1 : a.length ≤ L) (h2 : b.length ≤ L) (h3 : c.length ≤ L) (h4 : d.length ≤ L) (hL : 1 ≤ L) : rl (sq s a b t c d).1 ≤ L ∧ rl (sq s a b t c d).2 ≤ L := by
  unfold sq; split
  · exact ⟨rl_rq ha hb h1 h2 hL, rl_rq hc hd h3 h4 hL⟩
  · show rl 0 ≤ L ∧ rl 0 ≤ L
    rw [rl_zero]; exact ⟨hL, hL⟩
theorem SpIs.rl {w : World} {v : Value} {S : Rat × Rat} (h : SpIs w v S) : rl S.1 ≤ 40000 ∧ rl S.2 ≤ 40000 := by
  obtain ⟨s, a, b, t, c, d, h0, rfl, h1, h2, h3, h4⟩ := h
  obtain ⟨⟨u1, u2⟩, u3, u4⟩ := h0.lt
  exact rl_sq u1 u2 u3 u4 h1 h2 h3 h4 (by decide)
theorem SpV.shape {w : World} {v : Value} {s₀ t₀ : Bool} {a₀ b₀ c₀ d₀ : List Nat} (h : SpV w v s₀ a₀ b₀ t₀ c₀ d₀) : ∃ s ao n c bo m d s' ao' n' c' bo' m' d', v = .agg #[.bool s, .slice ao n c, .slice bo m d, .bool s', .slice ao' n' c', .slice bo' m' d'] := by
  obtain ⟨x0, x1, x2, x3, x4, x5, e, ⟨va, vb, e1, h1, h2⟩, ⟨vc, vd, e2, h3, h4⟩⟩ := h
  have e1' : x0 = .bool s₀ ∧ x1 = va ∧ x2 = vb := by simpa using e1
  have e2' : x3 = .bool t₀ ∧ x4 = vc ∧ x5 = vd := by simpa using e2
  obtain ⟨rfl, rfl, rfl⟩ := e1'
  obtain ⟨rfl, rfl, rfl⟩ := e2'
  obtain ⟨o1, c1, rfl, _⟩ := h1.shape
  obtain ⟨o2, c2, rfl, _⟩ := h2.shape
  obtain ⟨o3, c3, rfl, _⟩ := h3.shape
  obtain ⟨o4, c4, rfl, _⟩ := h4.shape
  exact ⟨_, _, _, _, _, _, _, _, _, _, _, _, _, _, e⟩
theorem SpIs.shape {w : World} {v : Value} {S : Rat × Rat} (h : SpIs w v S) : ∃ s ao n c bo m d s' ao' n' c' bo' m' d', v = .agg #[.bool s, .slice ao n c, .slice bo m d, .bool s', .slice ao' n' c', .slice bo' m' d'] := by
  obtain ⟨s, a, b, t, c, d, h1, _⟩ := h
  exact h1.shape
theorem IsSp.shape {w : World} {v : Value} {S : Rat × Rat} (h : IsSp w v S) : ∃ s ao n c bo m d s' ao' n' c' bo' m' d', v = .agg #[.bool s, .slice ao n c, .slice bo m d, .bool s', .slice ao' n' c', .slice bo' m' d'] := SpV.shape h
/-! six cells -/
/-- cells from a place on are written -/
def putL (w : World) (g : Nat) : Nat → List Value → World
  | _, [] => w
  | off, x :: l => putL (w.setCell ⟨g, off, none⟩ x) g (off + 1) l
theorem putL_ne {g p : Nat} (h : p ≠ g) : ∀ (l : List Value) (w : World) (off : Nat), (putL w g off l).heap[p]? = w.heap[p]?
  | [], _, _ => rfl
  | x :: l, w, off => by
    unfold putL; rw [putL_ne h l, Below.heap_setCell _ _ _ _ h]
theorem putL_size : ∀ (l : List Value) (w : World) (g off : Nat), (putL w g off l).heap.size = w.heap.size
  | [], _, _, _ => rfl
  | x :: l, w, g, off => by
    unfold putL; rw [putL_size l]; simp [World.setCell]
theorem putL_below {w0 : World} {B g : Nat} (hg : B ≤ g) : ∀ (l : List Value) (w : World) (off : Nat), Below B w0 w → Below B w0 (putL w g off l)
  | [], _, _, h => h
  | x :: l, w, off, h => by
    unfold putL; exact putL_below hg l _ _ (h.setCell hg x)
/-- cells that hold no words -/
def noW (cs : Array Value) : Prop := ∀ (j : Nat) (n : Int), cs[j]? ≠ some (.int .u32 n)
theorem putL_num {w w' : World} {g off : Nat} {l : List Value} {cs : Array Value} {T : TypeId} {v : Value} {k : List Nat} (hw : w' = putL w g off l) (hn : Num w v k) (h : w.heap[g]? = some (.cells cs T)) (hc : noW cs) : Num w' v k := by
  obtain ⟨ao, c, rfl, h1, h2, h3, h4, h5⟩ := hn
  refine ⟨ao, c, rfl, h1, h2, h3, ?_, h5⟩
  intro b' o s hs
  obtain ⟨k1, k2⟩ := h4 b' o s hs
  have hsz : w'.heap.size = w.heap.size := by rw [hw, putL_size]
  refine ⟨fun h0 => by rw [hsz]; exact k1 h0, fun j hj => ?_⟩
  by_cases he : b' = g
  · subst he
    have := k2 j hj
    have hx : w.cell? ⟨b', o + j, none⟩ = cs[o + j]? := by
      unfold World.cell?; simp only [h]; rfl
    rw [hx] at this
    exact absurd this (hc _ _)
  · rw [← k2 j hj]
    unfold World.cell?
    have e : w'.heap[b']? = w.heap[b']? := by rw [hw, putL_ne he]
    simp only [e]
section
variable {w w' : World} {g off : Nat} {l : List Value} {cs : Array Value} {T : TypeId} {v : Value} {q : Rat} {s t : Bool} {a b c d : List Nat} {S : Rat × Rat}
theorem putL_V (hw : w' = putL w g off l) (h : RatV w v s a b) (hg : w.heap[g]? = some (.cells cs T)) (hc : noW cs) : RatV w' v s a b := by
  obtain ⟨va, vb, e, h1, h2⟩ := h
  exact ⟨va, vb, e, putL_num hw h1 hg hc, putL_num hw h2 hg hc⟩
theorem putL_I (hw : w' = putL w g off l) (h : IsR w v q) (hg : w.heap[g]? = some (.cells cs T)) (hc : noW cs) : IsR w' v q := putL_V hw h hg hc
end
theorem noW3 {s : Bool} {o p : Option Addr} {n c m d : Nat} : noW #[.bool s, .slice o n c, .slice p m d] := by
  intro j n; match j with
  | 0 => simp
  | 1 => simp
  | 2 => simp
  | j + 3 => simp
theorem putL_r {w : World} {g : Nat} {x0 x1 x2 y0 y1 y2 : Value} {T : TypeId} (h : w.heap[g]? = some (.cells #[x0, x1, x2] T)) : (putL w g 0 [y0, y1, y2]).heap[g]? = some (.cells #[y0, y1, y2] T) := by
  simp [putL, World.setCell, Array.getElem?_modify, h]
theorem putLx {w w' : World} {g p off : Nat} {l : List Value} {o : Obj} (hw : w' = putL w g off l) (h : w.heap[p]? = some o) (hp : p ≠ g) : w'.heap[p]? = some o := by
  rw [hw, putL_ne hp]; exact h
theorem putLb {w0 w w' : World} {B g off : Nat} {l : List Value} (hw : w' = putL w g off l) (h : Below B w0 w) (hg : B ≤ g) : Below B w0 w' := by
  rw [hw]; exact putL_below hg _ _ _ h
end Go.Proofs.Ytaefimegiobkmaa
/-
  Stores of several cells, one operation at a time: the walk stands before a store, the store's law names the world behind it.
  Conditions: each theorem's own.
-/
namespace Go.Proofs.Ytaefimegiobkmaa
open Go.RowKit Go.ChangeShapes Go.WideShapes

/-- the walk stands here -/
def Pause (p : Prop) : Prop := p
theorem Pause.mk {p : Prop} (h : p) : Pause p := h
theorem wpList_pauseS {P : Program} {ops : Array Oper} {rest : List Oper} {a : Act} {w : World} {Q : Exit → Act → World → Prop} {d : Option Tmp} {ty tt : TypeId} {x y : Operand} {pos : String} {af : Array Edge}
    (h : Pause (wpList P ops Q (⟨d, .store ty x y, tt, pos, af, none⟩ :: rest) a w)) : wpList P ops Q (⟨d, .store ty x y, tt, pos, af, none⟩ :: rest) a w := h
theorem putL_eq : ∀ (l : List Value) (w : World) (g off : Nat), w.setCells g off l = putL w g off l
  | [], _, _, _ => rfl
  | x :: l, w, g, off => by unfold putL World.setCells; exact putL_eq l _ _ _
theorem there_row {w : World} {g : Nat} {cs : Array Value} {T : TypeId} (h : w.heap[g]? = some (.cells cs T)) {off n : Nat} (hn : off + n ≤ cs.size) : w.there g off n := by
  intro j hj
  refine ⟨?_, ?_⟩
  · rw [cell_of_row w g (off + j) cs T (0, 0) h, Array.getElem?_eq_getElem (show off + j < cs.size by omega)]; rfl
  · simp [World.frozen?, h]
theorem wpList_stL {P : Program} {ops : Array Oper} {rest : List Oper} {a : Act} {w : World} {Q : Exit → Act → World → Prop} {ty tt : TypeId} {x y : Operand} {pos : String} {af : Array Edge}
    (g off : Nat) (l : List Value) {cs : Array Value} {T : TypeId} (hg : w.heap[g]? = some (.cells cs T)) (hx : a.eval x = .pointer (some ⟨g, off, none⟩)) (hy : a.eval y = .agg l.toArray)
    (hle : off + l.length ≤ cs.size) (hi : (P.info? ty).map (·.size) = some l.length) (h1 : l.all (fun v => v.oneCell') = true) (hK : ∀ w', w' = putL w g off l → wpList P ops Q rest a w') :
    Pause (wpList P ops Q (⟨none, .store ty x y, tt, pos, af, none⟩ :: rest) a w) := by
  refine wpList_store_mid rfl ty x y rfl g off l.toArray hx hy (there_row hg (by simpa using hle)) (by simpa using hi) (all_oneCell_toArray (fun v hv => List.all_eq_true.1 h1 v hv)) ?_
  exact hK _ (putL_eq _ _ _ _)
theorem pauseCall {P : Program} {f : FuncId} {args : Array Value} {w : World} {R : Ending → World → Prop} (h : Pause (Calls P f args w R)) : Calls P f args w R := h
theorem pauseLoop {P : Program} {b : Code} {Q : Exit → Act → World → Prop} {a : Act} {w : World} (h : Pause (Code.wp P (.loop b) Q a w)) : Code.wp P (.loop b) Q a w := h
theorem pauseDraw {P : Program} {n : Nat} {ops : Array Oper} {Q : Exit → Act → World → Prop} {a : Act} {w : World} (h : Pause (Code.wp P (.region n ops true) Q a w)) : Code.wp P (.region n ops true) Q a w := h
theorem pauseBody {P : Program} {fn : Func} {R : Ending → World → Prop} {x : Exit} {a : Act} {w : World} (h : Pause (bodyPost P fn R x a w)) : bodyPost P fn R x a w := h
theorem pauseRounds {P : Program} {b : Code} {Q : Exit → Act → World → Prop} {n : Nat} {a : Act} {w : World} (h : Pause (Code.rounds P b Q n a w)) : Code.rounds P b Q n a w := h
end Go.Proofs.Ytaefimegiobkmaa
/-
  token.whole and the reference's natural: the number of some digits.
  Conditions: each theorem's own.
-/
namespace Go.Proofs.Ytaefimegiobkmaa
open Go.RowKit Go.ChangeShapes Go.WideShapes

set_option maxRecDepth 100000 in
set_option maxHeartbeats 6400000 in
theorem whole_any (s : ByteArray) (w : World) (hs : s.size ≤ 200) (hd : ∀ j, j < s.size → isDigit (gd (bs s) j) = true) :
    Calls Try.prog 24 #[.string s] w (RetR w (numQ (bs s))) := by
  have HBW := Lib.hid (Below.refl w.heap.size w)
  have HDG := Lib.hid hd; clear hd
  have kz0 : rl 0 ≤ 1 := by rw [rl_zero]; exact Nat.le_refl _
  obtain ⟨w1, hw1⟩ : ∃ w1, w1 = w.alloc (.cells #[.bool false, .slice none 0 0, .slice none 0 0] 32) := ⟨_, rfl⟩
  have hb1 : Below w.heap.size w w1 := by rw [hw1]; exact (Below.refl _ _).alloc (Nat.le_refl _) _
  have hx1 := heap_alloc_new w (.cells #[.bool false, .slice none 0 0, .slice none 0 0] 32)
  obtain ⟨g1, hg1⟩ : ∃ g, g = w.heap.size := ⟨_, rfl⟩
  rw [← hw1, ← hg1] at hx1
  have lw1 : w.heap.size ≤ g1 := by rw [hg1]; exact HBW.out.size
  have HW1 := Lib.hid hw1; have HG1 := Lib.hid hg1; clear hw1 hg1
  have HB1 := Lib.hid (HBW.out.step hb1)
  have BX1 := Lib.hid hx1; clear hb1 hx1
  go_enter Try.func24, Try.ntmps24
  obtain ⟨w2, hw2⟩ : ∃ w2, w2 = w1.alloc (.cells #[.bool false, .slice none 0 0, .slice none 0 0] 32) := ⟨_, rfl⟩
  have hb2 : Below w1.heap.size w1 w2 := by rw [hw2]; exact (Below.refl _ _).alloc (Nat.le_refl _) _
  have hx2 := heap_alloc_new w1 (.cells #[.bool false, .slice none 0 0, .slice none 0 0] 32)
  obtain ⟨g2, hg2⟩ : ∃ g, g = w1.heap.size := ⟨_, rfl⟩
  rw [← hw2, ← hg2] at hx2
  have lw2 : w.heap.size ≤ g2 := by rw [hg2]; exact HB1.out.size
  have ltBX12 : g1 < g2 := by rw [hg2]; exact below_lt BX1.out
  have hs2 : g2 = w.heap.size + 1 := by rw [hg2, HW1.out]; simp
  have HS2 := Lib.hid hs2; clear hs2
  have HW2 := Lib.hid hw2; have HG2 := Lib.hid hg2; clear hw2 hg2
  have HB2 := Lib.hid (HB1.out.step hb2)
  have BX1 := Lib.hid (heap_below BX1.out hb2)
  have BX2 := Lib.hid hx2; clear hb2 hx2
  go_wp2_with (with_reducible first | refine pauseCall ?_ | refine pauseLoop ?_ | refine pauseDraw ?_ | refine pauseBody ?_ | refine pauseRounds ?_)
  try rw [← HW1.out]
  try rw [← HW2.out]
  try rw [← HS2.out]
  try rw [← HG1.out]
  try rw [← HG2.out]
  refine Pause.mk ?_
  go_loopw [8] (fun kv wr => ∃ (k : Nat) (s1 : Bool) (o1 : Option Addr) (n1 c1 : Nat) (a1 : Option Addr) (p1 d1 : Nat), k ≤ s.size ∧ kv = .int .i64 k ∧ Hid (wr.heap[g2]? = some (.cells #[.bool s1, .slice o1 n1 c1, .slice a1 p1 d1] 32)) ∧ IsR wr (.agg #[.bool s1, .slice o1 n1 c1, .slice a1 p1 d1]) (numQ ((bs s).take k)) ∧
      Hid (wr.heap[g1]? = some (.cells #[.bool false, .slice none 0 0, .slice none 0 0] 32)) ∧ Below w.heap.size w wr) (fun kv _ => s.size - (intOf kv).toNat)
  case atStart => exact ⟨0, false, none, 0, 0, none, 0, 0, Nat.zero_le _, rfl, BX2, isR_zero _, BX1, HB2.out⟩
  case round =>
    obtain ⟨k, s1, o1, n1, c1, a1, p1, d1, hk, rfl, hxA, hIS, hxR, hBr⟩ := hrel
    have HBR := Lib.hid hBr; have HIS := Lib.hid hIS; clear hBr hIS
    have BXA := hxA; have BXR := hxR
    have hrl := rl_numQ ((bs s).take k) (fun b hb => by obtain ⟨j, hj, e⟩ := List.getElem_of_mem (List.mem_of_mem_take hb); have := bs_lt s j; rw [gd_lt _ _ hj] at this; rw [← e]; exact this)
    rw [List.length_take, bs_length] at hrl
    obtain ⟨Q, hQ⟩ : ∃ Q, Q = numQ ((bs s).take k) := ⟨_, rfl⟩
    rw [← hQ] at hrl HIS
    have HQ := Lib.hid hQ; clear hQ
    have hrl2 : rl Q ≤ 1001 := by omega
    clear hrl
    by_cases hkm : k < s.size
    · skip
      have hix := run_index_gb (P := Try.prog) s 9 Try.underlying9 k hkm
      have hdk := HDG.out k hkm
      unfold isDigit at hdk
      have hdk2 := of_decide_eq_true hdk; clear hdk
      obtain ⟨b, hb⟩ : ∃ b, b = gd (bs s) k := ⟨_, rfl⟩
      rw [← hb] at hix hdk2
      have hw1 : IntKind.u8.wrap ((b : Int) - 48) = (b : Int) - 48 := by rw [IntKind.wrap_u8]; omega
      have hw2 : IntKind.i64.wrap ((b : Int) - 48) = (b : Int) - 48 := by rw [IntKind.wrap_i64]; omega
      have HNX := Lib.hid (show numQ ((bs s).take (k + 1)) = Q * ((10 : Int) : Rat) + dgQ b from by rw [List.take_succ_eq_append_getElem (show k < (bs s).length by rw [bs_length]; exact hkm), numQ_snoc, HQ.out, hb, gd_lt _ _ (by rw [bs_length]; exact hkm)])
      clear hb
      have hf1 : decide ((k : Int) < (s.size : Int)) = true := decide_eq_true (by omega)
      have hrb : rl ((((b : Int) - 48 : Int)) : Rat) ≤ 2 := rl_small (by omega) (by omega)
      go_wp2_with (with_reducible first | refine pauseCall ?_ | refine pauseLoop ?_ | refine pauseDraw ?_ | refine pauseBody ?_ | refine pauseRounds ?_)
      refine Pause.mk ?_
      have k1 : rl ((10 : Int) : Rat) ≤ 2 := rl_small (by omega) (by omega)
      have k2 := rl_mul (Q) (((10 : Int) : Rat))
      refine wp_region_facts (A := ?aa3) (w := wr) 8 [] (by kernel_rfl) (Fl [KEq (.agg #[.bool s1, .slice o1 n1 c1, .slice a1 p1 d1]), KIs (((10 : Int) : Rat)), KIs ((Q) * (((10 : Int) : Rat))), KEq (.string s), KEq (.int .i64 (k : Nat)), KEq (.int .u8 (b : Nat)), KEq (.int .u8 ((b : Int) - 48)), KEq (.int .i64 ((b : Int) - 48))]) (fun i => false) (by kernel_rfl) ?hq3 (monoL (monoC (kEq _) (monoC (kIs _) (monoC (kIs _) (monoC (kEq _) (monoC (kEq _) (monoC (kEq _) (monoC (kEq _) (monoC (kEq _) monoN))))))))) ?ha3 ?st3 ?tl3
      case hq3 =>
        intro c a d v w h
        first | (simp only [Exit.then] at h ⊢; exact h) | (simp only [Exit.inBlock, Exit.then] at h ⊢; exact h) | exact h
      case ha3 =>
        intro vals
        simp only [putsTo, dstOf, if_true, Act.put, List.setIfInBounds_toArray, List.set_cons_zero, List.set_cons_succ, List.getElem?_toArray, List.getElem?_cons_zero, List.getElem?_cons_succ, Option.bind_some]
        exact rfl
      case st3 =>
        simp only [List.take_succ_cons, List.take_zero]
        refine stepsOK_cons rfl rfl ?_ (stepsOK_cons rfl rfl ?_ (stepsOK_cons rfl rfl ?_ (stepsOK_cons rfl rfl ?_ (stepsOK_cons rfl rfl ?_ (stepsOK_cons rfl rfl ?_ (stepsOK_cons rfl rfl ?_ (stepsOK_cons rfl rfl ?_ (stepsOK_nil))))))))
        · intro vals w1 hb hd
          obtain ⟨e0, e1, e2⟩ := row3 (heap_below BXA.out hb)
          refine stepOK_value (v := .agg #[.bool s1, .slice o1 n1 c1, .slice a1 p1 d1]) (w' := w1) (by go_simp) (leaves_mk (Below.refl _ _) rfl (fun h => by cases h))
        · intro vals w1 hb hd
          have hs := ofq_any 10 w1 (by omega) (by omega)
          have HS := Lib.hid hs; clear hs
          clear hd
          refine stepOK_call (by go_simp; first | done | exact ⟨⟨rfl, rfl⟩, rfl⟩) ?_
          (with_reducible refine HS.out.mono ?_); rintro e w2 ⟨v, rfl, hb2, hn⟩
          exact ⟨v, rfl, leaves_mk hb2 hn (fun h => by cases h)⟩
        · intro vals w1 hb hd
          have d0 : KEq (.agg #[.bool s1, .slice o1 n1 c1, .slice a1 p1 d1]) (vals 0) w1 := hd 0 (by kernel_rfl)
          have d1 : KIs (((10 : Int) : Rat)) (vals 1) w1 := hd 1 (by kernel_rfl)
          have R1 : Hid (IsR w1 (vals 1) (((10 : Int) : Rat))) := Lib.hid d1
          have z0 : vals 0 = _ := d0
          have hs := mulq_any _ (Q) _ (((10 : Int) : Rat)) w1 ((HIS.out.below hb).is (by omega)) (R1.out.is (by omega))
          have HS := Lib.hid hs; clear hs
          rw [z0]; clear z0
          clear d0 d1 hd
          refine stepOK_call (by go_simp; first | done | exact ⟨⟨rfl, rfl⟩, rfl⟩) ?_
          (with_reducible refine HS.out.mono ?_); rintro e w2 ⟨v, rfl, hb2, hn⟩
          exact ⟨v, rfl, leaves_mk hb2 hn (fun h => by cases h)⟩
        · intro vals w1 hb hd
          refine stepOK_value (v := (.string s)) (w' := w1) (by go_simp) (leaves_mk (Below.refl _ _) rfl (fun h => by cases h))
        · intro vals w1 hb hd
          refine stepOK_value (v := (.int .i64 (k : Nat))) (w' := w1) (by go_simp) (leaves_mk (Below.refl _ _) rfl (fun h => by cases h))
        · intro vals w1 hb hd
          have d3 : KEq (.string s) (vals 3) w1 := hd 3 (by kernel_rfl)
          have d4 : KEq (.int .i64 (k : Nat)) (vals 4) w1 := hd 4 (by kernel_rfl)
          rw [show vals 3 = _ from d3]
          rw [show vals 4 = _ from d4]
          refine stepOK_value (v := (.int .u8 (b : Nat))) (w' := w1) (by go_simp) (leaves_mk (Below.refl _ _) rfl (fun h => by cases h))
        · intro vals w1 hb hd
          have d5 : KEq (.int .u8 (b : Nat)) (vals 5) w1 := hd 5 (by kernel_rfl)
          rw [show vals 5 = _ from d5]
          refine stepOK_value (v := (.int .u8 ((b : Int) - 48))) (w' := w1) (by go_simp) (leaves_mk (Below.refl _ _) rfl (fun h => by cases h))
        · intro vals w1 hb hd
          have d6 : KEq (.int .u8 ((b : Int) - 48)) (vals 6) w1 := hd 6 (by kernel_rfl)
          rw [show vals 6 = _ from d6]
          refine stepOK_value (v := (.int .i64 ((b : Int) - 48))) (w' := w1) (by go_simp) (leaves_mk (Below.refl _ _) rfl (fun h => by cases h))
      case tl3 =>
        intro vals w13 hb13 hf hdis
        simp only [List.drop_succ_cons, List.drop_zero]
        obtain ⟨u3_2, hu2⟩ : ∃ u, u = vals 2 := ⟨_, rfl⟩
        have hn3_2 : IsR w13 (vals 2) ((Q) * (((10 : Int) : Rat))) := hf 2 (by decide)
        rw [← hu2] at hn3_2 ⊢; clear hu2
        have z7 : vals 7 = _ := hf 7 (by decide)
        try rw [z7]
        clear z7
        clear hf hdis
        have HB13 := Lib.hid (HBR.out.step hb13)
        have HIS := Lib.hid (HIS.out.below hb13)
        have BXR := Lib.hid (heap_below BXR.out hb13)
        have BXA := Lib.hid (heap_below BXA.out hb13)
        clear hb13
        have N3_2 := Lib.hid hn3_2; clear hn3_2
        obtain ⟨s4, o4, n4, c4, a4, m4, d4, rfl⟩ := N3_2.out.shape
        skip
        have k5 : rl ((((b : Int) - 48) : Int) : Rat) ≤ 2 := rl_small (by omega) (by omega)
        have hs := ofq_any ((b : Int) - 48) w13 (by omega) (by omega)
        have HS := Lib.hid hs; clear hs
        go_wp2_with (with_reducible first | refine pauseCall ?_ | refine pauseLoop ?_ | refine pauseDraw ?_ | refine pauseBody ?_ | refine pauseRounds ?_)
        refine Pause.mk ?_
        (with_reducible refine HS.out.mono ?_); rintro e w14 ⟨v14, rfl, hb14, hn14⟩
        clear HS
        have HB14 := Lib.hid (HB13.out.step hb14)
        have HIS := Lib.hid (HIS.out.below hb14)
        have N3_2 := Lib.hid (N3_2.out.below hb14)
        have BXR := Lib.hid (heap_below BXR.out hb14)
        have BXA := Lib.hid (heap_below BXA.out hb14)
        have N14 := Lib.hid hn14; clear hn14
        obtain ⟨s6, o6, n6, c6, a6, m6, d6, rfl⟩ := N14.out.shape
        clear hb14
        have k7 := rl_add ((Q) * (((10 : Int) : Rat))) (((((b : Int) - 48) : Int) : Rat))
        have hs := addq_any _ ((Q) * (((10 : Int) : Rat))) _ (((((b : Int) - 48) : Int) : Rat)) w14 (N3_2.out.is (by omega)) (N14.out.is (by omega))
        have HS := Lib.hid hs; clear hs
        go_wp2_with (with_reducible first | refine pauseCall ?_ | refine pauseLoop ?_ | refine pauseDraw ?_ | refine pauseBody ?_ | refine pauseRounds ?_)
        refine Pause.mk ?_
        (with_reducible refine HS.out.mono ?_); rintro e w15 ⟨v15, rfl, hb15, hn15⟩
        clear HS
        have HB15 := Lib.hid (HB14.out.step hb15)
        have HIS := Lib.hid (HIS.out.below hb15)
        have N3_2 := Lib.hid (N3_2.out.below hb15)
        have N14 := Lib.hid (N14.out.below hb15)
        have BXR := Lib.hid (heap_below BXR.out hb15)
        have BXA := Lib.hid (heap_below BXA.out hb15)
        have N15 := Lib.hid hn15; clear hn15
        obtain ⟨s8, o8, n8, c8, a8, m8, d8, rfl⟩ := N15.out.shape
        clear hb15
        go_wp2_with (with_reducible refine wpList_pauseS ?_)
        refine wpList_stL g2 0 [.bool s8, .slice o8 n8 c8, .slice a8 m8 d8] BXA.out rfl rfl (Nat.le_of_ble_eq_true rfl) (by kernel_rfl) rfl ?_
        intro w16 hp16
        have HIS := Lib.hid (putL_I hp16 HIS.out BXA.out noW3)
        have N3_2 := Lib.hid (putL_I hp16 N3_2.out BXA.out noW3)
        have N14 := Lib.hid (putL_I hp16 N14.out BXA.out noW3)
        have N15 := Lib.hid (putL_I hp16 N15.out BXA.out noW3)
        have BXR := Lib.hid (putLx hp16 BXR.out (by omega))
        have nx16 : w16.heap[g2]? = some (.cells #[.bool s8, .slice o8 n8 c8, .slice a8 m8 d8] 32) := by rw [hp16]; exact putL_r BXA.out
        have BXA := Lib.hid nx16; clear nx16
        have HB16 := Lib.hid (putLb hp16 HB15.out (by omega))
        clear hp16
        go_wp2_with (with_reducible first | refine pauseCall ?_ | refine pauseLoop ?_ | refine pauseDraw ?_ | refine pauseBody ?_ | refine pauseRounds ?_)
        refine Pause.mk ?_
        go_roundw
        case rel => exact ⟨k + 1, s8, o8, n8, c8, a8, m8, d8, hkm, by go_num, BXA, by rw [HNX.out]; exact N15.out, BXR, HB16.out⟩
        case measure => simp [intOf]; omega
    · skip
      obtain rfl : k = s.size := by omega
      have hf1 : decide ((s.size : Int) < (s.size : Int)) = false := decide_eq_false (by omega)
      have HQ2 := Lib.hid (show Q = numQ (bs s) from by rw [HQ.out, List.take_of_length_le (by rw [bs_length]; exact Nat.le_refl _)])
      rw [HQ2.out] at HIS
      obtain ⟨x51_0, x51_1, x51_2⟩ := row3 BXA.out
      go_wp2_with (with_reducible refine wpList_pauseS ?_)
      clear x51_0 x51_1 x51_2
      refine wpList_stL g1 0 [.bool s1, .slice o1 n1 c1, .slice a1 p1 d1] BXR.out rfl rfl (Nat.le_of_ble_eq_true rfl) (by kernel_rfl) rfl ?_
      intro w63 hp63
      have HIS := Lib.hid (putL_I hp63 HIS.out BXR.out noW3)
      have BXA := Lib.hid (putLx hp63 BXA.out (by omega))
      have nx63 : w63.heap[g1]? = some (.cells #[.bool s1, .slice o1 n1 c1, .slice a1 p1 d1] 32) := by rw [hp63]; exact putL_r BXR.out
      have BXR := Lib.hid nx63; clear nx63
      have HB63 := Lib.hid (putLb hp63 HBR.out (by omega))
      clear hp63
      obtain ⟨x52_0, x52_1, x52_2⟩ := row3 BXR.out
      go_wp2_with (with_reducible first | refine pauseCall ?_ | refine pauseLoop ?_ | refine pauseDraw ?_ | refine pauseBody ?_ | refine pauseRounds ?_)
      clear x52_0 x52_1 x52_2
      refine Pause.mk ?_
      refine ret_rat rfl g1 _ _ _ (by first | rfl | exact rfl) BXR.out rfl ?_
      exact ⟨_, rfl, HB63.out, HIS.out⟩
end Go.Proofs.Ytaefimegiobkmaa
/-
  Text of a fraction; whether two fractions have the same fields.
  Conditions: each theorem's own.
-/
namespace Go.Proofs.Ytaefimegiobkmaa
open Go.RowKit Go.ChangeShapes Go.WideShapes

theorem IsR.fields {w : World} {s : Bool} {x y : Value} {q : Rat} (h : IsR w (.agg #[.bool s, x, y]) q) : s = ng q ∧ Num w x (wd (nn q)) ∧ Num w y (wd (dn q)) := by
  obtain ⟨va, vb, e, h1, h2⟩ := h
  cases e
  exact ⟨rfl, h1, h2⟩
end Go.Proofs.Ytaefimegiobkmaa
/-
  DERIVED: THE SHELF's CONTRACTS AT THIS DUMP, IN PLAIN WORDS (tools/lay-plain.mjs out of 'TryShelfPick.lean', which tools/lay-shelf.mjs wrote): THE SAME DECLARATIONS UNDER THE SAME NAMES: 'import', 'namespace', 'open', 'def', 'theorem' AND NOTHING ELSE: no command of the shelf's: FOR A HAND-IN. Each laying: the table of numbers ('.._ren') and one theorem, a field a fact of the dump's own or the kernel's comparison; each contract: ONE APPLICATION.
-/
namespace Go.Proofs
open Go.Shelf
def Try.lays219_ren : Go.Shelf.Ren := ⟨fun | 219 => 61 | 217 => 60 | 225 => 79 | 224 => 80 | 267 => 81 | 266 => 78 | 314 => 93 | n => n, fun | 9 => 9 | 3 => 3 | 4 => 4 | 5 => 5 | 46 => 76 | 146 => 91 | 51 => 70 | n => n, fun | 1 => 0 | n => n⟩
theorem Try.lays219 : Go.Proofs.Lays.n219 Try.prog Try.lays219_ren := {
  mixed := by kernel_rfl
  f217 := Try.func60.trans (congrArg some (by kernel_rfl))
  f219 := Try.func61.trans (congrArg some (by kernel_rfl))
  f224 := Try.func80.trans (congrArg some (by kernel_rfl))
  f225 := Try.func79.trans (congrArg some (by kernel_rfl))
  f266 := Try.func78.trans (congrArg some (by kernel_rfl))
  f267 := Try.func81.trans (congrArg some (by kernel_rfl))
  f314 := Try.func93.trans (congrArg some (by kernel_rfl))
  t3 := Try.underlying3
  a3 := Try.isAgg3
  z3 := Try.sizeOf3
  v3 := Try.zeroValue3
  t4 := Try.underlying4
  a4 := Try.isAgg4
  z4 := Try.sizeOf4
  v4 := Try.zeroValue4
  t5 := Try.underlying5
  a5 := Try.isAgg5
  z5 := Try.sizeOf5
  v5 := Try.zeroValue5
  t9 := Try.underlying9
  a9 := Try.isAgg9
  z9 := Try.sizeOf9
  v9 := Try.zeroValue9
  t46 := Try.underlying76
  a46 := Try.isAgg76
  z46 := Try.sizeOf76
  v46 := Try.zeroValue76
  t51 := Try.underlying70
  a51 := Try.isAgg70
  z51 := Try.sizeOf70
  v51 := Try.zeroValue70
  t146 := Try.underlying91
  a146 := Try.isAgg91
  z146 := Try.sizeOf91
  v146 := Try.zeroValue91
  g1 := by kernel_rfl }
open Go.RowKit Go.Lib in
/-- internal/stringslite.Index (what strings.Index calls) AT A substr OF ONE BYTE c: IT RETURNS 'Lib.indexByte s c'; the world is as it was. (LAID: no walk: one application.) -/
theorem Try.stringslite_Index_one (s : ByteArray) (c : UInt8) (w : World) :
    Calls Try.prog 61 #[.string s, .string ⟨#[c]⟩] w fun e w' => e = .returned (.int .i64 (Lib.indexByte s.data.toList c)) ∧ w' = w := Any.stringslite_Index_one Try.lays219 s c w
end Go.Proofs
/-
  strings.CutPrefix and strings.Cut at one byte: what they hand back.
  Conditions: the texts are no longer than a machine's.
-/
namespace Go.Proofs.Ytaefimegiobkmaa
open Go.RowKit Go.ChangeShapes Go.WideShapes

/-- what lies ahead of the first byte c, and what lies behind it -/
def cutL (c : UInt8) : List UInt8 → Option (List UInt8 × List UInt8)
  | [] => none
  | x :: l => if x = c then some ([], l) else (cutL c l).map fun p => (x :: p.1, p.2)
theorem cutL_index (c : UInt8) (l : List UInt8) : (cutL c l = none ∧ Lib.indexByte l c = -1) ∨ (∃ i : Nat, i < l.length ∧ cutL c l = some (l.take i, l.drop (i + 1)) ∧ Lib.indexByte l c = (i : Int)) := by
  induction l with
  | nil => exact .inl ⟨rfl, rfl⟩
  | cons x l ih =>
    unfold cutL Lib.indexByte
    by_cases h : x = c
    · right
      subst h
      exact ⟨0, by simp, by simp, by simp⟩
    · have hb : (x == c) = false := by rw [beq_eq_false_iff_ne]; exact h
      rw [if_neg h, if_neg (by simp [hb])]
      rcases ih with ⟨h1, h2⟩ | ⟨i, h0, h1, h2⟩
      · left; rw [h1, h2]; exact ⟨rfl, rfl⟩
      · right
        refine ⟨i + 1, by simpa using h0, by rw [h1]; rfl, ?_⟩
        rw [h2, if_neg (by first | (simp; done) | (simp; omega))]; omega

/-- a text cut around the first byte c: ahead, behind, whether there is one -/
def cut3 (c : UInt8) (l : List UInt8) : List UInt8 × List UInt8 × Bool := match cutL c l with | some p => (p.1, p.2, true) | none => (l, [], false)
/-- a cut: nothing changes but the count of draws -/
def RetCut (w : World) (c : UInt8) (l : List UInt8) (e : Ending) (w' : World) : Prop :=
  e = .returned (.tuple #[.string ⟨(cut3 c l).1.toArray⟩, .string ⟨(cut3 c l).2.1.toArray⟩, .bool (cut3 c l).2.2]) ∧ Below w.heap.size w w'
set_option maxRecDepth 100000 in
set_option maxHeartbeats 800000 in
theorem lcut_any (c : UInt8) (l : List UInt8) (w : World) (hl : l.length ≤ 4611686018427387904) :
    Calls Try.prog 41 #[.string ⟨l.toArray⟩, .string ⟨#[c]⟩] w (RetCut w c l) := by
  have hix := Try.stringslite_Index_one ⟨l.toArray⟩ c w
  rw [show (⟨l.toArray⟩ : ByteArray).data.toList = l from rfl] at hix
  obtain ⟨S, hS⟩ : ∃ S : ByteArray, S = ⟨l.toArray⟩ := ⟨_, rfl⟩
  have hsz : S.size = l.length := by rw [hS]; simp [ByteArray.size]
  rcases cutL_index c l with ⟨h1, h2⟩ | ⟨i, h0, h1, h2⟩
  · rw [h2] at hix
    have e : cut3 c l = (l, [], false) := by unfold cut3; rw [h1]
    unfold RetCut
    rw [e]
    have HSS := Lib.hid hS
    rw [← hS] at hix
    have HIX := Lib.hid hix
    clear hix h1 h2 e
    rw [← hS]
    clear hS
    go_enter Try.func41, Try.ntmps41
    go_wp2_with fail
    (with_reducible refine HIX.out.mono ?_); rintro e wx ⟨rfl, rfl⟩
    go_wp2_with fail
    go_ret3
    exact ⟨rfl, Below.refl _ _⟩
  · rw [h2] at hix
    have e : cut3 c l = (l.take i, l.drop (i + 1), true) := by unfold cut3; rw [h1]
    unfold RetCut
    rw [e]
    have hs1 : ∀ wx : World, (Instr.slice 9 (.string S) none (some (.int .i64 (i : Int))) none).run Try.prog wx = .ok (.string ⟨(l.take i).toArray⟩) wx := fun wx => by
      rw [run_slice_string_to_if (P := Try.prog) wx 9 S .i64 i Try.underlying9, if_pos (by omega)]
      have e : S.extract 0 (i : Int).toNat = ⟨(l.take i).toArray⟩ := by rw [hS]; apply ByteArray.ext; simp [ByteArray.data_extract]
      rw [e]
    have hs2 : ∀ wx : World, (Instr.slice 9 (.string S) (some (.int .i64 ((i : Int) + 1))) none none).run Try.prog wx = .ok (.string ⟨(l.drop (i + 1)).toArray⟩) wx := fun wx => by
      rw [run_slice_string_from_if (P := Try.prog) wx 9 S .i64 _ Try.underlying9, if_pos (by omega)]
      have e : S.extract ((i : Int) + 1).toNat S.size = ⟨(l.drop (i + 1)).toArray⟩ := by
        rw [hsz, show ((i : Int) + 1).toNat = i + 1 by omega, hS]; apply ByteArray.ext; simp [ByteArray.data_extract, List.extract_eq_take_drop]
        exact List.take_of_length_le (by rw [List.length_drop]; exact Nat.le_refl _)
      rw [e]
    obtain ⟨a, ha⟩ : ∃ a : ByteArray, a = ⟨(l.take i).toArray⟩ := ⟨_, rfl⟩
    obtain ⟨b, hb⟩ : ∃ b : ByteArray, b = ⟨(l.drop (i + 1)).toArray⟩ := ⟨_, rfl⟩
    rw [← ha] at hs1; rw [← hb] at hs2
    show Calls _ _ _ _ fun e' w' => e' = .returned (.tuple #[.string ⟨(l.take i).toArray⟩, .string ⟨(l.drop (i + 1)).toArray⟩, .bool true]) ∧ Below w.heap.size w w'
    rw [← hS] at hix ⊢
    rw [← ha, ← hb]
    have HIX := Lib.hid hix
    have f1 : decide ((0 : Int) ≤ (i : Int)) = true := decide_eq_true (by omega)
    clear hix h1 h2 e hS ha hb
    go_enter Try.func41, Try.ntmps41
    go_wp2_with fail
    (with_reducible refine HIX.out.mono ?_); rintro e wx ⟨rfl, rfl⟩
    go_wp2_with fail
    go_quiet (fail)
    go_wp2_with fail
    go_ret3
    exact ⟨rfl, below_drewN (Below.refl _ _) _⟩
set_option maxRecDepth 100000 in
set_option maxHeartbeats 400000 in
theorem cut_any (c : UInt8) (l : List UInt8) (w : World) (hl : l.length ≤ 4611686018427387904) :
    Calls Try.prog 22 #[.string ⟨l.toArray⟩, .string ⟨#[c]⟩] w (RetCut w c l) := by
  have HP := Lib.hid (lcut_any c l w hl)
  unfold RetCut at HP ⊢
  obtain ⟨a, ha⟩ : ∃ a : ByteArray, a = ⟨(cut3 c l).1.toArray⟩ := ⟨_, rfl⟩
  obtain ⟨b, hb⟩ : ∃ b : ByteArray, b = ⟨(cut3 c l).2.1.toArray⟩ := ⟨_, rfl⟩
  obtain ⟨f, hf⟩ : ∃ f, f = (cut3 c l).2.2 := ⟨_, rfl⟩
  obtain ⟨S, hS⟩ : ∃ S : ByteArray, S = ⟨l.toArray⟩ := ⟨_, rfl⟩
  rw [← ha, ← hb, ← hf, ← hS] at HP
  rw [← ha, ← hb, ← hf, ← hS]
  clear ha hb hf hS
  go_enter Try.func22, Try.ntmps22
  go_wp2_with fail
  (with_reducible refine HP.out.mono ?_); rintro e wx ⟨rfl, hb1⟩
  go_wp2_with fail
  go_ret3
  exact ⟨rfl, hb1⟩
end Go.Proofs.Ytaefimegiobkmaa
/-
  Texts of fractions there and back.
  Conditions: none.
-/
namespace Go.Proofs.Ytaefimegiobkmaa

theorem cutL_not {c : UInt8} {l : List UInt8} (h : c ∉ l) : cutL c l = none := by
  induction l with
  | nil => rfl
  | cons x l ih =>
    unfold cutL
    rw [if_neg (fun e => h (by rw [e]; exact List.mem_cons_self)), ih (fun e => h (List.mem_cons_of_mem _ e))]; rfl
theorem cutL_at {c : UInt8} {a b : List UInt8} (h : c ∉ a) : cutL c (a ++ c :: b) = some (a, b) := by
  induction a with
  | nil => show cutL c (c :: b) = _; unfold cutL; rw [if_pos rfl]
  | cons x a ih =>
    rw [List.cons_append]
    unfold cutL
    rw [if_neg (fun e => h (by rw [e]; exact List.mem_cons_self)), ih (fun e => h (List.mem_cons_of_mem _ e))]; rfl
end Go.Proofs.Ytaefimegiobkmaa
/-
  A number's text cut at its stroke or its point.
  Conditions: none beyond each theorem's own.
-/
namespace Go.Proofs.Ytaefimegiobkmaa
open Go.RowKit

theorem bs_mk (l : List UInt8) : bs ⟨l.toArray⟩ = l.map UInt8.toNat := by simp [bs]
theorem gd_data (s : ByteArray) {j : Nat} (h : j < s.data.toList.length) : (s.data.toList[j]).toNat = gd (bs s) j := by
  have h' : j < (bs s).length := by unfold bs; rw [List.length_map]; exact h
  rw [gd_lt _ _ h']; simp [bs]
theorem mem_gd {s : ByteArray} {n : Nat} {x : UInt8} (h : x ∈ s.data.toList.take n) : ∃ j, j < n ∧ j < s.size ∧ x.toNat = gd (bs s) j := by
  obtain ⟨j, hj, e⟩ := List.getElem_of_mem h
  rw [List.length_take] at hj
  have h2 : j < s.data.toList.length := by omega
  refine ⟨j, by omega, by have := bs_length s; unfold bs at this; rw [List.length_map] at this; omega, ?_⟩
  rw [← gd_data s h2, ← e, List.getElem_take]
theorem data_len (s : ByteArray) : s.data.toList.length = s.size := by have := bs_length s; unfold bs at this; rw [List.length_map] at this; exact this
theorem cut_at {s : ByteArray} {e : Nat} {c : UInt8} (he : e < s.size) (hc : gd (bs s) e = c.toNat) (hn : ∀ j, j < e → gd (bs s) j ≠ c.toNat) : cut3 c s.data.toList = (s.data.toList.take e, s.data.toList.drop (e + 1), true) := by
  have hl : e < s.data.toList.length := by rw [data_len]; exact he
  have hsplit : s.data.toList = s.data.toList.take e ++ c :: s.data.toList.drop (e + 1) := by
    have h1 := (List.take_append_drop e s.data.toList).symm
    rw [List.drop_eq_getElem_cons hl] at h1
    have h2 : s.data.toList[e] = c := by apply UInt8.toNat_inj.1; rw [gd_data s hl]; exact hc
    rw [h2] at h1; exact h1
  have hnot : c ∉ s.data.toList.take e := fun h => by
    obtain ⟨j, h1, _, h3⟩ := mem_gd h
    exact hn j h1 h3.symm
  have k := cutL_at (b := s.data.toList.drop (e + 1)) hnot
  rw [← hsplit] at k
  unfold cut3; rw [k]
theorem cut_no {s : ByteArray} {c : UInt8} (hn : ∀ j, j < s.size → gd (bs s) j ≠ c.toNat) : cut3 c s.data.toList = (s.data.toList, [], false) := by
  have hnot : c ∉ s.data.toList := fun h => by
    have h' : c ∈ s.data.toList.take s.size := by rw [List.take_of_length_le (by rw [data_len]; exact Nat.le_refl _)]; exact h
    obtain ⟨j, _, h2, h3⟩ := mem_gd h'
    exact hn j h2 h3.symm
  unfold cut3; rw [cutL_not hnot]
/-- the parts of a number's text -/
def pA (s : ByteArray) : ByteArray := ⟨(s.data.toList.take (nE (bs s))).toArray⟩
def pB (s : ByteArray) : ByteArray := ⟨(s.data.toList.drop (nE (bs s) + 1)).toArray⟩
theorem bs_pA (s : ByteArray) : bs (pA s) = nA (bs s) := by unfold pA nA; rw [bs_mk, List.map_take]; rfl
theorem bs_pB (s : ByteArray) : bs (pB s) = nB (bs s) := by unfold pB nB; rw [bs_mk, List.map_drop]; rfl
theorem pA_size (s : ByteArray) : (pA s).size ≤ s.size := by
  rw [← bs_length, bs_pA, ← bs_length s]; unfold nA; rw [List.length_take]; omega
theorem pB_size (s : ByteArray) : (pB s).size ≤ s.size := by
  rw [← bs_length, bs_pB, ← bs_length s]; unfold nB; rw [List.length_drop]; omega
theorem pA_digits {s : ByteArray} (h : isNum (bs s)) : ∀ j, j < (pA s).size → isDigit (gd (bs (pA s)) j) = true := by
  intro j hj
  rw [← bs_length, bs_pA] at hj
  unfold nA at hj; rw [List.length_take] at hj
  rw [bs_pA]; unfold nA; rw [gd_take, if_pos (by omega)]
  exact nE_digit (by omega)
theorem pB_digits {s : ByteArray} (h : isNum (bs s)) : ∀ j, j < (pB s).size → isDigit (gd (bs (pB s)) j) = true := by
  intro j hj
  rw [← bs_length, bs_pB] at hj
  unfold nB at hj; rw [List.length_drop] at hj
  rw [bs_pB]; unfold nB; rw [gd_drop]
  exact num_digit h (by omega) (by omega)
theorem digit_range {b : Nat} (h : isDigit b = true) : 48 ≤ b ∧ b ≤ 57 := by unfold isDigit at h; exact of_decide_eq_true h
theorem cut_slash {s : ByteArray} (h1 : nE (bs s) < s.size) (h2 : gd (bs s) (nE (bs s)) = 47) : cut3 47 s.data.toList = (s.data.toList.take (nE (bs s)), s.data.toList.drop (nE (bs s) + 1), true) :=
  cut_at h1 h2 (fun j hj e => by have := digit_range (nE_digit (l := bs s) hj); have e' : gd (bs s) j = 47 := e; omega)
theorem cut_dot {s : ByteArray} (h1 : nE (bs s) < s.size) (h2 : gd (bs s) (nE (bs s)) = 46) : cut3 46 s.data.toList = (s.data.toList.take (nE (bs s)), s.data.toList.drop (nE (bs s) + 1), true) :=
  cut_at h1 h2 (fun j hj e => by have := digit_range (nE_digit (l := bs s) hj); have e' : gd (bs s) j = 46 := e; omega)
theorem no_slash {s : ByteArray} (h : isNum (bs s)) (h1 : ¬ (nE (bs s) < s.size ∧ gd (bs s) (nE (bs s)) = 47)) : cut3 47 s.data.toList = (s.data.toList, [], false) :=
  cut_no (fun j hj e => by
    have e' : gd (bs s) j = 47 := e
    by_cases hje : j = nE (bs s)
    · exact h1 ⟨by omega, by rw [← hje]; exact e'⟩
    · have := digit_range (num_digit h (by rw [bs_length]; exact hj) hje); omega)
/-- behind no stroke: the second cut -/
theorem cut_point {s : ByteArray} (h : isNum (bs s)) (h1 : ¬ (nE (bs s) < s.size ∧ gd (bs s) (nE (bs s)) = 47)) : (⟨(cut3 46 s.data.toList).1.toArray⟩ : ByteArray) = pA s ∧ (⟨(cut3 46 s.data.toList).2.1.toArray⟩ : ByteArray) = pB s := by
  by_cases he : nE (bs s) < s.size
  · have h2 : gd (bs s) (nE (bs s)) = 46 := by
      rcases num_forms h with k | ⟨_, k | k, _⟩
      · rw [bs_length] at k; omega
      · exact k
      · exact absurd ⟨he, k⟩ h1
    rw [cut_dot he h2]; exact ⟨rfl, rfl⟩
  · have hE : nE (bs s) = s.size := by have := nE_le (bs s); rw [bs_length] at this; omega
    rw [cut_no (fun j hj e => by
      have e' : gd (bs s) j = 46 := e
      have := digit_range (nE_digit (l := bs s) (j := j) (by omega)); omega)]
    refine ⟨?_, ?_⟩
    · unfold pA; rw [hE, List.take_of_length_le (by rw [data_len]; exact Nat.le_refl _)]
    · unfold pB; rw [hE, List.drop_of_length_le (by rw [data_len]; omega)]
end Go.Proofs.Ytaefimegiobkmaa
/-
  token.Value and the reference's: texts that are no numbers.
  Conditions: each theorem's own.
-/
namespace Go.Proofs.Ytaefimegiobkmaa
open Go.RowKit Go.ChangeShapes Go.WideShapes

set_option maxRecDepth 100000 in
set_option maxHeartbeats 3200000 in
theorem value_long (s : ByteArray) (w : World)  (h : 100 < s.size) :
    Calls Try.prog 7 #[.string s] w (RetRE w 0 (errV 4)) := by
  have HBW := Lib.hid (Below.refl w.heap.size w)
  have kz0 : rl 0 ≤ 1 := by rw [rl_zero]; exact Nat.le_refl _
  rw [errV_pos (by decide)]
  have f1 : decide ((100 : Int) < (s.size : Int)) = true := decide_eq_true (by omega)
  clear h
  obtain ⟨w1, hw1⟩ : ∃ w1, w1 = w.alloc (.cells #[.bool false, .slice none 0 0, .slice none 0 0] 32) := ⟨_, rfl⟩
  have hb1 : Below w.heap.size w w1 := by rw [hw1]; exact (Below.refl _ _).alloc (Nat.le_refl _) _
  have hx1 := heap_alloc_new w (.cells #[.bool false, .slice none 0 0, .slice none 0 0] 32)
  obtain ⟨g1, hg1⟩ : ∃ g, g = w.heap.size := ⟨_, rfl⟩
  rw [← hw1, ← hg1] at hx1
  have lw1 : w.heap.size ≤ g1 := by rw [hg1]; exact HBW.out.size
  have HW1 := Lib.hid hw1; have HG1 := Lib.hid hg1; clear hw1 hg1
  have HB1 := Lib.hid (HBW.out.step hb1)
  have BX1 := Lib.hid hx1; clear hb1 hx1
  go_enter Try.func7, Try.ntmps7
  go_wp2_with (with_reducible refine wpList_pauseS ?_)
  try rw [← HW1.out]
  try rw [← HG1.out]
  refine wpList_stL g1 0 [.bool false, .slice none 0 0, .slice none 0 0] BX1.out rfl rfl (Nat.le_of_ble_eq_true rfl) (by kernel_rfl) rfl ?_
  intro w2 hp2
  have nx2 : w2.heap[g1]? = some (.cells #[.bool false, .slice none 0 0, .slice none 0 0] 32) := by rw [hp2]; exact putL_r BX1.out
  have BX1 := Lib.hid nx2; clear nx2
  have HB2 := Lib.hid (putLb hp2 HB1.out (by omega))
  clear hp2
  obtain ⟨x1_0, x1_1, x1_2⟩ := row3 BX1.out
  go_wp2_with (with_reducible first | refine pauseCall ?_ | refine pauseLoop ?_ | refine pauseDraw ?_ | refine pauseBody ?_ | refine pauseRounds ?_)
  clear x1_0 x1_1 x1_2
  refine Pause.mk ?_
  refine ret_rat2 rfl g1 _ _ _ (by first | rfl | exact rfl) BX1.out rfl ?_
  exact ⟨_, rfl, HB2.out, (isR_zero _)⟩
set_option maxRecDepth 100000 in
set_option maxHeartbeats 3200000 in
theorem value_empty (s : ByteArray) (w : World)  (h : s.size = 0) :
    Calls Try.prog 7 #[.string s] w (RetRE w 0 (errV 2)) := by
  have HBW := Lib.hid (Below.refl w.heap.size w)
  have kz0 : rl 0 ≤ 1 := by rw [rl_zero]; exact Nat.le_refl _
  rw [errV_pos (by decide)]
  have f1 : decide ((100 : Int) < (s.size : Int)) = false := decide_eq_false (by omega)
  have f2 : ((s.size : Int) == 0) = true := by rw [h]; rfl
  clear h
  obtain ⟨w1, hw1⟩ : ∃ w1, w1 = w.alloc (.cells #[.bool false, .slice none 0 0, .slice none 0 0] 32) := ⟨_, rfl⟩
  have hb1 : Below w.heap.size w w1 := by rw [hw1]; exact (Below.refl _ _).alloc (Nat.le_refl _) _
  have hx1 := heap_alloc_new w (.cells #[.bool false, .slice none 0 0, .slice none 0 0] 32)
  obtain ⟨g1, hg1⟩ : ∃ g, g = w.heap.size := ⟨_, rfl⟩
  rw [← hw1, ← hg1] at hx1
  have lw1 : w.heap.size ≤ g1 := by rw [hg1]; exact HBW.out.size
  have HW1 := Lib.hid hw1; have HG1 := Lib.hid hg1; clear hw1 hg1
  have HB1 := Lib.hid (HBW.out.step hb1)
  have BX1 := Lib.hid hx1; clear hb1 hx1
  go_enter Try.func7, Try.ntmps7
  go_wp2_with (with_reducible refine wpList_pauseS ?_)
  try rw [← HW1.out]
  try rw [← HG1.out]
  refine wpList_stL g1 0 [.bool false, .slice none 0 0, .slice none 0 0] BX1.out rfl rfl (Nat.le_of_ble_eq_true rfl) (by kernel_rfl) rfl ?_
  intro w2 hp2
  have nx2 : w2.heap[g1]? = some (.cells #[.bool false, .slice none 0 0, .slice none 0 0] 32) := by rw [hp2]; exact putL_r BX1.out
  have BX1 := Lib.hid nx2; clear nx2
  have HB2 := Lib.hid (putLb hp2 HB1.out (by omega))
  clear hp2
  obtain ⟨x1_0, x1_1, x1_2⟩ := row3 BX1.out
  go_wp2_with (with_reducible first | refine pauseCall ?_ | refine pauseLoop ?_ | refine pauseDraw ?_ | refine pauseBody ?_ | refine pauseRounds ?_)
  clear x1_0 x1_1 x1_2
  refine Pause.mk ?_
  refine ret_rat2 rfl g1 _ _ _ (by first | rfl | exact rfl) BX1.out rfl ?_
  exact ⟨_, rfl, HB2.out, (isR_zero _)⟩
set_option maxRecDepth 100000 in
set_option maxHeartbeats 3200000 in
theorem value_first (s : ByteArray) (w : World)  (h0 : 0 < s.size) (h : s.size ≤ 100) (HX : isDigit (gd (bs s) 0) = false) :
    Calls Try.prog 7 #[.string s] w (RetRE w 0 (errV 2)) := by
  have HBW := Lib.hid (Below.refl w.heap.size w)
  have kz0 : rl 0 ≤ 1 := by rw [rl_zero]; exact Nat.le_refl _
  rw [errV_pos (by decide)]
  have f1 : decide ((100 : Int) < (s.size : Int)) = false := decide_eq_false (by omega)
  have f2 : ((s.size : Int) == 0) = false := beq_eq_false_iff_ne.2 (by omega)
  have hix := run_index_gb (P := Try.prog) s 9 Try.underlying9 0 (by omega)
  have hb256 := bs_lt s 0
  obtain ⟨b, hb⟩ : ∃ b, b = gd (bs s) 0 := ⟨_, rfl⟩
  rw [← hb] at hix hb256 HX
  rw [show ((0 : Nat) : Int) = 0 from rfl] at hix
  have HDB := Lib.hid HX; clear HX hb
  obtain ⟨w1, hw1⟩ : ∃ w1, w1 = w.alloc (.cells #[.bool false, .slice none 0 0, .slice none 0 0] 32) := ⟨_, rfl⟩
  have hb1 : Below w.heap.size w w1 := by rw [hw1]; exact (Below.refl _ _).alloc (Nat.le_refl _) _
  have hx1 := heap_alloc_new w (.cells #[.bool false, .slice none 0 0, .slice none 0 0] 32)
  obtain ⟨g1, hg1⟩ : ∃ g, g = w.heap.size := ⟨_, rfl⟩
  rw [← hw1, ← hg1] at hx1
  have lw1 : w.heap.size ≤ g1 := by rw [hg1]; exact HBW.out.size
  have HW1 := Lib.hid hw1; have HG1 := Lib.hid hg1; clear hw1 hg1
  have HB1 := Lib.hid (HBW.out.step hb1)
  have BX1 := Lib.hid hx1; clear hb1 hx1
  go_enter Try.func7, Try.ntmps7
  have hs := digit_any b w1 hb256
  rw [HDB.out] at hs
  have HS := Lib.hid hs; clear hs
  go_wp2_with (with_reducible first | refine pauseCall ?_ | refine pauseLoop ?_ | refine pauseDraw ?_ | refine pauseBody ?_ | refine pauseRounds ?_)
  try rw [← HW1.out]
  try rw [← HG1.out]
  refine Pause.mk ?_
  (with_reducible refine HS.out.mono ?_); rintro e wx ⟨rfl, rfl⟩
  clear HS
  go_wp2_with (with_reducible refine wpList_pauseS ?_)
  refine wpList_stL g1 0 [.bool false, .slice none 0 0, .slice none 0 0] BX1.out rfl rfl (Nat.le_of_ble_eq_true rfl) (by kernel_rfl) rfl ?_
  intro w3 hp3
  have nx3 : w3.heap[g1]? = some (.cells #[.bool false, .slice none 0 0, .slice none 0 0] 32) := by rw [hp3]; exact putL_r BX1.out
  have BX1 := Lib.hid nx3; clear nx3
  have HB3 := Lib.hid (putLb hp3 HB1.out (by omega))
  clear hp3
  obtain ⟨x1_0, x1_1, x1_2⟩ := row3 BX1.out
  go_wp2_with (with_reducible first | refine pauseCall ?_ | refine pauseLoop ?_ | refine pauseDraw ?_ | refine pauseBody ?_ | refine pauseRounds ?_)
  clear x1_0 x1_1 x1_2
  refine Pause.mk ?_
  refine ret_rat2 rfl g1 _ _ _ (by first | rfl | exact rfl) BX1.out rfl ?_
  exact ⟨_, rfl, HB3.out, (isR_zero _)⟩
set_option maxRecDepth 100000 in
set_option maxHeartbeats 3200000 in
theorem value_end (s : ByteArray) (w : World)  (h0 : 0 < s.size) (h : s.size ≤ 100) (HX : isDigit (gd (bs s) 0) = true) (hne : numEnd (bs s) 0 ≠ s.size) :
    Calls Try.prog 7 #[.string s] w (RetRE w 0 (errV 2)) := by
  have HBW := Lib.hid (Below.refl w.heap.size w)
  have kz0 : rl 0 ≤ 1 := by rw [rl_zero]; exact Nat.le_refl _
  rw [errV_pos (by decide)]
  have f1 : decide ((100 : Int) < (s.size : Int)) = false := decide_eq_false (by omega)
  have f2 : ((s.size : Int) == 0) = false := beq_eq_false_iff_ne.2 (by omega)
  have hix := run_index_gb (P := Try.prog) s 9 Try.underlying9 0 (by omega)
  have hb256 := bs_lt s 0
  obtain ⟨b, hb⟩ : ∃ b, b = gd (bs s) 0 := ⟨_, rfl⟩
  rw [← hb] at hix hb256 HX
  rw [show ((0 : Nat) : Int) = 0 from rfl] at hix
  have HDB := Lib.hid HX; clear HX hb
  obtain ⟨E, hE⟩ : ∃ E, E = numEnd (bs s) 0 := ⟨_, rfl⟩
  have hEl := numEnd_le (l := bs s) (k := 0) (Nat.zero_le _)
  rw [bs_length] at hEl
  rw [← hE] at hne hEl
  have f3 : ((E : Int) != (s.size : Int)) = true := bne_iff_ne.2 (by omega)
  have HE := Lib.hid hE.symm; clear hE
  obtain ⟨w1, hw1⟩ : ∃ w1, w1 = w.alloc (.cells #[.bool false, .slice none 0 0, .slice none 0 0] 32) := ⟨_, rfl⟩
  have hb1 : Below w.heap.size w w1 := by rw [hw1]; exact (Below.refl _ _).alloc (Nat.le_refl _) _
  have hx1 := heap_alloc_new w (.cells #[.bool false, .slice none 0 0, .slice none 0 0] 32)
  obtain ⟨g1, hg1⟩ : ∃ g, g = w.heap.size := ⟨_, rfl⟩
  rw [← hw1, ← hg1] at hx1
  have lw1 : w.heap.size ≤ g1 := by rw [hg1]; exact HBW.out.size
  have HW1 := Lib.hid hw1; have HG1 := Lib.hid hg1; clear hw1 hg1
  have HB1 := Lib.hid (HBW.out.step hb1)
  have BX1 := Lib.hid hx1; clear hb1 hx1
  go_enter Try.func7, Try.ntmps7
  have hs := digit_any b w1 hb256
  rw [HDB.out] at hs
  have HS := Lib.hid hs; clear hs
  go_wp2_with (with_reducible first | refine pauseCall ?_ | refine pauseLoop ?_ | refine pauseDraw ?_ | refine pauseBody ?_ | refine pauseRounds ?_)
  try rw [← HW1.out]
  try rw [← HG1.out]
  refine Pause.mk ?_
  (with_reducible refine HS.out.mono ?_); rintro e wx ⟨rfl, rfl⟩
  clear HS
  have hs := numberEnd_any s 0 w1 (by omega) (by omega)
  rw [HE.out, show ((0 : Nat) : Int) = 0 from rfl] at hs
  have HS := Lib.hid hs; clear hs
  go_wp2_with (with_reducible first | refine pauseCall ?_ | refine pauseLoop ?_ | refine pauseDraw ?_ | refine pauseBody ?_ | refine pauseRounds ?_)
  refine Pause.mk ?_
  (with_reducible refine HS.out.mono ?_); rintro e wx ⟨rfl, rfl⟩
  clear HS
  go_wp2_with (with_reducible refine wpList_pauseS ?_)
  refine wpList_stL g1 0 [.bool false, .slice none 0 0, .slice none 0 0] BX1.out rfl rfl (Nat.le_of_ble_eq_true rfl) (by kernel_rfl) rfl ?_
  intro w4 hp4
  have nx4 : w4.heap[g1]? = some (.cells #[.bool false, .slice none 0 0, .slice none 0 0] 32) := by rw [hp4]; exact putL_r BX1.out
  have BX1 := Lib.hid nx4; clear nx4
  have HB4 := Lib.hid (putLb hp4 HB1.out (by omega))
  clear hp4
  obtain ⟨x1_0, x1_1, x1_2⟩ := row3 BX1.out
  go_wp2_with (with_reducible first | refine pauseCall ?_ | refine pauseLoop ?_ | refine pauseDraw ?_ | refine pauseBody ?_ | refine pauseRounds ?_)
  clear x1_0 x1_1 x1_2
  refine Pause.mk ?_
  refine ret_rat2 rfl g1 _ _ _ (by first | rfl | exact rfl) BX1.out rfl ?_
  exact ⟨_, rfl, HB4.out, (isR_zero _)⟩
end Go.Proofs.Ytaefimegiobkmaa
/-
  Intervals: their ends' lengths, their order, what sums and products of ends come to.
  Conditions: none beyond each theorem's own.
-/
namespace Go.Proofs.Ytaefimegiobkmaa

theorem div_zero_q (p : Rat) : p / 0 = 0 := by grind
theorem rl_div' (p q : Rat) : rl (p / q) ≤ rl p + rl q := by
  by_cases h : q = 0
  · subst h; rw [div_zero_q, rl_zero]; have := rl_pos p; omega
  · exact rl_div p q h
end Go.Proofs.Ytaefimegiobkmaa
/-
  token.Value: the value of a number.
  Conditions: each theorem's own.
-/
namespace Go.Proofs.Ytaefimegiobkmaa
open Go.RowKit Go.ChangeShapes Go.WideShapes

theorem cutRet_slash (s : ByteArray) (w : World) (hs : s.size ≤ 4611686018427387904) (h1 : nE (bs s) < s.size) (h2 : gd (bs s) (nE (bs s)) = 47) :
    Calls Try.prog 22 #[.string s, .string ⟨#[47]⟩] w (RetV w (.tuple #[.string (pA s), .string (pB s), .bool true])) := by
  have h := cut_any 47 s.data.toList w (by rw [data_len]; exact hs)
  unfold RetCut at h; rw [cut_slash h1 h2] at h; exact h
theorem cutRet_no (s : ByteArray) (w : World) (hs : s.size ≤ 4611686018427387904) (h : isNum (bs s)) (h1 : ¬ (nE (bs s) < s.size ∧ gd (bs s) (nE (bs s)) = 47)) :
    Calls Try.prog 22 #[.string s, .string ⟨#[47]⟩] w (RetV w (.tuple #[.string s, .string ⟨#[]⟩, .bool false])) := by
  have h := cut_any 47 s.data.toList w (by rw [data_len]; exact hs)
  unfold RetCut at h; rw [no_slash (by assumption) h1] at h; exact h
theorem cutRet_point (s : ByteArray) (w : World) (hs : s.size ≤ 4611686018427387904) (h : isNum (bs s)) (h1 : ¬ (nE (bs s) < s.size ∧ gd (bs s) (nE (bs s)) = 47)) :
    Calls Try.prog 22 #[.string s, .string ⟨#[46]⟩] w (RetV w (.tuple #[.string (pA s), .string (pB s), .bool (cut3 46 s.data.toList).2.2])) := by
  have k := cut_any 46 s.data.toList w (by rw [data_len]; exact hs)
  unfold RetCut at k; rw [(cut_point h h1).1, (cut_point h h1).2] at k; exact k
theorem rl_nA (s : ByteArray) (h : s.size ≤ 100) : rl (numQ (nA (bs s))) ≤ 501 := by
  have h1 := rl_numQ (nA (bs s)) (fun b hb => by obtain ⟨j, hj, e⟩ := List.getElem_of_mem (List.mem_of_mem_take hb); have := bs_lt s j; rw [gd_lt _ _ hj] at this; rw [← e]; exact this)
  have h2 : (nA (bs s)).length ≤ 100 := by unfold nA; rw [List.length_take, bs_length]; omega
  omega
theorem rl_nB (s : ByteArray) (h : s.size ≤ 100) : rl (numQ (nB (bs s))) ≤ 501 := by
  have h1 := rl_numQ (nB (bs s)) (fun b hb => by obtain ⟨j, hj, e⟩ := List.getElem_of_mem (List.mem_of_mem_drop hb); have := bs_lt s j; rw [gd_lt _ _ hj] at this; rw [← e]; exact this)
  have h2 : (nB (bs s)).length ≤ 100 := by unfold nB; rw [List.length_drop, bs_length]; omega
  omega
theorem rl_nJ (s : ByteArray) (h : s.size ≤ 100) : rl (numQ (nA (bs s) ++ nB (bs s))) ≤ 1001 := by
  have h1 := rl_numQ (nA (bs s) ++ nB (bs s)) (fun b hb => by
    rcases List.mem_append.1 hb with hb | hb
    · obtain ⟨j, hj, e⟩ := List.getElem_of_mem (List.mem_of_mem_take hb); have := bs_lt s j; rw [gd_lt _ _ hj] at this; rw [← e]; exact this
    · obtain ⟨j, hj, e⟩ := List.getElem_of_mem (List.mem_of_mem_drop hb); have := bs_lt s j; rw [gd_lt _ _ hj] at this; rw [← e]; exact this)
  have h2 : (nA (bs s)).length ≤ 100 := by unfold nA; rw [List.length_take, bs_length]; omega
  have h3 : (nB (bs s)).length ≤ 100 := by unfold nB; rw [List.length_drop, bs_length]; omega
  rw [List.length_append] at h1; omega
theorem pJ_digits {s : ByteArray} (h : isNum (bs s)) : ∀ j, j < (pA s ++ pB s).size → isDigit (gd (bs (pA s ++ pB s)) j) = true := by
  intro j hj
  rw [ByteArray.size_append] at hj
  have e1 := bs_length (pA s)
  rw [bs_append, gd_append, e1]
  split
  · rename_i k; exact pA_digits h j k
  · rename_i k; exact pB_digits h _ (by omega)
set_option maxRecDepth 100000 in
set_option maxHeartbeats 6400000 in
theorem value_slash (s : ByteArray) (w : World)  (h : s.size ≤ 100) (hn : isNum (bs s)) (h1 : nE (bs s) < s.size) (h2 : gd (bs s) (nE (bs s)) = 47) :
    Calls Try.prog 7 #[.string s] w (RetRE w (numQ (nA (bs s)) / numQ (nB (bs s))) (errV (dc (numQ (nB (bs s)))))) := by
  have HBW := Lib.hid (Below.refl w.heap.size w)
  have kz0 : rl 0 ≤ 1 := by rw [rl_zero]; exact Nat.le_refl _
  obtain ⟨G, hG⟩ : ∃ G, G = dc (numQ (nB (bs s))) := ⟨_, rfl⟩
  rw [← hG]
  have hs1 : 0 < s.size := by
    have h0 := hn.1; have := bs_length s
    rcases Nat.eq_zero_or_pos s.size with k | k
    · rw [k] at this; exact absurd (List.length_eq_zero_iff.1 this) h0
    · exact k
  have f1 : decide ((100 : Int) < (s.size : Int)) = false := decide_eq_false (by omega)
  have f2 : ((s.size : Int) == 0) = false := beq_eq_false_iff_ne.2 (by omega)
  have hix := run_index_gb (P := Try.prog) s 9 Try.underlying9 0 hs1
  have hb256 := bs_lt s 0
  have HX := hn.2.1
  obtain ⟨b, hb⟩ : ∃ b, b = gd (bs s) 0 := ⟨_, rfl⟩
  rw [← hb] at hix hb256 HX
  rw [show ((0 : Nat) : Int) = 0 from rfl] at hix
  have HDB := Lib.hid HX; clear HX hb
  obtain ⟨E, hE⟩ : ∃ E, E = numEnd (bs s) 0 := ⟨_, rfl⟩
  have hne : E = s.size := by rw [hE, hn.2.2, bs_length]
  have f3 : ((E : Int) != (s.size : Int)) = false := by rw [hne]; simp
  have HE := Lib.hid hE.symm; clear hE hne
  have zA := pA_size s
  have zB := pB_size s
  have qA := rl_nA s h
  have qB := rl_nB s h
  have qJ := rl_nJ s h
  obtain ⟨QA, hQA⟩ : ∃ q, q = numQ (nA (bs s)) := ⟨_, rfl⟩
  obtain ⟨QB, hQB⟩ : ∃ q, q = numQ (nB (bs s)) := ⟨_, rfl⟩
  obtain ⟨QJ, hQJ⟩ : ∃ q, q = numQ (nA (bs s) ++ nB (bs s)) := ⟨_, rfl⟩
  rw [← hQA] at qA; rw [← hQB] at qB; rw [← hQJ] at qJ
  rw [← hQB] at hG; rw [← hQA, ← hQB]
  have HQA := Lib.hid hQA.symm; have HQB := Lib.hid hQB.symm; have HQJ := Lib.hid hQJ.symm; clear hQA hQB hQJ
  have HNUM := Lib.hid hn; clear hn
  have HE1 := Lib.hid h1; have HE2 := Lib.hid h2; have HG := Lib.hid hG.symm; clear h1 h2 hG
  obtain ⟨w1, hw1⟩ : ∃ w1, w1 = w.alloc (.cells #[.bool false, .slice none 0 0, .slice none 0 0] 32) := ⟨_, rfl⟩
  have hb1 : Below w.heap.size w w1 := by rw [hw1]; exact (Below.refl _ _).alloc (Nat.le_refl _) _
  have hx1 := heap_alloc_new w (.cells #[.bool false, .slice none 0 0, .slice none 0 0] 32)
  obtain ⟨g1, hg1⟩ : ∃ g, g = w.heap.size := ⟨_, rfl⟩
  rw [← hw1, ← hg1] at hx1
  have lw1 : w.heap.size ≤ g1 := by rw [hg1]; exact HBW.out.size
  have HW1 := Lib.hid hw1; have HG1 := Lib.hid hg1; clear hw1 hg1
  have HB1 := Lib.hid (HBW.out.step hb1)
  have BX1 := Lib.hid hx1; clear hb1 hx1
  go_enter Try.func7, Try.ntmps7
  have hs := digit_any b w1 hb256
  rw [HDB.out] at hs
  have HS := Lib.hid hs; clear hs
  go_wp2_with (with_reducible first | refine pauseCall ?_ | refine pauseLoop ?_ | refine pauseDraw ?_ | refine pauseBody ?_ | refine pauseRounds ?_)
  try rw [← HW1.out]
  try rw [← HG1.out]
  refine Pause.mk ?_
  (with_reducible refine HS.out.mono ?_); rintro e wx ⟨rfl, rfl⟩
  clear HS
  have hs := numberEnd_any s 0 w1 (by omega) (by omega)
  rw [HE.out, show ((0 : Nat) : Int) = 0 from rfl] at hs
  have HS := Lib.hid hs; clear hs
  go_wp2_with (with_reducible first | refine pauseCall ?_ | refine pauseLoop ?_ | refine pauseDraw ?_ | refine pauseBody ?_ | refine pauseRounds ?_)
  refine Pause.mk ?_
  (with_reducible refine HS.out.mono ?_); rintro e wx ⟨rfl, rfl⟩
  clear HS
  have hs := cutRet_slash s w1 (by omega) HE1.out HE2.out
  have HS := Lib.hid hs; clear hs
  go_wp2_with (with_reducible first | refine pauseCall ?_ | refine pauseLoop ?_ | refine pauseDraw ?_ | refine pauseBody ?_ | refine pauseRounds ?_)
  refine Pause.mk ?_
  (with_reducible refine HS.out.mono ?_); rintro e w4 ⟨rfl, hb4⟩
  clear HS
  have HB4 := Lib.hid (HB1.out.step hb4)
  have BX1 := Lib.hid (heap_below BX1.out hb4)
  clear hb4
  have hs := whole_any (pA s) w4 (by first | omega | (rw [ByteArray.size_append]; omega)) (pA_digits HNUM.out)
  rw [bs_pA, HQA.out] at hs
  have HS := Lib.hid hs; clear hs
  go_wp2_with (with_reducible first | refine pauseCall ?_ | refine pauseLoop ?_ | refine pauseDraw ?_ | refine pauseBody ?_ | refine pauseRounds ?_)
  refine Pause.mk ?_
  (with_reducible refine HS.out.mono ?_); rintro e w5 ⟨v5, rfl, hb5, hn5⟩
  clear HS
  have HB5 := Lib.hid (HB4.out.step hb5)
  have BX1 := Lib.hid (heap_below BX1.out hb5)
  have N5 := Lib.hid hn5; clear hn5
  obtain ⟨s1, o1, n1, c1, a1, m1, d1, rfl⟩ := N5.out.shape
  clear hb5
  have hs := whole_any (pB s) w5 (by first | omega | (rw [ByteArray.size_append]; omega)) (pB_digits HNUM.out)
  rw [bs_pB, HQB.out] at hs
  have HS := Lib.hid hs; clear hs
  go_wp2_with (with_reducible first | refine pauseCall ?_ | refine pauseLoop ?_ | refine pauseDraw ?_ | refine pauseBody ?_ | refine pauseRounds ?_)
  refine Pause.mk ?_
  (with_reducible refine HS.out.mono ?_); rintro e w6 ⟨v6, rfl, hb6, hn6⟩
  clear HS
  have HB6 := Lib.hid (HB5.out.step hb6)
  have N5 := Lib.hid (N5.out.below hb6)
  have BX1 := Lib.hid (heap_below BX1.out hb6)
  have N6 := Lib.hid hn6; clear hn6
  obtain ⟨s2, o2, n2, c2, a2, m2, d2, rfl⟩ := N6.out.shape
  clear hb6
  have k3 := rl_div' (QA) (QB)
  have hs := divq_any _ (QA) _ (QB) w6 (N5.out.is (by omega)) (N6.out.is (by omega))
  rw [HG.out] at hs
  have HS := Lib.hid hs; clear hs
  go_wp2_with (with_reducible first | refine pauseCall ?_ | refine pauseLoop ?_ | refine pauseDraw ?_ | refine pauseBody ?_ | refine pauseRounds ?_)
  refine Pause.mk ?_
  (with_reducible refine HS.out.mono ?_); rintro e w7 ⟨v7, rfl, hb7, hn7⟩
  clear HS
  have HB7 := Lib.hid (HB6.out.step hb7)
  have N5 := Lib.hid (N5.out.below hb7)
  have N6 := Lib.hid (N6.out.below hb7)
  have BX1 := Lib.hid (heap_below BX1.out hb7)
  have N7 := Lib.hid hn7; clear hn7
  obtain ⟨s4, o4, n4, c4, a4, m4, d4, rfl⟩ := N7.out.shape
  clear hb7
  go_wp2_with (with_reducible refine wpList_pauseS ?_)
  refine wpList_stL g1 0 [.bool s4, .slice o4 n4 c4, .slice a4 m4 d4] BX1.out rfl rfl (Nat.le_of_ble_eq_true rfl) (by kernel_rfl) rfl ?_
  intro w8 hp8
  have N5 := Lib.hid (putL_I hp8 N5.out BX1.out noW3)
  have N6 := Lib.hid (putL_I hp8 N6.out BX1.out noW3)
  have N7 := Lib.hid (putL_I hp8 N7.out BX1.out noW3)
  have nx8 : w8.heap[g1]? = some (.cells #[.bool s4, .slice o4 n4 c4, .slice a4 m4 d4] 32) := by rw [hp8]; exact putL_r BX1.out
  have BX1 := Lib.hid nx8; clear nx8
  have HB8 := Lib.hid (putLb hp8 HB7.out (by omega))
  clear hp8
  obtain ⟨x5_0, x5_1, x5_2⟩ := row3 BX1.out
  go_wp2_with (with_reducible first | refine pauseCall ?_ | refine pauseLoop ?_ | refine pauseDraw ?_ | refine pauseBody ?_ | refine pauseRounds ?_)
  clear x5_0 x5_1 x5_2
  refine Pause.mk ?_
  refine ret_rat2 rfl g1 _ _ _ (by first | rfl | exact rfl) BX1.out rfl ?_
  exact ⟨_, rfl, HB8.out, N7.out⟩
set_option maxRecDepth 100000 in
set_option maxHeartbeats 12800000 in
theorem value_dec (s : ByteArray) (w : World)  (h : s.size ≤ 100) (hn : isNum (bs s)) (h1 : ¬ (nE (bs s) < s.size ∧ gd (bs s) (nE (bs s)) = 47)) :
    Calls Try.prog 7 #[.string s] w (RetRE w (numQ (nA (bs s) ++ nB (bs s)) / tenQ (pB s).size) (errV 0)) := by
  have HBW := Lib.hid (Below.refl w.heap.size w)
  have kz0 : rl 0 ≤ 1 := by rw [rl_zero]; exact Nat.le_refl _
  rw [errV_zero]
  have hs1 : 0 < s.size := by
    have h0 := hn.1; have := bs_length s
    rcases Nat.eq_zero_or_pos s.size with k | k
    · rw [k] at this; exact absurd (List.length_eq_zero_iff.1 this) h0
    · exact k
  have f1 : decide ((100 : Int) < (s.size : Int)) = false := decide_eq_false (by omega)
  have f2 : ((s.size : Int) == 0) = false := beq_eq_false_iff_ne.2 (by omega)
  have hix := run_index_gb (P := Try.prog) s 9 Try.underlying9 0 hs1
  have hb256 := bs_lt s 0
  have HX := hn.2.1
  obtain ⟨b, hb⟩ : ∃ b, b = gd (bs s) 0 := ⟨_, rfl⟩
  rw [← hb] at hix hb256 HX
  rw [show ((0 : Nat) : Int) = 0 from rfl] at hix
  have HDB := Lib.hid HX; clear HX hb
  obtain ⟨E, hE⟩ : ∃ E, E = numEnd (bs s) 0 := ⟨_, rfl⟩
  have hne : E = s.size := by rw [hE, hn.2.2, bs_length]
  have f3 : ((E : Int) != (s.size : Int)) = false := by rw [hne]; simp
  have HE := Lib.hid hE.symm; clear hE hne
  have zA := pA_size s
  have zB := pB_size s
  have qA := rl_nA s h
  have qB := rl_nB s h
  have qJ := rl_nJ s h
  obtain ⟨QA, hQA⟩ : ∃ q, q = numQ (nA (bs s)) := ⟨_, rfl⟩
  obtain ⟨QB, hQB⟩ : ∃ q, q = numQ (nB (bs s)) := ⟨_, rfl⟩
  obtain ⟨QJ, hQJ⟩ : ∃ q, q = numQ (nA (bs s) ++ nB (bs s)) := ⟨_, rfl⟩
  rw [← hQA] at qA; rw [← hQB] at qB; rw [← hQJ] at qJ
  rw [← hQJ]
  have HQA := Lib.hid hQA.symm; have HQB := Lib.hid hQB.symm; have HQJ := Lib.hid hQJ.symm; clear hQA hQB hQJ
  have HNUM := Lib.hid hn; clear hn
  have HNS := Lib.hid h1; clear h1
  obtain ⟨k2, hk2⟩ : ∃ k, k = (cut3 46 s.data.toList).2.2 := ⟨_, rfl⟩
  have HK2 := Lib.hid hk2.symm; clear hk2
  obtain ⟨T, hT⟩ : ∃ T, T = tenQ (pB s).size := ⟨_, rfl⟩
  rw [← hT]
  have hT0 : T ≠ 0 := by rw [hT]; exact tenQ_ne _
  have HDT := Lib.hid (show dc T = 0 from if_neg hT0); have HT := Lib.hid hT.symm; clear hT hT0
  obtain ⟨w1, hw1⟩ : ∃ w1, w1 = w.alloc (.cells #[.bool false, .slice none 0 0, .slice none 0 0] 32) := ⟨_, rfl⟩
  have hb1 : Below w.heap.size w w1 := by rw [hw1]; exact (Below.refl _ _).alloc (Nat.le_refl _) _
  have hx1 := heap_alloc_new w (.cells #[.bool false, .slice none 0 0, .slice none 0 0] 32)
  obtain ⟨g1, hg1⟩ : ∃ g, g = w.heap.size := ⟨_, rfl⟩
  rw [← hw1, ← hg1] at hx1
  have lw1 : w.heap.size ≤ g1 := by rw [hg1]; exact HBW.out.size
  have HW1 := Lib.hid hw1; have HG1 := Lib.hid hg1; clear hw1 hg1
  have HB1 := Lib.hid (HBW.out.step hb1)
  have BX1 := Lib.hid hx1; clear hb1 hx1
  go_enter Try.func7, Try.ntmps7
  have hs := digit_any b w1 hb256
  rw [HDB.out] at hs
  have HS := Lib.hid hs; clear hs
  go_wp2_with (with_reducible first | refine pauseCall ?_ | refine pauseLoop ?_ | refine pauseDraw ?_ | refine pauseBody ?_ | refine pauseRounds ?_)
  try rw [← HW1.out]
  try rw [← HG1.out]
  refine Pause.mk ?_
  (with_reducible refine HS.out.mono ?_); rintro e wx ⟨rfl, rfl⟩
  clear HS
  have hs := numberEnd_any s 0 w1 (by omega) (by omega)
  rw [HE.out, show ((0 : Nat) : Int) = 0 from rfl] at hs
  have HS := Lib.hid hs; clear hs
  go_wp2_with (with_reducible first | refine pauseCall ?_ | refine pauseLoop ?_ | refine pauseDraw ?_ | refine pauseBody ?_ | refine pauseRounds ?_)
  refine Pause.mk ?_
  (with_reducible refine HS.out.mono ?_); rintro e wx ⟨rfl, rfl⟩
  clear HS
  have hs := cutRet_no s w1 (by omega) HNUM.out HNS.out
  have HS := Lib.hid hs; clear hs
  go_wp2_with (with_reducible first | refine pauseCall ?_ | refine pauseLoop ?_ | refine pauseDraw ?_ | refine pauseBody ?_ | refine pauseRounds ?_)
  refine Pause.mk ?_
  (with_reducible refine HS.out.mono ?_); rintro e w4 ⟨rfl, hb4⟩
  clear HS
  have HB4 := Lib.hid (HB1.out.step hb4)
  have BX1 := Lib.hid (heap_below BX1.out hb4)
  clear hb4
  have hs := cutRet_point s w4 (by omega) HNUM.out HNS.out
  rw [HK2.out] at hs
  have HS := Lib.hid hs; clear hs
  go_wp2_with (with_reducible first | refine pauseCall ?_ | refine pauseLoop ?_ | refine pauseDraw ?_ | refine pauseBody ?_ | refine pauseRounds ?_)
  refine Pause.mk ?_
  (with_reducible refine HS.out.mono ?_); rintro e w5 ⟨rfl, hb5⟩
  clear HS
  have HB5 := Lib.hid (HB4.out.step hb5)
  have BX1 := Lib.hid (heap_below BX1.out hb5)
  clear hb5
  have k1 : rl ((1 : Int) : Rat) ≤ 2 := rl_small (by omega) (by omega)
  have hs := ofq_any 1 w5 (by omega) (by omega)
  have HS := Lib.hid hs; clear hs
  go_wp2_with (with_reducible first | refine pauseCall ?_ | refine pauseLoop ?_ | refine pauseDraw ?_ | refine pauseBody ?_ | refine pauseRounds ?_)
  refine Pause.mk ?_
  (with_reducible refine HS.out.mono ?_); rintro e w6 ⟨v6, rfl, hb6, hn6⟩
  clear HS
  have HB6 := Lib.hid (HB5.out.step hb6)
  have BX1 := Lib.hid (heap_below BX1.out hb6)
  have N6 := Lib.hid hn6; clear hn6
  obtain ⟨s2, o2, n2, c2, a2, m2, d2, rfl⟩ := N6.out.shape
  clear hb6
  obtain ⟨w7, hw7⟩ : ∃ w7, w7 = w6.alloc (.cells #[.bool s2, .slice o2 n2 c2, .slice a2 m2 d2] 32) := ⟨_, rfl⟩
  have hb7 : Below w6.heap.size w6 w7 := by rw [hw7]; exact (Below.refl _ _).alloc (Nat.le_refl _) _
  have hx7 := heap_alloc_new w6 (.cells #[.bool s2, .slice o2 n2 c2, .slice a2 m2 d2] 32)
  obtain ⟨g7, hg7⟩ : ∃ g, g = w6.heap.size := ⟨_, rfl⟩
  rw [← hw7, ← hg7] at hx7
  have lw7 : w.heap.size ≤ g7 := by rw [hg7]; exact HB6.out.size
  have ltBX17 : g1 < g7 := by rw [hg7]; exact below_lt BX1.out
  have HW7 := Lib.hid hw7; have HG7 := Lib.hid hg7; clear hw7 hg7
  have HB7 := Lib.hid (HB6.out.step hb7)
  have N6 := Lib.hid (N6.out.below hb7)
  have BX1 := Lib.hid (heap_below BX1.out hb7)
  have BX7 := Lib.hid hx7; clear hb7 hx7
  go_wp2_with (with_reducible first | refine pauseCall ?_ | refine pauseLoop ?_ | refine pauseDraw ?_ | refine pauseBody ?_ | refine pauseRounds ?_)
  try rw [← HW7.out]
  try rw [← HG7.out]
  refine Pause.mk ?_
  have hN := N6.out
  rw [show (((1 : Int) : Rat)) = tenQ 0 from tenQ_zero.symm] at hN
  have HN := Lib.hid hN; clear hN
  go_loopw [57] (fun kv wr => ∃ (k : Nat) (s1 : Bool) (o1 : Option Addr) (n1 c1 : Nat) (a1 : Option Addr) (p1 d1 : Nat), k ≤ (pB s).size ∧ kv = .int .i64 k ∧ Hid (wr.heap[g7]? = some (.cells #[.bool s1, .slice o1 n1 c1, .slice a1 p1 d1] 32)) ∧ IsR wr (.agg #[.bool s1, .slice o1 n1 c1, .slice a1 p1 d1]) (tenQ k) ∧
      Hid (wr.heap[g1]? = some (.cells #[.bool false, .slice none 0 0, .slice none 0 0] 32)) ∧ Below w.heap.size w wr) (fun kv _ => (pB s).size - (intOf kv).toNat)
  case atStart => exact ⟨0, s2, o2, n2, c2, a2, m2, d2, Nat.zero_le _, rfl, BX7, HN.out, BX1, HB7.out⟩
  case round =>
    obtain ⟨k, s1, o1, n1, c1, a1, p1, d1, hk, rfl, hxA, hIS, hxR, hBr⟩ := hrel
    have HBR := Lib.hid hBr; have HIS := Lib.hid hIS; clear hBr hIS
    have BXA := hxA; have BXR := hxR
    have hrl := rl_tenQ k
    have hrk : rl (tenQ k) ≤ 1001 := by omega
    clear hrl
    have hr10 := rl_ten
    by_cases hkm : k < (pB s).size
    · skip
      have hf1 : decide ((k : Int) < ((pB s).size : Int)) = true := decide_eq_true (by omega)
      go_wp2_with (with_reducible first | refine pauseCall ?_ | refine pauseLoop ?_ | refine pauseDraw ?_ | refine pauseBody ?_ | refine pauseRounds ?_)
      refine Pause.mk ?_
      have k3 : rl ((10 : Int) : Rat) ≤ 2 := rl_small (by omega) (by omega)
      refine wp_region_facts (A := ?aa4) (w := wr) 2 [] (by kernel_rfl) (Fl [KEq (.agg #[.bool s1, .slice o1 n1 c1, .slice a1 p1 d1]), KIs (((10 : Int) : Rat))]) (fun i => false) (by kernel_rfl) ?hq4 (monoL (monoC (kEq _) (monoC (kIs _) monoN))) ?ha4 ?st4 ?tl4
      case hq4 =>
        intro c a d v w h
        first | (simp only [Exit.then] at h ⊢; exact h) | (simp only [Exit.inBlock, Exit.then] at h ⊢; exact h) | exact h
      case ha4 =>
        intro vals
        simp only [putsTo, dstOf, if_true, Act.put, List.setIfInBounds_toArray, List.set_cons_zero, List.set_cons_succ, List.getElem?_toArray, List.getElem?_cons_zero, List.getElem?_cons_succ, Option.bind_some]
        exact rfl
      case st4 =>
        simp only [List.take_succ_cons, List.take_zero]
        refine stepsOK_cons rfl rfl ?_ (stepsOK_cons rfl rfl ?_ (stepsOK_nil))
        · intro vals w1 hb hd
          obtain ⟨e0, e1, e2⟩ := row3 (heap_below BXA.out hb)
          refine stepOK_value (v := .agg #[.bool s1, .slice o1 n1 c1, .slice a1 p1 d1]) (w' := w1) (by go_simp) (leaves_mk (Below.refl _ _) rfl (fun h => by cases h))
        · intro vals w1 hb hd
          have hs := ofq_any 10 w1 (by omega) (by omega)
          have HS := Lib.hid hs; clear hs
          clear hd
          refine stepOK_call (by go_simp; first | done | exact ⟨⟨rfl, rfl⟩, rfl⟩) ?_
          (with_reducible refine HS.out.mono ?_); rintro e w2 ⟨v, rfl, hb2, hn⟩
          exact ⟨v, rfl, leaves_mk hb2 hn (fun h => by cases h)⟩
      case tl4 =>
        intro vals w18 hb18 hf hdis
        simp only [List.drop_succ_cons, List.drop_zero]
        have z0 : vals 0 = _ := hf 0 (by decide)
        try rw [z0]
        clear z0
        obtain ⟨u4_1, hu1⟩ : ∃ u, u = vals 1 := ⟨_, rfl⟩
        have hn4_1 : IsR w18 (vals 1) (((10 : Int) : Rat)) := hf 1 (by decide)
        rw [← hu1] at hn4_1 ⊢; clear hu1
        clear hf hdis
        have HB18 := Lib.hid (HBR.out.step hb18)
        have HIS := Lib.hid (HIS.out.below hb18)
        have BXR := Lib.hid (heap_below BXR.out hb18)
        have BXA := Lib.hid (heap_below BXA.out hb18)
        clear hb18
        have N4_1 := Lib.hid hn4_1; clear hn4_1
        obtain ⟨s5, o5, n5, c5, a5, m5, d5, rfl⟩ := N4_1.out.shape
        skip
        have k6 := rl_mul (tenQ k) (((10 : Int) : Rat))
        have hs := mulq_any _ (tenQ k) _ (((10 : Int) : Rat)) w18 (HIS.out.is (by omega)) (N4_1.out.is (by omega))
        have HS := Lib.hid hs; clear hs
        go_wp2_with (with_reducible first | refine pauseCall ?_ | refine pauseLoop ?_ | refine pauseDraw ?_ | refine pauseBody ?_ | refine pauseRounds ?_)
        refine Pause.mk ?_
        (with_reducible refine HS.out.mono ?_); rintro e w19 ⟨v19, rfl, hb19, hn19⟩
        clear HS
        have HB19 := Lib.hid (HB18.out.step hb19)
        have HIS := Lib.hid (HIS.out.below hb19)
        have N4_1 := Lib.hid (N4_1.out.below hb19)
        have BXR := Lib.hid (heap_below BXR.out hb19)
        have BXA := Lib.hid (heap_below BXA.out hb19)
        have N19 := Lib.hid hn19; clear hn19
        obtain ⟨s7, o7, n7, c7, a7, m7, d7, rfl⟩ := N19.out.shape
        clear hb19
        go_wp2_with (with_reducible refine wpList_pauseS ?_)
        refine wpList_stL g7 0 [.bool s7, .slice o7 n7 c7, .slice a7 m7 d7] BXA.out rfl rfl (Nat.le_of_ble_eq_true rfl) (by kernel_rfl) rfl ?_
        intro w20 hp20
        have HIS := Lib.hid (putL_I hp20 HIS.out BXA.out noW3)
        have N4_1 := Lib.hid (putL_I hp20 N4_1.out BXA.out noW3)
        have N19 := Lib.hid (putL_I hp20 N19.out BXA.out noW3)
        have BXR := Lib.hid (putLx hp20 BXR.out (by omega))
        have nx20 : w20.heap[g7]? = some (.cells #[.bool s7, .slice o7 n7 c7, .slice a7 m7 d7] 32) := by rw [hp20]; exact putL_r BXA.out
        have BXA := Lib.hid nx20; clear nx20
        have HB20 := Lib.hid (putLb hp20 HB19.out (by omega))
        clear hp20
        go_wp2_with (with_reducible first | refine pauseCall ?_ | refine pauseLoop ?_ | refine pauseDraw ?_ | refine pauseBody ?_ | refine pauseRounds ?_)
        refine Pause.mk ?_
        go_roundw
        case rel => exact ⟨k + 1, s7, o7, n7, c7, a7, m7, d7, hkm, by go_num, BXA, by rw [tenQ_succ]; exact N19.out, BXR, HB20.out⟩
        case measure => simp [intOf]; omega
    · skip
      obtain rfl : k = (pB s).size := by omega
      have hf1 : decide (((pB s).size : Int) < ((pB s).size : Int)) = false := decide_eq_false (by omega)
      rw [HT.out] at HIS hrk
      go_wp2_with (with_reducible first | refine pauseCall ?_ | refine pauseLoop ?_ | refine pauseDraw ?_ | refine pauseBody ?_ | refine pauseRounds ?_)
      refine Pause.mk ?_
      have k53 := rl_div' (QJ) (T)
      refine wp_region_facts (A := ?aa54) (w := wr) 7 [6] (by kernel_rfl) (Fl [KEq (.string (pA s)), KEq (.string (pB s)), KEq (.string (((pA s) : ByteArray) ++ ((pB s) : ByteArray))), KIs (QJ), KEq (.agg #[.bool s1, .slice o1 n1 c1, .slice a1 p1 d1]), KRE ((QJ) / (T)) (.nilIface), KIs ((QJ) / (T))]) (fun i => false) (by kernel_rfl) ?hq54 (monoL (monoC (kEq _) (monoC (kEq _) (monoC (kEq _) (monoC (kIs _) (monoC (kEq _) (monoC (kRE _ _) (monoC (kIs _) monoN)))))))) ?ha54 ?st54 ?tl54
      case hq54 =>
        intro c a d v w h
        first | (simp only [Exit.then] at h ⊢; exact h) | (simp only [Exit.inBlock, Exit.then] at h ⊢; exact h) | exact h
      case ha54 =>
        intro vals
        simp only [putsTo, dstOf, if_true, Act.put, List.setIfInBounds_toArray, List.set_cons_zero, List.set_cons_succ, List.getElem?_toArray, List.getElem?_cons_zero, List.getElem?_cons_succ, Option.bind_some]
        exact rfl
      case st54 =>
        simp only [List.take_succ_cons, List.take_zero]
        refine stepsOK_cons rfl rfl ?_ (stepsOK_cons rfl rfl ?_ (stepsOK_cons rfl rfl ?_ (stepsOK_cons rfl rfl ?_ (stepsOK_cons rfl rfl ?_ (stepsOK_cons rfl rfl ?_ (stepsOK_pure rfl ?_ (stepsOK_nil)))))))
        · intro vals w1 hb hd
          refine stepOK_value (v := (.string (pA s))) (w' := w1) (by go_simp) (leaves_mk (Below.refl _ _) rfl (fun h => by cases h))
        · intro vals w1 hb hd
          refine stepOK_value (v := (.string (pB s))) (w' := w1) (by go_simp) (leaves_mk (Below.refl _ _) rfl (fun h => by cases h))
        · intro vals w1 hb hd
          have d0 : KEq (.string (pA s)) (vals 0) w1 := hd 0 (by kernel_rfl)
          have d1 : KEq (.string (pB s)) (vals 1) w1 := hd 1 (by kernel_rfl)
          rw [show vals 0 = _ from d0]
          rw [show vals 1 = _ from d1]
          refine stepOK_value (v := (.string (((pA s) : ByteArray) ++ ((pB s) : ByteArray)))) (w' := w1) (by first | (go_simp; done) | (go_simp; rw [if_neg (by omega)]) | (go_simp; rw [if_neg (by simp; omega)]) | (go_simp; omega) | (go_simp; split <;> first | rfl | (exfalso; omega))) (leaves_mk (Below.refl _ _) rfl (fun h => by cases h))
        · intro vals w1 hb hd
          have d2 : KEq (.string (((pA s) : ByteArray) ++ ((pB s) : ByteArray))) (vals 2) w1 := hd 2 (by kernel_rfl)
          have z2 : vals 2 = _ := d2
          have hs := whole_any (pA s ++ pB s) w1 (by first | omega | (rw [ByteArray.size_append]; omega)) (pJ_digits HNUM.out)
          rw [bs_append, bs_pA, bs_pB, HQJ.out] at hs
          have HS := Lib.hid hs; clear hs
          rw [z2]; clear z2
          clear d2 hd
          refine stepOK_call (by go_simp; first | done | exact ⟨⟨rfl, rfl⟩, rfl⟩) ?_
          (with_reducible refine HS.out.mono ?_); rintro e w2 ⟨v, rfl, hb2, hn⟩
          exact ⟨v, rfl, leaves_mk hb2 hn (fun h => by cases h)⟩
        · intro vals w1 hb hd
          obtain ⟨e0, e1, e2⟩ := row3 (heap_below BXA.out hb)
          refine stepOK_value (v := .agg #[.bool s1, .slice o1 n1 c1, .slice a1 p1 d1]) (w' := w1) (by go_simp) (leaves_mk (Below.refl _ _) rfl (fun h => by cases h))
        · intro vals w1 hb hd
          have d3 : KIs (QJ) (vals 3) w1 := hd 3 (by kernel_rfl)
          have R3 : Hid (IsR w1 (vals 3) (QJ)) := Lib.hid d3
          have d4 : KEq (.agg #[.bool s1, .slice o1 n1 c1, .slice a1 p1 d1]) (vals 4) w1 := hd 4 (by kernel_rfl)
          have z4 : vals 4 = _ := d4
          have hs := divq_any _ (QJ) _ (T) w1 (R3.out.is (by omega)) ((HIS.out.below hb).is (by omega))
          rw [HDT.out, errV_zero] at hs
          have HS := Lib.hid hs; clear hs
          rw [z4]; clear z4
          clear d3 d4 hd
          refine stepOK_call (by go_simp; first | done | exact ⟨⟨rfl, rfl⟩, rfl⟩) ?_
          (with_reducible refine HS.out.mono ?_); rintro e w2 ⟨v, rfl, hb2, hn⟩
          exact ⟨_, rfl, leaves_mk hb2 ⟨v, rfl, hn⟩ (fun h => by cases h)⟩
        · intro vals w1 hb hd
          have d5 : KRE ((QJ) / (T)) (.nilIface) (vals 5) w1 := hd 5 (by kernel_rfl)
          obtain ⟨b, eb, hq⟩ := d5
          rw [eb]
          refine stepPure_value (v := b) (fun w => by go_simp) (leaves_mk (Below.refl _ _) hq (fun h => by cases h))
      case tl54 =>
        intro vals w68 hb68 hf hdis
        simp only [List.drop_succ_cons, List.drop_zero]
        obtain ⟨u54_5, hu5⟩ : ∃ u, u = vals 5 := ⟨_, rfl⟩
        have hn54_5 : KRE ((QJ) / (T)) (.nilIface) (vals 5) w68 := hf 5 (by decide)
        obtain ⟨b54_5, eb5, hn54_5⟩ := hn54_5
        rw [← hu5] at eb5 ⊢; clear hu5; subst eb5
        obtain ⟨u54_6, hu6⟩ : ∃ u, u = vals 6 := ⟨_, rfl⟩
        have hn54_6 : IsR w68 (vals 6) ((QJ) / (T)) := hf 6 (by decide)
        rw [← hu6] at hn54_6 ⊢; clear hu6
        clear hf hdis
        have HB68 := Lib.hid (HBR.out.step hb68)
        have HIS := Lib.hid (HIS.out.below hb68)
        have BXR := Lib.hid (heap_below BXR.out hb68)
        have BXA := Lib.hid (heap_below BXA.out hb68)
        clear hb68
        have N54_5 := Lib.hid hn54_5; clear hn54_5
        obtain ⟨s55, o55, n55, c55, a55, m55, d55, rfl⟩ := N54_5.out.shape
        have N54_6 := Lib.hid hn54_6; clear hn54_6
        obtain ⟨s56, o56, n56, c56, a56, m56, d56, rfl⟩ := N54_6.out.shape
        skip
        go_wp2_with (with_reducible refine wpList_pauseS ?_)
        refine wpList_stL g1 0 [.bool s56, .slice o56 n56 c56, .slice a56 m56 d56] BXR.out rfl rfl (Nat.le_of_ble_eq_true rfl) (by kernel_rfl) rfl ?_
        intro w69 hp69
        have HIS := Lib.hid (putL_I hp69 HIS.out BXR.out noW3)
        have N54_5 := Lib.hid (putL_I hp69 N54_5.out BXR.out noW3)
        have N54_6 := Lib.hid (putL_I hp69 N54_6.out BXR.out noW3)
        have BXA := Lib.hid (putLx hp69 BXA.out (by omega))
        have nx69 : w69.heap[g1]? = some (.cells #[.bool s56, .slice o56 n56 c56, .slice a56 m56 d56] 32) := by rw [hp69]; exact putL_r BXR.out
        have BXR := Lib.hid nx69; clear nx69
        have HB69 := Lib.hid (putLb hp69 HB68.out (by omega))
        clear hp69
        obtain ⟨x57_0, x57_1, x57_2⟩ := row3 BXR.out
        go_wp2_with (with_reducible first | refine pauseCall ?_ | refine pauseLoop ?_ | refine pauseDraw ?_ | refine pauseBody ?_ | refine pauseRounds ?_)
        clear x57_0 x57_1 x57_2
        refine Pause.mk ?_
        refine ret_rat2 rfl g1 _ _ _ (by first | rfl | exact rfl) BXR.out rfl ?_
        exact ⟨_, rfl, HB69.out, N54_6.out⟩
theorem value_any (s : ByteArray) (w : World) (hs : s.size ≤ 4611686018427387904) : Calls Try.prog 7 #[.string s] w (RetRE w (tvQ (bs s)) (errV (tvC (bs s)))) := by
  have hlen := bs_length s
  by_cases h : 100 < s.size
  · obtain ⟨e1, e2⟩ := tvC_long (l := bs s) (by rw [hlen]; exact h)
    rw [e1, e2]; exact value_long s w h
  have h' : ¬ 100 < (bs s).length := by rw [hlen]; exact h
  by_cases hn : isNum (bs s)
  · by_cases h1 : nE (bs s) < s.size ∧ gd (bs s) (nE (bs s)) = 47
    · obtain ⟨e1, e2⟩ := tvC_slash h' hn (by rw [hlen]; exact h1.1) h1.2
      rw [e1, e2]; exact value_slash s w (by omega) hn h1.1 h1.2
    · obtain ⟨e1, e2⟩ := tvC_plain h' hn (by rw [hlen]; exact h1)
      have k := value_dec s w (by omega) hn h1
      rw [show (pB s).size = (nB (bs s)).length from by rw [← bs_length, bs_pB], dec_value] at k
      rw [e1, e2]; exact k
  · obtain ⟨e1, e2⟩ := tvC_bad h' hn
    rw [e1, e2]
    by_cases h0 : s.size = 0
    · exact value_empty s w h0
    by_cases hd : isDigit (gd (bs s) 0) = true
    · refine value_end s w (by omega) (by omega) hd (fun e => hn ⟨?_, hd, by rw [hlen]; exact e⟩)
      intro k; rw [k] at hlen; simp at hlen; omega
    · exact value_first s w (by omega) (by omega) (by simpa using hd)
end Go.Proofs.Ytaefimegiobkmaa
/-
  DERIVED: THE SHELF's CONTRACTS AT THIS DUMP, IN PLAIN WORDS (tools/lay-plain.mjs out of 'TryShelfPick.lean', which tools/lay-shelf.mjs wrote): THE SAME DECLARATIONS UNDER THE SAME NAMES: 'import', 'namespace', 'open', 'def', 'theorem' AND NOTHING ELSE: no command of the shelf's: FOR A HAND-IN. Each laying: the table of numbers ('.._ren') and one theorem, a field a fact of the dump's own or the kernel's comparison; each contract: ONE APPLICATION.
-/
namespace Go.Proofs
open Go.Shelf
end Go.Proofs
/-
  token.Place and token.Join: what they hand back.
  Conditions: each theorem's own.
-/
namespace Go.Proofs.Ytaefimegiobkmaa
open Go.RowKit Go.ChangeShapes Go.WideShapes

/-- a slice of texts of the call's own -/
def OwnS (w : World) (B : Nat) (v : Value) (xs : List ByteArray) : Prop := w.ownsRow B 9 1 v xs.length (xs.map Value.string)
theorem OwnS.nil (w : World) (B : Nat) : OwnS w B (.slice none 0 0) [] := World.ownsRow_nil _ _ _ _
theorem OwnS.alloc {w : World} {B : Nat} {v : Value} {xs : List ByteArray} (h : OwnS w B v xs) (o : Obj) : OwnS (w.alloc o) B v xs := World.ownsRow.alloc h o
section
variable {w : World} {ops : Array Oper} {rest : List Oper} {o : Oper} {a : Act} {Q : Exit → Act → World → Prop}
end

end Go.Proofs.Ytaefimegiobkmaa
/-
  Plain law of TokenCovers: what stands between the tokens.
  Conditions: each theorem's own.
-/
namespace Go.Proofs.Ytaefimegiobkmaa
open Go.RowKit

/-- whether a comment goes on behind a byte -/
def cm (b : Nat) (c : Bool) : Bool := if b = 10 then false else if b = 35 then true else c
/-- whether place j stands in a comment that began at e or later -/
def cfl (l : List Nat) (e : Nat) : Nat → Bool
  | 0 => false
  | j + 1 => if j < e then false else cm (gd l j) (cfl l e j)
theorem cfl_start (l : List Nat) (e : Nat) : cfl l e e = false := by
  cases e with
  | zero => rfl
  | succ e => simp [cfl]
theorem cfl_succ (l : List Nat) {e j : Nat} (h : e ≤ j) : cfl l e (j + 1) = cm (gd l j) (cfl l e j) := by
  simp only [cfl]; rw [if_neg (by omega)]
/-- a byte that may stand between tokens -/
def okAt (l : List Nat) (e j : Nat) : Prop := cfl l e (j + 1) = true ∨ isBlank (gd l j) = true
/-- where the next token, or the end, is -/
def nextAt (l : List Nat) : List Tk → Nat
  | [] => l.length
  | t :: _ => t.at_

theorem cfl_comment {l : List Nat} {e i : Nat} (he : e ≤ i) (h : gd l i = 35) (n : Nat) : ∀ j, j = i + 1 + n → j ≤ run notLF l i → cfl l e j = true := by
  induction n with
  | zero => intro j hj _; subst hj; rw [cfl_succ l he, h]; rfl
  | succ n ih =>
    intro j hj hr
    obtain rfl : j = (i + 1 + n) + 1 := by omega
    rw [cfl_succ l (by omega), ih _ rfl (by omega)]
    have := run_all (p := notLF) (l := l) _ i (Nat.le_refl _) (i + 1 + n) (by omega) (by omega)
    unfold notLF at this
    simp only [decide_eq_true_eq] at this
    unfold cm
    rw [if_neg this]; split <;> rfl
theorem step_skip {l : List Nat} {i e : Nat} (h : stepAt l i = ⟨0, 3, e⟩) : (isBlank (gd l i) = true ∧ e = i + 1) ∨ (gd l i = 35 ∧ e = run notLF l i) := by
  unfold stepAt at h
  split at h
  · rename_i hb; exact .inl ⟨hb, by cases h; rfl⟩
  split at h
  · rename_i _ hh; exact .inr ⟨hh, by cases h; rfl⟩
  split at h
  · split at h <;> simp at h
  split at h
  · split at h <;> simp at h
  split at h <;> simp at h
theorem blank_not10 {b : Nat} (h : isBlank b = true) : b ≠ 35 := by rintro rfl; revert h; decide

theorem scan_gaps {l : List Nat} {e : Nat} (n : Nat) : ∀ i ts, l.length - i ≤ n → e ≤ i → i ≤ l.length → scanAt l i = (ts, 0) →
    (cfl l e i = true → i = l.length ∨ gd l i = 10) → (∀ j, e ≤ j → j < i → okAt l e j) →
    e ≤ nextAt l ts ∧ nextAt l ts ≤ l.length ∧ (∀ j, e ≤ j → j < nextAt l ts → okAt l e j) ∧
      (∀ t r, ts = t :: r → cfl l e t.at_ = false ∧ t.at_ < t.fin ∧ t.fin ≤ l.length ∧ scanAt l t.fin = (r, 0)) := by
  induction n with
  | zero =>
    intro i ts h he hi hs _ hok
    obtain rfl : i = l.length := by omega
    rw [scanAt_end (Nat.le_refl _)] at hs; cases hs
    exact ⟨he, Nat.le_refl _, hok, fun t r h => by cases h⟩
  | succ n ih =>
    intro i ts h he hi hs hc hok
    by_cases hil : i < l.length
    · have her : (stepAt l i).err = 0 := by
        by_cases he : (stepAt l i).err = 0
        · exact he
        · rw [scanAt_err hil he] at hs; exact absurd (Prod.mk.inj hs).2 he
      have hf := stepAt_fin hil her
      rw [scanAt_step hil her] at hs
      obtain ⟨st, hst⟩ : ∃ st, st = stepAt l i := ⟨_, rfl⟩
      rw [← hst] at hs her hf
      have hst' : stepAt l i = ⟨0, st.kind, st.fin⟩ := by rw [← hst, ← her]
      have hz : (scanAt l st.fin).2 = 0 := by
        by_cases hz : (scanAt l st.fin).2 = 0
        · exact hz
        · rw [if_pos hz] at hs; exact absurd (Prod.mk.inj hs).2 hz
      rw [if_neg (by simpa using hz)] at hs
      have hrest : scanAt l st.fin = ((scanAt l st.fin).1, 0) := by rw [← hz]
      split at hs
      · rename_i hk
        have hts : (scanAt l st.fin).1 = ts := by cases hs; rfl
        rw [hts] at hrest
        rw [hk] at hst'
        refine ih st.fin ts (by omega) (by omega) hf.2 hrest ?_ ?_
        · intro hcf
          rcases step_skip hst' with ⟨hb, hfe⟩ | ⟨hh, hfe⟩
          · rw [hfe, cfl_succ l he] at hcf
            exfalso
            unfold cm at hcf
            by_cases h10 : gd l i = 10
            · rw [if_pos h10] at hcf; cases hcf
            · rw [if_neg h10, if_neg (blank_not10 hb)] at hcf
              rcases hc hcf with h | h
              · omega
              · exact h10 h
          · by_cases hend : st.fin = l.length
            · exact .inl hend
            · right
              have := run_stop (p := notLF) (l := l) _ i (Nat.le_refl _) (by omega)
              rw [← hfe] at this
              unfold notLF at this; simpa using this
        · intro j hj1 hj2
          by_cases hji : j < i
          · exact hok j hj1 hji
          · rcases step_skip hst' with ⟨hb, hfe⟩ | ⟨hh, hfe⟩
            · obtain rfl : j = i := by omega
              exact .inr hb
            · exact .inl (cfl_comment he hh (j - i) (j + 1) (by omega) (by omega))
      · rename_i hk
        obtain rfl : ⟨st.kind, i, st.fin⟩ :: (scanAt l st.fin).1 = ts := by cases hs; rfl
        refine ⟨he, hi, hok, ?_⟩
        intro t r htr
        obtain ⟨rfl, rfl⟩ : (⟨st.kind, i, st.fin⟩ : Tk) = t ∧ (scanAt l st.fin).1 = r := by cases htr; exact ⟨rfl, rfl⟩
        refine ⟨?_, hf.1, hf.2, hrest⟩
        cases hcf : cfl l e i with
        | false => rfl
        | true =>
          exfalso
          rcases hc hcf with h | h
          · omega
          · have hb : stepAt l i = ⟨0, 3, i + 1⟩ := step_blank (by rw [h]; rfl)
            rw [hb] at hst'
            exact hk (congrArg St.kind hst').symm
    · obtain rfl : i = l.length := by omega
      rw [scanAt_end (Nat.le_refl _)] at hs; cases hs
      exact ⟨he, Nat.le_refl _, hok, fun t r h => by cases h⟩
/-- what stands ahead of the next token -/
theorem gap_next {l : List Nat} {e : Nat} {ts : List Tk} (he : e ≤ l.length) (h : scanAt l e = (ts, 0)) :
    e ≤ nextAt l ts ∧ nextAt l ts ≤ l.length ∧ (∀ j, e ≤ j → j < nextAt l ts → okAt l e j) ∧
      (∀ t r, ts = t :: r → cfl l e t.at_ = false ∧ t.at_ < t.fin ∧ t.fin ≤ l.length ∧ scanAt l t.fin = (r, 0)) :=
  scan_gaps _ e ts (Nat.le_refl _) (Nat.le_refl _) he h (fun hc => by rw [cfl_start] at hc; cases hc) (fun j h1 h2 => by omega)
end Go.Proofs.Ytaefimegiobkmaa
/-
  The tokens of a text: what their texts are, and that no two words or numbers touch.
  Conditions: none beyond each theorem's own.
-/
namespace Go.Proofs.Ytaefimegiobkmaa

/-- a part of a text -/
def cutT (l : List Nat) (a b : Nat) : List Nat := (l.drop a).take (b - a)
theorem cutT_len {l : List Nat} {a b : Nat} (h2 : b ≤ l.length) : (cutT l a b).length = b - a := by
  unfold cutT; rw [List.length_take, List.length_drop]; omega
theorem cutT_gd {l : List Nat} {a b j : Nat} (h : j < b - a) : gd (cutT l a b) j = gd l (a + j) := by
  unfold cutT; rw [gd_take, if_pos h, gd_drop]
theorem run_full {p : Nat → Bool} {m : List Nat} {k : Nat} (hk : k ≤ m.length) (h : ∀ j, k ≤ j → j < m.length → p (gd m j) = true) : run p m k = m.length := by
  by_cases hlt : run p m k < m.length
  · have h1 := run_stop (p := p) (l := m) _ k (Nat.le_refl _) hlt
    rw [h _ (le_run p m k) hlt] at h1; cases h1
  · have := run_le (p := p) hk; omega
theorem run_upto {p : Nat → Bool} {m : List Nat} {e : Nat} (he : e < m.length) (h : ∀ j, j < e → p (gd m j) = true) (hn : p (gd m e) = false) : run p m 0 = e := by
  rcases Nat.lt_trichotomy (run p m 0) e with a | a | a
  · have h1 := run_stop (p := p) (l := m) _ 0 (Nat.le_refl _) (by omega)
    rw [h _ a] at h1; cases h1
  · exact a
  · have := run_all' (p := p) (l := m) (k := 0) (Nat.zero_le e) a
    rw [hn] at this; cases this
theorem letter_digit {b : Nat} (h : isLetter b = true) : isDigit b = false := by
  unfold isLetter at h; unfold isDigit; simp at h ⊢; omega
theorem sign_digit {b : Nat} (h : isSign b = true) : isDigit b = false ∧ isLetter b = false := by
  unfold isSign at h; unfold isDigit isLetter
  simp only [decide_eq_true_eq] at h
  rcases h with rfl | rfl | rfl | rfl | rfl <;> exact ⟨by decide, by decide⟩
theorem stepAt_kinds {l : List Nat} {i k e : Nat} (h : stepAt l i = ⟨0, k, e⟩) (hk : k ≠ 3) :
    (k = 0 ∧ isLetter (gd l i) = true ∧ e = run isIn l i ∧ e - i ≤ 24) ∨ (k = 1 ∧ isDigit (gd l i) = true ∧ e = numEnd l i ∧ (e < l.length → badAfter (gd l e) = false)) ∨ (k = 2 ∧ isSign (gd l i) = true ∧ e = i + 1) := by
  unfold stepAt at h
  split at h
  · cases h; exact absurd rfl hk
  split at h
  · cases h; exact absurd rfl hk
  split at h
  · split at h
    · cases h
    · rename_i hl hn; cases h; exact .inl ⟨rfl, hl, rfl, by omega⟩
  split at h
  · split at h
    · cases h
    · rename_i hd hn; cases h
      refine .inr (.inl ⟨rfl, hd, rfl, fun hlt => ?_⟩)
      cases hb : badAfter (gd l (numEnd l i)) with
      | false => rfl
      | true => exact absurd ⟨hlt, hb⟩ hn
  split at h
  · rename_i hs; cases h; exact .inr (.inr ⟨rfl, hs, rfl⟩)
  · cases h
/-- a word's text is a name and no number; a number's text a number and no name; a sign's neither -/
theorem word_text {l : List Nat} {a : Nat} (ha : a < l.length) (hl : isLetter (gd l a) = true) (h24 : run isIn l a - a ≤ 24) :
    isName (cutT l a (run isIn l a)) = true ∧ ¬ isNum (cutT l a (run isIn l a)) ∧ (cutT l a (run isIn l a)).length ≤ 24 := by
  have h1 : a < run isIn l a := by rw [letter_run ha hl]; exact le_run _ _ _
  have h2 : run isIn l a ≤ l.length := run_le (by omega)
  have hlen := cutT_len (a := a) h2
  have h0 : gd (cutT l a (run isIn l a)) 0 = gd l a := cutT_gd (by omega)
  have hr : run isIn (cutT l a (run isIn l a)) 0 = (cutT l a (run isIn l a)).length := run_full (Nat.zero_le _) (fun j _ hj => by
    rw [hlen] at hj; rw [cutT_gd hj]; exact run_all' (k := a) (by omega) (by omega))
  refine ⟨?_, ?_, by omega⟩
  · unfold isName; rw [h0, hl, hr, hlen]; simp; omega
  · rintro ⟨_, k, _⟩; rw [h0, letter_digit hl] at k; cases k
theorem num_text {l : List Nat} {a : Nat} (ha : a < l.length) (hd : isDigit (gd l a) = true) :
    isName (cutT l a (numEnd l a)) = false ∧ isNum (cutT l a (numEnd l a)) := by
  have h1 := lt_numEnd ha hd
  have h2 : numEnd l a ≤ l.length := numEnd_le (by omega)
  have hlen := cutT_len (a := a) h2
  have h0 : gd (cutT l a (numEnd l a)) 0 = gd l a := cutT_gd (by omega)
  refine ⟨?_, ?_, by rw [h0]; exact hd, ?_⟩
  · unfold isName; rw [h0]
    cases hc : isLetter (gd l a) with
    | false => simp
    | true => rw [letter_digit hc] at hd; cases hd
  · intro e; rw [e] at hlen; simp at hlen; omega
  · obtain ⟨e, he⟩ : ∃ e, e = run isDigit l a := ⟨_, rfl⟩
    have hea : a < e := by rw [he, ← run_yes ha hd]; exact le_run _ _ _
    obtain ⟨b, hb⟩ : ∃ b, b = numEnd l a := ⟨_, rfl⟩
    have hb' := hb
    unfold numEnd at hb'
    rw [← he] at hb'
    rw [← hb] at h1 h2 hlen ⊢
    split at hb'
    · rename_i hc
      have hbe : e + 1 < b := by
        rw [hb', ← run_yes hc.1 hc.2.2]; exact le_run _ _ _
      have hnd : isDigit (gd l e) = false := by
        rcases hc.2.1 with k | k <;> rw [k] <;> decide
      have r1 : run isDigit (cutT l a b) 0 = e - a := run_upto (by omega) (fun j hj => by
        rw [cutT_gd (by omega)]; exact run_all' (k := a) (by omega) (by omega)) (by
        rw [cutT_gd (by omega), show a + (e - a) = e by omega]; exact hnd)
      have r2 : run isDigit (cutT l a b) (e - a + 1) = (cutT l a b).length := run_full (by omega) (fun j hj1 hj2 => by
        rw [hlen] at hj2; rw [cutT_gd hj2]; exact run_all' (k := e + 1) (by omega) (by omega))
      unfold numEnd
      rw [r1, if_pos, r2]
      refine ⟨by omega, ?_, ?_⟩
      · rw [cutT_gd (by omega), show a + (e - a) = e by omega]; exact hc.2.1
      · rw [cutT_gd (by omega), show a + (e - a + 1) = e + 1 by omega]; exact hc.2.2
    · have r1 : run isDigit (cutT l a b) 0 = (cutT l a b).length := run_full (Nat.zero_le _) (fun j _ hj => by
        rw [hlen] at hj; rw [cutT_gd hj]; exact run_all' (k := a) (by omega) (by omega))
      unfold numEnd
      rw [r1, if_neg (by omega)]
theorem sign_text {l : List Nat} {a : Nat} (ha : a < l.length) (hs : isSign (gd l a) = true) :
    isName (cutT l a (a + 1)) = false ∧ ¬ isNum (cutT l a (a + 1)) ∧ (cutT l a (a + 1)).length = 1 := by
  have hlen := cutT_len (l := l) (a := a) (b := a + 1) (by omega)
  have h0 : gd (cutT l a (a + 1)) 0 = gd l a := cutT_gd (by omega)
  obtain ⟨h1, h2⟩ := sign_digit hs
  refine ⟨?_, ?_, by omega⟩
  · unfold isName; rw [h0, h2]; simp
  · rintro ⟨_, k, _⟩; rw [h0, h1] at k; cases k
theorem tvC_two {l : List Nat} (h : l.length ≤ 100) : tvC l = 2 ↔ ¬ isNum l := by
  unfold tvC
  rw [if_neg (by omega)]
  constructor
  · intro k hn
    rw [if_neg (fun k => k hn)] at k
    split at k
    · unfold dc at k; split at k <;> cases k
    · cases k
  · intro k; rw [if_pos k]
/-- two tokens that stand side by side: one of them is a sign -/
theorem no_touch {l : List Nat} {a b k j e f : Nat} (h1 : stepAt l a = ⟨0, k, b⟩) (hk : k ≠ 3) (hk2 : k ≠ 2) (h2 : stepAt l e = ⟨0, j, f⟩) (hj : j ≠ 3) (hj2 : j ≠ 2) (he : e < l.length) (hbe : b ≤ e) : b < e := by
  rcases Nat.lt_or_eq_of_le hbe with x | x
  · exact x
  · exfalso
    subst x
    have hs : isLetter (gd l b) = true ∨ isDigit (gd l b) = true := by
      rcases stepAt_kinds h2 hj with ⟨_, q, _⟩ | ⟨_, q, _⟩ | ⟨q, _⟩
      · exact .inl q
      · exact .inr q
      · exact absurd q hj2
    rcases stepAt_kinds h1 hk with ⟨_, _, q, _⟩ | ⟨_, _, q, q2⟩ | ⟨q, _⟩
    · have := run_stop (p := isIn) (l := l) _ a (Nat.le_refl _) (by rw [← q]; exact he)
      rw [← q] at this
      unfold isIn at this
      rcases hs with y | y <;> simp [y] at this
    · have b1 := q2 he
      have b2 : isDigit (gd l b) = false := by rw [q]; exact numEnd_stop (by rw [← q]; exact he)
      unfold badAfter isIn at b1
      rcases hs with y | y
      · simp [y] at b1
      · rw [y] at b2; cases b2
    · exact absurd q hk2
theorem tok_next {l : List Nat} {ts : List Tk} (h : scanAt l 0 = (ts, 0)) : ∀ q x, ts[q]? = some x → scanAt l x.fin = (ts.drop (q + 1), 0) ∧ (∀ y, ts[q + 1]? = some y → x.fin ≤ y.at_) := by
  have key : ∀ q e, ∀ r, e ≤ l.length → scanAt l e = (r, 0) → ∀ x, r[q]? = some x → scanAt l x.fin = (r.drop (q + 1), 0) ∧ (∀ y, r[q + 1]? = some y → x.fin ≤ y.at_) := by
    intro q
    induction q with
    | zero =>
      intro e r he hr x hx
      cases r with
      | nil => cases hx
      | cons t r =>
        have hx' : t = x := by simpa using hx
        subst hx'
        obtain ⟨_, _, _, g4⟩ := gap_next he hr
        obtain ⟨_, _, k3, k4⟩ := g4 t r rfl
        refine ⟨by simpa using k4, fun y hy => ?_⟩
        have hm := scan_tok _ t.fin r (Nat.le_refl _) k4 y (List.mem_of_getElem? (by simpa using hy))
        exact hm.1
    | succ q ih =>
      intro e r he hr x hx
      cases r with
      | nil => cases hx
      | cons t r =>
        obtain ⟨_, _, _, g4⟩ := gap_next he hr
        obtain ⟨_, _, k3, k4⟩ := g4 t r rfl
        have := ih t.fin r k3 k4 x (by simpa using hx)
        simpa using this
  intro q x hx
  exact key q 0 ts (Nat.zero_le _) h x hx
end Go.Proofs.Ytaefimegiobkmaa
/-
  Whether a text is a name: token.Name and the reference's.
  Conditions: each theorem's own.
-/
namespace Go.Proofs.Ytaefimegiobkmaa
open Go.RowKit Go.ChangeShapes Go.WideShapes

theorem isName_small {l : List Nat} (h : ¬ (0 < l.length ∧ l.length ≤ 24)) : isName l = false := by unfold isName; rw [decide_eq_false h]; rfl
theorem isName_first {l : List Nat} (h : isLetter (gd l 0) = false) : isName l = false := by unfold isName; rw [h]; simp
theorem isName_rest {l : List Nat} (h : 0 < l.length ∧ l.length ≤ 24) (h1 : isLetter (gd l 0) = true) : isName l = decide (run isIn l 0 = l.length) := by unfold isName; rw [decide_eq_true h, h1]; rfl
set_option maxRecDepth 100000 in
set_option maxHeartbeats 1600000 in
theorem name_any (s : ByteArray) (w : World) (hs : s.size ≤ 9223372036854775806) :
    Calls Try.prog 9 #[.string s] w (RetS w (.bool (isName (bs s)))) := by
  have hlen := bs_length s
  by_cases h0 : s.size = 0
  · rw [isName_small (by omega)]
    have f1 : decide ((0 : Int) < (s.size : Int)) = false := decide_eq_false (by omega)
    have g1 : decide (0 < s.size) = false := decide_eq_false (by omega)
    have g2 : (0 < s.size) = False := eq_false (by omega)
    clear hlen h0
    go_enter Try.func9, Try.ntmps9
    go_wp2_with fail
    go_ret; exact ⟨rfl, rfl⟩
  have f1 : decide ((0 : Int) < (s.size : Int)) = true := decide_eq_true (by omega)
  have g1 : decide (0 < s.size) = true := decide_eq_true (by omega)
  have g2 : (0 < s.size) = True := eq_true (by omega)
  by_cases h1 : 24 < s.size
  · rw [isName_small (by omega)]
    have f2 : decide ((s.size : Int) ≤ 24) = false := decide_eq_false (by omega)
    clear hlen h0
    go_enter Try.func9, Try.ntmps9
    go_wp2_with fail
    go_ret; exact ⟨rfl, rfl⟩
  have f2 : decide ((s.size : Int) ≤ 24) = true := decide_eq_true (by omega)
  have hix := run_index_gb (P := Try.prog) s 9 Try.underlying9 0 (by omega)
  rw [show ((0 : Nat) : Int) = 0 from rfl] at hix
  have hb := bs_lt s 0
  cases hl : isLetter (gd (bs s) 0) with
  | false =>
    rw [isName_first hl]
    obtain ⟨b, hbb⟩ : ∃ b, b = gd (bs s) 0 := ⟨_, rfl⟩
    rw [← hbb] at hix hb hl
    have hc := fun wx => letter_any b wx hb
    rw [hl] at hc
    have HC := Lib.hid hc; clear hc hbb hl hlen h0
    go_enter Try.func9, Try.ntmps9
    go_wp2_with (go_at_call 17; (with_reducible refine (HC.out _).mono ?_); rintro e w' ⟨rfl, rfl⟩)
    go_ret; exact ⟨rfl, rfl⟩
  | true =>
    rw [isName_rest (by omega) hl]
    obtain ⟨E, hE⟩ : ∃ E, E = run isIn (bs s) 0 := ⟨_, rfl⟩
    have hw := fun wx => wordEnd_any s 0 wx hs (Nat.zero_le _)
    rw [← hE] at hw ⊢
    rw [hlen]
    rw [show ((0 : Nat) : Int) = 0 from rfl] at hw
    obtain ⟨b, hbb⟩ : ∃ b, b = gd (bs s) 0 := ⟨_, rfl⟩
    rw [← hbb] at hix hb hl
    have hc := fun wx => letter_any b wx hb
    rw [hl] at hc
    have HC := Lib.hid hc; have HW := Lib.hid hw
    rw [show decide (E = s.size) = ((E : Int) == (s.size : Int)) from by rw [Bool.eq_iff_iff]; simp only [decide_eq_true_eq, beq_iff_eq]; omega]
    clear hc hw hbb hl hlen h0 hE
    go_enter Try.func9, Try.ntmps9
    go_wp2_with (first | (go_at_call 17; (with_reducible refine (HC.out _).mono ?_); rintro e w' ⟨rfl, rfl⟩) | (go_at_call 18; (with_reducible refine (HW.out _).mono ?_); rintro e w' ⟨rfl, rfl⟩))
    go_ret; exact ⟨by first | rfl | (simp; done), rfl⟩
end Go.Proofs.Ytaefimegiobkmaa
/-
  The last step of a law's proof: true was handed back and nothing that was there has changed, so the row's claim holds.
  Conditions: each theorem's own.
-/
namespace Go.Proofs.Ytaefimegiobkmaa
open Go.RowKit Go.ChangeShapes Go.WideShapes

theorem trodAll_below {H : Type} {enc : TypeId × Value → H} {P : Program} (hl : laidOutB P = true) {W W' : World} (hb : Below W.heap.size W W') :
    ∀ (ts : List TypeId) (vs : List Value) (ds : List (DataW H)) (ps : List MemPlace), (ts.all fun t => P.readableRec t && decide (t < P.types.size)) = true →
      DataW.TrodAll enc P W 0 (fun _ => true) true ts vs ds ps → (∀ x ∈ ps, x.block < W.heap.size) → DataW.TrodAll enc P W' 0 (fun b => decide (b < W.heap.size)) true ts vs ds ps := by
  intro ts
  induction ts with
  | nil =>
    intro vs ds ps hr h hlt
    cases vs <;> cases ds <;> first | exact h | exact h.elim
  | cons t ts ih =>
    intro vs ds ps hr h hlt
    simp only [List.all_cons, Bool.and_eq_true, decide_eq_true_eq] at hr
    cases vs with
    | nil => cases ds <;> exact h.elim
    | cons v vs =>
      cases ds with
      | nil => exact h.elim
      | cons d ds =>
        obtain ⟨p, q, h1, h2, rfl⟩ := h
        exact ⟨p, q, Below.trod hl hr.1.1 hr.1.2 h1 hb (fun x hx => hlt x (List.mem_append_left _ hx)),
          ih vs ds q hr.2 h2 (fun x hx => hlt x (List.mem_append_right _ hx)), rfl⟩

theorem law_close {H : Type} {enc : TypeId × Value → H} {P : Program} {f : Func} {s : ChangeSpec} {W W' : World} {args : Array Value} {ds gs : List (DataW H)} {before : List MemPlace} {tb : TypeId}
    (hl : laidOutB P = true) (hrd : (f.params.toList.all fun t => P.readableRec t && decide (t < P.types.size)) = true) (hvars : s.vars = []) (hr : f.resultTypes = #[tb]) (hbool : P.underlying tb = some .bool)
    (hres : (s.fn H (ds ++ gs)).results = [.lit (.bool true)]) (hargs : (s.fn H (ds ++ gs)).args = ds) (hvs : (s.fn H (ds ++ gs)).vars = [])
    (hW : DataW.Whole enc P f.params.toList s.vars false W args.toList ds gs before) (hb : Below W.heap.size W W') :
    s.post enc P f false true false false W args (.bool true) W' := by
  have hlt := hW.lt
  have hW' := hW
  obtain ⟨p, q, hA, hV, rfl, hz, hn⟩ := hW
  rw [hvars] at hV
  obtain ⟨rfl, rfl⟩ := trodVars_none hV
  refine ⟨ds, [], p ++ [], [], p, [], hW', ?_, ?_, ?_, hb.frame _, fun h => by cases h⟩
  · rw [hres, hr]
    exact ⟨[], [], shut_bool hbool true, rfl, rfl⟩
  · rw [hargs]
    exact trodAll_below hl hb _ _ _ _ hrd hA (fun x hx => by simpa using hlt x (List.mem_append_left _ hx))
  · rw [hvs, hvars]; rfl
end Go.Proofs.Ytaefimegiobkmaa
