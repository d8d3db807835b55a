/-
  The texts Rat9, OpenR, Close, one behind the other.
  Conditions: each theorem's own.
-/
import Derived.Lib.SmallJoins
import Derived.Carry
import Derived.ShutString
import Derived.OpenShut
import Derived.Test.YtabdndlaelfdeaaDoorM6
/-
  rational.Power and the reference's: what they hand back.
  Conditions: each theorem's own.
-/
namespace Go.Proofs.YtabdndlaelfdeaaDoor
open Go.RowKit Go.ChangeShapes Go.WideShapes

theorem rl_pow_le {p : Rat} {k m : Nat} (hk : k ≤ m) (hm : m ≤ 64) (hp : rl p ≤ 1000) : rl (p ^ k) ≤ 64001 := by
  have h1 := rl_pow p k
  have h2 : k * rl p ≤ 64 * 1000 := Nat.mul_le_mul (by omega) hp
  omega
set_option maxRecDepth 100000 in
set_option maxHeartbeats 6400000 in
theorem pow_ok (vp : Value) (p : Rat) (m : Nat) (w : World) (hp : RatIs w vp p) (hm : m ≤ 64) (hlp1 : rl p ≤ 1000) :
    Calls Tryd.prog 31 #[vp, .int .i64 (m : Nat)] w (RetRE w (p ^ m) (errV 0)) := by
  obtain ⟨sp, op, np, cp, ap, mp, dp, rfl⟩ := hp.shape
  have hlp := hp.rl
  rw [errV_zero]
  have hb0 := (((Below.refl w.heap.size w).alloc (by first | (simp; done) | (simp; omega)) (.cells #[.bool sp, .slice op np cp, .slice ap mp dp] 24)).alloc (by first | (simp; done) | (simp; omega)) (.cells #[.bool false, .slice none 0 0, .slice none 0 0] 24))
  have hxp := nest2_0 w (.cells #[.bool sp, .slice op np cp, .slice ap mp dp] 24) (.cells #[.bool false, .slice none 0 0, .slice none 0 0] 24)
  have hxR := nest2_1 w (.cells #[.bool sp, .slice op np cp, .slice ap mp dp] 24) (.cells #[.bool false, .slice none 0 0, .slice none 0 0] 24)
  have hpp := hp.below hb0
  obtain ⟨w0, hw0⟩ : ∃ w0, w0 = ((w.alloc (.cells #[.bool sp, .slice op np cp, .slice ap mp dp] 24)).alloc (.cells #[.bool false, .slice none 0 0, .slice none 0 0] 24)) := ⟨_, rfl⟩
  rw [← hw0] at hb0 hxp hxR hpp
  have HB0 := Lib.hid hb0; have HW0 := Lib.hid hw0
  have BXp := Lib.hid hxp
  have BXR := Lib.hid hxR
  have Fp := Lib.hid hpp
  clear hb0 hw0 hxp hxR hpp hp
  have f1 : decide ((m : Int) < -64) = false := decide_eq_false (by omega)
  have f2 : decide ((64 : Int) < (m : Int)) = false := decide_eq_false (by omega)
  have f3 : decide ((m : Int) < 0) = false := decide_eq_false (by omega)
  go_enter Tryd.func31, Tryd.ntmps31
  have hs := ofq_any 1 w0 (by decide) (by decide)
  have HS := Lib.hid hs; clear hs
  go_wp2_with fail
  rw [← HW0.out]
  (with_reducible refine HS.out.mono ?_); rintro e w1 ⟨v1, rfl, hb1, hn1⟩
  clear HS
  obtain ⟨s1, o1, n1, c1, a1, m1, d1, rfl⟩ := hn1.shape
  have HB1 := Lib.hid (HB0.out.step hb1)
  have Fp := Lib.hid (Fp.out.below hb1)
  have BXp := Lib.hid (heap_below BXp.out hb1)
  have BXR := Lib.hid (heap_below BXR.out hb1)
  have ONE := Lib.hid hn1; clear hn1
  clear hb1
  go_wp2_with fail
  have hxo := heap_alloc_new w1 (.cells #[.bool s1, .slice o1 n1 c1, .slice a1 m1 d1] 24)
  have hal : Below w1.heap.size w1 (w1.alloc (.cells #[.bool s1, .slice o1 n1 c1, .slice a1 m1 d1] 24)) := (Below.refl _ _).alloc (Nat.le_refl _) _
  have g1 := below_lt BXp.out; have g2 := below_lt BXR.out
  obtain ⟨g, hg⟩ : ∃ g, g = w1.heap.size := ⟨_, rfl⟩
  rw [← hg] at hxo g1 g2 ⊢
  have HAL := Lib.hid hal; have HXO := Lib.hid hxo; have HG := Lib.hid hg; clear hal hxo hg f1 f2 f3
  go_loopw [37] (fun kv wr => ∃ (k : Nat) (sx : Bool) (ox : Option Addr) (nx cx : Nat) (ax : Option Addr) (mx dx : Nat), k ≤ m ∧ kv = .int .i64 k ∧ Hid (wr.heap[g]? = some (.cells #[.bool sx, .slice ox nx cx, .slice ax mx dx] 24)) ∧ IsR wr (.agg #[.bool sx, .slice ox nx cx, .slice ax mx dx]) (p ^ k) ∧
      Hid (wr.heap[w.heap.size]? = some (.cells #[.bool sp, .slice op np cp, .slice ap mp dp] 24)) ∧ Hid (wr.heap[w.heap.size + 1]? = some (.cells #[.bool false, .slice none 0 0, .slice none 0 0] 24)) ∧ RatIs wr (.agg #[.bool sp, .slice op np cp, .slice ap mp dp]) p ∧ Below w.heap.size w wr) (fun kv _ => m - (intOf kv).toNat)
  case atStart => exact ⟨0, s1, o1, n1, c1, a1, m1, d1, Nat.zero_le _, rfl, HXO, by rw [pow_rat_zero]; exact ONE.out.below HAL.out, Lib.hid (heap_below BXp.out HAL.out), Lib.hid (heap_below BXR.out HAL.out), Fp.out.below HAL.out, HB1.out.step HAL.out⟩
  case round =>
    obtain ⟨k, sx, ox, nx, cx, ax, mx, dx, hk, rfl, hxg, hro, hxp, hxr, hrp, hBr⟩ := hrel
    have HRO := Lib.hid hro; have HRP := Lib.hid hrp; have HBR := Lib.hid hBr; clear hro hrp hBr
    by_cases hkm : k < m
    · have hs := mulq_any _ (p ^ k) _ p wr (HRO.out.is (by have := rl_pow_le hk hm hlp1; omega)) HRP.out
      rw [← pow_rat_succ] at hs
      have HS := Lib.hid hs; clear hs
      have hf1 : decide ((k : Int) < (m : Int)) = true := decide_eq_true (by omega)
      obtain ⟨eg0, eg1, eg2⟩ := row3 hxg.out
      obtain ⟨ep0, ep1, ep2⟩ := row3 hxp.out
      go_wp2_with fail
      (with_reducible refine HS.out.mono ?_); rintro e w2 ⟨v2, rfl, hb2, hn2⟩
      obtain ⟨s2, o2, n2, c2, a2, m2, d2, rfl⟩ := hn2.shape
      have hg2 := heap_below hxg.out hb2
      obtain ⟨eg0, eg1, eg2⟩ := row3 hg2
      obtain ⟨fg0, fg1, fg2⟩ := froz3 hg2
      have HG2 := Lib.hid hg2; have HP2 := Lib.hid (heap_below hxp.out hb2); have HR2 := Lib.hid (heap_below hxr.out hb2); have HN2 := Lib.hid hn2; have HB2 := Lib.hid (HBR.out.step hb2); have HRP := Lib.hid (HRP.out.below hb2)
      clear hg2 hn2 hb2 HS
      go_wp2_with fail
      go_roundw
      case rel => exact ⟨k + 1, s2, o2, n2, c2, a2, m2, d2, hkm, by go_num, Lib.hid (put3_heap HG2.out), isR_put HN2.out HG2.out, Lib.hid ((put3_ne (by omega)).trans HP2.out), Lib.hid ((put3_ne (by omega)).trans HR2.out), ratIs_put HRP.out HG2.out, put3_below HB2.out (by omega) _ _ _⟩
      case measure => simp [intOf]; omega
    · obtain rfl : k = m := by omega
      have hf1 : decide ((k : Int) < (k : Int)) = false := decide_eq_false (by omega)
      obtain ⟨eg0, eg1, eg2⟩ := row3 hxg.out
      obtain ⟨er0, er1, er2⟩ := row3 hxr.out
      obtain ⟨fr0, fr1, fr2⟩ := froz3 hxr.out
      go_wp2_with fail
      refine ret_rat2 rfl (w.heap.size + 1) _ _ _ rfl (put3_heap hxr.out) rfl ?_
      exact ⟨_, rfl, put3_below HBR.out (by omega) _ _ _, isR_put HRO.out hxr.out⟩
set_option maxRecDepth 100000 in
set_option maxHeartbeats 3200000 in
theorem pow_low (vp : Value) (p : Rat) (n : Int) (w : World) (hp : RatIs w vp p) (h : n < -64) :
    Calls Tryd.prog 31 #[vp, .int .i64 n] w (RetRE w 0 (errV 3)) := by
  obtain ⟨sp, op, np, cp, ap, mp, dp, rfl⟩ := hp.shape
  have hlp := hp.rl
  rw [errV_pos (by decide)]
  have hb0 := (((Below.refl w.heap.size w).alloc (by first | (simp; done) | (simp; omega)) (.cells #[.bool sp, .slice op np cp, .slice ap mp dp] 24)).alloc (by first | (simp; done) | (simp; omega)) (.cells #[.bool false, .slice none 0 0, .slice none 0 0] 24))
  have hxp := nest2_0 w (.cells #[.bool sp, .slice op np cp, .slice ap mp dp] 24) (.cells #[.bool false, .slice none 0 0, .slice none 0 0] 24)
  have hxR := nest2_1 w (.cells #[.bool sp, .slice op np cp, .slice ap mp dp] 24) (.cells #[.bool false, .slice none 0 0, .slice none 0 0] 24)
  have hpp := hp.below hb0
  obtain ⟨w0, hw0⟩ : ∃ w0, w0 = ((w.alloc (.cells #[.bool sp, .slice op np cp, .slice ap mp dp] 24)).alloc (.cells #[.bool false, .slice none 0 0, .slice none 0 0] 24)) := ⟨_, rfl⟩
  rw [← hw0] at hb0 hxp hxR hpp
  have HB0 := Lib.hid hb0; have HW0 := Lib.hid hw0
  have BXp := Lib.hid hxp
  have BXR := Lib.hid hxR
  have Fp := Lib.hid hpp
  clear hb0 hw0 hxp hxR hpp hp
  have f1 : decide (n < -64) = true := decide_eq_true h
  clear h
  go_enter Tryd.func31, Tryd.ntmps31
  go_wp2_with fail
  rw [← HW0.out]
  refine ret_rat2 rfl (w.heap.size + 1) _ _ _ rfl BXR.out rfl ?_
  exact ⟨_, rfl, HB0.out, isR_zero _⟩
set_option maxRecDepth 100000 in
set_option maxHeartbeats 3200000 in
theorem pow_high (vp : Value) (p : Rat) (n : Int) (w : World) (hp : RatIs w vp p) (h : 64 < n) :
    Calls Tryd.prog 31 #[vp, .int .i64 n] w (RetRE w 0 (errV 3)) := by
  obtain ⟨sp, op, np, cp, ap, mp, dp, rfl⟩ := hp.shape
  have hlp := hp.rl
  rw [errV_pos (by decide)]
  have hb0 := (((Below.refl w.heap.size w).alloc (by first | (simp; done) | (simp; omega)) (.cells #[.bool sp, .slice op np cp, .slice ap mp dp] 24)).alloc (by first | (simp; done) | (simp; omega)) (.cells #[.bool false, .slice none 0 0, .slice none 0 0] 24))
  have hxp := nest2_0 w (.cells #[.bool sp, .slice op np cp, .slice ap mp dp] 24) (.cells #[.bool false, .slice none 0 0, .slice none 0 0] 24)
  have hxR := nest2_1 w (.cells #[.bool sp, .slice op np cp, .slice ap mp dp] 24) (.cells #[.bool false, .slice none 0 0, .slice none 0 0] 24)
  have hpp := hp.below hb0
  obtain ⟨w0, hw0⟩ : ∃ w0, w0 = ((w.alloc (.cells #[.bool sp, .slice op np cp, .slice ap mp dp] 24)).alloc (.cells #[.bool false, .slice none 0 0, .slice none 0 0] 24)) := ⟨_, rfl⟩
  rw [← hw0] at hb0 hxp hxR hpp
  have HB0 := Lib.hid hb0; have HW0 := Lib.hid hw0
  have BXp := Lib.hid hxp
  have BXR := Lib.hid hxR
  have Fp := Lib.hid hpp
  clear hb0 hw0 hxp hxR hpp hp
  have f1 : decide (n < -64) = false := decide_eq_false (by omega)
  have f2 : decide (64 < n) = true := decide_eq_true h
  clear h
  go_enter Tryd.func31, Tryd.ntmps31
  go_wp2_with fail
  rw [← HW0.out]
  refine ret_rat2 rfl (w.heap.size + 1) _ _ _ rfl BXR.out rfl ?_
  exact ⟨_, rfl, HB0.out, isR_zero _⟩
set_option maxRecDepth 100000 in
set_option maxHeartbeats 3200000 in
theorem rpow_low (vp : Value) (p : Rat) (n : Int) (w : World) (hp : RatIs w vp p) (h : n < -64) :
    Calls Tryd.prog 32 #[vp, .int .i64 n] w (RetRE w 0 (.int .i64 3)) := by
  obtain ⟨sp, op, np, cp, ap, mp, dp, rfl⟩ := hp.shape
  have hlp := hp.rl
  have hb0 := (((Below.refl w.heap.size w).alloc (by first | (simp; done) | (simp; omega)) (.cells #[.bool sp, .slice op np cp, .slice ap mp dp] 24)).alloc (by first | (simp; done) | (simp; omega)) (.cells #[.bool false, .slice none 0 0, .slice none 0 0] 24))
  have hxp := nest2_0 w (.cells #[.bool sp, .slice op np cp, .slice ap mp dp] 24) (.cells #[.bool false, .slice none 0 0, .slice none 0 0] 24)
  have hxR := nest2_1 w (.cells #[.bool sp, .slice op np cp, .slice ap mp dp] 24) (.cells #[.bool false, .slice none 0 0, .slice none 0 0] 24)
  have hpp := hp.below hb0
  obtain ⟨w0, hw0⟩ : ∃ w0, w0 = ((w.alloc (.cells #[.bool sp, .slice op np cp, .slice ap mp dp] 24)).alloc (.cells #[.bool false, .slice none 0 0, .slice none 0 0] 24)) := ⟨_, rfl⟩
  rw [← hw0] at hb0 hxp hxR hpp
  have HB0 := Lib.hid hb0; have HW0 := Lib.hid hw0
  have BXp := Lib.hid hxp
  have BXR := Lib.hid hxR
  have Fp := Lib.hid hpp
  clear hb0 hw0 hxp hxR hpp hp
  have f1 : decide (n < -64) = true := decide_eq_true h
  clear h
  go_enter Tryd.func32, Tryd.ntmps32
  go_wp2_with fail
  rw [← HW0.out]
  refine ret_rat2 rfl (w.heap.size + 1) _ _ _ rfl BXR.out rfl ?_
  exact ⟨_, rfl, HB0.out, isR_zero _⟩
set_option maxRecDepth 100000 in
set_option maxHeartbeats 3200000 in
theorem rpow_high (vp : Value) (p : Rat) (n : Int) (w : World) (hp : RatIs w vp p) (h : 64 < n) :
    Calls Tryd.prog 32 #[vp, .int .i64 n] w (RetRE w 0 (.int .i64 3)) := by
  obtain ⟨sp, op, np, cp, ap, mp, dp, rfl⟩ := hp.shape
  have hlp := hp.rl
  have hb0 := (((Below.refl w.heap.size w).alloc (by first | (simp; done) | (simp; omega)) (.cells #[.bool sp, .slice op np cp, .slice ap mp dp] 24)).alloc (by first | (simp; done) | (simp; omega)) (.cells #[.bool false, .slice none 0 0, .slice none 0 0] 24))
  have hxp := nest2_0 w (.cells #[.bool sp, .slice op np cp, .slice ap mp dp] 24) (.cells #[.bool false, .slice none 0 0, .slice none 0 0] 24)
  have hxR := nest2_1 w (.cells #[.bool sp, .slice op np cp, .slice ap mp dp] 24) (.cells #[.bool false, .slice none 0 0, .slice none 0 0] 24)
  have hpp := hp.below hb0
  obtain ⟨w0, hw0⟩ : ∃ w0, w0 = ((w.alloc (.cells #[.bool sp, .slice op np cp, .slice ap mp dp] 24)).alloc (.cells #[.bool false, .slice none 0 0, .slice none 0 0] 24)) := ⟨_, rfl⟩
  rw [← hw0] at hb0 hxp hxR hpp
  have HB0 := Lib.hid hb0; have HW0 := Lib.hid hw0
  have BXp := Lib.hid hxp
  have BXR := Lib.hid hxR
  have Fp := Lib.hid hpp
  clear hb0 hw0 hxp hxR hpp hp
  have f1 : decide (n < -64) = false := decide_eq_false (by omega)
  have f2 : decide (64 < n) = true := decide_eq_true h
  clear h
  go_enter Tryd.func32, Tryd.ntmps32
  go_wp2_with fail
  rw [← HW0.out]
  refine ret_rat2 rfl (w.heap.size + 1) _ _ _ rfl BXR.out rfl ?_
  exact ⟨_, rfl, HB0.out, isR_zero _⟩
set_option maxRecDepth 100000 in
set_option maxHeartbeats 6400000 in
theorem pow_neg (vp : Value) (p : Rat) (m : Nat) (w : World) (hp : RatIs w vp p) (hm : m ≤ 64) (hm0 : 0 < m) (hlp1 : rl p ≤ 900) (h0 : p ≠ 0) :
    Calls Tryd.prog 31 #[vp, .int .i64 (-(m : Int))] w (RetRE w ((1 / p) ^ m) (errV 0)) := by
  obtain ⟨sp, op, np, cp, ap, mp, dp, rfl⟩ := hp.shape
  have hlp := hp.rl
  rw [errV_zero]
  have hb0 := (((Below.refl w.heap.size w).alloc (by first | (simp; done) | (simp; omega)) (.cells #[.bool sp, .slice op np cp, .slice ap mp dp] 24)).alloc (by first | (simp; done) | (simp; omega)) (.cells #[.bool false, .slice none 0 0, .slice none 0 0] 24))
  have hxp := nest2_0 w (.cells #[.bool sp, .slice op np cp, .slice ap mp dp] 24) (.cells #[.bool false, .slice none 0 0, .slice none 0 0] 24)
  have hxR := nest2_1 w (.cells #[.bool sp, .slice op np cp, .slice ap mp dp] 24) (.cells #[.bool false, .slice none 0 0, .slice none 0 0] 24)
  have hpp := hp.below hb0
  obtain ⟨w0, hw0⟩ : ∃ w0, w0 = ((w.alloc (.cells #[.bool sp, .slice op np cp, .slice ap mp dp] 24)).alloc (.cells #[.bool false, .slice none 0 0, .slice none 0 0] 24)) := ⟨_, rfl⟩
  rw [← hw0] at hb0 hxp hxR hpp
  have HB0 := Lib.hid hb0; have HW0 := Lib.hid hw0
  have BXp := Lib.hid hxp
  have BXR := Lib.hid hxR
  have Fp := Lib.hid hpp
  clear hb0 hw0 hxp hxR hpp hp
  have f1 : decide (-(m : Int) < -64) = false := decide_eq_false (by omega)
  have f2 : decide ((64 : Int) < -(m : Int)) = false := decide_eq_false (by omega)
  have f3 : decide (-(m : Int) < 0) = true := decide_eq_true (by omega)
  have hinv := rl_div 1 p h0; rw [rl_one] at hinv
  have H0 := Lib.hid h0; clear h0
  have _hl := hlp1
  have hr1 : rl ((1 : Int) : Rat) ≤ 2 := rl_small (by decide) (by decide)
  go_enter Tryd.func31, Tryd.ntmps31
  go_wp2_with fail
  rw [← HW0.out]
  clear f1 f2 f3
  have lwp := below_lt BXp.out
  have lwR := below_lt BXR.out
  refine wp_region_facts (A := ?aa0) (w := w0) 7 [5] (by kernel_rfl) (Fl [KIs (((1 : Int) : Rat)), KEq (.agg #[.bool sp, .slice op np cp, .slice ap mp dp]), KRE (1 / p) (.nilIface), KRE (1 / p) (.nilIface), KIs (1 / p), KEq (.nilIface), KBox w0.heap.size]) (fun i => i == 6) (by kernel_rfl) (fun _ _ _ _ _ h => h) (monoL (monoC (kIs _) (monoC (kEq _) (monoC (kRE _ _) (monoC (kRE _ _) (monoC (kIs _) (monoC (kEq _) (monoC (kBox _) monoN)))))))) ?ha0 ?st0 ?tl0
  case ha0 =>
    intro vals
    simp only [putsTo, dstOf, if_true, Act.put, List.setIfInBounds_toArray, List.set_cons_zero, List.set_cons_succ, List.getElem?_toArray, List.getElem?_cons_zero, List.getElem?_cons_succ, Option.bind_some]
    exact rfl
  case st0 =>
    simp only [List.take_succ_cons, List.take_zero]
    refine stepsOK_cons rfl rfl ?_ (stepsOK_cons rfl rfl ?_ (stepsOK_cons rfl rfl ?_ (stepsOK_cons rfl rfl ?_ (stepsOK_cons rfl rfl ?_ (stepsOK_pure rfl ?_ (stepsOK_cons rfl rfl ?_ (stepsOK_nil)))))))
    · intro vals w1 hb hd
      have hs := ofq_any 1 w1 (by decide) (by decide)
      have HS := Lib.hid hs; clear hs
      refine stepOK_call (by go_simp; first | done | exact ⟨⟨rfl, rfl⟩, rfl⟩) ?_
      (with_reducible refine HS.out.mono ?_); rintro e w2 ⟨v, rfl, hb2, hn⟩
      exact ⟨v, rfl, leaves_mk hb2 hn (fun h => by cases h)⟩
    · intro vals w1 hb hd
      obtain ⟨e0, e1, e2⟩ := row3 (heap_below BXp.out hb)
      refine stepOK_value (v := .agg #[.bool sp, .slice op np cp, .slice ap mp dp]) (w' := w1) (by go_simp) (leaves_mk (Below.refl _ _) rfl (fun h => by cases h))
    · intro vals w1 hb hd
      have d0 : KIs (((1 : Int) : Rat)) (vals 0) w1 := hd 0 (by kernel_rfl)
      have r0 : RatIs w1 (vals 0) (((1 : Int) : Rat)) := IsR.is d0 (by omega)
      have d1 : KEq (.agg #[.bool sp, .slice op np cp, .slice ap mp dp]) (vals 1) w1 := hd 1 (by kernel_rfl)
      have r1 : RatIs w1 (vals 1) (p) := by rw [show vals 1 = _ from d1]; exact Fp.out.below hb
      have hs := divq_any _ _ _ _ w1 r0 r1
      rw [show dc p = 0 from if_neg H0.out, errV_zero] at hs
      have HS := Lib.hid hs; clear hs
      clear d0 d1 hd
      refine stepOK_call (by go_simp; first | done | exact ⟨⟨rfl, rfl⟩, rfl⟩) ?_
      (with_reducible refine HS.out.mono ?_); rintro e w2 ⟨v, rfl, hb2, hn⟩
      exact ⟨_, rfl, leaves_mk hb2 ⟨v, rfl, hn⟩ (fun h => by cases h)⟩
    · intro vals w1 hb hd
      have d2 : KRE (1 / p) (.nilIface) (vals 2) w1 := hd 2 (by kernel_rfl)
      obtain ⟨b, eb, hq⟩ : KRE (1 / p) (.nilIface) (vals 2) w1 := d2
      rw [eb]
      refine stepOK_value (v := .tuple #[b, .nilIface]) (w' := w1) (by go_simp) (leaves_mk (Below.refl _ _) ⟨b, rfl, hq⟩ (fun h => by cases h))
    · intro vals w1 hb hd
      have d3 : KRE (1 / p) (.nilIface) (vals 3) w1 := hd 3 (by kernel_rfl)
      obtain ⟨b, eb, hq⟩ : KRE (1 / p) (.nilIface) (vals 3) w1 := d3
      rw [eb]
      refine stepOK_value (v := b) (w' := w1) (by go_simp) (leaves_mk (Below.refl _ _) hq (fun h => by cases h))
    · intro vals w1 hb hd
      have d3 : KRE (1 / p) (.nilIface) (vals 3) w1 := hd 3 (by kernel_rfl)
      obtain ⟨b, eb, hq⟩ : KRE (1 / p) (.nilIface) (vals 3) w1 := d3
      rw [eb]
      refine stepPure_value (v := .nilIface) (fun w => by go_simp) (leaves_mk (Below.refl _ _) rfl (fun h => by cases h))
    · intro vals w1 hb hd
      refine stepOK_value (v := .pointer (some ⟨w1.heap.size, 0, none⟩)) (w' := w1.alloc (.cells #[.bool false, .slice none 0 0, .slice none 0 0] 24)) (by go_simp) (leaves_mk ((Below.refl _ _).alloc (Nat.le_refl _) _) ⟨_, hb.size, rfl, heap_alloc_new _ _⟩ (fun _ => ⟨rfl, by simp⟩))
  case tl0 =>
    intro vals w1 hb1 hf hdis
    simp only [List.drop_succ_cons, List.drop_zero]
    obtain ⟨gb, hgb, ev6, hzb⟩ : KBox w0.heap.size (vals 6) w1 := hf 6 (by decide)
    have hnB : IsR w1 (vals 4) (1 / p) := hf 4 (by decide)
    have ee5 : vals 5 = .nilIface := hf 5 (by decide)
    rw [ee5]; clear ee5
    clear hf hdis
    rw [ev6]; clear ev6
    have HB1 := Lib.hid (HB0.out.step hb1)
    have Fp := Lib.hid (Fp.out.below hb1)
    have BXp := Lib.hid (heap_below BXp.out hb1)
    have BXR := Lib.hid (heap_below BXR.out hb1)
    obtain ⟨uB, huB⟩ : ∃ u, u = vals 4 := ⟨_, rfl⟩
    rw [← huB] at hnB ⊢; clear huB
    have B := Lib.hid hnB; clear hnB
    obtain ⟨sB, oB, nB, cB, aB, mB, dB, rfl⟩ := B.out.shape
    have BXb := Lib.hid hzb; clear hzb
    have hgwb : w.heap.size ≤ gb := Nat.le_trans HB0.out.size hgb
    clear hb1
    obtain ⟨eb0, eb1, eb2⟩ := row3 BXb.out
    obtain ⟨fb0, fb1, fb2⟩ := froz3 BXb.out
    obtain ⟨w2, hw2⟩ : ∃ w2, w2 = ((w1.setCell ⟨gb, 0, none⟩ (.bool sB)).setCell ⟨gb, 1, none⟩ (.slice oB nB cB)).setCell ⟨gb, 2, none⟩ (.slice aB mB dB) := ⟨_, rfl⟩
    have hp2 : w2 = put3 w1 (gb) (.bool sB) (.slice oB nB cB) (.slice aB mB dB) := hw2
    first | have Fp := Lib.hid (putkI hp2 Fp.out BXb.out) | have Fp := Lib.hid (putkR hp2 Fp.out BXb.out) | have Fp := Lib.hid (putkV hp2 Fp.out BXb.out)
    first | have B := Lib.hid (putkI hp2 B.out BXb.out) | have B := Lib.hid (putkR hp2 B.out BXb.out) | have B := Lib.hid (putkV hp2 B.out BXb.out)
    have BXp := Lib.hid (putx hp2 BXp.out (by first | omega | (have := below_lt BXp.out; omega)))
    have BXR := Lib.hid (putx hp2 BXR.out (by first | omega | (have := below_lt BXR.out; omega)))
    have nxb : w2.heap[gb]? = some (.cells #[.bool sB, .slice oB nB cB, .slice aB mB dB] 24) := by rw [hp2]; exact put3_heap BXb.out
    have BXb := Lib.hid nxb; clear nxb
    have HB2 := Lib.hid (putb hp2 HB1.out (by omega))
    have HW2 := Lib.hid hw2; clear hw2 hp2
    have hs := pow_ok _ (1 / p) m w2 (B.out.is (by omega)) hm (by omega)
    rw [errV_zero] at hs
    have HS := Lib.hid hs; clear hs
    obtain ⟨eb0, eb1, eb2⟩ := row3 BXb.out
    rw [HW2.out] at eb0
    rw [HW2.out] at eb1
    rw [HW2.out] at eb2
    go_wp2_with fail
    rw [← HW2.out]
    clear eb0 eb1 eb2 fb0 fb1 fb2
    (with_reducible refine HS.out.mono ?_); rintro e w3 ⟨v3, rfl, hb3, hn3⟩
    clear HS
    have HB3 := Lib.hid (HB2.out.step hb3)
    have Fp := Lib.hid (Fp.out.below hb3)
    have B := Lib.hid (B.out.below hb3)
    have BXp := Lib.hid (heap_below BXp.out hb3)
    have BXR := Lib.hid (heap_below BXR.out hb3)
    have BXb := Lib.hid (heap_below BXb.out hb3)
    have Z := Lib.hid hn3; clear hn3
    clear hb3
    obtain ⟨sZ, oZ, nZ, cZ, aZ, mZ, dZ, rfl⟩ := Z.out.shape
    obtain ⟨eR0, eR1, eR2⟩ := row3 BXR.out
    obtain ⟨fR0, fR1, fR2⟩ := froz3 BXR.out
    go_wp2_with fail
    clear eR0 eR1 eR2 fR0 fR1 fR2
    refine ret_rat2 rfl (w.heap.size + 1) _ _ _ rfl (put3_heap BXR.out) rfl ?_
    exact ⟨_, rfl, put3_below HB3.out (by omega) _ _ _, isR_put Z.out BXR.out⟩
set_option maxRecDepth 100000 in
set_option maxHeartbeats 6400000 in
theorem pow_inf (vp : Value) (p : Rat) (m : Nat) (w : World) (hp : RatIs w vp p) (hm : m ≤ 64) (hm0 : 0 < m) (hlp1 : rl p ≤ 900) (h0 : p = 0) :
    Calls Tryd.prog 31 #[vp, .int .i64 (-(m : Int))] w (RetRE w (0) (errV 8)) := by
  obtain ⟨sp, op, np, cp, ap, mp, dp, rfl⟩ := hp.shape
  have hlp := hp.rl
  rw [errV_pos (by decide)]
  have hb0 := (((Below.refl w.heap.size w).alloc (by first | (simp; done) | (simp; omega)) (.cells #[.bool sp, .slice op np cp, .slice ap mp dp] 24)).alloc (by first | (simp; done) | (simp; omega)) (.cells #[.bool false, .slice none 0 0, .slice none 0 0] 24))
  have hxp := nest2_0 w (.cells #[.bool sp, .slice op np cp, .slice ap mp dp] 24) (.cells #[.bool false, .slice none 0 0, .slice none 0 0] 24)
  have hxR := nest2_1 w (.cells #[.bool sp, .slice op np cp, .slice ap mp dp] 24) (.cells #[.bool false, .slice none 0 0, .slice none 0 0] 24)
  have hpp := hp.below hb0
  obtain ⟨w0, hw0⟩ : ∃ w0, w0 = ((w.alloc (.cells #[.bool sp, .slice op np cp, .slice ap mp dp] 24)).alloc (.cells #[.bool false, .slice none 0 0, .slice none 0 0] 24)) := ⟨_, rfl⟩
  rw [← hw0] at hb0 hxp hxR hpp
  have HB0 := Lib.hid hb0; have HW0 := Lib.hid hw0
  have BXp := Lib.hid hxp
  have BXR := Lib.hid hxR
  have Fp := Lib.hid hpp
  clear hb0 hw0 hxp hxR hpp hp
  have f1 : decide (-(m : Int) < -64) = false := decide_eq_false (by omega)
  have f2 : decide ((64 : Int) < -(m : Int)) = false := decide_eq_false (by omega)
  have f3 : decide (-(m : Int) < 0) = true := decide_eq_true (by omega)
  have H0 := Lib.hid h0; clear h0
  have _hl := hlp1
  have hr1 : rl ((1 : Int) : Rat) ≤ 2 := rl_small (by decide) (by decide)
  go_enter Tryd.func31, Tryd.ntmps31
  go_wp2_with fail
  rw [← HW0.out]
  clear f1 f2 f3
  have lwp := below_lt BXp.out
  have lwR := below_lt BXR.out
  refine wp_region_facts (A := ?aa0) (w := w0) 7 [5] (by kernel_rfl) (Fl [KIs (((1 : Int) : Rat)), KEq (.agg #[.bool sp, .slice op np cp, .slice ap mp dp]), KRE (1 / p) (.iface 55 (.int .i64 (8 : Nat))), KRE (1 / p) (.iface 55 (.int .i64 (8 : Nat))), KIs (1 / p), KEq (.iface 55 (.int .i64 (8 : Nat))), KBox w0.heap.size]) (fun i => i == 6) (by kernel_rfl) (fun _ _ _ _ _ h => h) (monoL (monoC (kIs _) (monoC (kEq _) (monoC (kRE _ _) (monoC (kRE _ _) (monoC (kIs _) (monoC (kEq _) (monoC (kBox _) monoN)))))))) ?ha0 ?st0 ?tl0
  case ha0 =>
    intro vals
    simp only [putsTo, dstOf, if_true, Act.put, List.setIfInBounds_toArray, List.set_cons_zero, List.set_cons_succ, List.getElem?_toArray, List.getElem?_cons_zero, List.getElem?_cons_succ, Option.bind_some]
    exact rfl
  case st0 =>
    simp only [List.take_succ_cons, List.take_zero]
    refine stepsOK_cons rfl rfl ?_ (stepsOK_cons rfl rfl ?_ (stepsOK_cons rfl rfl ?_ (stepsOK_cons rfl rfl ?_ (stepsOK_cons rfl rfl ?_ (stepsOK_pure rfl ?_ (stepsOK_cons rfl rfl ?_ (stepsOK_nil)))))))
    · intro vals w1 hb hd
      have hs := ofq_any 1 w1 (by decide) (by decide)
      have HS := Lib.hid hs; clear hs
      refine stepOK_call (by go_simp; first | done | exact ⟨⟨rfl, rfl⟩, rfl⟩) ?_
      (with_reducible refine HS.out.mono ?_); rintro e w2 ⟨v, rfl, hb2, hn⟩
      exact ⟨v, rfl, leaves_mk hb2 hn (fun h => by cases h)⟩
    · intro vals w1 hb hd
      obtain ⟨e0, e1, e2⟩ := row3 (heap_below BXp.out hb)
      refine stepOK_value (v := .agg #[.bool sp, .slice op np cp, .slice ap mp dp]) (w' := w1) (by go_simp) (leaves_mk (Below.refl _ _) rfl (fun h => by cases h))
    · intro vals w1 hb hd
      have d0 : KIs (((1 : Int) : Rat)) (vals 0) w1 := hd 0 (by kernel_rfl)
      have r0 : RatIs w1 (vals 0) (((1 : Int) : Rat)) := IsR.is d0 (by omega)
      have d1 : KEq (.agg #[.bool sp, .slice op np cp, .slice ap mp dp]) (vals 1) w1 := hd 1 (by kernel_rfl)
      have r1 : RatIs w1 (vals 1) (p) := by rw [show vals 1 = _ from d1]; exact Fp.out.below hb
      have hs := divq_any _ _ _ _ w1 r0 r1
      rw [show dc p = 8 from if_pos H0.out, errV_pos (by decide)] at hs
      have HS := Lib.hid hs; clear hs
      clear d0 d1 hd
      refine stepOK_call (by go_simp; first | done | exact ⟨⟨rfl, rfl⟩, rfl⟩) ?_
      (with_reducible refine HS.out.mono ?_); rintro e w2 ⟨v, rfl, hb2, hn⟩
      exact ⟨_, rfl, leaves_mk hb2 ⟨v, rfl, hn⟩ (fun h => by cases h)⟩
    · intro vals w1 hb hd
      have d2 : KRE (1 / p) (.iface 55 (.int .i64 (8 : Nat))) (vals 2) w1 := hd 2 (by kernel_rfl)
      obtain ⟨b, eb, hq⟩ : KRE (1 / p) (.iface 55 (.int .i64 (8 : Nat))) (vals 2) w1 := d2
      rw [eb]
      refine stepOK_value (v := .tuple #[b, .iface 55 (.int .i64 (8 : Nat))]) (w' := w1) (by go_simp) (leaves_mk (Below.refl _ _) ⟨b, rfl, hq⟩ (fun h => by cases h))
    · intro vals w1 hb hd
      have d3 : KRE (1 / p) (.iface 55 (.int .i64 (8 : Nat))) (vals 3) w1 := hd 3 (by kernel_rfl)
      obtain ⟨b, eb, hq⟩ : KRE (1 / p) (.iface 55 (.int .i64 (8 : Nat))) (vals 3) w1 := d3
      rw [eb]
      refine stepOK_value (v := b) (w' := w1) (by go_simp) (leaves_mk (Below.refl _ _) hq (fun h => by cases h))
    · intro vals w1 hb hd
      have d3 : KRE (1 / p) (.iface 55 (.int .i64 (8 : Nat))) (vals 3) w1 := hd 3 (by kernel_rfl)
      obtain ⟨b, eb, hq⟩ : KRE (1 / p) (.iface 55 (.int .i64 (8 : Nat))) (vals 3) w1 := d3
      rw [eb]
      refine stepPure_value (v := .iface 55 (.int .i64 (8 : Nat))) (fun w => by go_simp) (leaves_mk (Below.refl _ _) rfl (fun h => by cases h))
    · intro vals w1 hb hd
      refine stepOK_value (v := .pointer (some ⟨w1.heap.size, 0, none⟩)) (w' := w1.alloc (.cells #[.bool false, .slice none 0 0, .slice none 0 0] 24)) (by go_simp) (leaves_mk ((Below.refl _ _).alloc (Nat.le_refl _) _) ⟨_, hb.size, rfl, heap_alloc_new _ _⟩ (fun _ => ⟨rfl, by simp⟩))
  case tl0 =>
    intro vals w1 hb1 hf hdis
    simp only [List.drop_succ_cons, List.drop_zero]
    obtain ⟨gb, hgb, ev6, hzb⟩ : KBox w0.heap.size (vals 6) w1 := hf 6 (by decide)
    have hnB : IsR w1 (vals 4) (1 / p) := hf 4 (by decide)
    have ee5 : vals 5 = .iface 55 (.int .i64 (8 : Nat)) := hf 5 (by decide)
    rw [ee5]; clear ee5
    clear hf hdis
    rw [ev6]; clear ev6
    have HB1 := Lib.hid (HB0.out.step hb1)
    have Fp := Lib.hid (Fp.out.below hb1)
    have BXp := Lib.hid (heap_below BXp.out hb1)
    have BXR := Lib.hid (heap_below BXR.out hb1)
    obtain ⟨uB, huB⟩ : ∃ u, u = vals 4 := ⟨_, rfl⟩
    rw [← huB] at hnB ⊢; clear huB
    have B := Lib.hid hnB; clear hnB
    obtain ⟨sB, oB, nB, cB, aB, mB, dB, rfl⟩ := B.out.shape
    have BXb := Lib.hid hzb; clear hzb
    have hgwb : w.heap.size ≤ gb := Nat.le_trans HB0.out.size hgb
    clear hb1
    obtain ⟨eb0, eb1, eb2⟩ := row3 BXb.out
    obtain ⟨fb0, fb1, fb2⟩ := froz3 BXb.out
    obtain ⟨w2, hw2⟩ : ∃ w2, w2 = ((w1.setCell ⟨gb, 0, none⟩ (.bool sB)).setCell ⟨gb, 1, none⟩ (.slice oB nB cB)).setCell ⟨gb, 2, none⟩ (.slice aB mB dB) := ⟨_, rfl⟩
    have hp2 : w2 = put3 w1 (gb) (.bool sB) (.slice oB nB cB) (.slice aB mB dB) := hw2
    first | have Fp := Lib.hid (putkI hp2 Fp.out BXb.out) | have Fp := Lib.hid (putkR hp2 Fp.out BXb.out) | have Fp := Lib.hid (putkV hp2 Fp.out BXb.out)
    first | have B := Lib.hid (putkI hp2 B.out BXb.out) | have B := Lib.hid (putkR hp2 B.out BXb.out) | have B := Lib.hid (putkV hp2 B.out BXb.out)
    have BXp := Lib.hid (putx hp2 BXp.out (by first | omega | (have := below_lt BXp.out; omega)))
    have BXR := Lib.hid (putx hp2 BXR.out (by first | omega | (have := below_lt BXR.out; omega)))
    have nxb : w2.heap[gb]? = some (.cells #[.bool sB, .slice oB nB cB, .slice aB mB dB] 24) := by rw [hp2]; exact put3_heap BXb.out
    have BXb := Lib.hid nxb; clear nxb
    have HB2 := Lib.hid (putb hp2 HB1.out (by omega))
    have HW2 := Lib.hid hw2; clear hw2 hp2
    obtain ⟨eR0, eR1, eR2⟩ := row3 BXR.out
    obtain ⟨fR0, fR1, fR2⟩ := froz3 BXR.out
    rw [HW2.out] at eR0
    rw [HW2.out] at eR1
    rw [HW2.out] at eR2
    rw [HW2.out] at fR0
    rw [HW2.out] at fR1
    rw [HW2.out] at fR2
    go_wp2_with fail
    rw [← HW2.out]
    clear eR0 eR1 eR2 fR0 fR1 fR2 eb0 eb1 eb2 fb0 fb1 fb2
    refine ret_rat2 rfl (w.heap.size + 1) _ _ _ rfl (put3_heap BXR.out) rfl ?_
    exact ⟨_, rfl, put3_below HB2.out (by omega) _ _ _, isR_zero _⟩
set_option maxRecDepth 100000 in
set_option maxHeartbeats 6400000 in
theorem rpow_ok (vp : Value) (p : Rat) (m : Nat) (w : World) (hp : RatIs w vp p) (hm : m ≤ 64) (hlp1 : rl p ≤ 1000) :
    Calls Tryd.prog 32 #[vp, .int .i64 (m : Nat)] w (RetRE w (p ^ m) (.int .i64 0)) := by
  obtain ⟨sp, op, np, cp, ap, mp, dp, rfl⟩ := hp.shape
  have hlp := hp.rl
  have hb0 := (((Below.refl w.heap.size w).alloc (by first | (simp; done) | (simp; omega)) (.cells #[.bool sp, .slice op np cp, .slice ap mp dp] 24)).alloc (by first | (simp; done) | (simp; omega)) (.cells #[.bool false, .slice none 0 0, .slice none 0 0] 24))
  have hxp := nest2_0 w (.cells #[.bool sp, .slice op np cp, .slice ap mp dp] 24) (.cells #[.bool false, .slice none 0 0, .slice none 0 0] 24)
  have hxR := nest2_1 w (.cells #[.bool sp, .slice op np cp, .slice ap mp dp] 24) (.cells #[.bool false, .slice none 0 0, .slice none 0 0] 24)
  have hpp := hp.below hb0
  obtain ⟨w0, hw0⟩ : ∃ w0, w0 = ((w.alloc (.cells #[.bool sp, .slice op np cp, .slice ap mp dp] 24)).alloc (.cells #[.bool false, .slice none 0 0, .slice none 0 0] 24)) := ⟨_, rfl⟩
  rw [← hw0] at hb0 hxp hxR hpp
  have HB0 := Lib.hid hb0; have HW0 := Lib.hid hw0
  have BXp := Lib.hid hxp
  have BXR := Lib.hid hxR
  have Fp := Lib.hid hpp
  clear hb0 hw0 hxp hxR hpp hp
  have f1 : decide ((m : Int) < -64) = false := decide_eq_false (by omega)
  have f2 : decide ((64 : Int) < (m : Int)) = false := decide_eq_false (by omega)
  have f3 : decide ((m : Int) < 0) = false := decide_eq_false (by omega)
  have f4 : max (m : Int) (-(m : Int)) = (m : Int) := by omega
  have f5 : max (-(m : Int)) (m : Int) = (m : Int) := by omega
  go_enter Tryd.func32, Tryd.ntmps32
  have hs := rofq_any 1 w0 (by decide) (by decide)
  have HS := Lib.hid hs; clear hs
  go_wp2_with fail
  rw [← HW0.out]
  (with_reducible refine HS.out.mono ?_); rintro e w1 ⟨v1, rfl, hb1, hn1⟩
  clear HS
  obtain ⟨s1, o1, n1, c1, a1, m1, d1, rfl⟩ := hn1.shape
  have HB1 := Lib.hid (HB0.out.step hb1)
  have Fp := Lib.hid (Fp.out.below hb1)
  have BXp := Lib.hid (heap_below BXp.out hb1)
  have BXR := Lib.hid (heap_below BXR.out hb1)
  have ONE := Lib.hid hn1; clear hn1
  clear hb1
  go_wp2_with fail
  have hxo := heap_alloc_new w1 (.cells #[.bool s1, .slice o1 n1 c1, .slice a1 m1 d1] 24)
  have hal : Below w1.heap.size w1 (w1.alloc (.cells #[.bool s1, .slice o1 n1 c1, .slice a1 m1 d1] 24)) := (Below.refl _ _).alloc (Nat.le_refl _) _
  have g1 := below_lt BXp.out; have g2 := below_lt BXR.out
  obtain ⟨g, hg⟩ : ∃ g, g = w1.heap.size := ⟨_, rfl⟩
  rw [← hg] at hxo g1 g2 ⊢
  have HAL := Lib.hid hal; have HXO := Lib.hid hxo; have HG := Lib.hid hg; clear hal hxo hg f1 f2 f4 f5
  go_loopw [19] (fun kv wr => ∃ (k : Nat) (sx : Bool) (ox : Option Addr) (nx cx : Nat) (ax : Option Addr) (mx dx : Nat), k ≤ m ∧ kv = .int .i64 k ∧ Hid (wr.heap[g]? = some (.cells #[.bool sx, .slice ox nx cx, .slice ax mx dx] 24)) ∧ IsR wr (.agg #[.bool sx, .slice ox nx cx, .slice ax mx dx]) (p ^ k) ∧
      Hid (wr.heap[w.heap.size]? = some (.cells #[.bool sp, .slice op np cp, .slice ap mp dp] 24)) ∧ Hid (wr.heap[w.heap.size + 1]? = some (.cells #[.bool false, .slice none 0 0, .slice none 0 0] 24)) ∧ RatIs wr (.agg #[.bool sp, .slice op np cp, .slice ap mp dp]) p ∧ Below w.heap.size w wr) (fun kv _ => m - (intOf kv).toNat)
  case atStart => exact ⟨0, s1, o1, n1, c1, a1, m1, d1, Nat.zero_le _, rfl, HXO, by rw [pow_rat_zero]; exact ONE.out.below HAL.out, Lib.hid (heap_below BXp.out HAL.out), Lib.hid (heap_below BXR.out HAL.out), Fp.out.below HAL.out, HB1.out.step HAL.out⟩
  case round =>
    obtain ⟨k, sx, ox, nx, cx, ax, mx, dx, hk, rfl, hxg, hro, hxp, hxr, hrp, hBr⟩ := hrel
    have HRO := Lib.hid hro; have HRP := Lib.hid hrp; have HBR := Lib.hid hBr; clear hro hrp hBr
    by_cases hkm : k < m
    · have hs := rmulq_any _ (p ^ k) _ p wr (HRO.out.is (by have := rl_pow_le hk hm hlp1; omega)) HRP.out
      rw [← pow_rat_succ] at hs
      have HS := Lib.hid hs; clear hs
      have hf1 : decide ((k : Int) < (m : Int)) = true := decide_eq_true (by omega)
      obtain ⟨eg0, eg1, eg2⟩ := row3 hxg.out
      obtain ⟨ep0, ep1, ep2⟩ := row3 hxp.out
      go_wp2_with fail
      (with_reducible refine HS.out.mono ?_); rintro e w2 ⟨v2, rfl, hb2, hn2⟩
      obtain ⟨s2, o2, n2, c2, a2, m2, d2, rfl⟩ := hn2.shape
      have hg2 := heap_below hxg.out hb2
      obtain ⟨eg0, eg1, eg2⟩ := row3 hg2
      obtain ⟨fg0, fg1, fg2⟩ := froz3 hg2
      have HG2 := Lib.hid hg2; have HP2 := Lib.hid (heap_below hxp.out hb2); have HR2 := Lib.hid (heap_below hxr.out hb2); have HN2 := Lib.hid hn2; have HB2 := Lib.hid (HBR.out.step hb2); have HRP := Lib.hid (HRP.out.below hb2)
      clear hg2 hn2 hb2 HS
      go_wp2_with fail
      go_roundw
      case rel => exact ⟨k + 1, s2, o2, n2, c2, a2, m2, d2, hkm, by go_num, Lib.hid (put3_heap HG2.out), isR_put HN2.out HG2.out, Lib.hid ((put3_ne (by omega)).trans HP2.out), Lib.hid ((put3_ne (by omega)).trans HR2.out), ratIs_put HRP.out HG2.out, put3_below HB2.out (by omega) _ _ _⟩
      case measure => simp [intOf]; omega
    · obtain rfl : k = m := by omega
      have hf1 : decide ((k : Int) < (k : Int)) = false := decide_eq_false (by omega)
      obtain ⟨eg0, eg1, eg2⟩ := row3 hxg.out
      obtain ⟨er0, er1, er2⟩ := row3 hxr.out
      obtain ⟨fr0, fr1, fr2⟩ := froz3 hxr.out
      go_wp2_with fail
      refine ret_rat2 rfl (w.heap.size + 1) _ _ _ rfl (put3_heap hxr.out) rfl ?_
      exact ⟨_, rfl, put3_below HBR.out (by omega) _ _ _, isR_put HRO.out hxr.out⟩
set_option maxRecDepth 100000 in
set_option maxHeartbeats 6400000 in
theorem rpow_neg (vp : Value) (p : Rat) (m : Nat) (w : World) (hp : RatIs w vp p) (hm : m ≤ 64) (hlp1 : rl p ≤ 1000) (hm0 : 0 < m) (h0 : p ≠ 0) :
    Calls Tryd.prog 32 #[vp, .int .i64 (-(m : Int))] w (RetRE w ((1 / p) ^ m) (.int .i64 0)) := by
  obtain ⟨sp, op, np, cp, ap, mp, dp, rfl⟩ := hp.shape
  have hlp := hp.rl
  have hb0 := (((Below.refl w.heap.size w).alloc (by first | (simp; done) | (simp; omega)) (.cells #[.bool sp, .slice op np cp, .slice ap mp dp] 24)).alloc (by first | (simp; done) | (simp; omega)) (.cells #[.bool false, .slice none 0 0, .slice none 0 0] 24))
  have hxp := nest2_0 w (.cells #[.bool sp, .slice op np cp, .slice ap mp dp] 24) (.cells #[.bool false, .slice none 0 0, .slice none 0 0] 24)
  have hxR := nest2_1 w (.cells #[.bool sp, .slice op np cp, .slice ap mp dp] 24) (.cells #[.bool false, .slice none 0 0, .slice none 0 0] 24)
  have hpp := hp.below hb0
  obtain ⟨w0, hw0⟩ : ∃ w0, w0 = ((w.alloc (.cells #[.bool sp, .slice op np cp, .slice ap mp dp] 24)).alloc (.cells #[.bool false, .slice none 0 0, .slice none 0 0] 24)) := ⟨_, rfl⟩
  rw [← hw0] at hb0 hxp hxR hpp
  have HB0 := Lib.hid hb0; have HW0 := Lib.hid hw0
  have BXp := Lib.hid hxp
  have BXR := Lib.hid hxR
  have Fp := Lib.hid hpp
  clear hb0 hw0 hxp hxR hpp hp
  have f1 : decide ((-(m : Int)) < -64) = false := decide_eq_false (by omega)
  have f2 : decide ((64 : Int) < (-(m : Int))) = false := decide_eq_false (by omega)
  have f3 : decide ((-(m : Int)) < 0) = true := decide_eq_true (by omega)
  have f4 : max (m : Int) (-(m : Int)) = (m : Int) := by omega
  have f5 : max (-(m : Int)) (m : Int) = (m : Int) := by omega
  have hpe := pow_inv_rat p h0 m; have hne := pow_rat_ne p h0 m
  have HPE := Lib.hid hpe; have HNE := Lib.hid hne; clear hpe hne h0
  go_enter Tryd.func32, Tryd.ntmps32
  have hs := rofq_any 1 w0 (by decide) (by decide)
  have HS := Lib.hid hs; clear hs
  go_wp2_with fail
  rw [← HW0.out]
  (with_reducible refine HS.out.mono ?_); rintro e w1 ⟨v1, rfl, hb1, hn1⟩
  clear HS
  obtain ⟨s1, o1, n1, c1, a1, m1, d1, rfl⟩ := hn1.shape
  have HB1 := Lib.hid (HB0.out.step hb1)
  have Fp := Lib.hid (Fp.out.below hb1)
  have BXp := Lib.hid (heap_below BXp.out hb1)
  have BXR := Lib.hid (heap_below BXR.out hb1)
  have ONE := Lib.hid hn1; clear hn1
  clear hb1
  go_wp2_with fail
  have hxo := heap_alloc_new w1 (.cells #[.bool s1, .slice o1 n1 c1, .slice a1 m1 d1] 24)
  have hal : Below w1.heap.size w1 (w1.alloc (.cells #[.bool s1, .slice o1 n1 c1, .slice a1 m1 d1] 24)) := (Below.refl _ _).alloc (Nat.le_refl _) _
  have g1 := below_lt BXp.out; have g2 := below_lt BXR.out
  obtain ⟨g, hg⟩ : ∃ g, g = w1.heap.size := ⟨_, rfl⟩
  rw [← hg] at hxo g1 g2 ⊢
  have HAL := Lib.hid hal; have HXO := Lib.hid hxo; have HG := Lib.hid hg; clear hal hxo hg f1 f2 f4 f5
  go_loopw [19] (fun kv wr => ∃ (k : Nat) (sx : Bool) (ox : Option Addr) (nx cx : Nat) (ax : Option Addr) (mx dx : Nat), k ≤ m ∧ kv = .int .i64 k ∧ Hid (wr.heap[g]? = some (.cells #[.bool sx, .slice ox nx cx, .slice ax mx dx] 24)) ∧ IsR wr (.agg #[.bool sx, .slice ox nx cx, .slice ax mx dx]) (p ^ k) ∧
      Hid (wr.heap[w.heap.size]? = some (.cells #[.bool sp, .slice op np cp, .slice ap mp dp] 24)) ∧ Hid (wr.heap[w.heap.size + 1]? = some (.cells #[.bool false, .slice none 0 0, .slice none 0 0] 24)) ∧ RatIs wr (.agg #[.bool sp, .slice op np cp, .slice ap mp dp]) p ∧ Below w.heap.size w wr) (fun kv _ => m - (intOf kv).toNat)
  case atStart => exact ⟨0, s1, o1, n1, c1, a1, m1, d1, Nat.zero_le _, rfl, HXO, by rw [pow_rat_zero]; exact ONE.out.below HAL.out, Lib.hid (heap_below BXp.out HAL.out), Lib.hid (heap_below BXR.out HAL.out), Fp.out.below HAL.out, HB1.out.step HAL.out⟩
  case round =>
    obtain ⟨k, sx, ox, nx, cx, ax, mx, dx, hk, rfl, hxg, hro, hxp, hxr, hrp, hBr⟩ := hrel
    have HRO := Lib.hid hro; have HRP := Lib.hid hrp; have HBR := Lib.hid hBr; clear hro hrp hBr
    by_cases hkm : k < m
    · have hs := rmulq_any _ (p ^ k) _ p wr (HRO.out.is (by have := rl_pow_le hk hm hlp1; omega)) HRP.out
      rw [← pow_rat_succ] at hs
      have HS := Lib.hid hs; clear hs
      have hf1 : decide ((k : Int) < (m : Int)) = true := decide_eq_true (by omega)
      obtain ⟨eg0, eg1, eg2⟩ := row3 hxg.out
      obtain ⟨ep0, ep1, ep2⟩ := row3 hxp.out
      go_wp2_with fail
      (with_reducible refine HS.out.mono ?_); rintro e w2 ⟨v2, rfl, hb2, hn2⟩
      obtain ⟨s2, o2, n2, c2, a2, m2, d2, rfl⟩ := hn2.shape
      have hg2 := heap_below hxg.out hb2
      obtain ⟨eg0, eg1, eg2⟩ := row3 hg2
      obtain ⟨fg0, fg1, fg2⟩ := froz3 hg2
      have HG2 := Lib.hid hg2; have HP2 := Lib.hid (heap_below hxp.out hb2); have HR2 := Lib.hid (heap_below hxr.out hb2); have HN2 := Lib.hid hn2; have HB2 := Lib.hid (HBR.out.step hb2); have HRP := Lib.hid (HRP.out.below hb2)
      clear hg2 hn2 hb2 HS
      go_wp2_with fail
      go_roundw
      case rel => exact ⟨k + 1, s2, o2, n2, c2, a2, m2, d2, hkm, by go_num, Lib.hid (put3_heap HG2.out), isR_put HN2.out HG2.out, Lib.hid ((put3_ne (by omega)).trans HP2.out), Lib.hid ((put3_ne (by omega)).trans HR2.out), ratIs_put HRP.out HG2.out, put3_below HB2.out (by omega) _ _ _⟩
      case measure => simp [intOf]; omega
    · obtain rfl : k = m := by omega
      have hf1 : decide ((k : Int) < (k : Int)) = false := decide_eq_false (by omega)
      have hr1 : rl ((1 : Int) : Rat) ≤ 2 := rl_small (by decide) (by decide)
      have hbl := rl_pow_le (p := p) (Nat.le_refl k) hm hlp1
      obtain ⟨Q, hQ⟩ : ∃ Q, Q = p ^ k := ⟨_, rfl⟩
      have hq0 : Q ≠ 0 := by rw [hQ]; exact HNE.out
      have hre : (1 / p) ^ k = 1 / Q := by rw [hQ]; exact HPE.out.symm
      rw [← hQ] at HRO hbl; clear hQ
      have HQ0 := Lib.hid hq0; have HRE := Lib.hid hre; clear hq0 hre
      have BXp := hxp; have BXR := hxr; have BXG := hxg; have Fp := HRP; have FG := HRO
      go_wp2_with fail
      clear f3 hf1
      have lwp := below_lt BXp.out
      have lwR := below_lt BXR.out
      have lwG := below_lt BXG.out
      refine wp_region_facts (A := ?aa10) (w := wr) 5 [4] (by kernel_rfl) (Fl [KIs (((1 : Int) : Rat)), KEq (.agg #[.bool sx, .slice ox nx cx, .slice ax mx dx]), KRE (1 / Q) (.int .i64 0), KIs (1 / Q), KEq (.int .i64 0)]) (fun i => false) (by kernel_rfl) (fun _ _ _ _ _ h => h) (monoL (monoC (kIs _) (monoC (kEq _) (monoC (kRE _ _) (monoC (kIs _) (monoC (kEq _) monoN)))))) ?ha10 ?st10 ?tl10
      case ha10 =>
        intro vals
        simp only [putsTo, dstOf, if_true, Act.put, List.setIfInBounds_toArray, List.set_cons_zero, List.set_cons_succ, List.getElem?_toArray, List.getElem?_cons_zero, List.getElem?_cons_succ, Option.bind_some]
        exact rfl
      case st10 =>
        simp only [List.take_succ_cons, List.take_zero]
        refine stepsOK_cons rfl rfl ?_ (stepsOK_cons rfl rfl ?_ (stepsOK_cons rfl rfl ?_ (stepsOK_cons rfl rfl ?_ (stepsOK_pure rfl ?_ (stepsOK_nil)))))
        · intro vals w1 hb hd
          have hs := rofq_any 1 w1 (by decide) (by decide)
          have HS := Lib.hid hs; clear hs
          refine stepOK_call (by go_simp; first | done | exact ⟨⟨rfl, rfl⟩, rfl⟩) ?_
          (with_reducible refine HS.out.mono ?_); rintro e w2 ⟨v, rfl, hb2, hn⟩
          exact ⟨v, rfl, leaves_mk hb2 hn (fun h => by cases h)⟩
        · intro vals w1 hb hd
          obtain ⟨e0, e1, e2⟩ := row3 (heap_below BXG.out hb)
          refine stepOK_value (v := .agg #[.bool sx, .slice ox nx cx, .slice ax mx dx]) (w' := w1) (by go_simp) (leaves_mk (Below.refl _ _) rfl (fun h => by cases h))
        · intro vals w1 hb hd
          have d0 : KIs (((1 : Int) : Rat)) (vals 0) w1 := hd 0 (by kernel_rfl)
          have r0 : RatIs w1 (vals 0) (((1 : Int) : Rat)) := IsR.is d0 (by omega)
          have d1 : KEq (.agg #[.bool sx, .slice ox nx cx, .slice ax mx dx]) (vals 1) w1 := hd 1 (by kernel_rfl)
          have r1 : RatIs w1 (vals 1) (Q) := by rw [show vals 1 = _ from d1]; exact (FG.out.is (by omega)).below hb
          have hs := rdivq_any _ _ _ _ w1 r0 r1
          rw [show dc Q = 0 from if_neg HQ0.out] at hs
          have HS := Lib.hid hs; clear hs
          clear d0 d1 hd
          refine stepOK_call (by go_simp; first | done | exact ⟨⟨rfl, rfl⟩, rfl⟩) ?_
          (with_reducible refine HS.out.mono ?_); rintro e w2 ⟨v, rfl, hb2, hn⟩
          exact ⟨_, rfl, leaves_mk hb2 ⟨v, rfl, hn⟩ (fun h => by cases h)⟩
        · intro vals w1 hb hd
          have d2 : KRE (1 / Q) (.int .i64 0) (vals 2) w1 := hd 2 (by kernel_rfl)
          obtain ⟨b, eb, hq⟩ : KRE (1 / Q) (.int .i64 0) (vals 2) w1 := d2
          rw [eb]
          refine stepOK_value (v := b) (w' := w1) (by go_simp) (leaves_mk (Below.refl _ _) hq (fun h => by cases h))
        · intro vals w1 hb hd
          have d2 : KRE (1 / Q) (.int .i64 0) (vals 2) w1 := hd 2 (by kernel_rfl)
          obtain ⟨b, eb, hq⟩ : KRE (1 / Q) (.int .i64 0) (vals 2) w1 := d2
          rw [eb]
          refine stepPure_value (v := .int .i64 0) (fun w => by go_simp) (leaves_mk (Below.refl _ _) rfl (fun h => by cases h))
      case tl10 =>
        intro vals w11 hb11 hf hdis
        simp only [List.drop_succ_cons, List.drop_zero]
        have hnQQ : IsR w11 (vals 3) (1 / Q) := hf 3 (by decide)
        have ee4 : vals 4 = .int .i64 0 := hf 4 (by decide)
        rw [ee4]; clear ee4
        clear hf hdis
        have HB11 := Lib.hid (HBR.out.step hb11)
        have Fp := Lib.hid (Fp.out.below hb11)
        have FG := Lib.hid (FG.out.below hb11)
        have BXp := Lib.hid (heap_below BXp.out hb11)
        have BXR := Lib.hid (heap_below BXR.out hb11)
        have BXG := Lib.hid (heap_below BXG.out hb11)
        obtain ⟨uQQ, huQQ⟩ : ∃ u, u = vals 3 := ⟨_, rfl⟩
        rw [← huQQ] at hnQQ ⊢; clear huQQ
        have QQ := Lib.hid hnQQ; clear hnQQ
        obtain ⟨sQQ, oQQ, nQQ, cQQ, aQQ, mQQ, dQQ, rfl⟩ := QQ.out.shape
        clear hb11
        obtain ⟨eR0, eR1, eR2⟩ := row3 BXR.out
        obtain ⟨fR0, fR1, fR2⟩ := froz3 BXR.out
        obtain ⟨w12, hw12⟩ : ∃ w12, w12 = ((w11.setCell ⟨(w.heap.size + 1), 0, none⟩ (.bool sQQ)).setCell ⟨(w.heap.size + 1), 1, none⟩ (.slice oQQ nQQ cQQ)).setCell ⟨(w.heap.size + 1), 2, none⟩ (.slice aQQ mQQ dQQ) := ⟨_, rfl⟩
        have hp12 : w12 = put3 w11 ((w.heap.size + 1)) (.bool sQQ) (.slice oQQ nQQ cQQ) (.slice aQQ mQQ dQQ) := hw12
        first | have Fp := Lib.hid (putkI hp12 Fp.out BXR.out) | have Fp := Lib.hid (putkR hp12 Fp.out BXR.out) | have Fp := Lib.hid (putkV hp12 Fp.out BXR.out)
        first | have FG := Lib.hid (putkI hp12 FG.out BXR.out) | have FG := Lib.hid (putkR hp12 FG.out BXR.out) | have FG := Lib.hid (putkV hp12 FG.out BXR.out)
        first | have QQ := Lib.hid (putkI hp12 QQ.out BXR.out) | have QQ := Lib.hid (putkR hp12 QQ.out BXR.out) | have QQ := Lib.hid (putkV hp12 QQ.out BXR.out)
        have BXp := Lib.hid (putx hp12 BXp.out (by first | omega | (have := below_lt BXp.out; omega)))
        have nxR : w12.heap[(w.heap.size + 1)]? = some (.cells #[.bool sQQ, .slice oQQ nQQ cQQ, .slice aQQ mQQ dQQ] 24) := by rw [hp12]; exact put3_heap BXR.out
        have BXG := Lib.hid (putx hp12 BXG.out (by first | omega | (have := below_lt BXG.out; omega)))
        have BXR := Lib.hid nxR; clear nxR
        have HB12 := Lib.hid (putb hp12 HB11.out (by omega))
        have HW12 := Lib.hid hw12; clear hw12 hp12
        go_wp2_with fail
        rw [← HW12.out]
        clear eR0 eR1 eR2 fR0 fR1 fR2
        refine ret_rat2 rfl (w.heap.size + 1) _ _ _ rfl BXR.out rfl ?_
        have hr := QQ.out; rw [← HRE.out] at hr
        exact ⟨_, rfl, HB12.out, hr⟩
set_option maxRecDepth 100000 in
set_option maxHeartbeats 6400000 in
theorem rpow_inf (vp : Value) (p : Rat) (m : Nat) (w : World) (hp : RatIs w vp p) (hm : m ≤ 64) (hlp1 : rl p ≤ 1000) (hm0 : 0 < m) (h0 : p = 0) :
    Calls Tryd.prog 32 #[vp, .int .i64 (-(m : Int))] w (RetRE w (0) (.int .i64 8)) := by
  obtain ⟨sp, op, np, cp, ap, mp, dp, rfl⟩ := hp.shape
  have hlp := hp.rl
  have hb0 := (((Below.refl w.heap.size w).alloc (by first | (simp; done) | (simp; omega)) (.cells #[.bool sp, .slice op np cp, .slice ap mp dp] 24)).alloc (by first | (simp; done) | (simp; omega)) (.cells #[.bool false, .slice none 0 0, .slice none 0 0] 24))
  have hxp := nest2_0 w (.cells #[.bool sp, .slice op np cp, .slice ap mp dp] 24) (.cells #[.bool false, .slice none 0 0, .slice none 0 0] 24)
  have hxR := nest2_1 w (.cells #[.bool sp, .slice op np cp, .slice ap mp dp] 24) (.cells #[.bool false, .slice none 0 0, .slice none 0 0] 24)
  have hpp := hp.below hb0
  obtain ⟨w0, hw0⟩ : ∃ w0, w0 = ((w.alloc (.cells #[.bool sp, .slice op np cp, .slice ap mp dp] 24)).alloc (.cells #[.bool false, .slice none 0 0, .slice none 0 0] 24)) := ⟨_, rfl⟩
  rw [← hw0] at hb0 hxp hxR hpp
  have HB0 := Lib.hid hb0; have HW0 := Lib.hid hw0
  have BXp := Lib.hid hxp
  have BXR := Lib.hid hxR
  have Fp := Lib.hid hpp
  clear hb0 hw0 hxp hxR hpp hp
  have f1 : decide ((-(m : Int)) < -64) = false := decide_eq_false (by omega)
  have f2 : decide ((64 : Int) < (-(m : Int))) = false := decide_eq_false (by omega)
  have f3 : decide ((-(m : Int)) < 0) = true := decide_eq_true (by omega)
  have f4 : max (m : Int) (-(m : Int)) = (m : Int) := by omega
  have f5 : max (-(m : Int)) (m : Int) = (m : Int) := by omega
  have hpe : p ^ m = 0 := by rw [h0]; exact pow_rat_zero_base m (by omega)
  have HPE := Lib.hid hpe; have H0 := Lib.hid h0; clear hpe h0
  go_enter Tryd.func32, Tryd.ntmps32
  have hs := rofq_any 1 w0 (by decide) (by decide)
  have HS := Lib.hid hs; clear hs
  go_wp2_with fail
  rw [← HW0.out]
  (with_reducible refine HS.out.mono ?_); rintro e w1 ⟨v1, rfl, hb1, hn1⟩
  clear HS
  obtain ⟨s1, o1, n1, c1, a1, m1, d1, rfl⟩ := hn1.shape
  have HB1 := Lib.hid (HB0.out.step hb1)
  have Fp := Lib.hid (Fp.out.below hb1)
  have BXp := Lib.hid (heap_below BXp.out hb1)
  have BXR := Lib.hid (heap_below BXR.out hb1)
  have ONE := Lib.hid hn1; clear hn1
  clear hb1
  go_wp2_with fail
  have hxo := heap_alloc_new w1 (.cells #[.bool s1, .slice o1 n1 c1, .slice a1 m1 d1] 24)
  have hal : Below w1.heap.size w1 (w1.alloc (.cells #[.bool s1, .slice o1 n1 c1, .slice a1 m1 d1] 24)) := (Below.refl _ _).alloc (Nat.le_refl _) _
  have g1 := below_lt BXp.out; have g2 := below_lt BXR.out
  obtain ⟨g, hg⟩ : ∃ g, g = w1.heap.size := ⟨_, rfl⟩
  rw [← hg] at hxo g1 g2 ⊢
  have HAL := Lib.hid hal; have HXO := Lib.hid hxo; have HG := Lib.hid hg; clear hal hxo hg f1 f2 f4 f5
  go_loopw [19] (fun kv wr => ∃ (k : Nat) (sx : Bool) (ox : Option Addr) (nx cx : Nat) (ax : Option Addr) (mx dx : Nat), k ≤ m ∧ kv = .int .i64 k ∧ Hid (wr.heap[g]? = some (.cells #[.bool sx, .slice ox nx cx, .slice ax mx dx] 24)) ∧ IsR wr (.agg #[.bool sx, .slice ox nx cx, .slice ax mx dx]) (p ^ k) ∧
      Hid (wr.heap[w.heap.size]? = some (.cells #[.bool sp, .slice op np cp, .slice ap mp dp] 24)) ∧ Hid (wr.heap[w.heap.size + 1]? = some (.cells #[.bool false, .slice none 0 0, .slice none 0 0] 24)) ∧ RatIs wr (.agg #[.bool sp, .slice op np cp, .slice ap mp dp]) p ∧ Below w.heap.size w wr) (fun kv _ => m - (intOf kv).toNat)
  case atStart => exact ⟨0, s1, o1, n1, c1, a1, m1, d1, Nat.zero_le _, rfl, HXO, by rw [pow_rat_zero]; exact ONE.out.below HAL.out, Lib.hid (heap_below BXp.out HAL.out), Lib.hid (heap_below BXR.out HAL.out), Fp.out.below HAL.out, HB1.out.step HAL.out⟩
  case round =>
    obtain ⟨k, sx, ox, nx, cx, ax, mx, dx, hk, rfl, hxg, hro, hxp, hxr, hrp, hBr⟩ := hrel
    have HRO := Lib.hid hro; have HRP := Lib.hid hrp; have HBR := Lib.hid hBr; clear hro hrp hBr
    by_cases hkm : k < m
    · have hs := rmulq_any _ (p ^ k) _ p wr (HRO.out.is (by have := rl_pow_le hk hm hlp1; omega)) HRP.out
      rw [← pow_rat_succ] at hs
      have HS := Lib.hid hs; clear hs
      have hf1 : decide ((k : Int) < (m : Int)) = true := decide_eq_true (by omega)
      obtain ⟨eg0, eg1, eg2⟩ := row3 hxg.out
      obtain ⟨ep0, ep1, ep2⟩ := row3 hxp.out
      go_wp2_with fail
      (with_reducible refine HS.out.mono ?_); rintro e w2 ⟨v2, rfl, hb2, hn2⟩
      obtain ⟨s2, o2, n2, c2, a2, m2, d2, rfl⟩ := hn2.shape
      have hg2 := heap_below hxg.out hb2
      obtain ⟨eg0, eg1, eg2⟩ := row3 hg2
      obtain ⟨fg0, fg1, fg2⟩ := froz3 hg2
      have HG2 := Lib.hid hg2; have HP2 := Lib.hid (heap_below hxp.out hb2); have HR2 := Lib.hid (heap_below hxr.out hb2); have HN2 := Lib.hid hn2; have HB2 := Lib.hid (HBR.out.step hb2); have HRP := Lib.hid (HRP.out.below hb2)
      clear hg2 hn2 hb2 HS
      go_wp2_with fail
      go_roundw
      case rel => exact ⟨k + 1, s2, o2, n2, c2, a2, m2, d2, hkm, by go_num, Lib.hid (put3_heap HG2.out), isR_put HN2.out HG2.out, Lib.hid ((put3_ne (by omega)).trans HP2.out), Lib.hid ((put3_ne (by omega)).trans HR2.out), ratIs_put HRP.out HG2.out, put3_below HB2.out (by omega) _ _ _⟩
      case measure => simp [intOf]; omega
    · obtain rfl : k = m := by omega
      have hf1 : decide ((k : Int) < (k : Int)) = false := decide_eq_false (by omega)
      have hr1 : rl ((1 : Int) : Rat) ≤ 2 := rl_small (by decide) (by decide)
      have hbl := rl_pow_le (p := p) (Nat.le_refl k) hm hlp1
      obtain ⟨Q, hQ⟩ : ∃ Q, Q = p ^ k := ⟨_, rfl⟩
      have hq0 : Q = 0 := by rw [hQ]; exact HPE.out
      rw [← hQ] at HRO hbl; clear hQ
      have HQ0 := Lib.hid hq0; clear hq0
      have BXp := hxp; have BXR := hxr; have BXG := hxg; have Fp := HRP; have FG := HRO
      go_wp2_with fail
      clear f3 hf1
      have lwp := below_lt BXp.out
      have lwR := below_lt BXR.out
      have lwG := below_lt BXG.out
      refine wp_region_facts (A := ?aa10) (w := wr) 5 [4] (by kernel_rfl) (Fl [KIs (((1 : Int) : Rat)), KEq (.agg #[.bool sx, .slice ox nx cx, .slice ax mx dx]), KRE (1 / Q) (.int .i64 8), KIs (1 / Q), KEq (.int .i64 8)]) (fun i => false) (by kernel_rfl) (fun _ _ _ _ _ h => h) (monoL (monoC (kIs _) (monoC (kEq _) (monoC (kRE _ _) (monoC (kIs _) (monoC (kEq _) monoN)))))) ?ha10 ?st10 ?tl10
      case ha10 =>
        intro vals
        simp only [putsTo, dstOf, if_true, Act.put, List.setIfInBounds_toArray, List.set_cons_zero, List.set_cons_succ, List.getElem?_toArray, List.getElem?_cons_zero, List.getElem?_cons_succ, Option.bind_some]
        exact rfl
      case st10 =>
        simp only [List.take_succ_cons, List.take_zero]
        refine stepsOK_cons rfl rfl ?_ (stepsOK_cons rfl rfl ?_ (stepsOK_cons rfl rfl ?_ (stepsOK_cons rfl rfl ?_ (stepsOK_pure rfl ?_ (stepsOK_nil)))))
        · intro vals w1 hb hd
          have hs := rofq_any 1 w1 (by decide) (by decide)
          have HS := Lib.hid hs; clear hs
          refine stepOK_call (by go_simp; first | done | exact ⟨⟨rfl, rfl⟩, rfl⟩) ?_
          (with_reducible refine HS.out.mono ?_); rintro e w2 ⟨v, rfl, hb2, hn⟩
          exact ⟨v, rfl, leaves_mk hb2 hn (fun h => by cases h)⟩
        · intro vals w1 hb hd
          obtain ⟨e0, e1, e2⟩ := row3 (heap_below BXG.out hb)
          refine stepOK_value (v := .agg #[.bool sx, .slice ox nx cx, .slice ax mx dx]) (w' := w1) (by go_simp) (leaves_mk (Below.refl _ _) rfl (fun h => by cases h))
        · intro vals w1 hb hd
          have d0 : KIs (((1 : Int) : Rat)) (vals 0) w1 := hd 0 (by kernel_rfl)
          have r0 : RatIs w1 (vals 0) (((1 : Int) : Rat)) := IsR.is d0 (by omega)
          have d1 : KEq (.agg #[.bool sx, .slice ox nx cx, .slice ax mx dx]) (vals 1) w1 := hd 1 (by kernel_rfl)
          have r1 : RatIs w1 (vals 1) (Q) := by rw [show vals 1 = _ from d1]; exact (FG.out.is (by omega)).below hb
          have hs := rdivq_any _ _ _ _ w1 r0 r1
          rw [show dc Q = 8 from if_pos HQ0.out] at hs
          have HS := Lib.hid hs; clear hs
          clear d0 d1 hd
          refine stepOK_call (by go_simp; first | done | exact ⟨⟨rfl, rfl⟩, rfl⟩) ?_
          (with_reducible refine HS.out.mono ?_); rintro e w2 ⟨v, rfl, hb2, hn⟩
          exact ⟨_, rfl, leaves_mk hb2 ⟨v, rfl, hn⟩ (fun h => by cases h)⟩
        · intro vals w1 hb hd
          have d2 : KRE (1 / Q) (.int .i64 8) (vals 2) w1 := hd 2 (by kernel_rfl)
          obtain ⟨b, eb, hq⟩ : KRE (1 / Q) (.int .i64 8) (vals 2) w1 := d2
          rw [eb]
          refine stepOK_value (v := b) (w' := w1) (by go_simp) (leaves_mk (Below.refl _ _) hq (fun h => by cases h))
        · intro vals w1 hb hd
          have d2 : KRE (1 / Q) (.int .i64 8) (vals 2) w1 := hd 2 (by kernel_rfl)
          obtain ⟨b, eb, hq⟩ : KRE (1 / Q) (.int .i64 8) (vals 2) w1 := d2
          rw [eb]
          refine stepPure_value (v := .int .i64 8) (fun w => by go_simp) (leaves_mk (Below.refl _ _) rfl (fun h => by cases h))
      case tl10 =>
        intro vals w11 hb11 hf hdis
        simp only [List.drop_succ_cons, List.drop_zero]
        have hnQQ : IsR w11 (vals 3) (1 / Q) := hf 3 (by decide)
        have ee4 : vals 4 = .int .i64 8 := hf 4 (by decide)
        rw [ee4]; clear ee4
        clear hf hdis
        have HB11 := Lib.hid (HBR.out.step hb11)
        have Fp := Lib.hid (Fp.out.below hb11)
        have FG := Lib.hid (FG.out.below hb11)
        have BXp := Lib.hid (heap_below BXp.out hb11)
        have BXR := Lib.hid (heap_below BXR.out hb11)
        have BXG := Lib.hid (heap_below BXG.out hb11)
        obtain ⟨uQQ, huQQ⟩ : ∃ u, u = vals 3 := ⟨_, rfl⟩
        rw [← huQQ] at hnQQ ⊢; clear huQQ
        have QQ := Lib.hid hnQQ; clear hnQQ
        obtain ⟨sQQ, oQQ, nQQ, cQQ, aQQ, mQQ, dQQ, rfl⟩ := QQ.out.shape
        clear hb11
        obtain ⟨eR0, eR1, eR2⟩ := row3 BXR.out
        obtain ⟨fR0, fR1, fR2⟩ := froz3 BXR.out
        obtain ⟨w12, hw12⟩ : ∃ w12, w12 = ((w11.setCell ⟨(w.heap.size + 1), 0, none⟩ (.bool sQQ)).setCell ⟨(w.heap.size + 1), 1, none⟩ (.slice oQQ nQQ cQQ)).setCell ⟨(w.heap.size + 1), 2, none⟩ (.slice aQQ mQQ dQQ) := ⟨_, rfl⟩
        have hp12 : w12 = put3 w11 ((w.heap.size + 1)) (.bool sQQ) (.slice oQQ nQQ cQQ) (.slice aQQ mQQ dQQ) := hw12
        first | have Fp := Lib.hid (putkI hp12 Fp.out BXR.out) | have Fp := Lib.hid (putkR hp12 Fp.out BXR.out) | have Fp := Lib.hid (putkV hp12 Fp.out BXR.out)
        first | have FG := Lib.hid (putkI hp12 FG.out BXR.out) | have FG := Lib.hid (putkR hp12 FG.out BXR.out) | have FG := Lib.hid (putkV hp12 FG.out BXR.out)
        first | have QQ := Lib.hid (putkI hp12 QQ.out BXR.out) | have QQ := Lib.hid (putkR hp12 QQ.out BXR.out) | have QQ := Lib.hid (putkV hp12 QQ.out BXR.out)
        have BXp := Lib.hid (putx hp12 BXp.out (by first | omega | (have := below_lt BXp.out; omega)))
        have nxR : w12.heap[(w.heap.size + 1)]? = some (.cells #[.bool sQQ, .slice oQQ nQQ cQQ, .slice aQQ mQQ dQQ] 24) := by rw [hp12]; exact put3_heap BXR.out
        have BXG := Lib.hid (putx hp12 BXG.out (by first | omega | (have := below_lt BXG.out; omega)))
        have BXR := Lib.hid nxR; clear nxR
        have HB12 := Lib.hid (putb hp12 HB11.out (by omega))
        have HW12 := Lib.hid hw12; clear hw12 hp12
        go_wp2_with fail
        rw [← HW12.out]
        clear eR0 eR1 eR2 fR0 fR1 fR2
        refine ret_rat2 rfl (w.heap.size + 1) _ _ _ rfl BXR.out rfl ?_
        have hz : 1 / Q = 0 := by rw [HQ0.out]; grind
        have hr := QQ.out; rw [hz] at hr
        exact ⟨_, rfl, HB12.out, hr⟩
theorem powq_any (vp : Value) (p : Rat) (n : Int) (w : World) (hp : RatIs w vp p) (hl : rl p ≤ 900) :
    Calls Tryd.prog 31 #[vp, .int .i64 n] w (RetRE w (pwV p n) (errV (pwC p n))) := by
  by_cases h1 : n < -64 ∨ 64 < n
  · have hc : pwC p n = 3 := by unfold pwC; rw [if_pos h1]
    have hv : pwV p n = 0 := by unfold pwV; rw [hc, if_neg (by decide)]
    rw [hc, hv]
    rcases h1 with h | h
    · exact pow_low vp p n w hp h
    · exact pow_high vp p n w hp h
  · by_cases h2 : n < 0
    · obtain ⟨m, rfl⟩ : ∃ m : Nat, n = -(m : Int) := ⟨(-n).toNat, by omega⟩
      by_cases h3 : p = 0
      · have hc : pwC p (-(m : Int)) = 8 := by unfold pwC; rw [if_neg h1, if_pos ⟨h2, h3⟩]
        have hv : pwV p (-(m : Int)) = 0 := by unfold pwV; rw [hc, if_neg (by decide)]
        rw [hc, hv]; exact pow_inf vp p m w hp (by omega) (by omega) hl h3
      · have hc : pwC p (-(m : Int)) = 0 := by unfold pwC; rw [if_neg h1, if_neg (fun h => h3 h.2)]
        have hv : pwV p (-(m : Int)) = (1 / p) ^ m := by
          unfold pwV; rw [hc, if_pos rfl]; unfold pw; rw [if_neg (by omega), show (- -(m : Int)).toNat = m by omega]
        rw [hc, hv]; exact pow_neg vp p m w hp (by omega) (by omega) hl h3
    · obtain ⟨m, rfl⟩ : ∃ m : Nat, n = (m : Int) := ⟨n.toNat, by omega⟩
      have hc : pwC p (m : Int) = 0 := by unfold pwC; rw [if_neg h1, if_neg (fun h => h2 h.1)]
      have hv : pwV p (m : Int) = p ^ m := by unfold pwV; rw [hc, if_pos rfl]; unfold pw; rw [if_pos (by omega), Int.toNat_natCast]
      rw [hc, hv]; exact pow_ok vp p m w hp (by omega) (by omega)
theorem rpowq_any (vp : Value) (p : Rat) (n : Int) (w : World) (hp : RatIs w vp p) (hl : rl p ≤ 900) :
    Calls Tryd.prog 32 #[vp, .int .i64 n] w (RetRE w (pwV p n) (.int .i64 (pwC p n : Nat))) := by
  by_cases h1 : n < -64 ∨ 64 < n
  · have hc : pwC p n = 3 := by unfold pwC; rw [if_pos h1]
    have hv : pwV p n = 0 := by unfold pwV; rw [hc, if_neg (by decide)]
    rw [hc, hv]
    rcases h1 with h | h
    · exact rpow_low vp p n w hp h
    · exact rpow_high vp p n w hp h
  · by_cases h2 : n < 0
    · obtain ⟨m, rfl⟩ : ∃ m : Nat, n = -(m : Int) := ⟨(-n).toNat, by omega⟩
      by_cases h3 : p = 0
      · have hc : pwC p (-(m : Int)) = 8 := by unfold pwC; rw [if_neg h1, if_pos ⟨h2, h3⟩]
        have hv : pwV p (-(m : Int)) = 0 := by unfold pwV; rw [hc, if_neg (by decide)]
        rw [hc, hv]; exact rpow_inf vp p m w hp (by omega) (by omega) (by omega) h3
      · have hc : pwC p (-(m : Int)) = 0 := by unfold pwC; rw [if_neg h1, if_neg (fun h => h3 h.2)]
        have hv : pwV p (-(m : Int)) = (1 / p) ^ m := by
          unfold pwV; rw [hc, if_pos rfl]; unfold pw; rw [if_neg (by omega), show (- -(m : Int)).toNat = m by omega]
        rw [hc, hv]; exact rpow_neg vp p m w hp (by omega) (by omega) (by omega) h3
    · obtain ⟨m, rfl⟩ : ∃ m : Nat, n = (m : Int) := ⟨n.toNat, by omega⟩
      have hc : pwC p (m : Int) = 0 := by unfold pwC; rw [if_neg h1, if_neg (fun h => h2 h.1)]
      have hv : pwV p (m : Int) = p ^ m := by unfold pwV; rw [hc, if_pos rfl]; unfold pw; rw [if_pos (by omega), Int.toNat_natCast]
      rw [hc, hv]; exact rpow_ok vp p m w hp (by omega) (by omega)
end Go.Proofs.YtabdndlaelfdeaaDoor
/-
  Arguments that are fractions.
  Conditions: none beyond each theorem's own.
-/
namespace Go.Proofs.YtabdndlaelfdeaaDoor
open Go.RowKit Go.ChangeShapes Go.WideShapes

/-- a field that is a slice of words -/
theorem open_words_cell {H : Type} {enc : TypeId × Value → H} {P : Program} {W : World} {t e : TypeId} {v : Value} {x : DataW H × List MemPlace} {fuel : Nat} (ht : P.underlying t = some (.slice e)) (he : P.underlying e = some (.int .u32)) (hc : P.cellsOf e = 1)
    (hf : DataW.trod enc P W 0 (fun _ => true) true fuel t [v] = some x) : ∃ l : List Nat, Num W v l := by
  rcases open_ints ht he hc hf with ⟨hcs, hx⟩ | ⟨a, len', cap', zs, hcs, _, hl, hm, hz, hx, hcell, hwz⟩
  · have hcs' : v = .slice none 0 0 := by simpa using hcs
    rw [hcs']; exact ⟨[], Num.nil W⟩
  · have hcs' : v = .slice (some a) len' cap' := by simpa using hcs
    rw [hcs']
    have hz' : len' ≤ zs.length := by rw [hz]; simp; exact hl
    have hgd : ∀ j, j < len' → gd ((zs.take len').map Int.toNat) j = (zs.getD j 0).toNat := fun j hj => by
      simp [gd, List.getD_eq_getElem?_getD, hj, show j < zs.length by omega]
    have hwf : ∀ j, j < zs.length → 0 ≤ zs.getD j 0 ∧ zs.getD j 0 < 4294967296 := fun j hj => by
      have hmem : zs.getD j 0 ∈ zs := by rw [List.getD_eq_getElem?_getD, List.getElem?_eq_getElem hj]; exact List.getElem_mem hj
      have := hwz _ hmem
      simp only [Lit.wf, Bool.and_eq_true, decide_eq_true_eq] at this
      have h1 : IntKind.u32.min = 0 := by decide
      have h2 : IntKind.u32.max = 4294967296 - 1 := by decide
      rw [h1, h2] at this; omega
    have hlen : ((zs.take len').map Int.toNat).length = len' := by rw [List.length_map, List.length_take]; omega
    refine ⟨(zs.take len').map Int.toNat, some a, cap', by rw [hlen], by omega, by unfold maxLen at hm; omega, by simp, ?_, ?_⟩
    · intro b off s hs
      obtain rfl : a = ⟨b, off, s⟩ := Option.some.inj hs
      have h0 : 0 < len' → b < W.heap.size ∧ s = none := fun h0 => by
        have := hcell 0 (by omega)
        have e0 : (⟨b, off, s⟩ : Addr).add 0 = ⟨b, off, s⟩ := by simp [Addr.add]
        rw [e0] at this
        refine ⟨World.block_lt_of_cell? W _ this, ?_⟩
        cases s with
        | none => rfl
        | some x =>
          unfold World.cell? at this
          split at this <;> simp at this
      refine ⟨fun hh => h0 (by omega), fun j hj => ?_⟩
      rw [hlen] at hj
      obtain ⟨_, rfl⟩ := h0 (by omega)
      have := hcell j (by omega)
      have e2 : (⟨b, off, none⟩ : Addr).add j = ⟨b, off + j, none⟩ := by unfold Addr.add; split <;> simp_all
      rw [e2] at this
      rw [this, hgd j hj]
      have := hwf j (by omega)
      congr 2; omega
    · intro j
      by_cases hj : j < len'
      · rw [hgd j hj]; have := hwf j (by omega); omega
      · rw [gd_over _ _ (by omega)]; omega

set_option maxRecDepth 100000 in
set_option maxHeartbeats 1600000 in
theorem open_rat {H : Type} {enc : TypeId × Value → H} {W : World} {v : Value} {d : DataW H} {p : List MemPlace} {base : Nat}
    (hv : Value.okWide Tryd.prog W .any base 24 v) (h : DataW.Trod enc Tryd.prog W 0 (fun _ => true) true 24 v d p) : ∃ s a b, RatV W v s a b := by
  obtain ⟨v0, v1, v2, y0, y1, y2, n, rfl, _, _, h0, h1, h2⟩ := Go.Joins.open_agg3 Tryd.underlying24 (by kernel_rfl) (by kernel_rfl) hv h
  obtain ⟨b', k0, _⟩ := DataW.trod_bool Tryd.underlying4 h0
  have e0 : v0 = .bool b' := by simpa using k0
  obtain ⟨a, ha⟩ := open_words_cell Tryd.underlying22 Tryd.underlying57 (by kernel_rfl) h1
  obtain ⟨b, hb⟩ := open_words_cell Tryd.underlying22 Tryd.underlying57 (by kernel_rfl) h2
  exact ⟨b', a, b, v1, v2, by rw [e0], ha, hb⟩
end Go.Proofs.YtabdndlaelfdeaaDoor
/-
  The last step of a law's proof: true was handed back and nothing that was there has changed, so the row's claim holds.
  Conditions: each theorem's own.
-/
namespace Go.Proofs.YtabdndlaelfdeaaDoor
open Go.RowKit Go.ChangeShapes Go.WideShapes

theorem trodAll_below {H : Type} {enc : TypeId × Value → H} {P : Program} (hl : laidOutB P = true) {W W' : World} (hb : Below W.heap.size W W') :
    ∀ (ts : List TypeId) (vs : List Value) (ds : List (DataW H)) (ps : List MemPlace), (ts.all fun t => P.readableRec t && decide (t < P.types.size)) = true →
      DataW.TrodAll enc P W 0 (fun _ => true) true ts vs ds ps → (∀ x ∈ ps, x.block < W.heap.size) → DataW.TrodAll enc P W' 0 (fun b => decide (b < W.heap.size)) true ts vs ds ps := by
  intro ts
  induction ts with
  | nil =>
    intro vs ds ps hr h hlt
    cases vs <;> cases ds <;> first | exact h | exact h.elim
  | cons t ts ih =>
    intro vs ds ps hr h hlt
    simp only [List.all_cons, Bool.and_eq_true, decide_eq_true_eq] at hr
    cases vs with
    | nil => cases ds <;> exact h.elim
    | cons v vs =>
      cases ds with
      | nil => exact h.elim
      | cons d ds =>
        obtain ⟨p, q, h1, h2, rfl⟩ := h
        exact ⟨p, q, Below.trod hl hr.1.1 hr.1.2 h1 hb (fun x hx => hlt x (List.mem_append_left _ hx)),
          ih vs ds q hr.2 h2 (fun x hx => hlt x (List.mem_append_right _ hx)), rfl⟩

theorem bd_u8 {n : Int} (h : (Lit.int .u8 n).wf = true) : 0 ≤ n ∧ n ≤ 255 := by
  simp only [Lit.wf, Bool.and_eq_true, decide_eq_true_eq] at h
  have h1 : IntKind.u8.min = 0 := by decide
  have h2 : IntKind.u8.max = 255 := by decide
  rw [h1, h2] at h; exact h
theorem bd_i64 {n : Int} (h : (Lit.int .i64 n).wf = true) : -9223372036854775808 ≤ n ∧ n ≤ 9223372036854775807 := by
  simp only [Lit.wf, Bool.and_eq_true, decide_eq_true_eq] at h
  have h1 : IntKind.i64.min = -9223372036854775808 := by decide
  have h2 : IntKind.i64.max = 9223372036854775807 := by decide
  rw [h1, h2] at h; exact h
theorem bd_u16 {n : Int} (h : (Lit.int .u16 n).wf = true) : 0 ≤ n ∧ n ≤ 65535 := by
  simp only [Lit.wf, Bool.and_eq_true, decide_eq_true_eq] at h
  have h1 : IntKind.u16.min = 0 := by decide
  have h2 : IntKind.u16.max = 65535 := by decide
  rw [h1, h2] at h; exact h

theorem law_close {H : Type} {enc : TypeId × Value → H} {P : Program} {f : Func} {s : ChangeSpec} {W W' : World} {args : Array Value} {ds gs : List (DataW H)} {before : List MemPlace} {tb : TypeId}
    (hl : laidOutB P = true) (hrd : (f.params.toList.all fun t => P.readableRec t && decide (t < P.types.size)) = true) (hvars : s.vars = []) (hr : f.resultTypes = #[tb]) (hbool : P.underlying tb = some .bool)
    (hres : (s.fn H (ds ++ gs)).results = [.lit (.bool true)]) (hargs : (s.fn H (ds ++ gs)).args = ds) (hvs : (s.fn H (ds ++ gs)).vars = [])
    (hW : DataW.Whole enc P f.params.toList s.vars false W args.toList ds gs before) (hb : Below W.heap.size W W') :
    s.post enc P f false true false false W args (.bool true) W' := by
  have hlt := hW.lt
  have hW' := hW
  obtain ⟨p, q, hA, hV, rfl, hz, hn⟩ := hW
  rw [hvars] at hV
  obtain ⟨rfl, rfl⟩ := trodVars_none hV
  refine ⟨ds, [], p ++ [], [], p, [], hW', ?_, ?_, ?_, hb.frame _, fun h => by cases h⟩
  · rw [hres, hr]
    exact ⟨[], [], shut_bool hbool true, rfl, rfl⟩
  · rw [hargs]
    exact trodAll_below hl hb _ _ _ _ hrd hA (fun x hx => by simpa using hlt x (List.mem_append_left _ hx))
  · rw [hvs, hvars]; rfl
end Go.Proofs.YtabdndlaelfdeaaDoor
