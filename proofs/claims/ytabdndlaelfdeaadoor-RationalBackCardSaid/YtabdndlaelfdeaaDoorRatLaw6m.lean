/-
  RationalField: the walk of the statement.
  Conditions: each theorem's own.
-/
import Derived.Test.YtabdndlaelfdeaaDoorRatLaw5m
namespace Go.Proofs.YtabdndlaelfdeaaDoor
open Go.RowKit Go.ChangeShapes Go.WideShapes

theorem cq_self {p q : Rat} (h : p = q) : cq p q = 0 := (cq_eq p q).2 h
theorem sg_zero : sg 0 = 0 := by unfold sg; decide
theorem sg_ne {p : Rat} (h : p ≠ 0) : (sg p == 0) = false := by
  rw [beq_eq_false_iff_ne]; unfold sg
  by_cases h1 : p < 0
  · rw [if_pos h1]; decide
  · rw [if_neg h1, if_neg h]; decide

set_option maxRecDepth 100000 in
set_option maxHeartbeats 12800000 in
theorem field_small0 (vp : Value) (p : Rat) (vu : Value) (u : Rat) (vv : Value) (v : Rat) (w : World) (hp : RatIs w vp p) (hu : RatIs w vu u) (hv : RatIs w vv v) (lp : rl p ≤ 12) (zp : (szR vp).1 ≤ 12 ∧ (szR vp).2 ≤ 12) (lu : rl u ≤ 12) (zu : (szR vu).1 ≤ 12 ∧ (szR vu).2 ≤ 12) (lv : rl v ≤ 12) (zv : (szR vv).1 ≤ 12 ∧ (szR vv).2 ≤ 12) (h0 : u = 0) :
    Calls Tryd.prog 9 #[vp, vu, vv] w (RetV w (.bool true)) := by
  obtain ⟨sp, op, np, cp, ap, mp, dp, rfl⟩ := hp.shape
  have hlp := hp.rl
  obtain ⟨su, ou, nu, cu, au, mu, du, rfl⟩ := hu.shape
  have hlu := hu.rl
  obtain ⟨sv, ov, nv, cv, av, mv, dv, rfl⟩ := hv.shape
  have hlv := hv.rl
  have k1 := rl_add p u; have k2 := rl_add u v; have k3 := rl_mul p u; have k4 := rl_add u p; have k5 := rl_add (p + u) v; have k6 := rl_add p (u + v); have k7 := rl_sub (p + u) u
  have k8 := rl_mul u p; have k9 := rl_mul (p * u) v; have k10 := rl_mul u v; have k11 := rl_mul p (u * v); have k12 := rl_mul p (u + v); have k13 := rl_mul p v; have k14 := rl_add (p * u) (p * v); have k15 := rl_div' (p * u) u
  have Q1 : Hid (cq (p + u) (u + p) = 0) := Lib.hid (cq_self (Rat.add_comm p u))
  have Q2 : Hid (cq (p + u + v) (p + (u + v)) = 0) := Lib.hid (cq_self (Rat.add_assoc p u v))
  have Q3 : Hid (cq (p + u - u) p = 0) := Lib.hid (cq_self (by grind))
  have Q4 : Hid (cq (p * u) (u * p) = 0) := Lib.hid (cq_self (Rat.mul_comm p u))
  have Q5 : Hid (cq (p * u * v) (p * (u * v)) = 0) := Lib.hid (cq_self (Rat.mul_assoc p u v))
  have Q6 : Hid (cq (p * (u + v)) (p * u + p * v) = 0) := Lib.hid (cq_self (Rat.mul_add p u v))
  have q7 : dc u = 8 := by unfold dc; rw [if_pos h0]
  have Q8 : Hid (sg u = 0) := Lib.hid (by rw [h0]; exact sg_zero)
  have Q9 : Hid (sg (p * u) = 0) := Lib.hid (by rw [h0, Rat.mul_zero]; exact sg_zero)
  have Q7 := Lib.hid q7; clear q7 h0
  have hb0 := ((((Below.refl w.heap.size w).alloc (by first | (simp; done) | (simp; omega)) (.cells #[.bool sp, .slice op np cp, .slice ap mp dp] 24)).alloc (by first | (simp; done) | (simp; omega)) (.cells #[.bool su, .slice ou nu cu, .slice au mu du] 24)).alloc (by first | (simp; done) | (simp; omega)) (.cells #[.bool sv, .slice ov nv cv, .slice av mv dv] 24))
  have hxp := nest3_0 w (.cells #[.bool sp, .slice op np cp, .slice ap mp dp] 24) (.cells #[.bool su, .slice ou nu cu, .slice au mu du] 24) (.cells #[.bool sv, .slice ov nv cv, .slice av mv dv] 24)
  have hxu := nest3_1 w (.cells #[.bool sp, .slice op np cp, .slice ap mp dp] 24) (.cells #[.bool su, .slice ou nu cu, .slice au mu du] 24) (.cells #[.bool sv, .slice ov nv cv, .slice av mv dv] 24)
  have hxv := nest3_2 w (.cells #[.bool sp, .slice op np cp, .slice ap mp dp] 24) (.cells #[.bool su, .slice ou nu cu, .slice au mu du] 24) (.cells #[.bool sv, .slice ov nv cv, .slice av mv dv] 24)
  have hpp := hp.below hb0
  have hpu := hu.below hb0
  have hpv := hv.below hb0
  obtain ⟨w0, hw0⟩ : ∃ w0, w0 = (((w.alloc (.cells #[.bool sp, .slice op np cp, .slice ap mp dp] 24)).alloc (.cells #[.bool su, .slice ou nu cu, .slice au mu du] 24)).alloc (.cells #[.bool sv, .slice ov nv cv, .slice av mv dv] 24)) := ⟨_, rfl⟩
  rw [← hw0] at hb0 hxp hxu hxv hpp hpu hpv
  have HB0 := Lib.hid hb0; have HW0 := Lib.hid hw0
  have BXp := Lib.hid hxp
  have BXu := Lib.hid hxu
  have BXv := Lib.hid hxv
  have Fp := Lib.hid hpp
  have Fu := Lib.hid hpu
  have Fv := Lib.hid hpv
  clear hb0 hw0 hxp hxu hxv hpp hp hpu hu hpv hv
  have zzp : np ≤ 12 ∧ mp ≤ 12 := zp; clear zp
  have _lp := lp
  have zzu : nu ≤ 12 ∧ mu ≤ 12 := zu; clear zu
  have _lu := lu
  have zzv : nv ≤ 12 ∧ mv ≤ 12 := zv; clear zv
  have _lv := lv
  go_enter Tryd.func9, Tryd.ntmps9
  have hs := awake02 w0
  have HS := Lib.hid hs; clear hs
  go_wp2_with fail
  rw [← HW0.out]
  (with_reducible refine HS.out.mono ?_); rintro e w1 ⟨rfl, hb1⟩
  clear HS
  have HB1 := Lib.hid (HB0.out.step hb1)
  have Fp := Lib.hid (Fp.out.below hb1)
  have Fu := Lib.hid (Fu.out.below hb1)
  have Fv := Lib.hid (Fv.out.below hb1)
  have BXp := Lib.hid (heap_below BXp.out hb1)
  have BXu := Lib.hid (heap_below BXu.out hb1)
  have BXv := Lib.hid (heap_below BXv.out hb1)
  clear hb1
  obtain ⟨ep0, ep1, ep2⟩ := row3 BXp.out
  obtain ⟨eu0, eu1, eu2⟩ := row3 BXu.out
  obtain ⟨ev0, ev1, ev2⟩ := row3 BXv.out
  obtain ⟨w2, hw2⟩ : ∃ w2, w2 = w1.alloc (.cells #[.bool sp, .slice op np cp, .slice ap mp dp, .bool su, .slice ou nu cu, .slice au mu du, .bool sv, .slice ov nv cv, .slice av mv dv] 24) := ⟨_, rfl⟩
  have hb2 : Below w1.heap.size w1 w2 := by rw [hw2]; exact (Below.refl _ _).alloc (Nat.le_refl _) _
  have hxLS := heap_alloc_new w1 (.cells #[.bool sp, .slice op np cp, .slice ap mp dp, .bool su, .slice ou nu cu, .slice au mu du, .bool sv, .slice ov nv cv, .slice av mv dv] 24)
  obtain ⟨gLS, hgLS⟩ : ∃ gLS, gLS = w1.heap.size := ⟨_, rfl⟩
  rw [← hw2, ← hgLS] at hxLS
  have HW2 := Lib.hid hw2; have HGLS := Lib.hid hgLS; clear hw2 hgLS
  have HB2 := Lib.hid (HB1.out.step hb2)
  have Fp := Lib.hid (Fp.out.below hb2)
  have Fu := Lib.hid (Fu.out.below hb2)
  have Fv := Lib.hid (Fv.out.below hb2)
  have BXp := Lib.hid (heap_below BXp.out hb2)
  have BXu := Lib.hid (heap_below BXu.out hb2)
  have BXv := Lib.hid (heap_below BXv.out hb2)
  clear hb2
  have BXLS := Lib.hid hxLS; clear hxLS
  have hs := rlarge3s BXLS.out zzp zzu zzv
  have HS := Lib.hid hs; clear hs
  go_wp2_with fail
  rw [← HW2.out]
  try rw [← HGLS.out]
  (with_reducible refine HS.out.mono ?_); rintro e w3 ⟨rfl, hb3⟩
  clear HS
  have HB3 := Lib.hid (HB2.out.step hb3)
  have Fp := Lib.hid (Fp.out.below hb3)
  have Fu := Lib.hid (Fu.out.below hb3)
  have Fv := Lib.hid (Fv.out.below hb3)
  have BXp := Lib.hid (heap_below BXp.out hb3)
  have BXu := Lib.hid (heap_below BXu.out hb3)
  have BXv := Lib.hid (heap_below BXv.out hb3)
  clear hb3
  clear BXLS
  go_wp2_with fail
  have lwp := below_lt BXp.out
  have lwu := below_lt BXu.out
  have lwv := below_lt BXv.out
  refine wp_region_facts (w := w3) 12 [] (by kernel_rfl) (Fl [KEq (.agg #[.bool sp, .slice op np cp, .slice ap mp dp]), KEq (.agg #[.bool su, .slice ou nu cu, .slice au mu du]), KIs (p + u), KEq (.agg #[.bool su, .slice ou nu cu, .slice au mu du]), KEq (.agg #[.bool sv, .slice ov nv cv, .slice av mv dv]), KIs (u + v), KEq (.agg #[.bool sp, .slice op np cp, .slice ap mp dp]), KEq (.agg #[.bool su, .slice ou nu cu, .slice au mu du]), KIs (p * u), KBox w3.heap.size, KBox w3.heap.size, KBox w3.heap.size]) (fun i => i == 9 || i == 10 || i == 11) (by kernel_rfl) (fun _ _ _ _ _ h => h) (monoL (monoC (kEq _) (monoC (kEq _) (monoC (kIs _) (monoC (kEq _) (monoC (kEq _) (monoC (kIs _) (monoC (kEq _) (monoC (kEq _) (monoC (kIs _) (monoC (kBox _) (monoC (kBox _) (monoC (kBox _) monoN))))))))))))) ?st3 ?tl3
  case st3 =>
    simp only [List.take_succ_cons, List.take_zero]
    refine stepsOK_cons rfl ?_ (stepsOK_cons rfl ?_ (stepsOK_cons rfl ?_ (stepsOK_cons rfl ?_ (stepsOK_cons rfl ?_ (stepsOK_cons rfl ?_ (stepsOK_cons rfl ?_ (stepsOK_cons rfl ?_ (stepsOK_cons rfl ?_ (stepsOK_cons rfl ?_ (stepsOK_cons rfl ?_ (stepsOK_cons rfl ?_ (stepsOK_nil))))))))))))
    · intro vals w1 hb hd
      simp only [putsTo, dstOf, if_true, Act.put, List.setIfInBounds_toArray, List.set_cons_zero, List.set_cons_succ, List.getElem?_toArray, List.getElem?_cons_zero, List.getElem?_cons_succ, Option.bind_some]
      obtain ⟨e0, e1, e2⟩ := row3 (heap_below BXp.out hb)
      refine stepOK_value (v := .agg #[.bool sp, .slice op np cp, .slice ap mp dp]) (w' := w1) (by go_simp) (leaves_mk (Below.refl _ _) rfl (fun h => by cases h))
    · intro vals w1 hb hd
      simp only [putsTo, dstOf, if_true, Act.put, List.setIfInBounds_toArray, List.set_cons_zero, List.set_cons_succ, List.getElem?_toArray, List.getElem?_cons_zero, List.getElem?_cons_succ, Option.bind_some]
      obtain ⟨e0, e1, e2⟩ := row3 (heap_below BXu.out hb)
      refine stepOK_value (v := .agg #[.bool su, .slice ou nu cu, .slice au mu du]) (w' := w1) (by go_simp) (leaves_mk (Below.refl _ _) rfl (fun h => by cases h))
    · intro vals w1 hb hd
      have d0 : KEq (.agg #[.bool sp, .slice op np cp, .slice ap mp dp]) (vals 0) w1 := hd 0 (by kernel_rfl)
      have r0 : RatIs w1 (vals 0) (p) := by rw [show vals 0 = _ from d0]; exact Fp.out.below hb
      have d1 : KEq (.agg #[.bool su, .slice ou nu cu, .slice au mu du]) (vals 1) w1 := hd 1 (by kernel_rfl)
      have r1 : RatIs w1 (vals 1) (u) := by rw [show vals 1 = _ from d1]; exact Fu.out.below hb
      simp only [putsTo, dstOf, if_true, Act.put, List.setIfInBounds_toArray, List.set_cons_zero, List.set_cons_succ, List.getElem?_toArray, List.getElem?_cons_zero, List.getElem?_cons_succ, Option.bind_some]
      have hs := addq_any _ _ _ _ w1 r0 r1
      have HS := Lib.hid hs; clear hs
      clear d0 d1 hd
      refine stepOK_call (by go_simp; first | done | exact ⟨⟨rfl, rfl⟩, rfl⟩) ?_
      (with_reducible refine HS.out.mono ?_); rintro e w2 ⟨v, rfl, hb2, hn⟩
      exact ⟨v, rfl, leaves_mk hb2 hn (fun h => by cases h)⟩
    · intro vals w1 hb hd
      simp only [putsTo, dstOf, if_true, Act.put, List.setIfInBounds_toArray, List.set_cons_zero, List.set_cons_succ, List.getElem?_toArray, List.getElem?_cons_zero, List.getElem?_cons_succ, Option.bind_some]
      obtain ⟨e0, e1, e2⟩ := row3 (heap_below BXu.out hb)
      refine stepOK_value (v := .agg #[.bool su, .slice ou nu cu, .slice au mu du]) (w' := w1) (by go_simp) (leaves_mk (Below.refl _ _) rfl (fun h => by cases h))
    · intro vals w1 hb hd
      simp only [putsTo, dstOf, if_true, Act.put, List.setIfInBounds_toArray, List.set_cons_zero, List.set_cons_succ, List.getElem?_toArray, List.getElem?_cons_zero, List.getElem?_cons_succ, Option.bind_some]
      obtain ⟨e0, e1, e2⟩ := row3 (heap_below BXv.out hb)
      refine stepOK_value (v := .agg #[.bool sv, .slice ov nv cv, .slice av mv dv]) (w' := w1) (by go_simp) (leaves_mk (Below.refl _ _) rfl (fun h => by cases h))
    · intro vals w1 hb hd
      have d3 : KEq (.agg #[.bool su, .slice ou nu cu, .slice au mu du]) (vals 3) w1 := hd 3 (by kernel_rfl)
      have r3 : RatIs w1 (vals 3) (u) := by rw [show vals 3 = _ from d3]; exact Fu.out.below hb
      have d4 : KEq (.agg #[.bool sv, .slice ov nv cv, .slice av mv dv]) (vals 4) w1 := hd 4 (by kernel_rfl)
      have r4 : RatIs w1 (vals 4) (v) := by rw [show vals 4 = _ from d4]; exact Fv.out.below hb
      simp only [putsTo, dstOf, if_true, Act.put, List.setIfInBounds_toArray, List.set_cons_zero, List.set_cons_succ, List.getElem?_toArray, List.getElem?_cons_zero, List.getElem?_cons_succ, Option.bind_some]
      have hs := addq_any _ _ _ _ w1 r3 r4
      have HS := Lib.hid hs; clear hs
      clear d3 d4 hd
      refine stepOK_call (by go_simp; first | done | exact ⟨⟨rfl, rfl⟩, rfl⟩) ?_
      (with_reducible refine HS.out.mono ?_); rintro e w2 ⟨v, rfl, hb2, hn⟩
      exact ⟨v, rfl, leaves_mk hb2 hn (fun h => by cases h)⟩
    · intro vals w1 hb hd
      simp only [putsTo, dstOf, if_true, Act.put, List.setIfInBounds_toArray, List.set_cons_zero, List.set_cons_succ, List.getElem?_toArray, List.getElem?_cons_zero, List.getElem?_cons_succ, Option.bind_some]
      obtain ⟨e0, e1, e2⟩ := row3 (heap_below BXp.out hb)
      refine stepOK_value (v := .agg #[.bool sp, .slice op np cp, .slice ap mp dp]) (w' := w1) (by go_simp) (leaves_mk (Below.refl _ _) rfl (fun h => by cases h))
    · intro vals w1 hb hd
      simp only [putsTo, dstOf, if_true, Act.put, List.setIfInBounds_toArray, List.set_cons_zero, List.set_cons_succ, List.getElem?_toArray, List.getElem?_cons_zero, List.getElem?_cons_succ, Option.bind_some]
      obtain ⟨e0, e1, e2⟩ := row3 (heap_below BXu.out hb)
      refine stepOK_value (v := .agg #[.bool su, .slice ou nu cu, .slice au mu du]) (w' := w1) (by go_simp) (leaves_mk (Below.refl _ _) rfl (fun h => by cases h))
    · intro vals w1 hb hd
      have d6 : KEq (.agg #[.bool sp, .slice op np cp, .slice ap mp dp]) (vals 6) w1 := hd 6 (by kernel_rfl)
      have r6 : RatIs w1 (vals 6) (p) := by rw [show vals 6 = _ from d6]; exact Fp.out.below hb
      have d7 : KEq (.agg #[.bool su, .slice ou nu cu, .slice au mu du]) (vals 7) w1 := hd 7 (by kernel_rfl)
      have r7 : RatIs w1 (vals 7) (u) := by rw [show vals 7 = _ from d7]; exact Fu.out.below hb
      simp only [putsTo, dstOf, if_true, Act.put, List.setIfInBounds_toArray, List.set_cons_zero, List.set_cons_succ, List.getElem?_toArray, List.getElem?_cons_zero, List.getElem?_cons_succ, Option.bind_some]
      have hs := mulq_any _ _ _ _ w1 r6 r7
      have HS := Lib.hid hs; clear hs
      clear d6 d7 hd
      refine stepOK_call (by go_simp; first | done | exact ⟨⟨rfl, rfl⟩, rfl⟩) ?_
      (with_reducible refine HS.out.mono ?_); rintro e w2 ⟨v, rfl, hb2, hn⟩
      exact ⟨v, rfl, leaves_mk hb2 hn (fun h => by cases h)⟩
    · intro vals w1 hb hd
      simp only [putsTo, dstOf, if_true, Act.put, List.setIfInBounds_toArray, List.set_cons_zero, List.set_cons_succ, List.getElem?_toArray, List.getElem?_cons_zero, List.getElem?_cons_succ, Option.bind_some]
      refine stepOK_value (v := .pointer (some ⟨w1.heap.size, 0, none⟩)) (w' := w1.alloc (.cells #[.bool false, .slice none 0 0, .slice none 0 0] 24)) (by go_simp) (leaves_mk ((Below.refl _ _).alloc (Nat.le_refl _) _) ⟨_, hb.size, rfl, heap_alloc_new _ _⟩ (fun _ => ⟨rfl, by simp⟩))
    · intro vals w1 hb hd
      simp only [putsTo, dstOf, if_true, Act.put, List.setIfInBounds_toArray, List.set_cons_zero, List.set_cons_succ, List.getElem?_toArray, List.getElem?_cons_zero, List.getElem?_cons_succ, Option.bind_some]
      refine stepOK_value (v := .pointer (some ⟨w1.heap.size, 0, none⟩)) (w' := w1.alloc (.cells #[.bool false, .slice none 0 0, .slice none 0 0] 24)) (by go_simp) (leaves_mk ((Below.refl _ _).alloc (Nat.le_refl _) _) ⟨_, hb.size, rfl, heap_alloc_new _ _⟩ (fun _ => ⟨rfl, by simp⟩))
    · intro vals w1 hb hd
      simp only [putsTo, dstOf, if_true, Act.put, List.setIfInBounds_toArray, List.set_cons_zero, List.set_cons_succ, List.getElem?_toArray, List.getElem?_cons_zero, List.getElem?_cons_succ, Option.bind_some]
      refine stepOK_value (v := .pointer (some ⟨w1.heap.size, 0, none⟩)) (w' := w1.alloc (.cells #[.bool false, .slice none 0 0, .slice none 0 0] 24)) (by go_simp) (leaves_mk ((Below.refl _ _).alloc (Nat.le_refl _) _) ⟨_, hb.size, rfl, heap_alloc_new _ _⟩ (fun _ => ⟨rfl, by simp⟩))
  case tl3 =>
    intro vals w4 hb4 hf hdis
    simp only [putsTo, dstOf, if_true, Act.put, List.setIfInBounds_toArray, List.set_cons_zero, List.set_cons_succ, List.getElem?_toArray, List.getElem?_cons_zero, List.getElem?_cons_succ, Option.bind_some, List.drop_succ_cons, List.drop_zero]
    obtain ⟨gab, hgab, ev9, hzab⟩ : KBox w3.heap.size (vals 9) w4 := hf 9 (by decide)
    have hnAB : IsR w4 (vals 2) (p + u) := hf 2 (by decide)
    obtain ⟨gbc, hgbc, ev10, hzbc⟩ : KBox w3.heap.size (vals 10) w4 := hf 10 (by decide)
    have hnBC : IsR w4 (vals 5) (u + v) := hf 5 (by decide)
    obtain ⟨gpm, hgpm, ev11, hzpm⟩ : KBox w3.heap.size (vals 11) w4 := hf 11 (by decide)
    have hnPM : IsR w4 (vals 8) (p * u) := hf 8 (by decide)
    have neabbc : gab ≠ gbc := fun e => hdis 9 10 (by decide) (by decide) (by decide) (by decide) (by decide) (by rw [ev9, ev10, e])
    have neabpm : gab ≠ gpm := fun e => hdis 9 11 (by decide) (by decide) (by decide) (by decide) (by decide) (by rw [ev9, ev11, e])
    have nebcpm : gbc ≠ gpm := fun e => hdis 10 11 (by decide) (by decide) (by decide) (by decide) (by decide) (by rw [ev10, ev11, e])
    clear hf hdis
    rw [ev9]; clear ev9
    rw [ev10]; clear ev10
    rw [ev11]; clear ev11
    have HB4 := Lib.hid (HB3.out.step hb4)
    have Fp := Lib.hid (Fp.out.below hb4)
    have Fu := Lib.hid (Fu.out.below hb4)
    have Fv := Lib.hid (Fv.out.below hb4)
    have BXp := Lib.hid (heap_below BXp.out hb4)
    have BXu := Lib.hid (heap_below BXu.out hb4)
    have BXv := Lib.hid (heap_below BXv.out hb4)
    obtain ⟨uAB, huAB⟩ : ∃ u, u = vals 2 := ⟨_, rfl⟩
    rw [← huAB] at hnAB ⊢; clear huAB
    have AB := Lib.hid hnAB; clear hnAB
    obtain ⟨sAB, oAB, nAB, cAB, aAB, mAB, dAB, rfl⟩ := AB.out.shape
    obtain ⟨uBC, huBC⟩ : ∃ u, u = vals 5 := ⟨_, rfl⟩
    rw [← huBC] at hnBC ⊢; clear huBC
    have BC := Lib.hid hnBC; clear hnBC
    obtain ⟨sBC, oBC, nBC, cBC, aBC, mBC, dBC, rfl⟩ := BC.out.shape
    obtain ⟨uPM, huPM⟩ : ∃ u, u = vals 8 := ⟨_, rfl⟩
    rw [← huPM] at hnPM ⊢; clear huPM
    have PM := Lib.hid hnPM; clear hnPM
    obtain ⟨sPM, oPM, nPM, cPM, aPM, mPM, dPM, rfl⟩ := PM.out.shape
    have BXab := Lib.hid hzab; clear hzab
    have hgwab : w.heap.size ≤ gab := Nat.le_trans HB3.out.size hgab
    have BXbc := Lib.hid hzbc; clear hzbc
    have hgwbc : w.heap.size ≤ gbc := Nat.le_trans HB3.out.size hgbc
    have BXpm := Lib.hid hzpm; clear hzpm
    have hgwpm : w.heap.size ≤ gpm := Nat.le_trans HB3.out.size hgpm
    clear hb4
    obtain ⟨eab0, eab1, eab2⟩ := row3 BXab.out
    obtain ⟨fab0, fab1, fab2⟩ := froz3 BXab.out
    obtain ⟨ebc0, ebc1, ebc2⟩ := row3 BXbc.out
    obtain ⟨fbc0, fbc1, fbc2⟩ := froz3 BXbc.out
    obtain ⟨epm0, epm1, epm2⟩ := row3 BXpm.out
    obtain ⟨fpm0, fpm1, fpm2⟩ := froz3 BXpm.out
    obtain ⟨w5, hw5⟩ : ∃ w5, w5 = ((w4.setCell ⟨gab, 0, none⟩ (.bool sAB)).setCell ⟨gab, 1, none⟩ (.slice oAB nAB cAB)).setCell ⟨gab, 2, none⟩ (.slice aAB mAB dAB) := ⟨_, rfl⟩
    have hp5 : w5 = put3 w4 (gab) (.bool sAB) (.slice oAB nAB cAB) (.slice aAB mAB dAB) := hw5
    first | have Fp := Lib.hid (putkI hp5 Fp.out BXab.out) | have Fp := Lib.hid (putkR hp5 Fp.out BXab.out) | have Fp := Lib.hid (putkV hp5 Fp.out BXab.out)
    first | have Fu := Lib.hid (putkI hp5 Fu.out BXab.out) | have Fu := Lib.hid (putkR hp5 Fu.out BXab.out) | have Fu := Lib.hid (putkV hp5 Fu.out BXab.out)
    first | have Fv := Lib.hid (putkI hp5 Fv.out BXab.out) | have Fv := Lib.hid (putkR hp5 Fv.out BXab.out) | have Fv := Lib.hid (putkV hp5 Fv.out BXab.out)
    first | have AB := Lib.hid (putkI hp5 AB.out BXab.out) | have AB := Lib.hid (putkR hp5 AB.out BXab.out) | have AB := Lib.hid (putkV hp5 AB.out BXab.out)
    first | have BC := Lib.hid (putkI hp5 BC.out BXab.out) | have BC := Lib.hid (putkR hp5 BC.out BXab.out) | have BC := Lib.hid (putkV hp5 BC.out BXab.out)
    first | have PM := Lib.hid (putkI hp5 PM.out BXab.out) | have PM := Lib.hid (putkR hp5 PM.out BXab.out) | have PM := Lib.hid (putkV hp5 PM.out BXab.out)
    have BXp := Lib.hid (putx hp5 BXp.out (by first | omega | (have := below_lt BXp.out; omega)))
    have BXu := Lib.hid (putx hp5 BXu.out (by first | omega | (have := below_lt BXu.out; omega)))
    have BXv := Lib.hid (putx hp5 BXv.out (by first | omega | (have := below_lt BXv.out; omega)))
    have nxab : w5.heap[gab]? = some (.cells #[.bool sAB, .slice oAB nAB cAB, .slice aAB mAB dAB] 24) := by rw [hp5]; exact put3_heap BXab.out
    have BXbc := Lib.hid (putx hp5 BXbc.out (by first | omega | (have := below_lt BXbc.out; omega)))
    have BXpm := Lib.hid (putx hp5 BXpm.out (by first | omega | (have := below_lt BXpm.out; omega)))
    have BXab := Lib.hid nxab; clear nxab
    have HB5 := Lib.hid (putb hp5 HB4.out (by omega))
    have HW5 := Lib.hid hw5; clear hw5 hp5
    obtain ⟨w6, hw6⟩ : ∃ w6, w6 = ((w5.setCell ⟨gbc, 0, none⟩ (.bool sBC)).setCell ⟨gbc, 1, none⟩ (.slice oBC nBC cBC)).setCell ⟨gbc, 2, none⟩ (.slice aBC mBC dBC) := ⟨_, rfl⟩
    have hp6 : w6 = put3 w5 (gbc) (.bool sBC) (.slice oBC nBC cBC) (.slice aBC mBC dBC) := hw6
    first | have Fp := Lib.hid (putkI hp6 Fp.out BXbc.out) | have Fp := Lib.hid (putkR hp6 Fp.out BXbc.out) | have Fp := Lib.hid (putkV hp6 Fp.out BXbc.out)
    first | have Fu := Lib.hid (putkI hp6 Fu.out BXbc.out) | have Fu := Lib.hid (putkR hp6 Fu.out BXbc.out) | have Fu := Lib.hid (putkV hp6 Fu.out BXbc.out)
    first | have Fv := Lib.hid (putkI hp6 Fv.out BXbc.out) | have Fv := Lib.hid (putkR hp6 Fv.out BXbc.out) | have Fv := Lib.hid (putkV hp6 Fv.out BXbc.out)
    first | have AB := Lib.hid (putkI hp6 AB.out BXbc.out) | have AB := Lib.hid (putkR hp6 AB.out BXbc.out) | have AB := Lib.hid (putkV hp6 AB.out BXbc.out)
    first | have BC := Lib.hid (putkI hp6 BC.out BXbc.out) | have BC := Lib.hid (putkR hp6 BC.out BXbc.out) | have BC := Lib.hid (putkV hp6 BC.out BXbc.out)
    first | have PM := Lib.hid (putkI hp6 PM.out BXbc.out) | have PM := Lib.hid (putkR hp6 PM.out BXbc.out) | have PM := Lib.hid (putkV hp6 PM.out BXbc.out)
    have BXp := Lib.hid (putx hp6 BXp.out (by first | omega | (have := below_lt BXp.out; omega)))
    have BXu := Lib.hid (putx hp6 BXu.out (by first | omega | (have := below_lt BXu.out; omega)))
    have BXv := Lib.hid (putx hp6 BXv.out (by first | omega | (have := below_lt BXv.out; omega)))
    have BXab := Lib.hid (putx hp6 BXab.out (by first | omega | (have := below_lt BXab.out; omega)))
    have nxbc : w6.heap[gbc]? = some (.cells #[.bool sBC, .slice oBC nBC cBC, .slice aBC mBC dBC] 24) := by rw [hp6]; exact put3_heap BXbc.out
    have BXpm := Lib.hid (putx hp6 BXpm.out (by first | omega | (have := below_lt BXpm.out; omega)))
    have BXbc := Lib.hid nxbc; clear nxbc
    have HB6 := Lib.hid (putb hp6 HB5.out (by omega))
    have HW6 := Lib.hid hw6; clear hw6 hp6
    obtain ⟨w7, hw7⟩ : ∃ w7, w7 = ((w6.setCell ⟨gpm, 0, none⟩ (.bool sPM)).setCell ⟨gpm, 1, none⟩ (.slice oPM nPM cPM)).setCell ⟨gpm, 2, none⟩ (.slice aPM mPM dPM) := ⟨_, rfl⟩
    have hp7 : w7 = put3 w6 (gpm) (.bool sPM) (.slice oPM nPM cPM) (.slice aPM mPM dPM) := hw7
    first | have Fp := Lib.hid (putkI hp7 Fp.out BXpm.out) | have Fp := Lib.hid (putkR hp7 Fp.out BXpm.out) | have Fp := Lib.hid (putkV hp7 Fp.out BXpm.out)
    first | have Fu := Lib.hid (putkI hp7 Fu.out BXpm.out) | have Fu := Lib.hid (putkR hp7 Fu.out BXpm.out) | have Fu := Lib.hid (putkV hp7 Fu.out BXpm.out)
    first | have Fv := Lib.hid (putkI hp7 Fv.out BXpm.out) | have Fv := Lib.hid (putkR hp7 Fv.out BXpm.out) | have Fv := Lib.hid (putkV hp7 Fv.out BXpm.out)
    first | have AB := Lib.hid (putkI hp7 AB.out BXpm.out) | have AB := Lib.hid (putkR hp7 AB.out BXpm.out) | have AB := Lib.hid (putkV hp7 AB.out BXpm.out)
    first | have BC := Lib.hid (putkI hp7 BC.out BXpm.out) | have BC := Lib.hid (putkR hp7 BC.out BXpm.out) | have BC := Lib.hid (putkV hp7 BC.out BXpm.out)
    first | have PM := Lib.hid (putkI hp7 PM.out BXpm.out) | have PM := Lib.hid (putkR hp7 PM.out BXpm.out) | have PM := Lib.hid (putkV hp7 PM.out BXpm.out)
    have BXp := Lib.hid (putx hp7 BXp.out (by first | omega | (have := below_lt BXp.out; omega)))
    have BXu := Lib.hid (putx hp7 BXu.out (by first | omega | (have := below_lt BXu.out; omega)))
    have BXv := Lib.hid (putx hp7 BXv.out (by first | omega | (have := below_lt BXv.out; omega)))
    have BXab := Lib.hid (putx hp7 BXab.out (by first | omega | (have := below_lt BXab.out; omega)))
    have BXbc := Lib.hid (putx hp7 BXbc.out (by first | omega | (have := below_lt BXbc.out; omega)))
    have nxpm : w7.heap[gpm]? = some (.cells #[.bool sPM, .slice oPM nPM cPM, .slice aPM mPM dPM] 24) := by rw [hp7]; exact put3_heap BXpm.out
    have BXpm := Lib.hid nxpm; clear nxpm
    have HB7 := Lib.hid (putb hp7 HB6.out (by omega))
    have HW7 := Lib.hid hw7; clear hw7 hp7
    have HBC := Lib.hid ((Below.refl w7.heap.size w7).drew)
    have hc := fun w1 (h1 : Below w7.heap.size w7 w1) => valid_any _ (ng (p + u)) (wd (nn (p + u))) (wd (dn (p + u))) w1 (AB.out.below h1) (by have := rl_n (p + u); omega) (by have := dn_len (p + u); omega)
    rw [decide_eq_true (vld_self (p + u)).1] at hc
    have V1 := Lib.hid hc; clear hc
    have hc := fun w1 (h1 : Below w7.heap.size w7 w1) => valid_any _ (ng (p * u)) (wd (nn (p * u))) (wd (dn (p * u))) w1 (PM.out.below h1) (by have := rl_n (p * u); omega) (by have := dn_len (p * u); omega)
    rw [decide_eq_true (vld_self (p * u)).1] at hc
    have V2 := Lib.hid hc; clear hc
    have hc := fun w1 (h1 : Below w7.heap.size w7 w1) => addq_any _ u _ p w1 (Fu.out.below h1) (Fp.out.below h1)
    have C1 := Lib.hid hc; clear hc
    have hc := fun va w1 (h1 : Below w7.heap.size w7 w1) (ha : IsR w1 va (u + p)) => cmpq_any _ (p + u) va (u + p) w1 ((AB.out.below h1).is (by omega)) (ha.is (by omega)) (by omega) (by omega)
    rw [Q1.out] at hc
    have C2 := Lib.hid hc; clear hc
    have hc := fun w1 (h1 : Below w7.heap.size w7 w1) => addq_any _ (p + u) _ v w1 ((AB.out.below h1).is (by omega)) (Fv.out.below h1)
    have C3 := Lib.hid hc; clear hc
    have hc := fun w1 (h1 : Below w7.heap.size w7 w1) => addq_any _ p _ (u + v) w1 (Fp.out.below h1) ((BC.out.below h1).is (by omega))
    have C4 := Lib.hid hc; clear hc
    have hc := fun va vb w1 (ha : IsR w1 va (p + u + v)) (hb : IsR w1 vb (p + (u + v))) => cmpq_any va (p + u + v) vb (p + (u + v)) w1 (ha.is (by omega)) (hb.is (by omega)) (by omega) (by omega)
    rw [Q2.out] at hc
    have C5 := Lib.hid hc; clear hc
    have hc := fun w1 (h1 : Below w7.heap.size w7 w1) => subq_any _ (p + u) _ u w1 ((AB.out.below h1).is (by omega)) (Fu.out.below h1)
    have C6 := Lib.hid hc; clear hc
    have hc := fun va w1 (h1 : Below w7.heap.size w7 w1) (ha : IsR w1 va (p + u - u)) => cmpq_any va (p + u - u) _ p w1 (ha.is (by omega)) (Fp.out.below h1) (by omega) (by omega)
    rw [Q3.out] at hc
    have C7 := Lib.hid hc; clear hc
    have Zp := Lib.hid (fun w1 (h1 : Below w7.heap.size w7 w1) => row3 (heap_below BXp.out h1))
    have Zu := Lib.hid (fun w1 (h1 : Below w7.heap.size w7 w1) => row3 (heap_below BXu.out h1))
    have Zv := Lib.hid (fun w1 (h1 : Below w7.heap.size w7 w1) => row3 (heap_below BXv.out h1))
    have Zab := Lib.hid (fun w1 (h1 : Below w7.heap.size w7 w1) => row3 (heap_below BXab.out h1))
    have Zbc := Lib.hid (fun w1 (h1 : Below w7.heap.size w7 w1) => row3 (heap_below BXbc.out h1))
    have Zpm := Lib.hid (fun w1 (h1 : Below w7.heap.size w7 w1) => row3 (heap_below BXpm.out h1))
    go_wp2_with fail
    rw [← HW5.out]
    rw [← HW6.out]
    rw [← HW7.out]
    clear eab0 eab1 eab2 fab0 fab1 fab2 ebc0 ebc1 ebc2 fbc0 fbc1 fbc2 epm0 epm1 epm2 fpm0 fpm1 fpm2
    obtain ⟨zp0, zp1, zp2⟩ := Zp.out _ HBC.out
    obtain ⟨zu0, zu1, zu2⟩ := Zu.out _ HBC.out
    obtain ⟨zv0, zv1, zv2⟩ := Zv.out _ HBC.out
    obtain ⟨zab0, zab1, zab2⟩ := Zab.out _ HBC.out
    obtain ⟨zbc0, zbc1, zbc2⟩ := Zbc.out _ HBC.out
    obtain ⟨zpm0, zpm1, zpm2⟩ := Zpm.out _ HBC.out
    go_region_held3 (fun wx => wx.cell? ⟨w.heap.size, 0, none⟩ = some (.bool sp) ∧ wx.cell? ⟨w.heap.size, 1, none⟩ = some (.slice op np cp) ∧ wx.cell? ⟨w.heap.size, 2, none⟩ = some (.slice ap mp dp) ∧ wx.cell? ⟨w.heap.size + 1, 0, none⟩ = some (.bool su) ∧ wx.cell? ⟨w.heap.size + 1, 1, none⟩ = some (.slice ou nu cu) ∧ wx.cell? ⟨w.heap.size + 1, 2, none⟩ = some (.slice au mu du) ∧ wx.cell? ⟨w.heap.size + 2, 0, none⟩ = some (.bool sv) ∧ wx.cell? ⟨w.heap.size + 2, 1, none⟩ = some (.slice ov nv cv) ∧ wx.cell? ⟨w.heap.size + 2, 2, none⟩ = some (.slice av mv dv) ∧ wx.cell? ⟨gab, 0, none⟩ = some (.bool sAB) ∧ wx.cell? ⟨gab, 1, none⟩ = some (.slice oAB nAB cAB) ∧ wx.cell? ⟨gab, 2, none⟩ = some (.slice aAB mAB dAB) ∧ wx.cell? ⟨gbc, 0, none⟩ = some (.bool sBC) ∧ wx.cell? ⟨gbc, 1, none⟩ = some (.slice oBC nBC cBC) ∧ wx.cell? ⟨gbc, 2, none⟩ = some (.slice aBC mBC dBC) ∧ wx.cell? ⟨gpm, 0, none⟩ = some (.bool sPM) ∧ wx.cell? ⟨gpm, 1, none⟩ = some (.slice oPM nPM cPM) ∧ wx.cell? ⟨gpm, 2, none⟩ = some (.slice aPM mPM dPM)) (first | exact ⟨zp0, zp1, zp2, zu0, zu1, zu2, zv0, zv1, zv2, zab0, zab1, zab2, zbc0, zbc1, zbc2, zpm0, zpm1, zpm2⟩ | exact put6 (by omega) (by omega) (by omega) (by omega) (by omega) (by omega) ⟨zp0, zp1, zp2, zu0, zu1, zu2, zv0, zv1, zv2, zab0, zab1, zab2, zbc0, zbc1, zbc2, zpm0, zpm1, zpm2⟩ | exact al3 ⟨zp0, zp1, zp2, zu0, zu1, zu2, zv0, zv1, zv2, zab0, zab1, zab2, zbc0, zbc1, zbc2, zpm0, zpm1, zpm2⟩ | exact put3c (by omega) (al3 ⟨zp0, zp1, zp2, zu0, zu1, zu2, zv0, zv1, zv2, zab0, zab1, zab2, zbc0, zbc1, zbc2, zpm0, zpm1, zpm2⟩)) (first
      | (go_at_call 23; (with_reducible refine (V1.out _ HBC.out).mono ?_); rintro e wr0 ⟨rfl, hb⟩; (have HBC := Lib.hid (HBC.out.step hb)); (try have F1 := Lib.hid (F1.out.below hb)); (try have F2 := Lib.hid (F2.out.below hb)); (try have F3 := Lib.hid (F3.out.below hb)); (try have F4 := Lib.hid (F4.out.below hb)); clear hb; (obtain ⟨zp0, zp1, zp2⟩ := Zp.out _ HBC.out); (obtain ⟨zu0, zu1, zu2⟩ := Zu.out _ HBC.out); (obtain ⟨zv0, zv1, zv2⟩ := Zv.out _ HBC.out); (obtain ⟨zab0, zab1, zab2⟩ := Zab.out _ HBC.out); (obtain ⟨zbc0, zbc1, zbc2⟩ := Zbc.out _ HBC.out); (obtain ⟨zpm0, zpm1, zpm2⟩ := Zpm.out _ HBC.out))
      | (go_at_call 23; (with_reducible refine (V2.out _ HBC.out).mono ?_); rintro e wr1 ⟨rfl, hb⟩; (have HBC := Lib.hid (HBC.out.step hb)); (try have F1 := Lib.hid (F1.out.below hb)); (try have F2 := Lib.hid (F2.out.below hb)); (try have F3 := Lib.hid (F3.out.below hb)); (try have F4 := Lib.hid (F4.out.below hb)); clear hb; (obtain ⟨zp0, zp1, zp2⟩ := Zp.out _ HBC.out); (obtain ⟨zu0, zu1, zu2⟩ := Zu.out _ HBC.out); (obtain ⟨zv0, zv1, zv2⟩ := Zv.out _ HBC.out); (obtain ⟨zab0, zab1, zab2⟩ := Zab.out _ HBC.out); (obtain ⟨zbc0, zbc1, zbc2⟩ := Zbc.out _ HBC.out); (obtain ⟨zpm0, zpm1, zpm2⟩ := Zpm.out _ HBC.out))
      | (go_at_call 33; (with_reducible refine (C1.out _ HBC.out).mono ?_); rintro e wr2 ⟨v2r, rfl, hb, hn⟩; (have HBC := Lib.hid (HBC.out.step hb)); (try have F1 := Lib.hid (F1.out.below hb)); (try have F2 := Lib.hid (F2.out.below hb)); (try have F3 := Lib.hid (F3.out.below hb)); (try have F4 := Lib.hid (F4.out.below hb)); (have F1 := Lib.hid hn); clear hn; clear hb; (obtain ⟨zp0, zp1, zp2⟩ := Zp.out _ HBC.out); (obtain ⟨zu0, zu1, zu2⟩ := Zu.out _ HBC.out); (obtain ⟨zv0, zv1, zv2⟩ := Zv.out _ HBC.out); (obtain ⟨zab0, zab1, zab2⟩ := Zab.out _ HBC.out); (obtain ⟨zbc0, zbc1, zbc2⟩ := Zbc.out _ HBC.out); (obtain ⟨zpm0, zpm1, zpm2⟩ := Zpm.out _ HBC.out))
      | (go_at_call 41; (with_reducible refine (C2.out _ _ HBC.out F1.out).mono ?_); rintro e wr3 ⟨rfl, hb⟩; (have HBC := Lib.hid (HBC.out.step hb)); (try have F1 := Lib.hid (F1.out.below hb)); (try have F2 := Lib.hid (F2.out.below hb)); (try have F3 := Lib.hid (F3.out.below hb)); (try have F4 := Lib.hid (F4.out.below hb)); clear hb; (obtain ⟨zp0, zp1, zp2⟩ := Zp.out _ HBC.out); (obtain ⟨zu0, zu1, zu2⟩ := Zu.out _ HBC.out); (obtain ⟨zv0, zv1, zv2⟩ := Zv.out _ HBC.out); (obtain ⟨zab0, zab1, zab2⟩ := Zab.out _ HBC.out); (obtain ⟨zbc0, zbc1, zbc2⟩ := Zbc.out _ HBC.out); (obtain ⟨zpm0, zpm1, zpm2⟩ := Zpm.out _ HBC.out))
      | (go_at_call 33; (with_reducible refine (C3.out _ HBC.out).mono ?_); rintro e wr4 ⟨v4r, rfl, hb, hn⟩; (have HBC := Lib.hid (HBC.out.step hb)); (try have F1 := Lib.hid (F1.out.below hb)); (try have F2 := Lib.hid (F2.out.below hb)); (try have F3 := Lib.hid (F3.out.below hb)); (try have F4 := Lib.hid (F4.out.below hb)); (have F2 := Lib.hid hn); clear hn; clear hb; (obtain ⟨zp0, zp1, zp2⟩ := Zp.out _ HBC.out); (obtain ⟨zu0, zu1, zu2⟩ := Zu.out _ HBC.out); (obtain ⟨zv0, zv1, zv2⟩ := Zv.out _ HBC.out); (obtain ⟨zab0, zab1, zab2⟩ := Zab.out _ HBC.out); (obtain ⟨zbc0, zbc1, zbc2⟩ := Zbc.out _ HBC.out); (obtain ⟨zpm0, zpm1, zpm2⟩ := Zpm.out _ HBC.out))
      | (go_at_call 33; (with_reducible refine (C4.out _ HBC.out).mono ?_); rintro e wr5 ⟨v5r, rfl, hb, hn⟩; (have HBC := Lib.hid (HBC.out.step hb)); (try have F1 := Lib.hid (F1.out.below hb)); (try have F2 := Lib.hid (F2.out.below hb)); (try have F3 := Lib.hid (F3.out.below hb)); (try have F4 := Lib.hid (F4.out.below hb)); (have F3 := Lib.hid hn); clear hn; clear hb; (obtain ⟨zp0, zp1, zp2⟩ := Zp.out _ HBC.out); (obtain ⟨zu0, zu1, zu2⟩ := Zu.out _ HBC.out); (obtain ⟨zv0, zv1, zv2⟩ := Zv.out _ HBC.out); (obtain ⟨zab0, zab1, zab2⟩ := Zab.out _ HBC.out); (obtain ⟨zbc0, zbc1, zbc2⟩ := Zbc.out _ HBC.out); (obtain ⟨zpm0, zpm1, zpm2⟩ := Zpm.out _ HBC.out))
      | (go_at_call 41; (with_reducible refine (C5.out _ _ _ F2.out F3.out).mono ?_); rintro e wr6 ⟨rfl, hb⟩; (have HBC := Lib.hid (HBC.out.step hb)); (try have F1 := Lib.hid (F1.out.below hb)); (try have F2 := Lib.hid (F2.out.below hb)); (try have F3 := Lib.hid (F3.out.below hb)); (try have F4 := Lib.hid (F4.out.below hb)); clear hb; (obtain ⟨zp0, zp1, zp2⟩ := Zp.out _ HBC.out); (obtain ⟨zu0, zu1, zu2⟩ := Zu.out _ HBC.out); (obtain ⟨zv0, zv1, zv2⟩ := Zv.out _ HBC.out); (obtain ⟨zab0, zab1, zab2⟩ := Zab.out _ HBC.out); (obtain ⟨zbc0, zbc1, zbc2⟩ := Zbc.out _ HBC.out); (obtain ⟨zpm0, zpm1, zpm2⟩ := Zpm.out _ HBC.out))
      | (go_at_call 35; (with_reducible refine (C6.out _ HBC.out).mono ?_); rintro e wr7 ⟨v7r, rfl, hb, hn⟩; (have HBC := Lib.hid (HBC.out.step hb)); (try have F1 := Lib.hid (F1.out.below hb)); (try have F2 := Lib.hid (F2.out.below hb)); (try have F3 := Lib.hid (F3.out.below hb)); (try have F4 := Lib.hid (F4.out.below hb)); (have F4 := Lib.hid hn); clear hn; clear hb; (obtain ⟨zp0, zp1, zp2⟩ := Zp.out _ HBC.out); (obtain ⟨zu0, zu1, zu2⟩ := Zu.out _ HBC.out); (obtain ⟨zv0, zv1, zv2⟩ := Zv.out _ HBC.out); (obtain ⟨zab0, zab1, zab2⟩ := Zab.out _ HBC.out); (obtain ⟨zbc0, zbc1, zbc2⟩ := Zbc.out _ HBC.out); (obtain ⟨zpm0, zpm1, zpm2⟩ := Zpm.out _ HBC.out))
      | (go_at_call 41; (with_reducible refine (C7.out _ _ HBC.out F4.out).mono ?_); rintro e wr8 ⟨rfl, hb⟩; (have HBC := Lib.hid (HBC.out.step hb)); (try have F1 := Lib.hid (F1.out.below hb)); (try have F2 := Lib.hid (F2.out.below hb)); (try have F3 := Lib.hid (F3.out.below hb)); (try have F4 := Lib.hid (F4.out.below hb)); clear hb; (obtain ⟨zp0, zp1, zp2⟩ := Zp.out _ HBC.out); (obtain ⟨zu0, zu1, zu2⟩ := Zu.out _ HBC.out); (obtain ⟨zv0, zv1, zv2⟩ := Zv.out _ HBC.out); (obtain ⟨zab0, zab1, zab2⟩ := Zab.out _ HBC.out); (obtain ⟨zbc0, zbc1, zbc2⟩ := Zbc.out _ HBC.out); (obtain ⟨zpm0, zpm1, zpm2⟩ := Zpm.out _ HBC.out)))
    have Fp := Lib.hid (Fp.out.below HBC.out)
    have Fu := Lib.hid (Fu.out.below HBC.out)
    have Fv := Lib.hid (Fv.out.below HBC.out)
    have AB := Lib.hid (AB.out.below HBC.out)
    have BC := Lib.hid (BC.out.below HBC.out)
    have PM := Lib.hid (PM.out.below HBC.out)
    have BXp := Lib.hid (heap_below BXp.out HBC.out)
    have BXu := Lib.hid (heap_below BXu.out HBC.out)
    have BXv := Lib.hid (heap_below BXv.out HBC.out)
    have BXab := Lib.hid (heap_below BXab.out HBC.out)
    have BXbc := Lib.hid (heap_below BXbc.out HBC.out)
    have BXpm := Lib.hid (heap_below BXpm.out HBC.out)
    have HB8 := Lib.hid (HB7.out.step HBC.out)
    have HBC := Lib.hid ((Below.refl wr8.heap.size wr8).drew)
    have hc := fun w1 (h1 : Below wr8.heap.size wr8 w1) => mulq_any _ u _ p w1 (Fu.out.below h1) (Fp.out.below h1)
    have D1 := Lib.hid hc; clear hc
    have hc := fun va w1 (h1 : Below wr8.heap.size wr8 w1) (ha : IsR w1 va (u * p)) => cmpq_any _ (p * u) va (u * p) w1 ((PM.out.below h1).is (by omega)) (ha.is (by omega)) (by omega) (by omega)
    rw [Q4.out] at hc
    have D2 := Lib.hid hc; clear hc
    have hc := fun w1 (h1 : Below wr8.heap.size wr8 w1) => mulq_any _ (p * u) _ v w1 ((PM.out.below h1).is (by omega)) (Fv.out.below h1)
    have D3 := Lib.hid hc; clear hc
    have hc := fun w1 (h1 : Below wr8.heap.size wr8 w1) => mulq_any _ u _ v w1 (Fu.out.below h1) (Fv.out.below h1)
    have D4 := Lib.hid hc; clear hc
    have hc := fun va w1 (h1 : Below wr8.heap.size wr8 w1) (ha : IsR w1 va (u * v)) => mulq_any _ p va (u * v) w1 (Fp.out.below h1) (ha.is (by omega))
    have D5 := Lib.hid hc; clear hc
    have hc := fun va vb w1 (ha : IsR w1 va (p * u * v)) (hb : IsR w1 vb (p * (u * v))) => cmpq_any va (p * u * v) vb (p * (u * v)) w1 (ha.is (by omega)) (hb.is (by omega)) (by omega) (by omega)
    rw [Q5.out] at hc
    have D6 := Lib.hid hc; clear hc
    have hc := fun w1 (h1 : Below wr8.heap.size wr8 w1) => mulq_any _ p _ (u + v) w1 (Fp.out.below h1) ((BC.out.below h1).is (by omega))
    have D7 := Lib.hid hc; clear hc
    have hc := fun w1 (h1 : Below wr8.heap.size wr8 w1) => mulq_any _ p _ v w1 (Fp.out.below h1) (Fv.out.below h1)
    have D8 := Lib.hid hc; clear hc
    have hc := fun va w1 (h1 : Below wr8.heap.size wr8 w1) (ha : IsR w1 va (p * v)) => addq_any _ (p * u) va (p * v) w1 ((PM.out.below h1).is (by omega)) (ha.is (by omega))
    have D9 := Lib.hid hc; clear hc
    have hc := fun va vb w1 (ha : IsR w1 va (p * (u + v))) (hb : IsR w1 vb (p * u + p * v)) => cmpq_any va (p * (u + v)) vb (p * u + p * v) w1 (ha.is (by omega)) (hb.is (by omega)) (by omega) (by omega)
    rw [Q6.out] at hc
    have D10 := Lib.hid hc; clear hc
    have Zp := Lib.hid (fun w1 (h1 : Below wr8.heap.size wr8 w1) => row3 (heap_below BXp.out h1))
    have Zu := Lib.hid (fun w1 (h1 : Below wr8.heap.size wr8 w1) => row3 (heap_below BXu.out h1))
    have Zv := Lib.hid (fun w1 (h1 : Below wr8.heap.size wr8 w1) => row3 (heap_below BXv.out h1))
    have Zbc := Lib.hid (fun w1 (h1 : Below wr8.heap.size wr8 w1) => row3 (heap_below BXbc.out h1))
    have Zpm := Lib.hid (fun w1 (h1 : Below wr8.heap.size wr8 w1) => row3 (heap_below BXpm.out h1))
    go_wp2_with fail
    obtain ⟨zp0, zp1, zp2⟩ := Zp.out _ HBC.out
    obtain ⟨zu0, zu1, zu2⟩ := Zu.out _ HBC.out
    obtain ⟨zv0, zv1, zv2⟩ := Zv.out _ HBC.out
    obtain ⟨zbc0, zbc1, zbc2⟩ := Zbc.out _ HBC.out
    obtain ⟨zpm0, zpm1, zpm2⟩ := Zpm.out _ HBC.out
    go_region_held3 (fun wx => wx.cell? ⟨w.heap.size, 0, none⟩ = some (.bool sp) ∧ wx.cell? ⟨w.heap.size, 1, none⟩ = some (.slice op np cp) ∧ wx.cell? ⟨w.heap.size, 2, none⟩ = some (.slice ap mp dp) ∧ wx.cell? ⟨w.heap.size + 1, 0, none⟩ = some (.bool su) ∧ wx.cell? ⟨w.heap.size + 1, 1, none⟩ = some (.slice ou nu cu) ∧ wx.cell? ⟨w.heap.size + 1, 2, none⟩ = some (.slice au mu du) ∧ wx.cell? ⟨w.heap.size + 2, 0, none⟩ = some (.bool sv) ∧ wx.cell? ⟨w.heap.size + 2, 1, none⟩ = some (.slice ov nv cv) ∧ wx.cell? ⟨w.heap.size + 2, 2, none⟩ = some (.slice av mv dv) ∧ wx.cell? ⟨gbc, 0, none⟩ = some (.bool sBC) ∧ wx.cell? ⟨gbc, 1, none⟩ = some (.slice oBC nBC cBC) ∧ wx.cell? ⟨gbc, 2, none⟩ = some (.slice aBC mBC dBC) ∧ wx.cell? ⟨gpm, 0, none⟩ = some (.bool sPM) ∧ wx.cell? ⟨gpm, 1, none⟩ = some (.slice oPM nPM cPM) ∧ wx.cell? ⟨gpm, 2, none⟩ = some (.slice aPM mPM dPM)) (first | exact ⟨zp0, zp1, zp2, zu0, zu1, zu2, zv0, zv1, zv2, zbc0, zbc1, zbc2, zpm0, zpm1, zpm2⟩ | exact put6 (by omega) (by omega) (by omega) (by omega) (by omega) ⟨zp0, zp1, zp2, zu0, zu1, zu2, zv0, zv1, zv2, zbc0, zbc1, zbc2, zpm0, zpm1, zpm2⟩ | exact al3 ⟨zp0, zp1, zp2, zu0, zu1, zu2, zv0, zv1, zv2, zbc0, zbc1, zbc2, zpm0, zpm1, zpm2⟩ | exact put3c (by omega) (al3 ⟨zp0, zp1, zp2, zu0, zu1, zu2, zv0, zv1, zv2, zbc0, zbc1, zbc2, zpm0, zpm1, zpm2⟩)) (first
      | (go_at_call 29; (with_reducible refine (D1.out _ HBC.out).mono ?_); rintro e wr2_0 ⟨v0r, rfl, hb, hn⟩; (have HBC := Lib.hid (HBC.out.step hb)); (try have G1 := Lib.hid (G1.out.below hb)); (try have G2 := Lib.hid (G2.out.below hb)); (try have G3 := Lib.hid (G3.out.below hb)); (try have G4 := Lib.hid (G4.out.below hb)); (try have G5 := Lib.hid (G5.out.below hb)); (try have G6 := Lib.hid (G6.out.below hb)); (try have G7 := Lib.hid (G7.out.below hb)); (have G1 := Lib.hid hn); clear hn; clear hb; (obtain ⟨zp0, zp1, zp2⟩ := Zp.out _ HBC.out); (obtain ⟨zu0, zu1, zu2⟩ := Zu.out _ HBC.out); (obtain ⟨zv0, zv1, zv2⟩ := Zv.out _ HBC.out); (obtain ⟨zbc0, zbc1, zbc2⟩ := Zbc.out _ HBC.out); (obtain ⟨zpm0, zpm1, zpm2⟩ := Zpm.out _ HBC.out))
      | (go_at_call 41; (with_reducible refine (D2.out _ _ HBC.out G1.out).mono ?_); rintro e wr2_1 ⟨rfl, hb⟩; (have HBC := Lib.hid (HBC.out.step hb)); (try have G1 := Lib.hid (G1.out.below hb)); (try have G2 := Lib.hid (G2.out.below hb)); (try have G3 := Lib.hid (G3.out.below hb)); (try have G4 := Lib.hid (G4.out.below hb)); (try have G5 := Lib.hid (G5.out.below hb)); (try have G6 := Lib.hid (G6.out.below hb)); (try have G7 := Lib.hid (G7.out.below hb)); clear hb; (obtain ⟨zp0, zp1, zp2⟩ := Zp.out _ HBC.out); (obtain ⟨zu0, zu1, zu2⟩ := Zu.out _ HBC.out); (obtain ⟨zv0, zv1, zv2⟩ := Zv.out _ HBC.out); (obtain ⟨zbc0, zbc1, zbc2⟩ := Zbc.out _ HBC.out); (obtain ⟨zpm0, zpm1, zpm2⟩ := Zpm.out _ HBC.out))
      | (go_at_call 29; (with_reducible refine (D3.out _ HBC.out).mono ?_); rintro e wr2_2 ⟨v2r, rfl, hb, hn⟩; (have HBC := Lib.hid (HBC.out.step hb)); (try have G1 := Lib.hid (G1.out.below hb)); (try have G2 := Lib.hid (G2.out.below hb)); (try have G3 := Lib.hid (G3.out.below hb)); (try have G4 := Lib.hid (G4.out.below hb)); (try have G5 := Lib.hid (G5.out.below hb)); (try have G6 := Lib.hid (G6.out.below hb)); (try have G7 := Lib.hid (G7.out.below hb)); (have G2 := Lib.hid hn); clear hn; clear hb; (obtain ⟨zp0, zp1, zp2⟩ := Zp.out _ HBC.out); (obtain ⟨zu0, zu1, zu2⟩ := Zu.out _ HBC.out); (obtain ⟨zv0, zv1, zv2⟩ := Zv.out _ HBC.out); (obtain ⟨zbc0, zbc1, zbc2⟩ := Zbc.out _ HBC.out); (obtain ⟨zpm0, zpm1, zpm2⟩ := Zpm.out _ HBC.out))
      | (go_at_call 29; (with_reducible refine (D4.out _ HBC.out).mono ?_); rintro e wr2_3 ⟨v3r, rfl, hb, hn⟩; (have HBC := Lib.hid (HBC.out.step hb)); (try have G1 := Lib.hid (G1.out.below hb)); (try have G2 := Lib.hid (G2.out.below hb)); (try have G3 := Lib.hid (G3.out.below hb)); (try have G4 := Lib.hid (G4.out.below hb)); (try have G5 := Lib.hid (G5.out.below hb)); (try have G6 := Lib.hid (G6.out.below hb)); (try have G7 := Lib.hid (G7.out.below hb)); (have G3 := Lib.hid hn); clear hn; clear hb; (obtain ⟨zp0, zp1, zp2⟩ := Zp.out _ HBC.out); (obtain ⟨zu0, zu1, zu2⟩ := Zu.out _ HBC.out); (obtain ⟨zv0, zv1, zv2⟩ := Zv.out _ HBC.out); (obtain ⟨zbc0, zbc1, zbc2⟩ := Zbc.out _ HBC.out); (obtain ⟨zpm0, zpm1, zpm2⟩ := Zpm.out _ HBC.out))
      | (go_at_call 29; (with_reducible refine (D5.out _ _ HBC.out G3.out).mono ?_); rintro e wr2_4 ⟨v4r, rfl, hb, hn⟩; (have HBC := Lib.hid (HBC.out.step hb)); (try have G1 := Lib.hid (G1.out.below hb)); (try have G2 := Lib.hid (G2.out.below hb)); (try have G3 := Lib.hid (G3.out.below hb)); (try have G4 := Lib.hid (G4.out.below hb)); (try have G5 := Lib.hid (G5.out.below hb)); (try have G6 := Lib.hid (G6.out.below hb)); (try have G7 := Lib.hid (G7.out.below hb)); (have G4 := Lib.hid hn); clear hn; clear hb; (obtain ⟨zp0, zp1, zp2⟩ := Zp.out _ HBC.out); (obtain ⟨zu0, zu1, zu2⟩ := Zu.out _ HBC.out); (obtain ⟨zv0, zv1, zv2⟩ := Zv.out _ HBC.out); (obtain ⟨zbc0, zbc1, zbc2⟩ := Zbc.out _ HBC.out); (obtain ⟨zpm0, zpm1, zpm2⟩ := Zpm.out _ HBC.out))
      | (go_at_call 41; (with_reducible refine (D6.out _ _ _ G2.out G4.out).mono ?_); rintro e wr2_5 ⟨rfl, hb⟩; (have HBC := Lib.hid (HBC.out.step hb)); (try have G1 := Lib.hid (G1.out.below hb)); (try have G2 := Lib.hid (G2.out.below hb)); (try have G3 := Lib.hid (G3.out.below hb)); (try have G4 := Lib.hid (G4.out.below hb)); (try have G5 := Lib.hid (G5.out.below hb)); (try have G6 := Lib.hid (G6.out.below hb)); (try have G7 := Lib.hid (G7.out.below hb)); clear hb; (obtain ⟨zp0, zp1, zp2⟩ := Zp.out _ HBC.out); (obtain ⟨zu0, zu1, zu2⟩ := Zu.out _ HBC.out); (obtain ⟨zv0, zv1, zv2⟩ := Zv.out _ HBC.out); (obtain ⟨zbc0, zbc1, zbc2⟩ := Zbc.out _ HBC.out); (obtain ⟨zpm0, zpm1, zpm2⟩ := Zpm.out _ HBC.out))
      | (go_at_call 29; (with_reducible refine (D7.out _ HBC.out).mono ?_); rintro e wr2_6 ⟨v6r, rfl, hb, hn⟩; (have HBC := Lib.hid (HBC.out.step hb)); (try have G1 := Lib.hid (G1.out.below hb)); (try have G2 := Lib.hid (G2.out.below hb)); (try have G3 := Lib.hid (G3.out.below hb)); (try have G4 := Lib.hid (G4.out.below hb)); (try have G5 := Lib.hid (G5.out.below hb)); (try have G6 := Lib.hid (G6.out.below hb)); (try have G7 := Lib.hid (G7.out.below hb)); (have G5 := Lib.hid hn); clear hn; clear hb; (obtain ⟨zp0, zp1, zp2⟩ := Zp.out _ HBC.out); (obtain ⟨zu0, zu1, zu2⟩ := Zu.out _ HBC.out); (obtain ⟨zv0, zv1, zv2⟩ := Zv.out _ HBC.out); (obtain ⟨zbc0, zbc1, zbc2⟩ := Zbc.out _ HBC.out); (obtain ⟨zpm0, zpm1, zpm2⟩ := Zpm.out _ HBC.out))
      | (go_at_call 29; (with_reducible refine (D8.out _ HBC.out).mono ?_); rintro e wr2_7 ⟨v7r, rfl, hb, hn⟩; (have HBC := Lib.hid (HBC.out.step hb)); (try have G1 := Lib.hid (G1.out.below hb)); (try have G2 := Lib.hid (G2.out.below hb)); (try have G3 := Lib.hid (G3.out.below hb)); (try have G4 := Lib.hid (G4.out.below hb)); (try have G5 := Lib.hid (G5.out.below hb)); (try have G6 := Lib.hid (G6.out.below hb)); (try have G7 := Lib.hid (G7.out.below hb)); (have G6 := Lib.hid hn); clear hn; clear hb; (obtain ⟨zp0, zp1, zp2⟩ := Zp.out _ HBC.out); (obtain ⟨zu0, zu1, zu2⟩ := Zu.out _ HBC.out); (obtain ⟨zv0, zv1, zv2⟩ := Zv.out _ HBC.out); (obtain ⟨zbc0, zbc1, zbc2⟩ := Zbc.out _ HBC.out); (obtain ⟨zpm0, zpm1, zpm2⟩ := Zpm.out _ HBC.out))
      | (go_at_call 33; (with_reducible refine (D9.out _ _ HBC.out G6.out).mono ?_); rintro e wr2_8 ⟨v8r, rfl, hb, hn⟩; (have HBC := Lib.hid (HBC.out.step hb)); (try have G1 := Lib.hid (G1.out.below hb)); (try have G2 := Lib.hid (G2.out.below hb)); (try have G3 := Lib.hid (G3.out.below hb)); (try have G4 := Lib.hid (G4.out.below hb)); (try have G5 := Lib.hid (G5.out.below hb)); (try have G6 := Lib.hid (G6.out.below hb)); (try have G7 := Lib.hid (G7.out.below hb)); (have G7 := Lib.hid hn); clear hn; clear hb; (obtain ⟨zp0, zp1, zp2⟩ := Zp.out _ HBC.out); (obtain ⟨zu0, zu1, zu2⟩ := Zu.out _ HBC.out); (obtain ⟨zv0, zv1, zv2⟩ := Zv.out _ HBC.out); (obtain ⟨zbc0, zbc1, zbc2⟩ := Zbc.out _ HBC.out); (obtain ⟨zpm0, zpm1, zpm2⟩ := Zpm.out _ HBC.out))
      | (go_at_call 41; (with_reducible refine (D10.out _ _ _ G5.out G7.out).mono ?_); rintro e wr2_9 ⟨rfl, hb⟩; (have HBC := Lib.hid (HBC.out.step hb)); (try have G1 := Lib.hid (G1.out.below hb)); (try have G2 := Lib.hid (G2.out.below hb)); (try have G3 := Lib.hid (G3.out.below hb)); (try have G4 := Lib.hid (G4.out.below hb)); (try have G5 := Lib.hid (G5.out.below hb)); (try have G6 := Lib.hid (G6.out.below hb)); (try have G7 := Lib.hid (G7.out.below hb)); clear hb; (obtain ⟨zp0, zp1, zp2⟩ := Zp.out _ HBC.out); (obtain ⟨zu0, zu1, zu2⟩ := Zu.out _ HBC.out); (obtain ⟨zv0, zv1, zv2⟩ := Zv.out _ HBC.out); (obtain ⟨zbc0, zbc1, zbc2⟩ := Zbc.out _ HBC.out); (obtain ⟨zpm0, zpm1, zpm2⟩ := Zpm.out _ HBC.out)))
    have Fp := Lib.hid (Fp.out.below HBC.out)
    have Fu := Lib.hid (Fu.out.below HBC.out)
    have Fv := Lib.hid (Fv.out.below HBC.out)
    have AB := Lib.hid (AB.out.below HBC.out)
    have BC := Lib.hid (BC.out.below HBC.out)
    have PM := Lib.hid (PM.out.below HBC.out)
    have BXp := Lib.hid (heap_below BXp.out HBC.out)
    have BXu := Lib.hid (heap_below BXu.out HBC.out)
    have BXv := Lib.hid (heap_below BXv.out HBC.out)
    have BXab := Lib.hid (heap_below BXab.out HBC.out)
    have BXbc := Lib.hid (heap_below BXbc.out HBC.out)
    have BXpm := Lib.hid (heap_below BXpm.out HBC.out)
    have HB9 := Lib.hid (HB8.out.step HBC.out)
    have hs := divq_any _ (p * u) _ u wr2_9 (PM.out.is (by omega)) Fu.out
    rw [Q7.out, errV_pos (by decide)] at hs
    have HS := Lib.hid hs; clear hs
    obtain ⟨epm0, epm1, epm2⟩ := row3 BXpm.out
    obtain ⟨eu0, eu1, eu2⟩ := row3 BXu.out
    go_wp2_with fail
    clear epm0 epm1 epm2 eu0 eu1 eu2
    (with_reducible refine HS.out.mono ?_); rintro e w10 ⟨v10, rfl, hb10, hn10⟩
    clear HS
    have HB10 := Lib.hid (HB9.out.step hb10)
    have Fp := Lib.hid (Fp.out.below hb10)
    have Fu := Lib.hid (Fu.out.below hb10)
    have Fv := Lib.hid (Fv.out.below hb10)
    have AB := Lib.hid (AB.out.below hb10)
    have BC := Lib.hid (BC.out.below hb10)
    have PM := Lib.hid (PM.out.below hb10)
    have BXp := Lib.hid (heap_below BXp.out hb10)
    have BXu := Lib.hid (heap_below BXu.out hb10)
    have BXv := Lib.hid (heap_below BXv.out hb10)
    have BXab := Lib.hid (heap_below BXab.out hb10)
    have BXbc := Lib.hid (heap_below BXbc.out hb10)
    have BXpm := Lib.hid (heap_below BXpm.out hb10)
    have QD := Lib.hid hn10; clear hn10
    clear hb10
    obtain ⟨sQD, oQD, nQD, cQD, aQD, mQD, dQD, rfl⟩ := QD.out.shape
    obtain ⟨w11, hw11⟩ : ∃ w11, w11 = w10.alloc (.cells #[.bool sQD, .slice oQD nQD cQD, .slice aQD mQD dQD] 24) := ⟨_, rfl⟩
    have hb11 : Below w10.heap.size w10 w11 := by rw [hw11]; exact (Below.refl _ _).alloc (Nat.le_refl _) _
    have hxq := heap_alloc_new w10 (.cells #[.bool sQD, .slice oQD nQD cQD, .slice aQD mQD dQD] 24)
    obtain ⟨gq, hgq⟩ : ∃ gq, gq = w10.heap.size := ⟨_, rfl⟩
    rw [← hw11, ← hgq] at hxq
    have HW11 := Lib.hid hw11; have HGq := Lib.hid hgq; clear hw11 hgq
    have HB11 := Lib.hid (HB10.out.step hb11)
    have Fp := Lib.hid (Fp.out.below hb11)
    have Fu := Lib.hid (Fu.out.below hb11)
    have Fv := Lib.hid (Fv.out.below hb11)
    have AB := Lib.hid (AB.out.below hb11)
    have BC := Lib.hid (BC.out.below hb11)
    have PM := Lib.hid (PM.out.below hb11)
    have QD := Lib.hid (QD.out.below hb11)
    have BXp := Lib.hid (heap_below BXp.out hb11)
    have BXu := Lib.hid (heap_below BXu.out hb11)
    have BXv := Lib.hid (heap_below BXv.out hb11)
    have BXab := Lib.hid (heap_below BXab.out hb11)
    have BXbc := Lib.hid (heap_below BXbc.out hb11)
    have BXpm := Lib.hid (heap_below BXpm.out hb11)
    clear hb11
    have BXq := Lib.hid hxq; clear hxq
    have hs := sign_any _ u w11 Fu.out
    rw [Q8.out] at hs
    have HS := Lib.hid hs; clear hs
    obtain ⟨eu0, eu1, eu2⟩ := row3 BXu.out
    rw [HW11.out] at eu0
    rw [HW11.out] at eu1
    rw [HW11.out] at eu2
    go_wp2_with fail
    rw [← HW11.out]
    try rw [← HGq.out]
    clear eu0 eu1 eu2
    (with_reducible refine HS.out.mono ?_); rintro e w12 ⟨rfl, hb12⟩
    clear HS
    have HB12 := Lib.hid (HB11.out.step hb12)
    have Fp := Lib.hid (Fp.out.below hb12)
    have Fu := Lib.hid (Fu.out.below hb12)
    have Fv := Lib.hid (Fv.out.below hb12)
    have AB := Lib.hid (AB.out.below hb12)
    have BC := Lib.hid (BC.out.below hb12)
    have PM := Lib.hid (PM.out.below hb12)
    have QD := Lib.hid (QD.out.below hb12)
    have BXp := Lib.hid (heap_below BXp.out hb12)
    have BXu := Lib.hid (heap_below BXu.out hb12)
    have BXv := Lib.hid (heap_below BXv.out hb12)
    have BXab := Lib.hid (heap_below BXab.out hb12)
    have BXbc := Lib.hid (heap_below BXbc.out hb12)
    have BXpm := Lib.hid (heap_below BXpm.out hb12)
    have BXq := Lib.hid (heap_below BXq.out hb12)
    clear hb12
    have hs := is_any 8 8 8 w12 rfl (by decide)
    rw [decide_eq_true rfl, errV_pos (by decide), show ((8 : Nat) : Int) = 8 from rfl] at hs
    have HS := Lib.hid hs; clear hs
    go_wp2_with fail
    (with_reducible refine HS.out.mono ?_); rintro e wx ⟨rfl, rfl⟩
    clear HS
    have hs := sign_any _ (p * u) w12 (PM.out.is (by omega))
    rw [Q9.out] at hs
    have HS := Lib.hid hs; clear hs
    obtain ⟨epm0, epm1, epm2⟩ := row3 BXpm.out
    go_wp2_with fail
    clear epm0 epm1 epm2
    (with_reducible refine HS.out.mono ?_); rintro e w14 ⟨rfl, hb14⟩
    clear HS
    have HB14 := Lib.hid (HB12.out.step hb14)
    have Fp := Lib.hid (Fp.out.below hb14)
    have Fu := Lib.hid (Fu.out.below hb14)
    have Fv := Lib.hid (Fv.out.below hb14)
    have AB := Lib.hid (AB.out.below hb14)
    have BC := Lib.hid (BC.out.below hb14)
    have PM := Lib.hid (PM.out.below hb14)
    have QD := Lib.hid (QD.out.below hb14)
    have BXp := Lib.hid (heap_below BXp.out hb14)
    have BXu := Lib.hid (heap_below BXu.out hb14)
    have BXv := Lib.hid (heap_below BXv.out hb14)
    have BXab := Lib.hid (heap_below BXab.out hb14)
    have BXbc := Lib.hid (heap_below BXbc.out hb14)
    have BXpm := Lib.hid (heap_below BXpm.out hb14)
    have BXq := Lib.hid (heap_below BXq.out hb14)
    clear hb14
    go_wp2_with fail
    go_ret
    exact ⟨by first | rfl | (simp; done), HB14.out⟩
set_option maxRecDepth 100000 in
set_option maxHeartbeats 12800000 in
theorem field_small1 (vp : Value) (p : Rat) (vu : Value) (u : Rat) (vv : Value) (v : Rat) (w : World) (hp : RatIs w vp p) (hu : RatIs w vu u) (hv : RatIs w vv v) (lp : rl p ≤ 12) (zp : (szR vp).1 ≤ 12 ∧ (szR vp).2 ≤ 12) (lu : rl u ≤ 12) (zu : (szR vu).1 ≤ 12 ∧ (szR vu).2 ≤ 12) (lv : rl v ≤ 12) (zv : (szR vv).1 ≤ 12 ∧ (szR vv).2 ≤ 12) (h0 : u ≠ 0) :
    Calls Tryd.prog 9 #[vp, vu, vv] w (RetV w (.bool true)) := by
  obtain ⟨sp, op, np, cp, ap, mp, dp, rfl⟩ := hp.shape
  have hlp := hp.rl
  obtain ⟨su, ou, nu, cu, au, mu, du, rfl⟩ := hu.shape
  have hlu := hu.rl
  obtain ⟨sv, ov, nv, cv, av, mv, dv, rfl⟩ := hv.shape
  have hlv := hv.rl
  have k1 := rl_add p u; have k2 := rl_add u v; have k3 := rl_mul p u; have k4 := rl_add u p; have k5 := rl_add (p + u) v; have k6 := rl_add p (u + v); have k7 := rl_sub (p + u) u
  have k8 := rl_mul u p; have k9 := rl_mul (p * u) v; have k10 := rl_mul u v; have k11 := rl_mul p (u * v); have k12 := rl_mul p (u + v); have k13 := rl_mul p v; have k14 := rl_add (p * u) (p * v); have k15 := rl_div' (p * u) u
  have Q1 : Hid (cq (p + u) (u + p) = 0) := Lib.hid (cq_self (Rat.add_comm p u))
  have Q2 : Hid (cq (p + u + v) (p + (u + v)) = 0) := Lib.hid (cq_self (Rat.add_assoc p u v))
  have Q3 : Hid (cq (p + u - u) p = 0) := Lib.hid (cq_self (by grind))
  have Q4 : Hid (cq (p * u) (u * p) = 0) := Lib.hid (cq_self (Rat.mul_comm p u))
  have Q5 : Hid (cq (p * u * v) (p * (u * v)) = 0) := Lib.hid (cq_self (Rat.mul_assoc p u v))
  have Q6 : Hid (cq (p * (u + v)) (p * u + p * v) = 0) := Lib.hid (cq_self (Rat.mul_add p u v))
  have q7 : dc u = 0 := by unfold dc; rw [if_neg h0]
  have Q9 : Hid (cq (p * u / u) p = 0) := Lib.hid (cq_self (by grind))
  obtain ⟨s, hs⟩ : ∃ s, s = sg u := ⟨_, rfl⟩
  have sz := sg_ne h0; rw [← hs] at sz
  have HS0 := Lib.hid hs; have Q7 := Lib.hid q7; clear q7 h0 hs
  have hb0 := ((((Below.refl w.heap.size w).alloc (by first | (simp; done) | (simp; omega)) (.cells #[.bool sp, .slice op np cp, .slice ap mp dp] 24)).alloc (by first | (simp; done) | (simp; omega)) (.cells #[.bool su, .slice ou nu cu, .slice au mu du] 24)).alloc (by first | (simp; done) | (simp; omega)) (.cells #[.bool sv, .slice ov nv cv, .slice av mv dv] 24))
  have hxp := nest3_0 w (.cells #[.bool sp, .slice op np cp, .slice ap mp dp] 24) (.cells #[.bool su, .slice ou nu cu, .slice au mu du] 24) (.cells #[.bool sv, .slice ov nv cv, .slice av mv dv] 24)
  have hxu := nest3_1 w (.cells #[.bool sp, .slice op np cp, .slice ap mp dp] 24) (.cells #[.bool su, .slice ou nu cu, .slice au mu du] 24) (.cells #[.bool sv, .slice ov nv cv, .slice av mv dv] 24)
  have hxv := nest3_2 w (.cells #[.bool sp, .slice op np cp, .slice ap mp dp] 24) (.cells #[.bool su, .slice ou nu cu, .slice au mu du] 24) (.cells #[.bool sv, .slice ov nv cv, .slice av mv dv] 24)
  have hpp := hp.below hb0
  have hpu := hu.below hb0
  have hpv := hv.below hb0
  obtain ⟨w0, hw0⟩ : ∃ w0, w0 = (((w.alloc (.cells #[.bool sp, .slice op np cp, .slice ap mp dp] 24)).alloc (.cells #[.bool su, .slice ou nu cu, .slice au mu du] 24)).alloc (.cells #[.bool sv, .slice ov nv cv, .slice av mv dv] 24)) := ⟨_, rfl⟩
  rw [← hw0] at hb0 hxp hxu hxv hpp hpu hpv
  have HB0 := Lib.hid hb0; have HW0 := Lib.hid hw0
  have BXp := Lib.hid hxp
  have BXu := Lib.hid hxu
  have BXv := Lib.hid hxv
  have Fp := Lib.hid hpp
  have Fu := Lib.hid hpu
  have Fv := Lib.hid hpv
  clear hb0 hw0 hxp hxu hxv hpp hp hpu hu hpv hv
  have zzp : np ≤ 12 ∧ mp ≤ 12 := zp; clear zp
  have _lp := lp
  have zzu : nu ≤ 12 ∧ mu ≤ 12 := zu; clear zu
  have _lu := lu
  have zzv : nv ≤ 12 ∧ mv ≤ 12 := zv; clear zv
  have _lv := lv
  go_enter Tryd.func9, Tryd.ntmps9
  have hs := awake02 w0
  have HS := Lib.hid hs; clear hs
  go_wp2_with fail
  rw [← HW0.out]
  (with_reducible refine HS.out.mono ?_); rintro e w1 ⟨rfl, hb1⟩
  clear HS
  have HB1 := Lib.hid (HB0.out.step hb1)
  have Fp := Lib.hid (Fp.out.below hb1)
  have Fu := Lib.hid (Fu.out.below hb1)
  have Fv := Lib.hid (Fv.out.below hb1)
  have BXp := Lib.hid (heap_below BXp.out hb1)
  have BXu := Lib.hid (heap_below BXu.out hb1)
  have BXv := Lib.hid (heap_below BXv.out hb1)
  clear hb1
  obtain ⟨ep0, ep1, ep2⟩ := row3 BXp.out
  obtain ⟨eu0, eu1, eu2⟩ := row3 BXu.out
  obtain ⟨ev0, ev1, ev2⟩ := row3 BXv.out
  obtain ⟨w2, hw2⟩ : ∃ w2, w2 = w1.alloc (.cells #[.bool sp, .slice op np cp, .slice ap mp dp, .bool su, .slice ou nu cu, .slice au mu du, .bool sv, .slice ov nv cv, .slice av mv dv] 24) := ⟨_, rfl⟩
  have hb2 : Below w1.heap.size w1 w2 := by rw [hw2]; exact (Below.refl _ _).alloc (Nat.le_refl _) _
  have hxLS := heap_alloc_new w1 (.cells #[.bool sp, .slice op np cp, .slice ap mp dp, .bool su, .slice ou nu cu, .slice au mu du, .bool sv, .slice ov nv cv, .slice av mv dv] 24)
  obtain ⟨gLS, hgLS⟩ : ∃ gLS, gLS = w1.heap.size := ⟨_, rfl⟩
  rw [← hw2, ← hgLS] at hxLS
  have HW2 := Lib.hid hw2; have HGLS := Lib.hid hgLS; clear hw2 hgLS
  have HB2 := Lib.hid (HB1.out.step hb2)
  have Fp := Lib.hid (Fp.out.below hb2)
  have Fu := Lib.hid (Fu.out.below hb2)
  have Fv := Lib.hid (Fv.out.below hb2)
  have BXp := Lib.hid (heap_below BXp.out hb2)
  have BXu := Lib.hid (heap_below BXu.out hb2)
  have BXv := Lib.hid (heap_below BXv.out hb2)
  clear hb2
  have BXLS := Lib.hid hxLS; clear hxLS
  have hs := rlarge3s BXLS.out zzp zzu zzv
  have HS := Lib.hid hs; clear hs
  go_wp2_with fail
  rw [← HW2.out]
  try rw [← HGLS.out]
  (with_reducible refine HS.out.mono ?_); rintro e w3 ⟨rfl, hb3⟩
  clear HS
  have HB3 := Lib.hid (HB2.out.step hb3)
  have Fp := Lib.hid (Fp.out.below hb3)
  have Fu := Lib.hid (Fu.out.below hb3)
  have Fv := Lib.hid (Fv.out.below hb3)
  have BXp := Lib.hid (heap_below BXp.out hb3)
  have BXu := Lib.hid (heap_below BXu.out hb3)
  have BXv := Lib.hid (heap_below BXv.out hb3)
  clear hb3
  clear BXLS
  go_wp2_with fail
  have lwp := below_lt BXp.out
  have lwu := below_lt BXu.out
  have lwv := below_lt BXv.out
  refine wp_region_facts (w := w3) 12 [] (by kernel_rfl) (Fl [KEq (.agg #[.bool sp, .slice op np cp, .slice ap mp dp]), KEq (.agg #[.bool su, .slice ou nu cu, .slice au mu du]), KIs (p + u), KEq (.agg #[.bool su, .slice ou nu cu, .slice au mu du]), KEq (.agg #[.bool sv, .slice ov nv cv, .slice av mv dv]), KIs (u + v), KEq (.agg #[.bool sp, .slice op np cp, .slice ap mp dp]), KEq (.agg #[.bool su, .slice ou nu cu, .slice au mu du]), KIs (p * u), KBox w3.heap.size, KBox w3.heap.size, KBox w3.heap.size]) (fun i => i == 9 || i == 10 || i == 11) (by kernel_rfl) (fun _ _ _ _ _ h => h) (monoL (monoC (kEq _) (monoC (kEq _) (monoC (kIs _) (monoC (kEq _) (monoC (kEq _) (monoC (kIs _) (monoC (kEq _) (monoC (kEq _) (monoC (kIs _) (monoC (kBox _) (monoC (kBox _) (monoC (kBox _) monoN))))))))))))) ?st3 ?tl3
  case st3 =>
    simp only [List.take_succ_cons, List.take_zero]
    refine stepsOK_cons rfl ?_ (stepsOK_cons rfl ?_ (stepsOK_cons rfl ?_ (stepsOK_cons rfl ?_ (stepsOK_cons rfl ?_ (stepsOK_cons rfl ?_ (stepsOK_cons rfl ?_ (stepsOK_cons rfl ?_ (stepsOK_cons rfl ?_ (stepsOK_cons rfl ?_ (stepsOK_cons rfl ?_ (stepsOK_cons rfl ?_ (stepsOK_nil))))))))))))
    · intro vals w1 hb hd
      simp only [putsTo, dstOf, if_true, Act.put, List.setIfInBounds_toArray, List.set_cons_zero, List.set_cons_succ, List.getElem?_toArray, List.getElem?_cons_zero, List.getElem?_cons_succ, Option.bind_some]
      obtain ⟨e0, e1, e2⟩ := row3 (heap_below BXp.out hb)
      refine stepOK_value (v := .agg #[.bool sp, .slice op np cp, .slice ap mp dp]) (w' := w1) (by go_simp) (leaves_mk (Below.refl _ _) rfl (fun h => by cases h))
    · intro vals w1 hb hd
      simp only [putsTo, dstOf, if_true, Act.put, List.setIfInBounds_toArray, List.set_cons_zero, List.set_cons_succ, List.getElem?_toArray, List.getElem?_cons_zero, List.getElem?_cons_succ, Option.bind_some]
      obtain ⟨e0, e1, e2⟩ := row3 (heap_below BXu.out hb)
      refine stepOK_value (v := .agg #[.bool su, .slice ou nu cu, .slice au mu du]) (w' := w1) (by go_simp) (leaves_mk (Below.refl _ _) rfl (fun h => by cases h))
    · intro vals w1 hb hd
      have d0 : KEq (.agg #[.bool sp, .slice op np cp, .slice ap mp dp]) (vals 0) w1 := hd 0 (by kernel_rfl)
      have r0 : RatIs w1 (vals 0) (p) := by rw [show vals 0 = _ from d0]; exact Fp.out.below hb
      have d1 : KEq (.agg #[.bool su, .slice ou nu cu, .slice au mu du]) (vals 1) w1 := hd 1 (by kernel_rfl)
      have r1 : RatIs w1 (vals 1) (u) := by rw [show vals 1 = _ from d1]; exact Fu.out.below hb
      simp only [putsTo, dstOf, if_true, Act.put, List.setIfInBounds_toArray, List.set_cons_zero, List.set_cons_succ, List.getElem?_toArray, List.getElem?_cons_zero, List.getElem?_cons_succ, Option.bind_some]
      have hs := addq_any _ _ _ _ w1 r0 r1
      have HS := Lib.hid hs; clear hs
      clear d0 d1 hd
      refine stepOK_call (by go_simp; first | done | exact ⟨⟨rfl, rfl⟩, rfl⟩) ?_
      (with_reducible refine HS.out.mono ?_); rintro e w2 ⟨v, rfl, hb2, hn⟩
      exact ⟨v, rfl, leaves_mk hb2 hn (fun h => by cases h)⟩
    · intro vals w1 hb hd
      simp only [putsTo, dstOf, if_true, Act.put, List.setIfInBounds_toArray, List.set_cons_zero, List.set_cons_succ, List.getElem?_toArray, List.getElem?_cons_zero, List.getElem?_cons_succ, Option.bind_some]
      obtain ⟨e0, e1, e2⟩ := row3 (heap_below BXu.out hb)
      refine stepOK_value (v := .agg #[.bool su, .slice ou nu cu, .slice au mu du]) (w' := w1) (by go_simp) (leaves_mk (Below.refl _ _) rfl (fun h => by cases h))
    · intro vals w1 hb hd
      simp only [putsTo, dstOf, if_true, Act.put, List.setIfInBounds_toArray, List.set_cons_zero, List.set_cons_succ, List.getElem?_toArray, List.getElem?_cons_zero, List.getElem?_cons_succ, Option.bind_some]
      obtain ⟨e0, e1, e2⟩ := row3 (heap_below BXv.out hb)
      refine stepOK_value (v := .agg #[.bool sv, .slice ov nv cv, .slice av mv dv]) (w' := w1) (by go_simp) (leaves_mk (Below.refl _ _) rfl (fun h => by cases h))
    · intro vals w1 hb hd
      have d3 : KEq (.agg #[.bool su, .slice ou nu cu, .slice au mu du]) (vals 3) w1 := hd 3 (by kernel_rfl)
      have r3 : RatIs w1 (vals 3) (u) := by rw [show vals 3 = _ from d3]; exact Fu.out.below hb
      have d4 : KEq (.agg #[.bool sv, .slice ov nv cv, .slice av mv dv]) (vals 4) w1 := hd 4 (by kernel_rfl)
      have r4 : RatIs w1 (vals 4) (v) := by rw [show vals 4 = _ from d4]; exact Fv.out.below hb
      simp only [putsTo, dstOf, if_true, Act.put, List.setIfInBounds_toArray, List.set_cons_zero, List.set_cons_succ, List.getElem?_toArray, List.getElem?_cons_zero, List.getElem?_cons_succ, Option.bind_some]
      have hs := addq_any _ _ _ _ w1 r3 r4
      have HS := Lib.hid hs; clear hs
      clear d3 d4 hd
      refine stepOK_call (by go_simp; first | done | exact ⟨⟨rfl, rfl⟩, rfl⟩) ?_
      (with_reducible refine HS.out.mono ?_); rintro e w2 ⟨v, rfl, hb2, hn⟩
      exact ⟨v, rfl, leaves_mk hb2 hn (fun h => by cases h)⟩
    · intro vals w1 hb hd
      simp only [putsTo, dstOf, if_true, Act.put, List.setIfInBounds_toArray, List.set_cons_zero, List.set_cons_succ, List.getElem?_toArray, List.getElem?_cons_zero, List.getElem?_cons_succ, Option.bind_some]
      obtain ⟨e0, e1, e2⟩ := row3 (heap_below BXp.out hb)
      refine stepOK_value (v := .agg #[.bool sp, .slice op np cp, .slice ap mp dp]) (w' := w1) (by go_simp) (leaves_mk (Below.refl _ _) rfl (fun h => by cases h))
    · intro vals w1 hb hd
      simp only [putsTo, dstOf, if_true, Act.put, List.setIfInBounds_toArray, List.set_cons_zero, List.set_cons_succ, List.getElem?_toArray, List.getElem?_cons_zero, List.getElem?_cons_succ, Option.bind_some]
      obtain ⟨e0, e1, e2⟩ := row3 (heap_below BXu.out hb)
      refine stepOK_value (v := .agg #[.bool su, .slice ou nu cu, .slice au mu du]) (w' := w1) (by go_simp) (leaves_mk (Below.refl _ _) rfl (fun h => by cases h))
    · intro vals w1 hb hd
      have d6 : KEq (.agg #[.bool sp, .slice op np cp, .slice ap mp dp]) (vals 6) w1 := hd 6 (by kernel_rfl)
      have r6 : RatIs w1 (vals 6) (p) := by rw [show vals 6 = _ from d6]; exact Fp.out.below hb
      have d7 : KEq (.agg #[.bool su, .slice ou nu cu, .slice au mu du]) (vals 7) w1 := hd 7 (by kernel_rfl)
      have r7 : RatIs w1 (vals 7) (u) := by rw [show vals 7 = _ from d7]; exact Fu.out.below hb
      simp only [putsTo, dstOf, if_true, Act.put, List.setIfInBounds_toArray, List.set_cons_zero, List.set_cons_succ, List.getElem?_toArray, List.getElem?_cons_zero, List.getElem?_cons_succ, Option.bind_some]
      have hs := mulq_any _ _ _ _ w1 r6 r7
      have HS := Lib.hid hs; clear hs
      clear d6 d7 hd
      refine stepOK_call (by go_simp; first | done | exact ⟨⟨rfl, rfl⟩, rfl⟩) ?_
      (with_reducible refine HS.out.mono ?_); rintro e w2 ⟨v, rfl, hb2, hn⟩
      exact ⟨v, rfl, leaves_mk hb2 hn (fun h => by cases h)⟩
    · intro vals w1 hb hd
      simp only [putsTo, dstOf, if_true, Act.put, List.setIfInBounds_toArray, List.set_cons_zero, List.set_cons_succ, List.getElem?_toArray, List.getElem?_cons_zero, List.getElem?_cons_succ, Option.bind_some]
      refine stepOK_value (v := .pointer (some ⟨w1.heap.size, 0, none⟩)) (w' := w1.alloc (.cells #[.bool false, .slice none 0 0, .slice none 0 0] 24)) (by go_simp) (leaves_mk ((Below.refl _ _).alloc (Nat.le_refl _) _) ⟨_, hb.size, rfl, heap_alloc_new _ _⟩ (fun _ => ⟨rfl, by simp⟩))
    · intro vals w1 hb hd
      simp only [putsTo, dstOf, if_true, Act.put, List.setIfInBounds_toArray, List.set_cons_zero, List.set_cons_succ, List.getElem?_toArray, List.getElem?_cons_zero, List.getElem?_cons_succ, Option.bind_some]
      refine stepOK_value (v := .pointer (some ⟨w1.heap.size, 0, none⟩)) (w' := w1.alloc (.cells #[.bool false, .slice none 0 0, .slice none 0 0] 24)) (by go_simp) (leaves_mk ((Below.refl _ _).alloc (Nat.le_refl _) _) ⟨_, hb.size, rfl, heap_alloc_new _ _⟩ (fun _ => ⟨rfl, by simp⟩))
    · intro vals w1 hb hd
      simp only [putsTo, dstOf, if_true, Act.put, List.setIfInBounds_toArray, List.set_cons_zero, List.set_cons_succ, List.getElem?_toArray, List.getElem?_cons_zero, List.getElem?_cons_succ, Option.bind_some]
      refine stepOK_value (v := .pointer (some ⟨w1.heap.size, 0, none⟩)) (w' := w1.alloc (.cells #[.bool false, .slice none 0 0, .slice none 0 0] 24)) (by go_simp) (leaves_mk ((Below.refl _ _).alloc (Nat.le_refl _) _) ⟨_, hb.size, rfl, heap_alloc_new _ _⟩ (fun _ => ⟨rfl, by simp⟩))
  case tl3 =>
    intro vals w4 hb4 hf hdis
    simp only [putsTo, dstOf, if_true, Act.put, List.setIfInBounds_toArray, List.set_cons_zero, List.set_cons_succ, List.getElem?_toArray, List.getElem?_cons_zero, List.getElem?_cons_succ, Option.bind_some, List.drop_succ_cons, List.drop_zero]
    obtain ⟨gab, hgab, ev9, hzab⟩ : KBox w3.heap.size (vals 9) w4 := hf 9 (by decide)
    have hnAB : IsR w4 (vals 2) (p + u) := hf 2 (by decide)
    obtain ⟨gbc, hgbc, ev10, hzbc⟩ : KBox w3.heap.size (vals 10) w4 := hf 10 (by decide)
    have hnBC : IsR w4 (vals 5) (u + v) := hf 5 (by decide)
    obtain ⟨gpm, hgpm, ev11, hzpm⟩ : KBox w3.heap.size (vals 11) w4 := hf 11 (by decide)
    have hnPM : IsR w4 (vals 8) (p * u) := hf 8 (by decide)
    have neabbc : gab ≠ gbc := fun e => hdis 9 10 (by decide) (by decide) (by decide) (by decide) (by decide) (by rw [ev9, ev10, e])
    have neabpm : gab ≠ gpm := fun e => hdis 9 11 (by decide) (by decide) (by decide) (by decide) (by decide) (by rw [ev9, ev11, e])
    have nebcpm : gbc ≠ gpm := fun e => hdis 10 11 (by decide) (by decide) (by decide) (by decide) (by decide) (by rw [ev10, ev11, e])
    clear hf hdis
    rw [ev9]; clear ev9
    rw [ev10]; clear ev10
    rw [ev11]; clear ev11
    have HB4 := Lib.hid (HB3.out.step hb4)
    have Fp := Lib.hid (Fp.out.below hb4)
    have Fu := Lib.hid (Fu.out.below hb4)
    have Fv := Lib.hid (Fv.out.below hb4)
    have BXp := Lib.hid (heap_below BXp.out hb4)
    have BXu := Lib.hid (heap_below BXu.out hb4)
    have BXv := Lib.hid (heap_below BXv.out hb4)
    obtain ⟨uAB, huAB⟩ : ∃ u, u = vals 2 := ⟨_, rfl⟩
    rw [← huAB] at hnAB ⊢; clear huAB
    have AB := Lib.hid hnAB; clear hnAB
    obtain ⟨sAB, oAB, nAB, cAB, aAB, mAB, dAB, rfl⟩ := AB.out.shape
    obtain ⟨uBC, huBC⟩ : ∃ u, u = vals 5 := ⟨_, rfl⟩
    rw [← huBC] at hnBC ⊢; clear huBC
    have BC := Lib.hid hnBC; clear hnBC
    obtain ⟨sBC, oBC, nBC, cBC, aBC, mBC, dBC, rfl⟩ := BC.out.shape
    obtain ⟨uPM, huPM⟩ : ∃ u, u = vals 8 := ⟨_, rfl⟩
    rw [← huPM] at hnPM ⊢; clear huPM
    have PM := Lib.hid hnPM; clear hnPM
    obtain ⟨sPM, oPM, nPM, cPM, aPM, mPM, dPM, rfl⟩ := PM.out.shape
    have BXab := Lib.hid hzab; clear hzab
    have hgwab : w.heap.size ≤ gab := Nat.le_trans HB3.out.size hgab
    have BXbc := Lib.hid hzbc; clear hzbc
    have hgwbc : w.heap.size ≤ gbc := Nat.le_trans HB3.out.size hgbc
    have BXpm := Lib.hid hzpm; clear hzpm
    have hgwpm : w.heap.size ≤ gpm := Nat.le_trans HB3.out.size hgpm
    clear hb4
    obtain ⟨eab0, eab1, eab2⟩ := row3 BXab.out
    obtain ⟨fab0, fab1, fab2⟩ := froz3 BXab.out
    obtain ⟨ebc0, ebc1, ebc2⟩ := row3 BXbc.out
    obtain ⟨fbc0, fbc1, fbc2⟩ := froz3 BXbc.out
    obtain ⟨epm0, epm1, epm2⟩ := row3 BXpm.out
    obtain ⟨fpm0, fpm1, fpm2⟩ := froz3 BXpm.out
    obtain ⟨w5, hw5⟩ : ∃ w5, w5 = ((w4.setCell ⟨gab, 0, none⟩ (.bool sAB)).setCell ⟨gab, 1, none⟩ (.slice oAB nAB cAB)).setCell ⟨gab, 2, none⟩ (.slice aAB mAB dAB) := ⟨_, rfl⟩
    have hp5 : w5 = put3 w4 (gab) (.bool sAB) (.slice oAB nAB cAB) (.slice aAB mAB dAB) := hw5
    first | have Fp := Lib.hid (putkI hp5 Fp.out BXab.out) | have Fp := Lib.hid (putkR hp5 Fp.out BXab.out) | have Fp := Lib.hid (putkV hp5 Fp.out BXab.out)
    first | have Fu := Lib.hid (putkI hp5 Fu.out BXab.out) | have Fu := Lib.hid (putkR hp5 Fu.out BXab.out) | have Fu := Lib.hid (putkV hp5 Fu.out BXab.out)
    first | have Fv := Lib.hid (putkI hp5 Fv.out BXab.out) | have Fv := Lib.hid (putkR hp5 Fv.out BXab.out) | have Fv := Lib.hid (putkV hp5 Fv.out BXab.out)
    first | have AB := Lib.hid (putkI hp5 AB.out BXab.out) | have AB := Lib.hid (putkR hp5 AB.out BXab.out) | have AB := Lib.hid (putkV hp5 AB.out BXab.out)
    first | have BC := Lib.hid (putkI hp5 BC.out BXab.out) | have BC := Lib.hid (putkR hp5 BC.out BXab.out) | have BC := Lib.hid (putkV hp5 BC.out BXab.out)
    first | have PM := Lib.hid (putkI hp5 PM.out BXab.out) | have PM := Lib.hid (putkR hp5 PM.out BXab.out) | have PM := Lib.hid (putkV hp5 PM.out BXab.out)
    have BXp := Lib.hid (putx hp5 BXp.out (by first | omega | (have := below_lt BXp.out; omega)))
    have BXu := Lib.hid (putx hp5 BXu.out (by first | omega | (have := below_lt BXu.out; omega)))
    have BXv := Lib.hid (putx hp5 BXv.out (by first | omega | (have := below_lt BXv.out; omega)))
    have nxab : w5.heap[gab]? = some (.cells #[.bool sAB, .slice oAB nAB cAB, .slice aAB mAB dAB] 24) := by rw [hp5]; exact put3_heap BXab.out
    have BXbc := Lib.hid (putx hp5 BXbc.out (by first | omega | (have := below_lt BXbc.out; omega)))
    have BXpm := Lib.hid (putx hp5 BXpm.out (by first | omega | (have := below_lt BXpm.out; omega)))
    have BXab := Lib.hid nxab; clear nxab
    have HB5 := Lib.hid (putb hp5 HB4.out (by omega))
    have HW5 := Lib.hid hw5; clear hw5 hp5
    obtain ⟨w6, hw6⟩ : ∃ w6, w6 = ((w5.setCell ⟨gbc, 0, none⟩ (.bool sBC)).setCell ⟨gbc, 1, none⟩ (.slice oBC nBC cBC)).setCell ⟨gbc, 2, none⟩ (.slice aBC mBC dBC) := ⟨_, rfl⟩
    have hp6 : w6 = put3 w5 (gbc) (.bool sBC) (.slice oBC nBC cBC) (.slice aBC mBC dBC) := hw6
    first | have Fp := Lib.hid (putkI hp6 Fp.out BXbc.out) | have Fp := Lib.hid (putkR hp6 Fp.out BXbc.out) | have Fp := Lib.hid (putkV hp6 Fp.out BXbc.out)
    first | have Fu := Lib.hid (putkI hp6 Fu.out BXbc.out) | have Fu := Lib.hid (putkR hp6 Fu.out BXbc.out) | have Fu := Lib.hid (putkV hp6 Fu.out BXbc.out)
    first | have Fv := Lib.hid (putkI hp6 Fv.out BXbc.out) | have Fv := Lib.hid (putkR hp6 Fv.out BXbc.out) | have Fv := Lib.hid (putkV hp6 Fv.out BXbc.out)
    first | have AB := Lib.hid (putkI hp6 AB.out BXbc.out) | have AB := Lib.hid (putkR hp6 AB.out BXbc.out) | have AB := Lib.hid (putkV hp6 AB.out BXbc.out)
    first | have BC := Lib.hid (putkI hp6 BC.out BXbc.out) | have BC := Lib.hid (putkR hp6 BC.out BXbc.out) | have BC := Lib.hid (putkV hp6 BC.out BXbc.out)
    first | have PM := Lib.hid (putkI hp6 PM.out BXbc.out) | have PM := Lib.hid (putkR hp6 PM.out BXbc.out) | have PM := Lib.hid (putkV hp6 PM.out BXbc.out)
    have BXp := Lib.hid (putx hp6 BXp.out (by first | omega | (have := below_lt BXp.out; omega)))
    have BXu := Lib.hid (putx hp6 BXu.out (by first | omega | (have := below_lt BXu.out; omega)))
    have BXv := Lib.hid (putx hp6 BXv.out (by first | omega | (have := below_lt BXv.out; omega)))
    have BXab := Lib.hid (putx hp6 BXab.out (by first | omega | (have := below_lt BXab.out; omega)))
    have nxbc : w6.heap[gbc]? = some (.cells #[.bool sBC, .slice oBC nBC cBC, .slice aBC mBC dBC] 24) := by rw [hp6]; exact put3_heap BXbc.out
    have BXpm := Lib.hid (putx hp6 BXpm.out (by first | omega | (have := below_lt BXpm.out; omega)))
    have BXbc := Lib.hid nxbc; clear nxbc
    have HB6 := Lib.hid (putb hp6 HB5.out (by omega))
    have HW6 := Lib.hid hw6; clear hw6 hp6
    obtain ⟨w7, hw7⟩ : ∃ w7, w7 = ((w6.setCell ⟨gpm, 0, none⟩ (.bool sPM)).setCell ⟨gpm, 1, none⟩ (.slice oPM nPM cPM)).setCell ⟨gpm, 2, none⟩ (.slice aPM mPM dPM) := ⟨_, rfl⟩
    have hp7 : w7 = put3 w6 (gpm) (.bool sPM) (.slice oPM nPM cPM) (.slice aPM mPM dPM) := hw7
    first | have Fp := Lib.hid (putkI hp7 Fp.out BXpm.out) | have Fp := Lib.hid (putkR hp7 Fp.out BXpm.out) | have Fp := Lib.hid (putkV hp7 Fp.out BXpm.out)
    first | have Fu := Lib.hid (putkI hp7 Fu.out BXpm.out) | have Fu := Lib.hid (putkR hp7 Fu.out BXpm.out) | have Fu := Lib.hid (putkV hp7 Fu.out BXpm.out)
    first | have Fv := Lib.hid (putkI hp7 Fv.out BXpm.out) | have Fv := Lib.hid (putkR hp7 Fv.out BXpm.out) | have Fv := Lib.hid (putkV hp7 Fv.out BXpm.out)
    first | have AB := Lib.hid (putkI hp7 AB.out BXpm.out) | have AB := Lib.hid (putkR hp7 AB.out BXpm.out) | have AB := Lib.hid (putkV hp7 AB.out BXpm.out)
    first | have BC := Lib.hid (putkI hp7 BC.out BXpm.out) | have BC := Lib.hid (putkR hp7 BC.out BXpm.out) | have BC := Lib.hid (putkV hp7 BC.out BXpm.out)
    first | have PM := Lib.hid (putkI hp7 PM.out BXpm.out) | have PM := Lib.hid (putkR hp7 PM.out BXpm.out) | have PM := Lib.hid (putkV hp7 PM.out BXpm.out)
    have BXp := Lib.hid (putx hp7 BXp.out (by first | omega | (have := below_lt BXp.out; omega)))
    have BXu := Lib.hid (putx hp7 BXu.out (by first | omega | (have := below_lt BXu.out; omega)))
    have BXv := Lib.hid (putx hp7 BXv.out (by first | omega | (have := below_lt BXv.out; omega)))
    have BXab := Lib.hid (putx hp7 BXab.out (by first | omega | (have := below_lt BXab.out; omega)))
    have BXbc := Lib.hid (putx hp7 BXbc.out (by first | omega | (have := below_lt BXbc.out; omega)))
    have nxpm : w7.heap[gpm]? = some (.cells #[.bool sPM, .slice oPM nPM cPM, .slice aPM mPM dPM] 24) := by rw [hp7]; exact put3_heap BXpm.out
    have BXpm := Lib.hid nxpm; clear nxpm
    have HB7 := Lib.hid (putb hp7 HB6.out (by omega))
    have HW7 := Lib.hid hw7; clear hw7 hp7
    have HBC := Lib.hid ((Below.refl w7.heap.size w7).drew)
    have hc := fun w1 (h1 : Below w7.heap.size w7 w1) => valid_any _ (ng (p + u)) (wd (nn (p + u))) (wd (dn (p + u))) w1 (AB.out.below h1) (by have := rl_n (p + u); omega) (by have := dn_len (p + u); omega)
    rw [decide_eq_true (vld_self (p + u)).1] at hc
    have V1 := Lib.hid hc; clear hc
    have hc := fun w1 (h1 : Below w7.heap.size w7 w1) => valid_any _ (ng (p * u)) (wd (nn (p * u))) (wd (dn (p * u))) w1 (PM.out.below h1) (by have := rl_n (p * u); omega) (by have := dn_len (p * u); omega)
    rw [decide_eq_true (vld_self (p * u)).1] at hc
    have V2 := Lib.hid hc; clear hc
    have hc := fun w1 (h1 : Below w7.heap.size w7 w1) => addq_any _ u _ p w1 (Fu.out.below h1) (Fp.out.below h1)
    have C1 := Lib.hid hc; clear hc
    have hc := fun va w1 (h1 : Below w7.heap.size w7 w1) (ha : IsR w1 va (u + p)) => cmpq_any _ (p + u) va (u + p) w1 ((AB.out.below h1).is (by omega)) (ha.is (by omega)) (by omega) (by omega)
    rw [Q1.out] at hc
    have C2 := Lib.hid hc; clear hc
    have hc := fun w1 (h1 : Below w7.heap.size w7 w1) => addq_any _ (p + u) _ v w1 ((AB.out.below h1).is (by omega)) (Fv.out.below h1)
    have C3 := Lib.hid hc; clear hc
    have hc := fun w1 (h1 : Below w7.heap.size w7 w1) => addq_any _ p _ (u + v) w1 (Fp.out.below h1) ((BC.out.below h1).is (by omega))
    have C4 := Lib.hid hc; clear hc
    have hc := fun va vb w1 (ha : IsR w1 va (p + u + v)) (hb : IsR w1 vb (p + (u + v))) => cmpq_any va (p + u + v) vb (p + (u + v)) w1 (ha.is (by omega)) (hb.is (by omega)) (by omega) (by omega)
    rw [Q2.out] at hc
    have C5 := Lib.hid hc; clear hc
    have hc := fun w1 (h1 : Below w7.heap.size w7 w1) => subq_any _ (p + u) _ u w1 ((AB.out.below h1).is (by omega)) (Fu.out.below h1)
    have C6 := Lib.hid hc; clear hc
    have hc := fun va w1 (h1 : Below w7.heap.size w7 w1) (ha : IsR w1 va (p + u - u)) => cmpq_any va (p + u - u) _ p w1 (ha.is (by omega)) (Fp.out.below h1) (by omega) (by omega)
    rw [Q3.out] at hc
    have C7 := Lib.hid hc; clear hc
    have Zp := Lib.hid (fun w1 (h1 : Below w7.heap.size w7 w1) => row3 (heap_below BXp.out h1))
    have Zu := Lib.hid (fun w1 (h1 : Below w7.heap.size w7 w1) => row3 (heap_below BXu.out h1))
    have Zv := Lib.hid (fun w1 (h1 : Below w7.heap.size w7 w1) => row3 (heap_below BXv.out h1))
    have Zab := Lib.hid (fun w1 (h1 : Below w7.heap.size w7 w1) => row3 (heap_below BXab.out h1))
    have Zbc := Lib.hid (fun w1 (h1 : Below w7.heap.size w7 w1) => row3 (heap_below BXbc.out h1))
    have Zpm := Lib.hid (fun w1 (h1 : Below w7.heap.size w7 w1) => row3 (heap_below BXpm.out h1))
    go_wp2_with fail
    rw [← HW5.out]
    rw [← HW6.out]
    rw [← HW7.out]
    clear eab0 eab1 eab2 fab0 fab1 fab2 ebc0 ebc1 ebc2 fbc0 fbc1 fbc2 epm0 epm1 epm2 fpm0 fpm1 fpm2
    obtain ⟨zp0, zp1, zp2⟩ := Zp.out _ HBC.out
    obtain ⟨zu0, zu1, zu2⟩ := Zu.out _ HBC.out
    obtain ⟨zv0, zv1, zv2⟩ := Zv.out _ HBC.out
    obtain ⟨zab0, zab1, zab2⟩ := Zab.out _ HBC.out
    obtain ⟨zbc0, zbc1, zbc2⟩ := Zbc.out _ HBC.out
    obtain ⟨zpm0, zpm1, zpm2⟩ := Zpm.out _ HBC.out
    go_region_held3 (fun wx => wx.cell? ⟨w.heap.size, 0, none⟩ = some (.bool sp) ∧ wx.cell? ⟨w.heap.size, 1, none⟩ = some (.slice op np cp) ∧ wx.cell? ⟨w.heap.size, 2, none⟩ = some (.slice ap mp dp) ∧ wx.cell? ⟨w.heap.size + 1, 0, none⟩ = some (.bool su) ∧ wx.cell? ⟨w.heap.size + 1, 1, none⟩ = some (.slice ou nu cu) ∧ wx.cell? ⟨w.heap.size + 1, 2, none⟩ = some (.slice au mu du) ∧ wx.cell? ⟨w.heap.size + 2, 0, none⟩ = some (.bool sv) ∧ wx.cell? ⟨w.heap.size + 2, 1, none⟩ = some (.slice ov nv cv) ∧ wx.cell? ⟨w.heap.size + 2, 2, none⟩ = some (.slice av mv dv) ∧ wx.cell? ⟨gab, 0, none⟩ = some (.bool sAB) ∧ wx.cell? ⟨gab, 1, none⟩ = some (.slice oAB nAB cAB) ∧ wx.cell? ⟨gab, 2, none⟩ = some (.slice aAB mAB dAB) ∧ wx.cell? ⟨gbc, 0, none⟩ = some (.bool sBC) ∧ wx.cell? ⟨gbc, 1, none⟩ = some (.slice oBC nBC cBC) ∧ wx.cell? ⟨gbc, 2, none⟩ = some (.slice aBC mBC dBC) ∧ wx.cell? ⟨gpm, 0, none⟩ = some (.bool sPM) ∧ wx.cell? ⟨gpm, 1, none⟩ = some (.slice oPM nPM cPM) ∧ wx.cell? ⟨gpm, 2, none⟩ = some (.slice aPM mPM dPM)) (first | exact ⟨zp0, zp1, zp2, zu0, zu1, zu2, zv0, zv1, zv2, zab0, zab1, zab2, zbc0, zbc1, zbc2, zpm0, zpm1, zpm2⟩ | exact put6 (by omega) (by omega) (by omega) (by omega) (by omega) (by omega) ⟨zp0, zp1, zp2, zu0, zu1, zu2, zv0, zv1, zv2, zab0, zab1, zab2, zbc0, zbc1, zbc2, zpm0, zpm1, zpm2⟩ | exact al3 ⟨zp0, zp1, zp2, zu0, zu1, zu2, zv0, zv1, zv2, zab0, zab1, zab2, zbc0, zbc1, zbc2, zpm0, zpm1, zpm2⟩ | exact put3c (by omega) (al3 ⟨zp0, zp1, zp2, zu0, zu1, zu2, zv0, zv1, zv2, zab0, zab1, zab2, zbc0, zbc1, zbc2, zpm0, zpm1, zpm2⟩)) (first
      | (go_at_call 23; (with_reducible refine (V1.out _ HBC.out).mono ?_); rintro e wr0 ⟨rfl, hb⟩; (have HBC := Lib.hid (HBC.out.step hb)); (try have F1 := Lib.hid (F1.out.below hb)); (try have F2 := Lib.hid (F2.out.below hb)); (try have F3 := Lib.hid (F3.out.below hb)); (try have F4 := Lib.hid (F4.out.below hb)); clear hb; (obtain ⟨zp0, zp1, zp2⟩ := Zp.out _ HBC.out); (obtain ⟨zu0, zu1, zu2⟩ := Zu.out _ HBC.out); (obtain ⟨zv0, zv1, zv2⟩ := Zv.out _ HBC.out); (obtain ⟨zab0, zab1, zab2⟩ := Zab.out _ HBC.out); (obtain ⟨zbc0, zbc1, zbc2⟩ := Zbc.out _ HBC.out); (obtain ⟨zpm0, zpm1, zpm2⟩ := Zpm.out _ HBC.out))
      | (go_at_call 23; (with_reducible refine (V2.out _ HBC.out).mono ?_); rintro e wr1 ⟨rfl, hb⟩; (have HBC := Lib.hid (HBC.out.step hb)); (try have F1 := Lib.hid (F1.out.below hb)); (try have F2 := Lib.hid (F2.out.below hb)); (try have F3 := Lib.hid (F3.out.below hb)); (try have F4 := Lib.hid (F4.out.below hb)); clear hb; (obtain ⟨zp0, zp1, zp2⟩ := Zp.out _ HBC.out); (obtain ⟨zu0, zu1, zu2⟩ := Zu.out _ HBC.out); (obtain ⟨zv0, zv1, zv2⟩ := Zv.out _ HBC.out); (obtain ⟨zab0, zab1, zab2⟩ := Zab.out _ HBC.out); (obtain ⟨zbc0, zbc1, zbc2⟩ := Zbc.out _ HBC.out); (obtain ⟨zpm0, zpm1, zpm2⟩ := Zpm.out _ HBC.out))
      | (go_at_call 33; (with_reducible refine (C1.out _ HBC.out).mono ?_); rintro e wr2 ⟨v2r, rfl, hb, hn⟩; (have HBC := Lib.hid (HBC.out.step hb)); (try have F1 := Lib.hid (F1.out.below hb)); (try have F2 := Lib.hid (F2.out.below hb)); (try have F3 := Lib.hid (F3.out.below hb)); (try have F4 := Lib.hid (F4.out.below hb)); (have F1 := Lib.hid hn); clear hn; clear hb; (obtain ⟨zp0, zp1, zp2⟩ := Zp.out _ HBC.out); (obtain ⟨zu0, zu1, zu2⟩ := Zu.out _ HBC.out); (obtain ⟨zv0, zv1, zv2⟩ := Zv.out _ HBC.out); (obtain ⟨zab0, zab1, zab2⟩ := Zab.out _ HBC.out); (obtain ⟨zbc0, zbc1, zbc2⟩ := Zbc.out _ HBC.out); (obtain ⟨zpm0, zpm1, zpm2⟩ := Zpm.out _ HBC.out))
      | (go_at_call 41; (with_reducible refine (C2.out _ _ HBC.out F1.out).mono ?_); rintro e wr3 ⟨rfl, hb⟩; (have HBC := Lib.hid (HBC.out.step hb)); (try have F1 := Lib.hid (F1.out.below hb)); (try have F2 := Lib.hid (F2.out.below hb)); (try have F3 := Lib.hid (F3.out.below hb)); (try have F4 := Lib.hid (F4.out.below hb)); clear hb; (obtain ⟨zp0, zp1, zp2⟩ := Zp.out _ HBC.out); (obtain ⟨zu0, zu1, zu2⟩ := Zu.out _ HBC.out); (obtain ⟨zv0, zv1, zv2⟩ := Zv.out _ HBC.out); (obtain ⟨zab0, zab1, zab2⟩ := Zab.out _ HBC.out); (obtain ⟨zbc0, zbc1, zbc2⟩ := Zbc.out _ HBC.out); (obtain ⟨zpm0, zpm1, zpm2⟩ := Zpm.out _ HBC.out))
      | (go_at_call 33; (with_reducible refine (C3.out _ HBC.out).mono ?_); rintro e wr4 ⟨v4r, rfl, hb, hn⟩; (have HBC := Lib.hid (HBC.out.step hb)); (try have F1 := Lib.hid (F1.out.below hb)); (try have F2 := Lib.hid (F2.out.below hb)); (try have F3 := Lib.hid (F3.out.below hb)); (try have F4 := Lib.hid (F4.out.below hb)); (have F2 := Lib.hid hn); clear hn; clear hb; (obtain ⟨zp0, zp1, zp2⟩ := Zp.out _ HBC.out); (obtain ⟨zu0, zu1, zu2⟩ := Zu.out _ HBC.out); (obtain ⟨zv0, zv1, zv2⟩ := Zv.out _ HBC.out); (obtain ⟨zab0, zab1, zab2⟩ := Zab.out _ HBC.out); (obtain ⟨zbc0, zbc1, zbc2⟩ := Zbc.out _ HBC.out); (obtain ⟨zpm0, zpm1, zpm2⟩ := Zpm.out _ HBC.out))
      | (go_at_call 33; (with_reducible refine (C4.out _ HBC.out).mono ?_); rintro e wr5 ⟨v5r, rfl, hb, hn⟩; (have HBC := Lib.hid (HBC.out.step hb)); (try have F1 := Lib.hid (F1.out.below hb)); (try have F2 := Lib.hid (F2.out.below hb)); (try have F3 := Lib.hid (F3.out.below hb)); (try have F4 := Lib.hid (F4.out.below hb)); (have F3 := Lib.hid hn); clear hn; clear hb; (obtain ⟨zp0, zp1, zp2⟩ := Zp.out _ HBC.out); (obtain ⟨zu0, zu1, zu2⟩ := Zu.out _ HBC.out); (obtain ⟨zv0, zv1, zv2⟩ := Zv.out _ HBC.out); (obtain ⟨zab0, zab1, zab2⟩ := Zab.out _ HBC.out); (obtain ⟨zbc0, zbc1, zbc2⟩ := Zbc.out _ HBC.out); (obtain ⟨zpm0, zpm1, zpm2⟩ := Zpm.out _ HBC.out))
      | (go_at_call 41; (with_reducible refine (C5.out _ _ _ F2.out F3.out).mono ?_); rintro e wr6 ⟨rfl, hb⟩; (have HBC := Lib.hid (HBC.out.step hb)); (try have F1 := Lib.hid (F1.out.below hb)); (try have F2 := Lib.hid (F2.out.below hb)); (try have F3 := Lib.hid (F3.out.below hb)); (try have F4 := Lib.hid (F4.out.below hb)); clear hb; (obtain ⟨zp0, zp1, zp2⟩ := Zp.out _ HBC.out); (obtain ⟨zu0, zu1, zu2⟩ := Zu.out _ HBC.out); (obtain ⟨zv0, zv1, zv2⟩ := Zv.out _ HBC.out); (obtain ⟨zab0, zab1, zab2⟩ := Zab.out _ HBC.out); (obtain ⟨zbc0, zbc1, zbc2⟩ := Zbc.out _ HBC.out); (obtain ⟨zpm0, zpm1, zpm2⟩ := Zpm.out _ HBC.out))
      | (go_at_call 35; (with_reducible refine (C6.out _ HBC.out).mono ?_); rintro e wr7 ⟨v7r, rfl, hb, hn⟩; (have HBC := Lib.hid (HBC.out.step hb)); (try have F1 := Lib.hid (F1.out.below hb)); (try have F2 := Lib.hid (F2.out.below hb)); (try have F3 := Lib.hid (F3.out.below hb)); (try have F4 := Lib.hid (F4.out.below hb)); (have F4 := Lib.hid hn); clear hn; clear hb; (obtain ⟨zp0, zp1, zp2⟩ := Zp.out _ HBC.out); (obtain ⟨zu0, zu1, zu2⟩ := Zu.out _ HBC.out); (obtain ⟨zv0, zv1, zv2⟩ := Zv.out _ HBC.out); (obtain ⟨zab0, zab1, zab2⟩ := Zab.out _ HBC.out); (obtain ⟨zbc0, zbc1, zbc2⟩ := Zbc.out _ HBC.out); (obtain ⟨zpm0, zpm1, zpm2⟩ := Zpm.out _ HBC.out))
      | (go_at_call 41; (with_reducible refine (C7.out _ _ HBC.out F4.out).mono ?_); rintro e wr8 ⟨rfl, hb⟩; (have HBC := Lib.hid (HBC.out.step hb)); (try have F1 := Lib.hid (F1.out.below hb)); (try have F2 := Lib.hid (F2.out.below hb)); (try have F3 := Lib.hid (F3.out.below hb)); (try have F4 := Lib.hid (F4.out.below hb)); clear hb; (obtain ⟨zp0, zp1, zp2⟩ := Zp.out _ HBC.out); (obtain ⟨zu0, zu1, zu2⟩ := Zu.out _ HBC.out); (obtain ⟨zv0, zv1, zv2⟩ := Zv.out _ HBC.out); (obtain ⟨zab0, zab1, zab2⟩ := Zab.out _ HBC.out); (obtain ⟨zbc0, zbc1, zbc2⟩ := Zbc.out _ HBC.out); (obtain ⟨zpm0, zpm1, zpm2⟩ := Zpm.out _ HBC.out)))
    have Fp := Lib.hid (Fp.out.below HBC.out)
    have Fu := Lib.hid (Fu.out.below HBC.out)
    have Fv := Lib.hid (Fv.out.below HBC.out)
    have AB := Lib.hid (AB.out.below HBC.out)
    have BC := Lib.hid (BC.out.below HBC.out)
    have PM := Lib.hid (PM.out.below HBC.out)
    have BXp := Lib.hid (heap_below BXp.out HBC.out)
    have BXu := Lib.hid (heap_below BXu.out HBC.out)
    have BXv := Lib.hid (heap_below BXv.out HBC.out)
    have BXab := Lib.hid (heap_below BXab.out HBC.out)
    have BXbc := Lib.hid (heap_below BXbc.out HBC.out)
    have BXpm := Lib.hid (heap_below BXpm.out HBC.out)
    have HB8 := Lib.hid (HB7.out.step HBC.out)
    have HBC := Lib.hid ((Below.refl wr8.heap.size wr8).drew)
    have hc := fun w1 (h1 : Below wr8.heap.size wr8 w1) => mulq_any _ u _ p w1 (Fu.out.below h1) (Fp.out.below h1)
    have D1 := Lib.hid hc; clear hc
    have hc := fun va w1 (h1 : Below wr8.heap.size wr8 w1) (ha : IsR w1 va (u * p)) => cmpq_any _ (p * u) va (u * p) w1 ((PM.out.below h1).is (by omega)) (ha.is (by omega)) (by omega) (by omega)
    rw [Q4.out] at hc
    have D2 := Lib.hid hc; clear hc
    have hc := fun w1 (h1 : Below wr8.heap.size wr8 w1) => mulq_any _ (p * u) _ v w1 ((PM.out.below h1).is (by omega)) (Fv.out.below h1)
    have D3 := Lib.hid hc; clear hc
    have hc := fun w1 (h1 : Below wr8.heap.size wr8 w1) => mulq_any _ u _ v w1 (Fu.out.below h1) (Fv.out.below h1)
    have D4 := Lib.hid hc; clear hc
    have hc := fun va w1 (h1 : Below wr8.heap.size wr8 w1) (ha : IsR w1 va (u * v)) => mulq_any _ p va (u * v) w1 (Fp.out.below h1) (ha.is (by omega))
    have D5 := Lib.hid hc; clear hc
    have hc := fun va vb w1 (ha : IsR w1 va (p * u * v)) (hb : IsR w1 vb (p * (u * v))) => cmpq_any va (p * u * v) vb (p * (u * v)) w1 (ha.is (by omega)) (hb.is (by omega)) (by omega) (by omega)
    rw [Q5.out] at hc
    have D6 := Lib.hid hc; clear hc
    have hc := fun w1 (h1 : Below wr8.heap.size wr8 w1) => mulq_any _ p _ (u + v) w1 (Fp.out.below h1) ((BC.out.below h1).is (by omega))
    have D7 := Lib.hid hc; clear hc
    have hc := fun w1 (h1 : Below wr8.heap.size wr8 w1) => mulq_any _ p _ v w1 (Fp.out.below h1) (Fv.out.below h1)
    have D8 := Lib.hid hc; clear hc
    have hc := fun va w1 (h1 : Below wr8.heap.size wr8 w1) (ha : IsR w1 va (p * v)) => addq_any _ (p * u) va (p * v) w1 ((PM.out.below h1).is (by omega)) (ha.is (by omega))
    have D9 := Lib.hid hc; clear hc
    have hc := fun va vb w1 (ha : IsR w1 va (p * (u + v))) (hb : IsR w1 vb (p * u + p * v)) => cmpq_any va (p * (u + v)) vb (p * u + p * v) w1 (ha.is (by omega)) (hb.is (by omega)) (by omega) (by omega)
    rw [Q6.out] at hc
    have D10 := Lib.hid hc; clear hc
    have Zp := Lib.hid (fun w1 (h1 : Below wr8.heap.size wr8 w1) => row3 (heap_below BXp.out h1))
    have Zu := Lib.hid (fun w1 (h1 : Below wr8.heap.size wr8 w1) => row3 (heap_below BXu.out h1))
    have Zv := Lib.hid (fun w1 (h1 : Below wr8.heap.size wr8 w1) => row3 (heap_below BXv.out h1))
    have Zbc := Lib.hid (fun w1 (h1 : Below wr8.heap.size wr8 w1) => row3 (heap_below BXbc.out h1))
    have Zpm := Lib.hid (fun w1 (h1 : Below wr8.heap.size wr8 w1) => row3 (heap_below BXpm.out h1))
    go_wp2_with fail
    obtain ⟨zp0, zp1, zp2⟩ := Zp.out _ HBC.out
    obtain ⟨zu0, zu1, zu2⟩ := Zu.out _ HBC.out
    obtain ⟨zv0, zv1, zv2⟩ := Zv.out _ HBC.out
    obtain ⟨zbc0, zbc1, zbc2⟩ := Zbc.out _ HBC.out
    obtain ⟨zpm0, zpm1, zpm2⟩ := Zpm.out _ HBC.out
    go_region_held3 (fun wx => wx.cell? ⟨w.heap.size, 0, none⟩ = some (.bool sp) ∧ wx.cell? ⟨w.heap.size, 1, none⟩ = some (.slice op np cp) ∧ wx.cell? ⟨w.heap.size, 2, none⟩ = some (.slice ap mp dp) ∧ wx.cell? ⟨w.heap.size + 1, 0, none⟩ = some (.bool su) ∧ wx.cell? ⟨w.heap.size + 1, 1, none⟩ = some (.slice ou nu cu) ∧ wx.cell? ⟨w.heap.size + 1, 2, none⟩ = some (.slice au mu du) ∧ wx.cell? ⟨w.heap.size + 2, 0, none⟩ = some (.bool sv) ∧ wx.cell? ⟨w.heap.size + 2, 1, none⟩ = some (.slice ov nv cv) ∧ wx.cell? ⟨w.heap.size + 2, 2, none⟩ = some (.slice av mv dv) ∧ wx.cell? ⟨gbc, 0, none⟩ = some (.bool sBC) ∧ wx.cell? ⟨gbc, 1, none⟩ = some (.slice oBC nBC cBC) ∧ wx.cell? ⟨gbc, 2, none⟩ = some (.slice aBC mBC dBC) ∧ wx.cell? ⟨gpm, 0, none⟩ = some (.bool sPM) ∧ wx.cell? ⟨gpm, 1, none⟩ = some (.slice oPM nPM cPM) ∧ wx.cell? ⟨gpm, 2, none⟩ = some (.slice aPM mPM dPM)) (first | exact ⟨zp0, zp1, zp2, zu0, zu1, zu2, zv0, zv1, zv2, zbc0, zbc1, zbc2, zpm0, zpm1, zpm2⟩ | exact put6 (by omega) (by omega) (by omega) (by omega) (by omega) ⟨zp0, zp1, zp2, zu0, zu1, zu2, zv0, zv1, zv2, zbc0, zbc1, zbc2, zpm0, zpm1, zpm2⟩ | exact al3 ⟨zp0, zp1, zp2, zu0, zu1, zu2, zv0, zv1, zv2, zbc0, zbc1, zbc2, zpm0, zpm1, zpm2⟩ | exact put3c (by omega) (al3 ⟨zp0, zp1, zp2, zu0, zu1, zu2, zv0, zv1, zv2, zbc0, zbc1, zbc2, zpm0, zpm1, zpm2⟩)) (first
      | (go_at_call 29; (with_reducible refine (D1.out _ HBC.out).mono ?_); rintro e wr2_0 ⟨v0r, rfl, hb, hn⟩; (have HBC := Lib.hid (HBC.out.step hb)); (try have G1 := Lib.hid (G1.out.below hb)); (try have G2 := Lib.hid (G2.out.below hb)); (try have G3 := Lib.hid (G3.out.below hb)); (try have G4 := Lib.hid (G4.out.below hb)); (try have G5 := Lib.hid (G5.out.below hb)); (try have G6 := Lib.hid (G6.out.below hb)); (try have G7 := Lib.hid (G7.out.below hb)); (have G1 := Lib.hid hn); clear hn; clear hb; (obtain ⟨zp0, zp1, zp2⟩ := Zp.out _ HBC.out); (obtain ⟨zu0, zu1, zu2⟩ := Zu.out _ HBC.out); (obtain ⟨zv0, zv1, zv2⟩ := Zv.out _ HBC.out); (obtain ⟨zbc0, zbc1, zbc2⟩ := Zbc.out _ HBC.out); (obtain ⟨zpm0, zpm1, zpm2⟩ := Zpm.out _ HBC.out))
      | (go_at_call 41; (with_reducible refine (D2.out _ _ HBC.out G1.out).mono ?_); rintro e wr2_1 ⟨rfl, hb⟩; (have HBC := Lib.hid (HBC.out.step hb)); (try have G1 := Lib.hid (G1.out.below hb)); (try have G2 := Lib.hid (G2.out.below hb)); (try have G3 := Lib.hid (G3.out.below hb)); (try have G4 := Lib.hid (G4.out.below hb)); (try have G5 := Lib.hid (G5.out.below hb)); (try have G6 := Lib.hid (G6.out.below hb)); (try have G7 := Lib.hid (G7.out.below hb)); clear hb; (obtain ⟨zp0, zp1, zp2⟩ := Zp.out _ HBC.out); (obtain ⟨zu0, zu1, zu2⟩ := Zu.out _ HBC.out); (obtain ⟨zv0, zv1, zv2⟩ := Zv.out _ HBC.out); (obtain ⟨zbc0, zbc1, zbc2⟩ := Zbc.out _ HBC.out); (obtain ⟨zpm0, zpm1, zpm2⟩ := Zpm.out _ HBC.out))
      | (go_at_call 29; (with_reducible refine (D3.out _ HBC.out).mono ?_); rintro e wr2_2 ⟨v2r, rfl, hb, hn⟩; (have HBC := Lib.hid (HBC.out.step hb)); (try have G1 := Lib.hid (G1.out.below hb)); (try have G2 := Lib.hid (G2.out.below hb)); (try have G3 := Lib.hid (G3.out.below hb)); (try have G4 := Lib.hid (G4.out.below hb)); (try have G5 := Lib.hid (G5.out.below hb)); (try have G6 := Lib.hid (G6.out.below hb)); (try have G7 := Lib.hid (G7.out.below hb)); (have G2 := Lib.hid hn); clear hn; clear hb; (obtain ⟨zp0, zp1, zp2⟩ := Zp.out _ HBC.out); (obtain ⟨zu0, zu1, zu2⟩ := Zu.out _ HBC.out); (obtain ⟨zv0, zv1, zv2⟩ := Zv.out _ HBC.out); (obtain ⟨zbc0, zbc1, zbc2⟩ := Zbc.out _ HBC.out); (obtain ⟨zpm0, zpm1, zpm2⟩ := Zpm.out _ HBC.out))
      | (go_at_call 29; (with_reducible refine (D4.out _ HBC.out).mono ?_); rintro e wr2_3 ⟨v3r, rfl, hb, hn⟩; (have HBC := Lib.hid (HBC.out.step hb)); (try have G1 := Lib.hid (G1.out.below hb)); (try have G2 := Lib.hid (G2.out.below hb)); (try have G3 := Lib.hid (G3.out.below hb)); (try have G4 := Lib.hid (G4.out.below hb)); (try have G5 := Lib.hid (G5.out.below hb)); (try have G6 := Lib.hid (G6.out.below hb)); (try have G7 := Lib.hid (G7.out.below hb)); (have G3 := Lib.hid hn); clear hn; clear hb; (obtain ⟨zp0, zp1, zp2⟩ := Zp.out _ HBC.out); (obtain ⟨zu0, zu1, zu2⟩ := Zu.out _ HBC.out); (obtain ⟨zv0, zv1, zv2⟩ := Zv.out _ HBC.out); (obtain ⟨zbc0, zbc1, zbc2⟩ := Zbc.out _ HBC.out); (obtain ⟨zpm0, zpm1, zpm2⟩ := Zpm.out _ HBC.out))
      | (go_at_call 29; (with_reducible refine (D5.out _ _ HBC.out G3.out).mono ?_); rintro e wr2_4 ⟨v4r, rfl, hb, hn⟩; (have HBC := Lib.hid (HBC.out.step hb)); (try have G1 := Lib.hid (G1.out.below hb)); (try have G2 := Lib.hid (G2.out.below hb)); (try have G3 := Lib.hid (G3.out.below hb)); (try have G4 := Lib.hid (G4.out.below hb)); (try have G5 := Lib.hid (G5.out.below hb)); (try have G6 := Lib.hid (G6.out.below hb)); (try have G7 := Lib.hid (G7.out.below hb)); (have G4 := Lib.hid hn); clear hn; clear hb; (obtain ⟨zp0, zp1, zp2⟩ := Zp.out _ HBC.out); (obtain ⟨zu0, zu1, zu2⟩ := Zu.out _ HBC.out); (obtain ⟨zv0, zv1, zv2⟩ := Zv.out _ HBC.out); (obtain ⟨zbc0, zbc1, zbc2⟩ := Zbc.out _ HBC.out); (obtain ⟨zpm0, zpm1, zpm2⟩ := Zpm.out _ HBC.out))
      | (go_at_call 41; (with_reducible refine (D6.out _ _ _ G2.out G4.out).mono ?_); rintro e wr2_5 ⟨rfl, hb⟩; (have HBC := Lib.hid (HBC.out.step hb)); (try have G1 := Lib.hid (G1.out.below hb)); (try have G2 := Lib.hid (G2.out.below hb)); (try have G3 := Lib.hid (G3.out.below hb)); (try have G4 := Lib.hid (G4.out.below hb)); (try have G5 := Lib.hid (G5.out.below hb)); (try have G6 := Lib.hid (G6.out.below hb)); (try have G7 := Lib.hid (G7.out.below hb)); clear hb; (obtain ⟨zp0, zp1, zp2⟩ := Zp.out _ HBC.out); (obtain ⟨zu0, zu1, zu2⟩ := Zu.out _ HBC.out); (obtain ⟨zv0, zv1, zv2⟩ := Zv.out _ HBC.out); (obtain ⟨zbc0, zbc1, zbc2⟩ := Zbc.out _ HBC.out); (obtain ⟨zpm0, zpm1, zpm2⟩ := Zpm.out _ HBC.out))
      | (go_at_call 29; (with_reducible refine (D7.out _ HBC.out).mono ?_); rintro e wr2_6 ⟨v6r, rfl, hb, hn⟩; (have HBC := Lib.hid (HBC.out.step hb)); (try have G1 := Lib.hid (G1.out.below hb)); (try have G2 := Lib.hid (G2.out.below hb)); (try have G3 := Lib.hid (G3.out.below hb)); (try have G4 := Lib.hid (G4.out.below hb)); (try have G5 := Lib.hid (G5.out.below hb)); (try have G6 := Lib.hid (G6.out.below hb)); (try have G7 := Lib.hid (G7.out.below hb)); (have G5 := Lib.hid hn); clear hn; clear hb; (obtain ⟨zp0, zp1, zp2⟩ := Zp.out _ HBC.out); (obtain ⟨zu0, zu1, zu2⟩ := Zu.out _ HBC.out); (obtain ⟨zv0, zv1, zv2⟩ := Zv.out _ HBC.out); (obtain ⟨zbc0, zbc1, zbc2⟩ := Zbc.out _ HBC.out); (obtain ⟨zpm0, zpm1, zpm2⟩ := Zpm.out _ HBC.out))
      | (go_at_call 29; (with_reducible refine (D8.out _ HBC.out).mono ?_); rintro e wr2_7 ⟨v7r, rfl, hb, hn⟩; (have HBC := Lib.hid (HBC.out.step hb)); (try have G1 := Lib.hid (G1.out.below hb)); (try have G2 := Lib.hid (G2.out.below hb)); (try have G3 := Lib.hid (G3.out.below hb)); (try have G4 := Lib.hid (G4.out.below hb)); (try have G5 := Lib.hid (G5.out.below hb)); (try have G6 := Lib.hid (G6.out.below hb)); (try have G7 := Lib.hid (G7.out.below hb)); (have G6 := Lib.hid hn); clear hn; clear hb; (obtain ⟨zp0, zp1, zp2⟩ := Zp.out _ HBC.out); (obtain ⟨zu0, zu1, zu2⟩ := Zu.out _ HBC.out); (obtain ⟨zv0, zv1, zv2⟩ := Zv.out _ HBC.out); (obtain ⟨zbc0, zbc1, zbc2⟩ := Zbc.out _ HBC.out); (obtain ⟨zpm0, zpm1, zpm2⟩ := Zpm.out _ HBC.out))
      | (go_at_call 33; (with_reducible refine (D9.out _ _ HBC.out G6.out).mono ?_); rintro e wr2_8 ⟨v8r, rfl, hb, hn⟩; (have HBC := Lib.hid (HBC.out.step hb)); (try have G1 := Lib.hid (G1.out.below hb)); (try have G2 := Lib.hid (G2.out.below hb)); (try have G3 := Lib.hid (G3.out.below hb)); (try have G4 := Lib.hid (G4.out.below hb)); (try have G5 := Lib.hid (G5.out.below hb)); (try have G6 := Lib.hid (G6.out.below hb)); (try have G7 := Lib.hid (G7.out.below hb)); (have G7 := Lib.hid hn); clear hn; clear hb; (obtain ⟨zp0, zp1, zp2⟩ := Zp.out _ HBC.out); (obtain ⟨zu0, zu1, zu2⟩ := Zu.out _ HBC.out); (obtain ⟨zv0, zv1, zv2⟩ := Zv.out _ HBC.out); (obtain ⟨zbc0, zbc1, zbc2⟩ := Zbc.out _ HBC.out); (obtain ⟨zpm0, zpm1, zpm2⟩ := Zpm.out _ HBC.out))
      | (go_at_call 41; (with_reducible refine (D10.out _ _ _ G5.out G7.out).mono ?_); rintro e wr2_9 ⟨rfl, hb⟩; (have HBC := Lib.hid (HBC.out.step hb)); (try have G1 := Lib.hid (G1.out.below hb)); (try have G2 := Lib.hid (G2.out.below hb)); (try have G3 := Lib.hid (G3.out.below hb)); (try have G4 := Lib.hid (G4.out.below hb)); (try have G5 := Lib.hid (G5.out.below hb)); (try have G6 := Lib.hid (G6.out.below hb)); (try have G7 := Lib.hid (G7.out.below hb)); clear hb; (obtain ⟨zp0, zp1, zp2⟩ := Zp.out _ HBC.out); (obtain ⟨zu0, zu1, zu2⟩ := Zu.out _ HBC.out); (obtain ⟨zv0, zv1, zv2⟩ := Zv.out _ HBC.out); (obtain ⟨zbc0, zbc1, zbc2⟩ := Zbc.out _ HBC.out); (obtain ⟨zpm0, zpm1, zpm2⟩ := Zpm.out _ HBC.out)))
    have Fp := Lib.hid (Fp.out.below HBC.out)
    have Fu := Lib.hid (Fu.out.below HBC.out)
    have Fv := Lib.hid (Fv.out.below HBC.out)
    have AB := Lib.hid (AB.out.below HBC.out)
    have BC := Lib.hid (BC.out.below HBC.out)
    have PM := Lib.hid (PM.out.below HBC.out)
    have BXp := Lib.hid (heap_below BXp.out HBC.out)
    have BXu := Lib.hid (heap_below BXu.out HBC.out)
    have BXv := Lib.hid (heap_below BXv.out HBC.out)
    have BXab := Lib.hid (heap_below BXab.out HBC.out)
    have BXbc := Lib.hid (heap_below BXbc.out HBC.out)
    have BXpm := Lib.hid (heap_below BXpm.out HBC.out)
    have HB9 := Lib.hid (HB8.out.step HBC.out)
    have hs := divq_any _ (p * u) _ u wr2_9 (PM.out.is (by omega)) Fu.out
    rw [Q7.out, errV_zero] at hs
    have HS := Lib.hid hs; clear hs
    obtain ⟨epm0, epm1, epm2⟩ := row3 BXpm.out
    obtain ⟨eu0, eu1, eu2⟩ := row3 BXu.out
    go_wp2_with fail
    clear epm0 epm1 epm2 eu0 eu1 eu2
    (with_reducible refine HS.out.mono ?_); rintro e w10 ⟨v10, rfl, hb10, hn10⟩
    clear HS
    have HB10 := Lib.hid (HB9.out.step hb10)
    have Fp := Lib.hid (Fp.out.below hb10)
    have Fu := Lib.hid (Fu.out.below hb10)
    have Fv := Lib.hid (Fv.out.below hb10)
    have AB := Lib.hid (AB.out.below hb10)
    have BC := Lib.hid (BC.out.below hb10)
    have PM := Lib.hid (PM.out.below hb10)
    have BXp := Lib.hid (heap_below BXp.out hb10)
    have BXu := Lib.hid (heap_below BXu.out hb10)
    have BXv := Lib.hid (heap_below BXv.out hb10)
    have BXab := Lib.hid (heap_below BXab.out hb10)
    have BXbc := Lib.hid (heap_below BXbc.out hb10)
    have BXpm := Lib.hid (heap_below BXpm.out hb10)
    have QD := Lib.hid hn10; clear hn10
    clear hb10
    obtain ⟨sQD, oQD, nQD, cQD, aQD, mQD, dQD, rfl⟩ := QD.out.shape
    obtain ⟨w11, hw11⟩ : ∃ w11, w11 = w10.alloc (.cells #[.bool sQD, .slice oQD nQD cQD, .slice aQD mQD dQD] 24) := ⟨_, rfl⟩
    have hb11 : Below w10.heap.size w10 w11 := by rw [hw11]; exact (Below.refl _ _).alloc (Nat.le_refl _) _
    have hxq := heap_alloc_new w10 (.cells #[.bool sQD, .slice oQD nQD cQD, .slice aQD mQD dQD] 24)
    obtain ⟨gq, hgq⟩ : ∃ gq, gq = w10.heap.size := ⟨_, rfl⟩
    rw [← hw11, ← hgq] at hxq
    have HW11 := Lib.hid hw11; have HGq := Lib.hid hgq; clear hw11 hgq
    have HB11 := Lib.hid (HB10.out.step hb11)
    have Fp := Lib.hid (Fp.out.below hb11)
    have Fu := Lib.hid (Fu.out.below hb11)
    have Fv := Lib.hid (Fv.out.below hb11)
    have AB := Lib.hid (AB.out.below hb11)
    have BC := Lib.hid (BC.out.below hb11)
    have PM := Lib.hid (PM.out.below hb11)
    have QD := Lib.hid (QD.out.below hb11)
    have BXp := Lib.hid (heap_below BXp.out hb11)
    have BXu := Lib.hid (heap_below BXu.out hb11)
    have BXv := Lib.hid (heap_below BXv.out hb11)
    have BXab := Lib.hid (heap_below BXab.out hb11)
    have BXbc := Lib.hid (heap_below BXbc.out hb11)
    have BXpm := Lib.hid (heap_below BXpm.out hb11)
    clear hb11
    have BXq := Lib.hid hxq; clear hxq
    have hs := sign_any _ u w11 Fu.out
    rw [← HS0.out] at hs
    have HS := Lib.hid hs; clear hs
    obtain ⟨eu0, eu1, eu2⟩ := row3 BXu.out
    rw [HW11.out] at eu0
    rw [HW11.out] at eu1
    rw [HW11.out] at eu2
    go_wp2_with fail
    rw [← HW11.out]
    try rw [← HGq.out]
    clear eu0 eu1 eu2
    (with_reducible refine HS.out.mono ?_); rintro e w12 ⟨rfl, hb12⟩
    clear HS
    have HB12 := Lib.hid (HB11.out.step hb12)
    have Fp := Lib.hid (Fp.out.below hb12)
    have Fu := Lib.hid (Fu.out.below hb12)
    have Fv := Lib.hid (Fv.out.below hb12)
    have AB := Lib.hid (AB.out.below hb12)
    have BC := Lib.hid (BC.out.below hb12)
    have PM := Lib.hid (PM.out.below hb12)
    have QD := Lib.hid (QD.out.below hb12)
    have BXp := Lib.hid (heap_below BXp.out hb12)
    have BXu := Lib.hid (heap_below BXu.out hb12)
    have BXv := Lib.hid (heap_below BXv.out hb12)
    have BXab := Lib.hid (heap_below BXab.out hb12)
    have BXbc := Lib.hid (heap_below BXbc.out hb12)
    have BXpm := Lib.hid (heap_below BXpm.out hb12)
    have BXq := Lib.hid (heap_below BXq.out hb12)
    clear hb12
    have hs := valid_any _ (ng (p * u / u)) (wd (nn (p * u / u))) (wd (dn (p * u / u))) w12 QD.out (by have := rl_n (p * u / u); omega) (by have := dn_len (p * u / u); omega)
    rw [decide_eq_true (vld_self (p * u / u)).1] at hs
    have HS := Lib.hid hs; clear hs
    obtain ⟨eq0, eq1, eq2⟩ := row3 BXq.out
    go_wp2_with fail
    clear eq0 eq1 eq2
    (with_reducible refine HS.out.mono ?_); rintro e w13 ⟨rfl, hb13⟩
    clear HS
    have HB13 := Lib.hid (HB12.out.step hb13)
    have Fp := Lib.hid (Fp.out.below hb13)
    have Fu := Lib.hid (Fu.out.below hb13)
    have Fv := Lib.hid (Fv.out.below hb13)
    have AB := Lib.hid (AB.out.below hb13)
    have BC := Lib.hid (BC.out.below hb13)
    have PM := Lib.hid (PM.out.below hb13)
    have QD := Lib.hid (QD.out.below hb13)
    have BXp := Lib.hid (heap_below BXp.out hb13)
    have BXu := Lib.hid (heap_below BXu.out hb13)
    have BXv := Lib.hid (heap_below BXv.out hb13)
    have BXab := Lib.hid (heap_below BXab.out hb13)
    have BXbc := Lib.hid (heap_below BXbc.out hb13)
    have BXpm := Lib.hid (heap_below BXpm.out hb13)
    have BXq := Lib.hid (heap_below BXq.out hb13)
    clear hb13
    have hs := cmpq_any _ (p * u / u) _ p w13 (QD.out.is (by omega)) Fp.out (by omega) (by omega)
    rw [Q9.out] at hs
    have HS := Lib.hid hs; clear hs
    obtain ⟨eq0, eq1, eq2⟩ := row3 BXq.out
    obtain ⟨ep0, ep1, ep2⟩ := row3 BXp.out
    go_wp2_with fail
    clear eq0 eq1 eq2 ep0 ep1 ep2
    (with_reducible refine HS.out.mono ?_); rintro e w14 ⟨rfl, hb14⟩
    clear HS
    have HB14 := Lib.hid (HB13.out.step hb14)
    have Fp := Lib.hid (Fp.out.below hb14)
    have Fu := Lib.hid (Fu.out.below hb14)
    have Fv := Lib.hid (Fv.out.below hb14)
    have AB := Lib.hid (AB.out.below hb14)
    have BC := Lib.hid (BC.out.below hb14)
    have PM := Lib.hid (PM.out.below hb14)
    have QD := Lib.hid (QD.out.below hb14)
    have BXp := Lib.hid (heap_below BXp.out hb14)
    have BXu := Lib.hid (heap_below BXu.out hb14)
    have BXv := Lib.hid (heap_below BXv.out hb14)
    have BXab := Lib.hid (heap_below BXab.out hb14)
    have BXbc := Lib.hid (heap_below BXbc.out hb14)
    have BXpm := Lib.hid (heap_below BXpm.out hb14)
    have BXq := Lib.hid (heap_below BXq.out hb14)
    clear hb14
    go_wp2_with fail
    go_ret
    exact ⟨by first | rfl | (simp; done), HB14.out⟩
theorem field_small (vp : Value) (p : Rat) (vu : Value) (u : Rat) (vv : Value) (v : Rat) (w : World) (hp : RatIs w vp p) (hu : RatIs w vu u) (hv : RatIs w vv v) (lp : rl p ≤ 12) (zp : (szR vp).1 ≤ 12 ∧ (szR vp).2 ≤ 12) (lu : rl u ≤ 12) (zu : (szR vu).1 ≤ 12 ∧ (szR vu).2 ≤ 12) (lv : rl v ≤ 12) (zv : (szR vv).1 ≤ 12 ∧ (szR vv).2 ≤ 12) : Calls Tryd.prog 9 #[vp, vu, vv] w (RetV w (.bool true)) := by
  by_cases h0 : u = 0
  · exact field_small0 vp p vu u vv v w hp hu hv lp zp lu zu lv zv h0
  · exact field_small1 vp p vu u vv v w hp hu hv lp zp lu zu lv zv h0
set_option maxRecDepth 100000 in
set_option maxHeartbeats 3200000 in
theorem field_big (vp : Value) (np mp : Nat) (vu : Value) (nu mu : Nat) (vv : Value) (nv mv : Nat) (w : World) (hp : RatSz vp np mp) (hu : RatSz vu nu mu) (hv : RatSz vv nv mv) (hb : 12 < np ∨ 12 < mp ∨ 12 < nu ∨ 12 < mu ∨ 12 < nv ∨ 12 < mv) :
    Calls Tryd.prog 9 #[vp, vu, vv] w (RetV w (.bool true)) := by
  obtain ⟨sp, op, cp, ap, dp, rfl, zp⟩ := hp
  obtain ⟨su, ou, cu, au, du, rfl, zu⟩ := hu
  obtain ⟨sv, ov, cv, av, dv, rfl, zv⟩ := hv
  have HBIG := Lib.hid hb; clear hb
  have hb0 := ((((Below.refl w.heap.size w).alloc (by first | (simp; done) | (simp; omega)) (.cells #[.bool sp, .slice op np cp, .slice ap mp dp] 24)).alloc (by first | (simp; done) | (simp; omega)) (.cells #[.bool su, .slice ou nu cu, .slice au mu du] 24)).alloc (by first | (simp; done) | (simp; omega)) (.cells #[.bool sv, .slice ov nv cv, .slice av mv dv] 24))
  have hxp := nest3_0 w (.cells #[.bool sp, .slice op np cp, .slice ap mp dp] 24) (.cells #[.bool su, .slice ou nu cu, .slice au mu du] 24) (.cells #[.bool sv, .slice ov nv cv, .slice av mv dv] 24)
  have hxu := nest3_1 w (.cells #[.bool sp, .slice op np cp, .slice ap mp dp] 24) (.cells #[.bool su, .slice ou nu cu, .slice au mu du] 24) (.cells #[.bool sv, .slice ov nv cv, .slice av mv dv] 24)
  have hxv := nest3_2 w (.cells #[.bool sp, .slice op np cp, .slice ap mp dp] 24) (.cells #[.bool su, .slice ou nu cu, .slice au mu du] 24) (.cells #[.bool sv, .slice ov nv cv, .slice av mv dv] 24)
  obtain ⟨w0, hw0⟩ : ∃ w0, w0 = (((w.alloc (.cells #[.bool sp, .slice op np cp, .slice ap mp dp] 24)).alloc (.cells #[.bool su, .slice ou nu cu, .slice au mu du] 24)).alloc (.cells #[.bool sv, .slice ov nv cv, .slice av mv dv] 24)) := ⟨_, rfl⟩
  rw [← hw0] at hb0 hxp hxu hxv
  have HB0 := Lib.hid hb0; have HW0 := Lib.hid hw0
  have BXp := Lib.hid hxp
  have BXu := Lib.hid hxu
  have BXv := Lib.hid hxv
  clear hb0 hw0 hxp hxu hxv
  go_enter Tryd.func9, Tryd.ntmps9
  have hs := awake02 w0
  have HS := Lib.hid hs; clear hs
  go_wp2_with fail
  rw [← HW0.out]
  (with_reducible refine HS.out.mono ?_); rintro e w1 ⟨rfl, hb1⟩
  clear HS
  have HB1 := Lib.hid (HB0.out.step hb1)
  have BXp := Lib.hid (heap_below BXp.out hb1)
  have BXu := Lib.hid (heap_below BXu.out hb1)
  have BXv := Lib.hid (heap_below BXv.out hb1)
  clear hb1
  obtain ⟨ep0, ep1, ep2⟩ := row3 BXp.out
  obtain ⟨eu0, eu1, eu2⟩ := row3 BXu.out
  obtain ⟨ev0, ev1, ev2⟩ := row3 BXv.out
  obtain ⟨w2, hw2⟩ : ∃ w2, w2 = w1.alloc (.cells #[.bool sp, .slice op np cp, .slice ap mp dp, .bool su, .slice ou nu cu, .slice au mu du, .bool sv, .slice ov nv cv, .slice av mv dv] 24) := ⟨_, rfl⟩
  have hb2 : Below w1.heap.size w1 w2 := by rw [hw2]; exact (Below.refl _ _).alloc (Nat.le_refl _) _
  have hxLS := heap_alloc_new w1 (.cells #[.bool sp, .slice op np cp, .slice ap mp dp, .bool su, .slice ou nu cu, .slice au mu du, .bool sv, .slice ov nv cv, .slice av mv dv] 24)
  obtain ⟨gLS, hgLS⟩ : ∃ gLS, gLS = w1.heap.size := ⟨_, rfl⟩
  rw [← hw2, ← hgLS] at hxLS
  have HW2 := Lib.hid hw2; have HGLS := Lib.hid hgLS; clear hw2 hgLS
  have HB2 := Lib.hid (HB1.out.step hb2)
  have BXp := Lib.hid (heap_below BXp.out hb2)
  have BXu := Lib.hid (heap_below BXu.out hb2)
  have BXv := Lib.hid (heap_below BXv.out hb2)
  clear hb2
  have BXLS := Lib.hid hxLS; clear hxLS
  have hs := rlarge3b BXLS.out zp zu zv HBIG.out
  have HS := Lib.hid hs; clear hs
  go_wp2_with fail
  rw [← HW2.out]
  try rw [← HGLS.out]
  (with_reducible refine HS.out.mono ?_); rintro e w3 ⟨rfl, hb3⟩
  clear HS
  have HB3 := Lib.hid (HB2.out.step hb3)
  have BXp := Lib.hid (heap_below BXp.out hb3)
  have BXu := Lib.hid (heap_below BXu.out hb3)
  have BXv := Lib.hid (heap_below BXv.out hb3)
  clear hb3
  clear BXLS
  have hs := awake02 w3
  have HS := Lib.hid hs; clear hs
  go_wp2_with fail
  (with_reducible refine HS.out.mono ?_); rintro e w4 ⟨rfl, hb4⟩
  clear HS
  have HB4 := Lib.hid (HB3.out.step hb4)
  have BXp := Lib.hid (heap_below BXp.out hb4)
  have BXu := Lib.hid (heap_below BXu.out hb4)
  have BXv := Lib.hid (heap_below BXv.out hb4)
  clear hb4
  go_wp2_with fail
  go_ret
  exact ⟨rfl, HB4.out⟩
theorem field02_walk (vp : Value) (sp : Bool) (ap bp : List Nat) (vu : Value) (su : Bool) (au bu : List Nat) (vv : Value) (sv : Bool) (av bv : List Nat) (w : World) (hp : RatV w vp sp ap bp) (hu : RatV w vu su au bu) (hv : RatV w vv sv av bv)  :
    Calls Tryd.prog 9 #[vp, vu, vv] w (RetV w (.bool true)) := by
  obtain ⟨yp, ep⟩ := hp.sz
  obtain ⟨yu, eu⟩ := hu.sz
  obtain ⟨yv, ev⟩ := hv.sz
  by_cases hb : 12 < ap.length ∨ 12 < bp.length ∨ 12 < au.length ∨ 12 < bu.length ∨ 12 < av.length ∨ 12 < bv.length
  · exact field_big vp ap.length bp.length vu au.length bu.length vv av.length bv.length w yp yu yv hb
  · obtain ⟨up, tp⟩ := hp.lt
    obtain ⟨uu, tu⟩ := hu.lt
    obtain ⟨uv, tv⟩ := hv.lt
    exact field_small vp (rq sp ap bp) vu (rq su au bu) vv (rq sv av bv) w (hp.is (by omega) (by omega)) (hu.is (by omega) (by omega)) (hv.is (by omega) (by omega)) (rl_rq up tp (by omega) (by omega) (by decide)) (by rw [ep]; exact ⟨by show ap.length ≤ 12; omega, by show bp.length ≤ 12; omega⟩) (rl_rq uu tu (by omega) (by omega) (by decide)) (by rw [eu]; exact ⟨by show au.length ≤ 12; omega, by show bu.length ≤ 12; omega⟩) (rl_rq uv tv (by omega) (by omega) (by decide)) (by rw [ev]; exact ⟨by show av.length ≤ 12; omega, by show bv.length ≤ 12; omega⟩) 
end Go.Proofs.YtabdndlaelfdeaaDoor
