/-
  RationalEqual: the walk of the statement.
  Conditions: each theorem's own.
-/
import Derived.Test.YtabdndlaelfdeaaDoorRatLaw2m
import Derived.Test.YtabdndlaelfdeaaDoorM7
namespace Go.Proofs.YtabdndlaelfdeaaDoor
open Go.RowKit Go.ChangeShapes Go.WideShapes

theorem cq_swap (p q : Rat) : cq q p = -cq p q := by unfold cq; grind
theorem cq_add (p q t : Rat) : cq (p + t) (q + t) = cq p q := by unfold cq; grind
theorem cq_mul (p q t : Rat) : cq (p * t) (q * t) = cq p q * sg t := by
  have a1 : 0 < q - p → 0 < t → 0 < (q - p) * t := fun h1 h2 => Rat.mul_pos h1 h2
  have a2 : 0 < q - p → 0 < -t → 0 < (q - p) * (-t) := fun h1 h2 => Rat.mul_pos h1 h2
  have a3 : 0 < p - q → 0 < t → 0 < (p - q) * t := fun h1 h2 => Rat.mul_pos h1 h2
  have a4 : 0 < p - q → 0 < -t → 0 < (p - q) * (-t) := fun h1 h2 => Rat.mul_pos h1 h2
  unfold cq sg
  by_cases h1 : p < q
  · by_cases h2 : t < 0
    · have := a2 (by grind) (by grind)
      rw [if_pos h1, if_pos h2, if_neg (by grind), if_neg (by grind)]; rfl
    · by_cases h3 : t = 0
      · subst h3; simp [Rat.mul_zero]
      · have := a1 (by grind) (by grind)
        rw [if_pos h1, if_neg h2, if_neg h3, if_pos (by grind)]; rfl
  · by_cases h4 : p = q
    · subst h4; simp
    · by_cases h2 : t < 0
      · have := a4 (by grind) (by grind)
        rw [if_neg h1, if_neg h4, if_pos h2, if_pos (by grind)]; rfl
      · by_cases h3 : t = 0
        · subst h3; simp [Rat.mul_zero]
        · have := a3 (by grind) (by grind)
          rw [if_neg h1, if_neg h4, if_neg h2, if_neg h3, if_neg (by grind), if_neg (by grind)]; rfl
theorem cq_trans {p q t : Rat} (h1 : ¬ 0 ≤ cq p q) (h2 : ¬ 0 ≤ cq q t) : cq p t < 0 := by
  rw [cq_ge] at h1 h2; rw [cq_lt]; grind
theorem cq_zero (p q : Rat) : decide (p = q) = (cq p q == 0) := by
  rw [Bool.eq_iff_iff]; simp [cq_eq]

set_option maxRecDepth 100000 in
set_option maxHeartbeats 12800000 in
theorem equal_small0 (vp : Value) (p : Rat) (vu : Value) (u : Rat) (vv : Value) (v : Rat) (w : World) (hp : RatIs w vp p) (hu : RatIs w vu u) (hv : RatIs w vv v) (lp : rl p ≤ 12) (zp : (szR vp).1 ≤ 12 ∧ (szR vp).2 ≤ 12) (lu : rl u ≤ 12) (zu : (szR vu).1 ≤ 12 ∧ (szR vu).2 ≤ 12) (lv : rl v ≤ 12) (zv : (szR vv).1 ≤ 12 ∧ (szR vv).2 ≤ 12) (hn0 : cq p u = 0) :
    Calls Tryd.prog 8 #[vp, vu, vv] w (RetV w (.bool true)) := by
  obtain ⟨sp, op, np, cp, ap, mp, dp, rfl⟩ := hp.shape
  have hlp := hp.rl
  obtain ⟨su, ou, nu, cu, au, mu, du, rfl⟩ := hu.shape
  have hlu := hu.rl
  obtain ⟨sv, ov, nv, cv, av, mv, dv, rfl⟩ := hv.shape
  have hlv := hv.rl
  have cb := cq_bounds p u; have sb := sg_bounds v
  have q1 := cq_zero p u; have q2 := cq_swap p u; have q3 := sg_sub p u; have q4 := cq_add p u v; have q5 := cq_mul p u v
  have k1 := rl_add p v; have k2 := rl_add u v; have k3 := rl_sub p u; have k4 := rl_mul p v; have k5 := rl_mul u v
  obtain ⟨n, hn⟩ : ∃ n, n = cq p u := ⟨_, rfl⟩; obtain ⟨s, hs⟩ : ∃ s, s = sg v := ⟨_, rfl⟩
  rw [← hn] at cb q1 q2 q3 q4 q5 hn0; rw [← hs] at sb q5
  obtain ⟨ns, hns⟩ : ∃ ns, ns = n * s := ⟨_, rfl⟩; rw [← hns] at q5
  have hnb : -1 ≤ ns ∧ ns ≤ 1 := by
    have : (n = -1 ∨ n = 0 ∨ n = 1) ∧ (s = -1 ∨ s = 0 ∨ s = 1) := by omega
    rcases this with ⟨rfl | rfl | rfl, rfl | rfl | rfl⟩ <;> omega
  have HWN : Hid (IntKind.i64.wrap (-n) = -n) := Lib.hid (IntWalk.i64_in _ (by omega))
  have hwr : IntKind.i64.wrap (n * s) = ns := by rw [hns]; exact IntWalk.i64_in _ (by omega)
  have g1 : (n != n) = false := by simp
  have g2 : ((-n) != (-n)) = false := by simp
  have g3 : (ns != ns) = false := by simp
  have f0 : decide (0 ≤ n) = true := decide_eq_true (by omega); have g4 : (n == 0) = true := by simp [hn0]
  rw [g4] at q1
  have HN := Lib.hid hn; have HS := Lib.hid hs; have Q1 := Lib.hid q1; have Q2 := Lib.hid q2; have Q3 := Lib.hid q3; have Q4 := Lib.hid q4; have Q5 := Lib.hid q5; have HWR := Lib.hid hwr; have HNS := Lib.hid hns
  clear hn hs q1 q2 q3 q4 q5 hwr hns hn0
  have hb0 := ((((Below.refl w.heap.size w).alloc (by first | (simp; done) | (simp; omega)) (.cells #[.bool sp, .slice op np cp, .slice ap mp dp] 24)).alloc (by first | (simp; done) | (simp; omega)) (.cells #[.bool su, .slice ou nu cu, .slice au mu du] 24)).alloc (by first | (simp; done) | (simp; omega)) (.cells #[.bool sv, .slice ov nv cv, .slice av mv dv] 24))
  have hxp := nest3_0 w (.cells #[.bool sp, .slice op np cp, .slice ap mp dp] 24) (.cells #[.bool su, .slice ou nu cu, .slice au mu du] 24) (.cells #[.bool sv, .slice ov nv cv, .slice av mv dv] 24)
  have hxu := nest3_1 w (.cells #[.bool sp, .slice op np cp, .slice ap mp dp] 24) (.cells #[.bool su, .slice ou nu cu, .slice au mu du] 24) (.cells #[.bool sv, .slice ov nv cv, .slice av mv dv] 24)
  have hxv := nest3_2 w (.cells #[.bool sp, .slice op np cp, .slice ap mp dp] 24) (.cells #[.bool su, .slice ou nu cu, .slice au mu du] 24) (.cells #[.bool sv, .slice ov nv cv, .slice av mv dv] 24)
  have hpp := hp.below hb0
  have hpu := hu.below hb0
  have hpv := hv.below hb0
  obtain ⟨w0, hw0⟩ : ∃ w0, w0 = (((w.alloc (.cells #[.bool sp, .slice op np cp, .slice ap mp dp] 24)).alloc (.cells #[.bool su, .slice ou nu cu, .slice au mu du] 24)).alloc (.cells #[.bool sv, .slice ov nv cv, .slice av mv dv] 24)) := ⟨_, rfl⟩
  rw [← hw0] at hb0 hxp hxu hxv hpp hpu hpv
  have HB0 := Lib.hid hb0; have HW0 := Lib.hid hw0
  have BXp := Lib.hid hxp
  have BXu := Lib.hid hxu
  have BXv := Lib.hid hxv
  have Fp := Lib.hid hpp
  have Fu := Lib.hid hpu
  have Fv := Lib.hid hpv
  clear hb0 hw0 hxp hxu hxv hpp hp hpu hu hpv hv
  have zzp : np ≤ 12 ∧ mp ≤ 12 := zp; clear zp
  have _lp := lp
  have zzu : nu ≤ 12 ∧ mu ≤ 12 := zu; clear zu
  have _lu := lu
  have zzv : nv ≤ 12 ∧ mv ≤ 12 := zv; clear zv
  have _lv := lv
  go_enter Tryd.func8, Tryd.ntmps8
  have hs := awake02 w0
  have HS := Lib.hid hs; clear hs
  go_wp2_with fail
  rw [← HW0.out]
  (with_reducible refine HS.out.mono ?_); rintro e w1 ⟨rfl, hb1⟩
  clear HS
  have HB1 := Lib.hid (HB0.out.step hb1)
  have Fp := Lib.hid (Fp.out.below hb1)
  have Fu := Lib.hid (Fu.out.below hb1)
  have Fv := Lib.hid (Fv.out.below hb1)
  have BXp := Lib.hid (heap_below BXp.out hb1)
  have BXu := Lib.hid (heap_below BXu.out hb1)
  have BXv := Lib.hid (heap_below BXv.out hb1)
  clear hb1
  obtain ⟨ep0, ep1, ep2⟩ := row3 BXp.out
  obtain ⟨eu0, eu1, eu2⟩ := row3 BXu.out
  obtain ⟨ev0, ev1, ev2⟩ := row3 BXv.out
  obtain ⟨w2, hw2⟩ : ∃ w2, w2 = w1.alloc (.cells #[.bool sp, .slice op np cp, .slice ap mp dp, .bool su, .slice ou nu cu, .slice au mu du, .bool sv, .slice ov nv cv, .slice av mv dv] 24) := ⟨_, rfl⟩
  have hb2 : Below w1.heap.size w1 w2 := by rw [hw2]; exact (Below.refl _ _).alloc (Nat.le_refl _) _
  have hxLS := heap_alloc_new w1 (.cells #[.bool sp, .slice op np cp, .slice ap mp dp, .bool su, .slice ou nu cu, .slice au mu du, .bool sv, .slice ov nv cv, .slice av mv dv] 24)
  obtain ⟨gLS, hgLS⟩ : ∃ gLS, gLS = w1.heap.size := ⟨_, rfl⟩
  rw [← hw2, ← hgLS] at hxLS
  have HW2 := Lib.hid hw2; have HGLS := Lib.hid hgLS; clear hw2 hgLS
  have HB2 := Lib.hid (HB1.out.step hb2)
  have Fp := Lib.hid (Fp.out.below hb2)
  have Fu := Lib.hid (Fu.out.below hb2)
  have Fv := Lib.hid (Fv.out.below hb2)
  have BXp := Lib.hid (heap_below BXp.out hb2)
  have BXu := Lib.hid (heap_below BXu.out hb2)
  have BXv := Lib.hid (heap_below BXv.out hb2)
  clear hb2
  have BXLS := Lib.hid hxLS; clear hxLS
  have hs := rlarge3s BXLS.out zzp zzu zzv
  have HS := Lib.hid hs; clear hs
  go_wp2_with fail
  rw [← HW2.out]
  try rw [← HGLS.out]
  (with_reducible refine HS.out.mono ?_); rintro e w3 ⟨rfl, hb3⟩
  clear HS
  have HB3 := Lib.hid (HB2.out.step hb3)
  have Fp := Lib.hid (Fp.out.below hb3)
  have Fu := Lib.hid (Fu.out.below hb3)
  have Fv := Lib.hid (Fv.out.below hb3)
  have BXp := Lib.hid (heap_below BXp.out hb3)
  have BXu := Lib.hid (heap_below BXu.out hb3)
  have BXv := Lib.hid (heap_below BXv.out hb3)
  clear hb3
  clear BXLS
  go_wp2_with fail
  have lwp := below_lt BXp.out
  have lwu := below_lt BXu.out
  have lwv := below_lt BXv.out
  refine wp_region_facts (w := w3) 8 [] (by kernel_rfl) (Fl [KEq (.agg #[.bool sp, .slice op np cp, .slice ap mp dp]), KEq (.agg #[.bool false, .slice none 0 0, .slice none 0 0]), KIs (p), KEq (.agg #[.bool su, .slice ou nu cu, .slice au mu du]), KEq (.agg #[.bool false, .slice none 0 0, .slice none 0 0]), KIs (u), KBox w3.heap.size, KBox w3.heap.size]) (fun i => i == 6 || i == 7) (by kernel_rfl) (fun _ _ _ _ _ h => h) (monoL (monoC (kEq _) (monoC (kEq _) (monoC (kIs _) (monoC (kEq _) (monoC (kEq _) (monoC (kIs _) (monoC (kBox _) (monoC (kBox _) monoN))))))))) ?st3 ?tl3
  case st3 =>
    simp only [List.take_succ_cons, List.take_zero]
    refine stepsOK_cons rfl ?_ (stepsOK_cons rfl ?_ (stepsOK_cons rfl ?_ (stepsOK_cons rfl ?_ (stepsOK_cons rfl ?_ (stepsOK_cons rfl ?_ (stepsOK_cons rfl ?_ (stepsOK_cons rfl ?_ (stepsOK_nil))))))))
    · intro vals w1 hb hd
      simp only [putsTo, dstOf, if_true, Act.put, List.setIfInBounds_toArray, List.set_cons_zero, List.set_cons_succ, List.getElem?_toArray, List.getElem?_cons_zero, List.getElem?_cons_succ, Option.bind_some]
      obtain ⟨e0, e1, e2⟩ := row3 (heap_below BXp.out hb)
      refine stepOK_value (v := .agg #[.bool sp, .slice op np cp, .slice ap mp dp]) (w' := w1) (by go_simp) (leaves_mk (Below.refl _ _) rfl (fun h => by cases h))
    · intro vals w1 hb hd
      simp only [putsTo, dstOf, if_true, Act.put, List.setIfInBounds_toArray, List.set_cons_zero, List.set_cons_succ, List.getElem?_toArray, List.getElem?_cons_zero, List.getElem?_cons_succ, Option.bind_some]
      refine stepOK_value (v := .agg #[.bool false, .slice none 0 0, .slice none 0 0]) (w' := w1) (by go_simp) (leaves_mk (Below.refl _ _) rfl (fun h => by cases h))
    · intro vals w1 hb hd
      have d0 : KEq (.agg #[.bool sp, .slice op np cp, .slice ap mp dp]) (vals 0) w1 := hd 0 (by kernel_rfl)
      have r0 : RatIs w1 (vals 0) p := by rw [show vals 0 = _ from d0]; exact Fp.out.below hb
      have d1 : KEq (.agg #[.bool false, .slice none 0 0, .slice none 0 0]) (vals 1) w1 := hd 1 (by kernel_rfl)
      have r1 : RatIs w1 (vals 1) 0 := by rw [show vals 1 = _ from d1]; exact (isR_zero w1).is (by rw [rl_zero]; decide)
      simp only [putsTo, dstOf, if_true, Act.put, List.setIfInBounds_toArray, List.set_cons_zero, List.set_cons_succ, List.getElem?_toArray, List.getElem?_cons_zero, List.getElem?_cons_succ, Option.bind_some]
      have hs := addq_any _ _ _ _ w1 r0 r1
      rw [Rat.add_zero] at hs
      have HS := Lib.hid hs; clear hs
      clear d0 d1 hd
      refine stepOK_call (by go_simp; first | done | exact ⟨⟨rfl, rfl⟩, rfl⟩) ?_
      (with_reducible refine HS.out.mono ?_); rintro e w2 ⟨v, rfl, hb2, hn⟩
      exact ⟨v, rfl, leaves_mk hb2 hn (fun h => by cases h)⟩
    · intro vals w1 hb hd
      simp only [putsTo, dstOf, if_true, Act.put, List.setIfInBounds_toArray, List.set_cons_zero, List.set_cons_succ, List.getElem?_toArray, List.getElem?_cons_zero, List.getElem?_cons_succ, Option.bind_some]
      obtain ⟨e0, e1, e2⟩ := row3 (heap_below BXu.out hb)
      refine stepOK_value (v := .agg #[.bool su, .slice ou nu cu, .slice au mu du]) (w' := w1) (by go_simp) (leaves_mk (Below.refl _ _) rfl (fun h => by cases h))
    · intro vals w1 hb hd
      simp only [putsTo, dstOf, if_true, Act.put, List.setIfInBounds_toArray, List.set_cons_zero, List.set_cons_succ, List.getElem?_toArray, List.getElem?_cons_zero, List.getElem?_cons_succ, Option.bind_some]
      refine stepOK_value (v := .agg #[.bool false, .slice none 0 0, .slice none 0 0]) (w' := w1) (by go_simp) (leaves_mk (Below.refl _ _) rfl (fun h => by cases h))
    · intro vals w1 hb hd
      have d3 : KEq (.agg #[.bool su, .slice ou nu cu, .slice au mu du]) (vals 3) w1 := hd 3 (by kernel_rfl)
      have r3 : RatIs w1 (vals 3) u := by rw [show vals 3 = _ from d3]; exact Fu.out.below hb
      have d4 : KEq (.agg #[.bool false, .slice none 0 0, .slice none 0 0]) (vals 4) w1 := hd 4 (by kernel_rfl)
      have r4 : RatIs w1 (vals 4) 0 := by rw [show vals 4 = _ from d4]; exact (isR_zero w1).is (by rw [rl_zero]; decide)
      simp only [putsTo, dstOf, if_true, Act.put, List.setIfInBounds_toArray, List.set_cons_zero, List.set_cons_succ, List.getElem?_toArray, List.getElem?_cons_zero, List.getElem?_cons_succ, Option.bind_some]
      have hs := addq_any _ _ _ _ w1 r3 r4
      rw [Rat.add_zero] at hs
      have HS := Lib.hid hs; clear hs
      clear d3 d4 hd
      refine stepOK_call (by go_simp; first | done | exact ⟨⟨rfl, rfl⟩, rfl⟩) ?_
      (with_reducible refine HS.out.mono ?_); rintro e w2 ⟨v, rfl, hb2, hn⟩
      exact ⟨v, rfl, leaves_mk hb2 hn (fun h => by cases h)⟩
    · intro vals w1 hb hd
      simp only [putsTo, dstOf, if_true, Act.put, List.setIfInBounds_toArray, List.set_cons_zero, List.set_cons_succ, List.getElem?_toArray, List.getElem?_cons_zero, List.getElem?_cons_succ, Option.bind_some]
      refine stepOK_value (v := .pointer (some ⟨w1.heap.size, 0, none⟩)) (w' := w1.alloc (.cells #[.bool false, .slice none 0 0, .slice none 0 0] 24)) (by go_simp) (leaves_mk ((Below.refl _ _).alloc (Nat.le_refl _) _) ⟨_, hb.size, rfl, heap_alloc_new _ _⟩ (fun _ => ⟨rfl, by simp⟩))
    · intro vals w1 hb hd
      simp only [putsTo, dstOf, if_true, Act.put, List.setIfInBounds_toArray, List.set_cons_zero, List.set_cons_succ, List.getElem?_toArray, List.getElem?_cons_zero, List.getElem?_cons_succ, Option.bind_some]
      refine stepOK_value (v := .pointer (some ⟨w1.heap.size, 0, none⟩)) (w' := w1.alloc (.cells #[.bool false, .slice none 0 0, .slice none 0 0] 24)) (by go_simp) (leaves_mk ((Below.refl _ _).alloc (Nat.le_refl _) _) ⟨_, hb.size, rfl, heap_alloc_new _ _⟩ (fun _ => ⟨rfl, by simp⟩))
  case tl3 =>
    intro vals w4 hb4 hf hdis
    simp only [putsTo, dstOf, if_true, Act.put, List.setIfInBounds_toArray, List.set_cons_zero, List.set_cons_succ, List.getElem?_toArray, List.getElem?_cons_zero, List.getElem?_cons_succ, Option.bind_some, List.drop_succ_cons, List.drop_zero]
    obtain ⟨gx, hgx, ev6, hzx⟩ : KBox w3.heap.size (vals 6) w4 := hf 6 (by decide)
    have hnXP : IsR w4 (vals 2) (p) := hf 2 (by decide)
    obtain ⟨gy, hgy, ev7, hzy⟩ : KBox w3.heap.size (vals 7) w4 := hf 7 (by decide)
    have hnYQ : IsR w4 (vals 5) (u) := hf 5 (by decide)
    have nexy : gx ≠ gy := fun e => hdis 6 7 (by decide) (by decide) (by decide) (by decide) (by decide) (by rw [ev6, ev7, e])
    clear hf hdis
    rw [ev6]; clear ev6
    rw [ev7]; clear ev7
    have HB4 := Lib.hid (HB3.out.step hb4)
    have Fp := Lib.hid (Fp.out.below hb4)
    have Fu := Lib.hid (Fu.out.below hb4)
    have Fv := Lib.hid (Fv.out.below hb4)
    have BXp := Lib.hid (heap_below BXp.out hb4)
    have BXu := Lib.hid (heap_below BXu.out hb4)
    have BXv := Lib.hid (heap_below BXv.out hb4)
    obtain ⟨uXP, huXP⟩ : ∃ u, u = vals 2 := ⟨_, rfl⟩
    rw [← huXP] at hnXP ⊢; clear huXP
    have XP := Lib.hid hnXP; clear hnXP
    obtain ⟨sXP, oXP, nXP, cXP, aXP, mXP, dXP, rfl⟩ := XP.out.shape
    obtain ⟨uYQ, huYQ⟩ : ∃ u, u = vals 5 := ⟨_, rfl⟩
    rw [← huYQ] at hnYQ ⊢; clear huYQ
    have YQ := Lib.hid hnYQ; clear hnYQ
    obtain ⟨sYQ, oYQ, nYQ, cYQ, aYQ, mYQ, dYQ, rfl⟩ := YQ.out.shape
    have BXx := Lib.hid hzx; clear hzx
    have hgwx : w.heap.size ≤ gx := Nat.le_trans HB3.out.size hgx
    have BXy := Lib.hid hzy; clear hzy
    have hgwy : w.heap.size ≤ gy := Nat.le_trans HB3.out.size hgy
    clear hb4
    obtain ⟨ex0, ex1, ex2⟩ := row3 BXx.out
    obtain ⟨fx0, fx1, fx2⟩ := froz3 BXx.out
    obtain ⟨ey0, ey1, ey2⟩ := row3 BXy.out
    obtain ⟨fy0, fy1, fy2⟩ := froz3 BXy.out
    obtain ⟨w5, hw5⟩ : ∃ w5, w5 = ((w4.setCell ⟨gx, 0, none⟩ (.bool sXP)).setCell ⟨gx, 1, none⟩ (.slice oXP nXP cXP)).setCell ⟨gx, 2, none⟩ (.slice aXP mXP dXP) := ⟨_, rfl⟩
    have hp5 : w5 = put3 w4 (gx) (.bool sXP) (.slice oXP nXP cXP) (.slice aXP mXP dXP) := hw5
    first | have Fp := Lib.hid (putkI hp5 Fp.out BXx.out) | have Fp := Lib.hid (putkR hp5 Fp.out BXx.out) | have Fp := Lib.hid (putkV hp5 Fp.out BXx.out)
    first | have Fu := Lib.hid (putkI hp5 Fu.out BXx.out) | have Fu := Lib.hid (putkR hp5 Fu.out BXx.out) | have Fu := Lib.hid (putkV hp5 Fu.out BXx.out)
    first | have Fv := Lib.hid (putkI hp5 Fv.out BXx.out) | have Fv := Lib.hid (putkR hp5 Fv.out BXx.out) | have Fv := Lib.hid (putkV hp5 Fv.out BXx.out)
    first | have XP := Lib.hid (putkI hp5 XP.out BXx.out) | have XP := Lib.hid (putkR hp5 XP.out BXx.out) | have XP := Lib.hid (putkV hp5 XP.out BXx.out)
    first | have YQ := Lib.hid (putkI hp5 YQ.out BXx.out) | have YQ := Lib.hid (putkR hp5 YQ.out BXx.out) | have YQ := Lib.hid (putkV hp5 YQ.out BXx.out)
    have BXp := Lib.hid (putx hp5 BXp.out (by first | omega | (have := below_lt BXp.out; omega)))
    have BXu := Lib.hid (putx hp5 BXu.out (by first | omega | (have := below_lt BXu.out; omega)))
    have BXv := Lib.hid (putx hp5 BXv.out (by first | omega | (have := below_lt BXv.out; omega)))
    have nxx : w5.heap[gx]? = some (.cells #[.bool sXP, .slice oXP nXP cXP, .slice aXP mXP dXP] 24) := by rw [hp5]; exact put3_heap BXx.out
    have BXy := Lib.hid (putx hp5 BXy.out (by first | omega | (have := below_lt BXy.out; omega)))
    have BXx := Lib.hid nxx; clear nxx
    have HB5 := Lib.hid (putb hp5 HB4.out (by omega))
    have HW5 := Lib.hid hw5; clear hw5 hp5
    obtain ⟨w6, hw6⟩ : ∃ w6, w6 = ((w5.setCell ⟨gy, 0, none⟩ (.bool sYQ)).setCell ⟨gy, 1, none⟩ (.slice oYQ nYQ cYQ)).setCell ⟨gy, 2, none⟩ (.slice aYQ mYQ dYQ) := ⟨_, rfl⟩
    have hp6 : w6 = put3 w5 (gy) (.bool sYQ) (.slice oYQ nYQ cYQ) (.slice aYQ mYQ dYQ) := hw6
    first | have Fp := Lib.hid (putkI hp6 Fp.out BXy.out) | have Fp := Lib.hid (putkR hp6 Fp.out BXy.out) | have Fp := Lib.hid (putkV hp6 Fp.out BXy.out)
    first | have Fu := Lib.hid (putkI hp6 Fu.out BXy.out) | have Fu := Lib.hid (putkR hp6 Fu.out BXy.out) | have Fu := Lib.hid (putkV hp6 Fu.out BXy.out)
    first | have Fv := Lib.hid (putkI hp6 Fv.out BXy.out) | have Fv := Lib.hid (putkR hp6 Fv.out BXy.out) | have Fv := Lib.hid (putkV hp6 Fv.out BXy.out)
    first | have XP := Lib.hid (putkI hp6 XP.out BXy.out) | have XP := Lib.hid (putkR hp6 XP.out BXy.out) | have XP := Lib.hid (putkV hp6 XP.out BXy.out)
    first | have YQ := Lib.hid (putkI hp6 YQ.out BXy.out) | have YQ := Lib.hid (putkR hp6 YQ.out BXy.out) | have YQ := Lib.hid (putkV hp6 YQ.out BXy.out)
    have BXp := Lib.hid (putx hp6 BXp.out (by first | omega | (have := below_lt BXp.out; omega)))
    have BXu := Lib.hid (putx hp6 BXu.out (by first | omega | (have := below_lt BXu.out; omega)))
    have BXv := Lib.hid (putx hp6 BXv.out (by first | omega | (have := below_lt BXv.out; omega)))
    have BXx := Lib.hid (putx hp6 BXx.out (by first | omega | (have := below_lt BXx.out; omega)))
    have nxy : w6.heap[gy]? = some (.cells #[.bool sYQ, .slice oYQ nYQ cYQ, .slice aYQ mYQ dYQ] 24) := by rw [hp6]; exact put3_heap BXy.out
    have BXy := Lib.hid nxy; clear nxy
    have HB6 := Lib.hid (putb hp6 HB5.out (by omega))
    have HW6 := Lib.hid hw6; clear hw6 hp6
    have hs := cmpq_any _ p _ u w6 Fp.out Fu.out (by omega) (by omega)
    rw [← HN.out] at hs
    have HS := Lib.hid hs; clear hs
    obtain ⟨ep0, ep1, ep2⟩ := row3 BXp.out
    obtain ⟨eu0, eu1, eu2⟩ := row3 BXu.out
    rw [HW6.out] at ep0
    rw [HW6.out] at ep1
    rw [HW6.out] at ep2
    rw [HW6.out] at eu0
    rw [HW6.out] at eu1
    rw [HW6.out] at eu2
    rw [HW5.out] at ep0
    rw [HW5.out] at ep1
    rw [HW5.out] at ep2
    rw [HW5.out] at eu0
    rw [HW5.out] at eu1
    rw [HW5.out] at eu2
    go_wp2_with fail
    rw [← HW5.out]
    rw [← HW6.out]
    clear ep0 ep1 ep2 eu0 eu1 eu2 ex0 ex1 ex2 fx0 fx1 fx2 ey0 ey1 ey2 fy0 fy1 fy2
    (with_reducible refine HS.out.mono ?_); rintro e w7 ⟨rfl, hb7⟩
    clear HS
    have HB7 := Lib.hid (HB6.out.step hb7)
    have Fp := Lib.hid (Fp.out.below hb7)
    have Fu := Lib.hid (Fu.out.below hb7)
    have Fv := Lib.hid (Fv.out.below hb7)
    have XP := Lib.hid (XP.out.below hb7)
    have YQ := Lib.hid (YQ.out.below hb7)
    have BXp := Lib.hid (heap_below BXp.out hb7)
    have BXu := Lib.hid (heap_below BXu.out hb7)
    have BXv := Lib.hid (heap_below BXv.out hb7)
    have BXx := Lib.hid (heap_below BXx.out hb7)
    have BXy := Lib.hid (heap_below BXy.out hb7)
    clear hb7
    have HBC := Lib.hid ((Below.refl w7.heap.size w7).drew)
    have hc := fun va vb w1 (ha : IsR w1 va p) (hb : IsR w1 vb u) => rat_any va p vb u w1 ha hb (by omega) (by omega)
    rw [Q1.out] at hc
    have CQ := Lib.hid hc; clear hc
    have hc := fun w1 (h1 : Below w7.heap.size w7 w1) => cmpq_any _ u _ p w1 (Fu.out.below h1) (Fp.out.below h1) (by omega) (by omega)
    rw [Q2.out] at hc
    have C1 := Lib.hid hc; clear hc
    have hc := fun w1 (h1 : Below w7.heap.size w7 w1) => subq_any _ p _ u w1 (Fp.out.below h1) (Fu.out.below h1)
    have C2 := Lib.hid hc; clear hc
    have hc := fun va w1 (ha : IsR w1 va (p - u)) => sign_any va (p - u) w1 (ha.is (by omega))
    rw [Q3.out] at hc
    have C3 := Lib.hid hc; clear hc
    have hc := fun w1 (h1 : Below w7.heap.size w7 w1) => addq_any _ p _ v w1 (Fp.out.below h1) (Fv.out.below h1)
    have C4 := Lib.hid hc; clear hc
    have hc := fun w1 (h1 : Below w7.heap.size w7 w1) => addq_any _ u _ v w1 (Fu.out.below h1) (Fv.out.below h1)
    have C5 := Lib.hid hc; clear hc
    have hc := fun va vb w1 (ha : IsR w1 va (p + v)) (hb : IsR w1 vb (u + v)) => cmpq_any va (p + v) vb (u + v) w1 (ha.is (by omega)) (hb.is (by omega)) (by omega) (by omega)
    rw [Q4.out] at hc
    have C6 := Lib.hid hc; clear hc
    have Zp := Lib.hid (fun w1 (h1 : Below w7.heap.size w7 w1) => row3 (heap_below BXp.out h1))
    have Zu := Lib.hid (fun w1 (h1 : Below w7.heap.size w7 w1) => row3 (heap_below BXu.out h1))
    have Zv := Lib.hid (fun w1 (h1 : Below w7.heap.size w7 w1) => row3 (heap_below BXv.out h1))
    have Zx := Lib.hid (fun w1 (h1 : Below w7.heap.size w7 w1) => row3 (heap_below BXx.out h1))
    have Zy := Lib.hid (fun w1 (h1 : Below w7.heap.size w7 w1) => row3 (heap_below BXy.out h1))
    go_wp2_with fail
    have hwn := HWN.out
    obtain ⟨zp0, zp1, zp2⟩ := Zp.out _ HBC.out
    obtain ⟨zu0, zu1, zu2⟩ := Zu.out _ HBC.out
    obtain ⟨zv0, zv1, zv2⟩ := Zv.out _ HBC.out
    obtain ⟨zx0, zx1, zx2⟩ := Zx.out _ HBC.out
    obtain ⟨zy0, zy1, zy2⟩ := Zy.out _ HBC.out
    go_region_held3 (fun wx => wx.cell? ⟨w.heap.size, 0, none⟩ = some (.bool sp) ∧ wx.cell? ⟨w.heap.size, 1, none⟩ = some (.slice op np cp) ∧ wx.cell? ⟨w.heap.size, 2, none⟩ = some (.slice ap mp dp) ∧ wx.cell? ⟨w.heap.size + 1, 0, none⟩ = some (.bool su) ∧ wx.cell? ⟨w.heap.size + 1, 1, none⟩ = some (.slice ou nu cu) ∧ wx.cell? ⟨w.heap.size + 1, 2, none⟩ = some (.slice au mu du) ∧ wx.cell? ⟨w.heap.size + 2, 0, none⟩ = some (.bool sv) ∧ wx.cell? ⟨w.heap.size + 2, 1, none⟩ = some (.slice ov nv cv) ∧ wx.cell? ⟨w.heap.size + 2, 2, none⟩ = some (.slice av mv dv) ∧ wx.cell? ⟨gx, 0, none⟩ = some (.bool sXP) ∧ wx.cell? ⟨gx, 1, none⟩ = some (.slice oXP nXP cXP) ∧ wx.cell? ⟨gx, 2, none⟩ = some (.slice aXP mXP dXP) ∧ wx.cell? ⟨gy, 0, none⟩ = some (.bool sYQ) ∧ wx.cell? ⟨gy, 1, none⟩ = some (.slice oYQ nYQ cYQ) ∧ wx.cell? ⟨gy, 2, none⟩ = some (.slice aYQ mYQ dYQ)) (first | exact ⟨zp0, zp1, zp2, zu0, zu1, zu2, zv0, zv1, zv2, zx0, zx1, zx2, zy0, zy1, zy2⟩ | exact put6 (by omega) (by omega) (by omega) (by omega) (by omega) ⟨zp0, zp1, zp2, zu0, zu1, zu2, zv0, zv1, zv2, zx0, zx1, zx2, zy0, zy1, zy2⟩ | exact al3 ⟨zp0, zp1, zp2, zu0, zu1, zu2, zv0, zv1, zv2, zx0, zx1, zx2, zy0, zy1, zy2⟩ | exact put3c (by omega) (al3 ⟨zp0, zp1, zp2, zu0, zu1, zu2, zv0, zv1, zv2, zx0, zx1, zx2, zy0, zy1, zy2⟩)) (first
      | (go_at_call 17; (with_reducible refine (CQ.out _ _ _ (XP.out.below HBC.out) (YQ.out.below HBC.out)).mono ?_); rintro e wr0 ⟨rfl, hb⟩; (have HBC := Lib.hid (HBC.out.step hb)); (try have F1 := Lib.hid (F1.out.below hb)); (try have F2 := Lib.hid (F2.out.below hb)); (try have F3 := Lib.hid (F3.out.below hb)); clear hb; (obtain ⟨zp0, zp1, zp2⟩ := Zp.out _ HBC.out); (obtain ⟨zu0, zu1, zu2⟩ := Zu.out _ HBC.out); (obtain ⟨zv0, zv1, zv2⟩ := Zv.out _ HBC.out); (obtain ⟨zx0, zx1, zx2⟩ := Zx.out _ HBC.out); (obtain ⟨zy0, zy1, zy2⟩ := Zy.out _ HBC.out))
      | (go_at_call 41; (with_reducible refine (C1.out _ HBC.out).mono ?_); rintro e wr1 ⟨rfl, hb⟩; (have HBC := Lib.hid (HBC.out.step hb)); (try have F1 := Lib.hid (F1.out.below hb)); (try have F2 := Lib.hid (F2.out.below hb)); (try have F3 := Lib.hid (F3.out.below hb)); clear hb; (obtain ⟨zp0, zp1, zp2⟩ := Zp.out _ HBC.out); (obtain ⟨zu0, zu1, zu2⟩ := Zu.out _ HBC.out); (obtain ⟨zv0, zv1, zv2⟩ := Zv.out _ HBC.out); (obtain ⟨zx0, zx1, zx2⟩ := Zx.out _ HBC.out); (obtain ⟨zy0, zy1, zy2⟩ := Zy.out _ HBC.out))
      | (go_at_call 35; (with_reducible refine (C2.out _ HBC.out).mono ?_); rintro e wr2 ⟨v2r, rfl, hb, hn⟩; (have HBC := Lib.hid (HBC.out.step hb)); (try have F1 := Lib.hid (F1.out.below hb)); (try have F2 := Lib.hid (F2.out.below hb)); (try have F3 := Lib.hid (F3.out.below hb)); (have F1 := Lib.hid hn); clear hn; clear hb; (obtain ⟨zp0, zp1, zp2⟩ := Zp.out _ HBC.out); (obtain ⟨zu0, zu1, zu2⟩ := Zu.out _ HBC.out); (obtain ⟨zv0, zv1, zv2⟩ := Zv.out _ HBC.out); (obtain ⟨zx0, zx1, zx2⟩ := Zx.out _ HBC.out); (obtain ⟨zy0, zy1, zy2⟩ := Zy.out _ HBC.out))
      | (go_at_call 42; (with_reducible refine (C3.out _ _ F1.out).mono ?_); rintro e wr3 ⟨rfl, hb⟩; (have HBC := Lib.hid (HBC.out.step hb)); (try have F1 := Lib.hid (F1.out.below hb)); (try have F2 := Lib.hid (F2.out.below hb)); (try have F3 := Lib.hid (F3.out.below hb)); clear hb; (obtain ⟨zp0, zp1, zp2⟩ := Zp.out _ HBC.out); (obtain ⟨zu0, zu1, zu2⟩ := Zu.out _ HBC.out); (obtain ⟨zv0, zv1, zv2⟩ := Zv.out _ HBC.out); (obtain ⟨zx0, zx1, zx2⟩ := Zx.out _ HBC.out); (obtain ⟨zy0, zy1, zy2⟩ := Zy.out _ HBC.out))
      | (go_at_call 33; (with_reducible refine (C4.out _ HBC.out).mono ?_); rintro e wr4 ⟨v4r, rfl, hb, hn⟩; (have HBC := Lib.hid (HBC.out.step hb)); (try have F1 := Lib.hid (F1.out.below hb)); (try have F2 := Lib.hid (F2.out.below hb)); (try have F3 := Lib.hid (F3.out.below hb)); (have F2 := Lib.hid hn); clear hn; clear hb; (obtain ⟨zp0, zp1, zp2⟩ := Zp.out _ HBC.out); (obtain ⟨zu0, zu1, zu2⟩ := Zu.out _ HBC.out); (obtain ⟨zv0, zv1, zv2⟩ := Zv.out _ HBC.out); (obtain ⟨zx0, zx1, zx2⟩ := Zx.out _ HBC.out); (obtain ⟨zy0, zy1, zy2⟩ := Zy.out _ HBC.out))
      | (go_at_call 33; (with_reducible refine (C5.out _ HBC.out).mono ?_); rintro e wr5 ⟨v5r, rfl, hb, hn⟩; (have HBC := Lib.hid (HBC.out.step hb)); (try have F1 := Lib.hid (F1.out.below hb)); (try have F2 := Lib.hid (F2.out.below hb)); (try have F3 := Lib.hid (F3.out.below hb)); (have F3 := Lib.hid hn); clear hn; clear hb; (obtain ⟨zp0, zp1, zp2⟩ := Zp.out _ HBC.out); (obtain ⟨zu0, zu1, zu2⟩ := Zu.out _ HBC.out); (obtain ⟨zv0, zv1, zv2⟩ := Zv.out _ HBC.out); (obtain ⟨zx0, zx1, zx2⟩ := Zx.out _ HBC.out); (obtain ⟨zy0, zy1, zy2⟩ := Zy.out _ HBC.out))
      | (go_at_call 41; (with_reducible refine (C6.out _ _ _ F2.out F3.out).mono ?_); rintro e wr6 ⟨rfl, hb⟩; (have HBC := Lib.hid (HBC.out.step hb)); (try have F1 := Lib.hid (F1.out.below hb)); (try have F2 := Lib.hid (F2.out.below hb)); (try have F3 := Lib.hid (F3.out.below hb)); clear hb; (obtain ⟨zp0, zp1, zp2⟩ := Zp.out _ HBC.out); (obtain ⟨zu0, zu1, zu2⟩ := Zu.out _ HBC.out); (obtain ⟨zv0, zv1, zv2⟩ := Zv.out _ HBC.out); (obtain ⟨zx0, zx1, zx2⟩ := Zx.out _ HBC.out); (obtain ⟨zy0, zy1, zy2⟩ := Zy.out _ HBC.out)))
    clear hwn
    have Fp := Lib.hid (Fp.out.below HBC.out)
    have Fu := Lib.hid (Fu.out.below HBC.out)
    have Fv := Lib.hid (Fv.out.below HBC.out)
    have XP := Lib.hid (XP.out.below HBC.out)
    have YQ := Lib.hid (YQ.out.below HBC.out)
    have BXp := Lib.hid (heap_below BXp.out HBC.out)
    have BXu := Lib.hid (heap_below BXu.out HBC.out)
    have BXv := Lib.hid (heap_below BXv.out HBC.out)
    have BXx := Lib.hid (heap_below BXx.out HBC.out)
    have BXy := Lib.hid (heap_below BXy.out HBC.out)
    have HB8 := Lib.hid (HB7.out.step HBC.out)
    have HBC := Lib.hid ((Below.refl wr6.heap.size wr6).drew)
    have hc := fun w1 (h1 : Below wr6.heap.size wr6 w1) => mulq_any _ p _ v w1 (Fp.out.below h1) (Fv.out.below h1)
    have C7 := Lib.hid hc; clear hc
    have hc := fun w1 (h1 : Below wr6.heap.size wr6 w1) => mulq_any _ u _ v w1 (Fu.out.below h1) (Fv.out.below h1)
    have C8 := Lib.hid hc; clear hc
    have hc := fun va vb w1 (ha : IsR w1 va (p * v)) (hb : IsR w1 vb (u * v)) => cmpq_any va (p * v) vb (u * v) w1 (ha.is (by omega)) (hb.is (by omega)) (by omega) (by omega)
    rw [Q5.out] at hc
    have C9 := Lib.hid hc; clear hc
    have hc := fun w1 (h1 : Below wr6.heap.size wr6 w1) => sign_any _ v w1 (Fv.out.below h1)
    rw [← HS.out] at hc
    have C10 := Lib.hid hc; clear hc
    have Zp := Lib.hid (fun w1 (h1 : Below wr6.heap.size wr6 w1) => row3 (heap_below BXp.out h1))
    have Zu := Lib.hid (fun w1 (h1 : Below wr6.heap.size wr6 w1) => row3 (heap_below BXu.out h1))
    have Zv := Lib.hid (fun w1 (h1 : Below wr6.heap.size wr6 w1) => row3 (heap_below BXv.out h1))
    go_wp2_with fail
    have hwr := HWR.out
    obtain ⟨zp0, zp1, zp2⟩ := Zp.out _ HBC.out
    obtain ⟨zu0, zu1, zu2⟩ := Zu.out _ HBC.out
    obtain ⟨zv0, zv1, zv2⟩ := Zv.out _ HBC.out
    go_region_held3 (fun wx => wx.cell? ⟨w.heap.size, 0, none⟩ = some (.bool sp) ∧ wx.cell? ⟨w.heap.size, 1, none⟩ = some (.slice op np cp) ∧ wx.cell? ⟨w.heap.size, 2, none⟩ = some (.slice ap mp dp) ∧ wx.cell? ⟨w.heap.size + 1, 0, none⟩ = some (.bool su) ∧ wx.cell? ⟨w.heap.size + 1, 1, none⟩ = some (.slice ou nu cu) ∧ wx.cell? ⟨w.heap.size + 1, 2, none⟩ = some (.slice au mu du) ∧ wx.cell? ⟨w.heap.size + 2, 0, none⟩ = some (.bool sv) ∧ wx.cell? ⟨w.heap.size + 2, 1, none⟩ = some (.slice ov nv cv) ∧ wx.cell? ⟨w.heap.size + 2, 2, none⟩ = some (.slice av mv dv)) (first | exact ⟨zp0, zp1, zp2, zu0, zu1, zu2, zv0, zv1, zv2⟩ | exact put6 (by omega) (by omega) (by omega) ⟨zp0, zp1, zp2, zu0, zu1, zu2, zv0, zv1, zv2⟩ | exact al3 ⟨zp0, zp1, zp2, zu0, zu1, zu2, zv0, zv1, zv2⟩ | exact put3c (by omega) (al3 ⟨zp0, zp1, zp2, zu0, zu1, zu2, zv0, zv1, zv2⟩)) (first
      | (go_at_call 29; (with_reducible refine (C7.out _ HBC.out).mono ?_); rintro e wr2_0 ⟨v0r, rfl, hb, hn⟩; (have HBC := Lib.hid (HBC.out.step hb)); (try have F4 := Lib.hid (F4.out.below hb)); (try have F5 := Lib.hid (F5.out.below hb)); (have F4 := Lib.hid hn); clear hn; clear hb; (obtain ⟨zp0, zp1, zp2⟩ := Zp.out _ HBC.out); (obtain ⟨zu0, zu1, zu2⟩ := Zu.out _ HBC.out); (obtain ⟨zv0, zv1, zv2⟩ := Zv.out _ HBC.out))
      | (go_at_call 29; (with_reducible refine (C8.out _ HBC.out).mono ?_); rintro e wr2_1 ⟨v1r, rfl, hb, hn⟩; (have HBC := Lib.hid (HBC.out.step hb)); (try have F4 := Lib.hid (F4.out.below hb)); (try have F5 := Lib.hid (F5.out.below hb)); (have F5 := Lib.hid hn); clear hn; clear hb; (obtain ⟨zp0, zp1, zp2⟩ := Zp.out _ HBC.out); (obtain ⟨zu0, zu1, zu2⟩ := Zu.out _ HBC.out); (obtain ⟨zv0, zv1, zv2⟩ := Zv.out _ HBC.out))
      | (go_at_call 41; (with_reducible refine (C9.out _ _ _ F4.out F5.out).mono ?_); rintro e wr2_2 ⟨rfl, hb⟩; (have HBC := Lib.hid (HBC.out.step hb)); (try have F4 := Lib.hid (F4.out.below hb)); (try have F5 := Lib.hid (F5.out.below hb)); clear hb; (obtain ⟨zp0, zp1, zp2⟩ := Zp.out _ HBC.out); (obtain ⟨zu0, zu1, zu2⟩ := Zu.out _ HBC.out); (obtain ⟨zv0, zv1, zv2⟩ := Zv.out _ HBC.out))
      | (go_at_call 42; (with_reducible refine (C10.out _ HBC.out).mono ?_); rintro e wr2_3 ⟨rfl, hb⟩; (have HBC := Lib.hid (HBC.out.step hb)); (try have F4 := Lib.hid (F4.out.below hb)); (try have F5 := Lib.hid (F5.out.below hb)); clear hb; (obtain ⟨zp0, zp1, zp2⟩ := Zp.out _ HBC.out); (obtain ⟨zu0, zu1, zu2⟩ := Zu.out _ HBC.out); (obtain ⟨zv0, zv1, zv2⟩ := Zv.out _ HBC.out)))
    clear hwr
    have Fp := Lib.hid (Fp.out.below HBC.out)
    have Fu := Lib.hid (Fu.out.below HBC.out)
    have Fv := Lib.hid (Fv.out.below HBC.out)
    have XP := Lib.hid (XP.out.below HBC.out)
    have YQ := Lib.hid (YQ.out.below HBC.out)
    have BXp := Lib.hid (heap_below BXp.out HBC.out)
    have BXu := Lib.hid (heap_below BXu.out HBC.out)
    have BXv := Lib.hid (heap_below BXv.out HBC.out)
    have BXx := Lib.hid (heap_below BXx.out HBC.out)
    have BXy := Lib.hid (heap_below BXy.out HBC.out)
    have HB9 := Lib.hid (HB8.out.step HBC.out)
    go_wp2_with fail
    go_ret
    exact ⟨by first | rfl | (simp; done), HB9.out⟩
set_option maxRecDepth 100000 in
set_option maxHeartbeats 12800000 in
theorem equal_small1 (vp : Value) (p : Rat) (vu : Value) (u : Rat) (vv : Value) (v : Rat) (w : World) (hp : RatIs w vp p) (hu : RatIs w vu u) (hv : RatIs w vv v) (lp : rl p ≤ 12) (zp : (szR vp).1 ≤ 12 ∧ (szR vp).2 ≤ 12) (lu : rl u ≤ 12) (zu : (szR vu).1 ≤ 12 ∧ (szR vu).2 ≤ 12) (lv : rl v ≤ 12) (zv : (szR vv).1 ≤ 12 ∧ (szR vv).2 ≤ 12) (hn0 : 0 < cq p u) :
    Calls Tryd.prog 8 #[vp, vu, vv] w (RetV w (.bool true)) := by
  obtain ⟨sp, op, np, cp, ap, mp, dp, rfl⟩ := hp.shape
  have hlp := hp.rl
  obtain ⟨su, ou, nu, cu, au, mu, du, rfl⟩ := hu.shape
  have hlu := hu.rl
  obtain ⟨sv, ov, nv, cv, av, mv, dv, rfl⟩ := hv.shape
  have hlv := hv.rl
  have cb := cq_bounds p u; have sb := sg_bounds v
  have q1 := cq_zero p u; have q2 := cq_swap p u; have q3 := sg_sub p u; have q4 := cq_add p u v; have q5 := cq_mul p u v
  have k1 := rl_add p v; have k2 := rl_add u v; have k3 := rl_sub p u; have k4 := rl_mul p v; have k5 := rl_mul u v
  obtain ⟨n, hn⟩ : ∃ n, n = cq p u := ⟨_, rfl⟩; obtain ⟨s, hs⟩ : ∃ s, s = sg v := ⟨_, rfl⟩
  rw [← hn] at cb q1 q2 q3 q4 q5 hn0; rw [← hs] at sb q5
  obtain ⟨ns, hns⟩ : ∃ ns, ns = n * s := ⟨_, rfl⟩; rw [← hns] at q5
  have hnb : -1 ≤ ns ∧ ns ≤ 1 := by
    have : (n = -1 ∨ n = 0 ∨ n = 1) ∧ (s = -1 ∨ s = 0 ∨ s = 1) := by omega
    rcases this with ⟨rfl | rfl | rfl, rfl | rfl | rfl⟩ <;> omega
  have HWN : Hid (IntKind.i64.wrap (-n) = -n) := Lib.hid (IntWalk.i64_in _ (by omega))
  have hwr : IntKind.i64.wrap (n * s) = ns := by rw [hns]; exact IntWalk.i64_in _ (by omega)
  have g1 : (n != n) = false := by simp
  have g2 : ((-n) != (-n)) = false := by simp
  have g3 : (ns != ns) = false := by simp
  have f0 : decide (0 ≤ n) = true := decide_eq_true (by omega); have g4 : (n == 0) = false := by rw [beq_eq_false_iff_ne]; omega
  rw [g4] at q1
  have HN := Lib.hid hn; have HS := Lib.hid hs; have Q1 := Lib.hid q1; have Q2 := Lib.hid q2; have Q3 := Lib.hid q3; have Q4 := Lib.hid q4; have Q5 := Lib.hid q5; have HWR := Lib.hid hwr; have HNS := Lib.hid hns
  clear hn hs q1 q2 q3 q4 q5 hwr hns hn0
  have hb0 := ((((Below.refl w.heap.size w).alloc (by first | (simp; done) | (simp; omega)) (.cells #[.bool sp, .slice op np cp, .slice ap mp dp] 24)).alloc (by first | (simp; done) | (simp; omega)) (.cells #[.bool su, .slice ou nu cu, .slice au mu du] 24)).alloc (by first | (simp; done) | (simp; omega)) (.cells #[.bool sv, .slice ov nv cv, .slice av mv dv] 24))
  have hxp := nest3_0 w (.cells #[.bool sp, .slice op np cp, .slice ap mp dp] 24) (.cells #[.bool su, .slice ou nu cu, .slice au mu du] 24) (.cells #[.bool sv, .slice ov nv cv, .slice av mv dv] 24)
  have hxu := nest3_1 w (.cells #[.bool sp, .slice op np cp, .slice ap mp dp] 24) (.cells #[.bool su, .slice ou nu cu, .slice au mu du] 24) (.cells #[.bool sv, .slice ov nv cv, .slice av mv dv] 24)
  have hxv := nest3_2 w (.cells #[.bool sp, .slice op np cp, .slice ap mp dp] 24) (.cells #[.bool su, .slice ou nu cu, .slice au mu du] 24) (.cells #[.bool sv, .slice ov nv cv, .slice av mv dv] 24)
  have hpp := hp.below hb0
  have hpu := hu.below hb0
  have hpv := hv.below hb0
  obtain ⟨w0, hw0⟩ : ∃ w0, w0 = (((w.alloc (.cells #[.bool sp, .slice op np cp, .slice ap mp dp] 24)).alloc (.cells #[.bool su, .slice ou nu cu, .slice au mu du] 24)).alloc (.cells #[.bool sv, .slice ov nv cv, .slice av mv dv] 24)) := ⟨_, rfl⟩
  rw [← hw0] at hb0 hxp hxu hxv hpp hpu hpv
  have HB0 := Lib.hid hb0; have HW0 := Lib.hid hw0
  have BXp := Lib.hid hxp
  have BXu := Lib.hid hxu
  have BXv := Lib.hid hxv
  have Fp := Lib.hid hpp
  have Fu := Lib.hid hpu
  have Fv := Lib.hid hpv
  clear hb0 hw0 hxp hxu hxv hpp hp hpu hu hpv hv
  have zzp : np ≤ 12 ∧ mp ≤ 12 := zp; clear zp
  have _lp := lp
  have zzu : nu ≤ 12 ∧ mu ≤ 12 := zu; clear zu
  have _lu := lu
  have zzv : nv ≤ 12 ∧ mv ≤ 12 := zv; clear zv
  have _lv := lv
  go_enter Tryd.func8, Tryd.ntmps8
  have hs := awake02 w0
  have HS := Lib.hid hs; clear hs
  go_wp2_with fail
  rw [← HW0.out]
  (with_reducible refine HS.out.mono ?_); rintro e w1 ⟨rfl, hb1⟩
  clear HS
  have HB1 := Lib.hid (HB0.out.step hb1)
  have Fp := Lib.hid (Fp.out.below hb1)
  have Fu := Lib.hid (Fu.out.below hb1)
  have Fv := Lib.hid (Fv.out.below hb1)
  have BXp := Lib.hid (heap_below BXp.out hb1)
  have BXu := Lib.hid (heap_below BXu.out hb1)
  have BXv := Lib.hid (heap_below BXv.out hb1)
  clear hb1
  obtain ⟨ep0, ep1, ep2⟩ := row3 BXp.out
  obtain ⟨eu0, eu1, eu2⟩ := row3 BXu.out
  obtain ⟨ev0, ev1, ev2⟩ := row3 BXv.out
  obtain ⟨w2, hw2⟩ : ∃ w2, w2 = w1.alloc (.cells #[.bool sp, .slice op np cp, .slice ap mp dp, .bool su, .slice ou nu cu, .slice au mu du, .bool sv, .slice ov nv cv, .slice av mv dv] 24) := ⟨_, rfl⟩
  have hb2 : Below w1.heap.size w1 w2 := by rw [hw2]; exact (Below.refl _ _).alloc (Nat.le_refl _) _
  have hxLS := heap_alloc_new w1 (.cells #[.bool sp, .slice op np cp, .slice ap mp dp, .bool su, .slice ou nu cu, .slice au mu du, .bool sv, .slice ov nv cv, .slice av mv dv] 24)
  obtain ⟨gLS, hgLS⟩ : ∃ gLS, gLS = w1.heap.size := ⟨_, rfl⟩
  rw [← hw2, ← hgLS] at hxLS
  have HW2 := Lib.hid hw2; have HGLS := Lib.hid hgLS; clear hw2 hgLS
  have HB2 := Lib.hid (HB1.out.step hb2)
  have Fp := Lib.hid (Fp.out.below hb2)
  have Fu := Lib.hid (Fu.out.below hb2)
  have Fv := Lib.hid (Fv.out.below hb2)
  have BXp := Lib.hid (heap_below BXp.out hb2)
  have BXu := Lib.hid (heap_below BXu.out hb2)
  have BXv := Lib.hid (heap_below BXv.out hb2)
  clear hb2
  have BXLS := Lib.hid hxLS; clear hxLS
  have hs := rlarge3s BXLS.out zzp zzu zzv
  have HS := Lib.hid hs; clear hs
  go_wp2_with fail
  rw [← HW2.out]
  try rw [← HGLS.out]
  (with_reducible refine HS.out.mono ?_); rintro e w3 ⟨rfl, hb3⟩
  clear HS
  have HB3 := Lib.hid (HB2.out.step hb3)
  have Fp := Lib.hid (Fp.out.below hb3)
  have Fu := Lib.hid (Fu.out.below hb3)
  have Fv := Lib.hid (Fv.out.below hb3)
  have BXp := Lib.hid (heap_below BXp.out hb3)
  have BXu := Lib.hid (heap_below BXu.out hb3)
  have BXv := Lib.hid (heap_below BXv.out hb3)
  clear hb3
  clear BXLS
  go_wp2_with fail
  have lwp := below_lt BXp.out
  have lwu := below_lt BXu.out
  have lwv := below_lt BXv.out
  refine wp_region_facts (w := w3) 8 [] (by kernel_rfl) (Fl [KEq (.agg #[.bool sp, .slice op np cp, .slice ap mp dp]), KEq (.agg #[.bool false, .slice none 0 0, .slice none 0 0]), KIs (p), KEq (.agg #[.bool su, .slice ou nu cu, .slice au mu du]), KEq (.agg #[.bool false, .slice none 0 0, .slice none 0 0]), KIs (u), KBox w3.heap.size, KBox w3.heap.size]) (fun i => i == 6 || i == 7) (by kernel_rfl) (fun _ _ _ _ _ h => h) (monoL (monoC (kEq _) (monoC (kEq _) (monoC (kIs _) (monoC (kEq _) (monoC (kEq _) (monoC (kIs _) (monoC (kBox _) (monoC (kBox _) monoN))))))))) ?st3 ?tl3
  case st3 =>
    simp only [List.take_succ_cons, List.take_zero]
    refine stepsOK_cons rfl ?_ (stepsOK_cons rfl ?_ (stepsOK_cons rfl ?_ (stepsOK_cons rfl ?_ (stepsOK_cons rfl ?_ (stepsOK_cons rfl ?_ (stepsOK_cons rfl ?_ (stepsOK_cons rfl ?_ (stepsOK_nil))))))))
    · intro vals w1 hb hd
      simp only [putsTo, dstOf, if_true, Act.put, List.setIfInBounds_toArray, List.set_cons_zero, List.set_cons_succ, List.getElem?_toArray, List.getElem?_cons_zero, List.getElem?_cons_succ, Option.bind_some]
      obtain ⟨e0, e1, e2⟩ := row3 (heap_below BXp.out hb)
      refine stepOK_value (v := .agg #[.bool sp, .slice op np cp, .slice ap mp dp]) (w' := w1) (by go_simp) (leaves_mk (Below.refl _ _) rfl (fun h => by cases h))
    · intro vals w1 hb hd
      simp only [putsTo, dstOf, if_true, Act.put, List.setIfInBounds_toArray, List.set_cons_zero, List.set_cons_succ, List.getElem?_toArray, List.getElem?_cons_zero, List.getElem?_cons_succ, Option.bind_some]
      refine stepOK_value (v := .agg #[.bool false, .slice none 0 0, .slice none 0 0]) (w' := w1) (by go_simp) (leaves_mk (Below.refl _ _) rfl (fun h => by cases h))
    · intro vals w1 hb hd
      have d0 : KEq (.agg #[.bool sp, .slice op np cp, .slice ap mp dp]) (vals 0) w1 := hd 0 (by kernel_rfl)
      have r0 : RatIs w1 (vals 0) p := by rw [show vals 0 = _ from d0]; exact Fp.out.below hb
      have d1 : KEq (.agg #[.bool false, .slice none 0 0, .slice none 0 0]) (vals 1) w1 := hd 1 (by kernel_rfl)
      have r1 : RatIs w1 (vals 1) 0 := by rw [show vals 1 = _ from d1]; exact (isR_zero w1).is (by rw [rl_zero]; decide)
      simp only [putsTo, dstOf, if_true, Act.put, List.setIfInBounds_toArray, List.set_cons_zero, List.set_cons_succ, List.getElem?_toArray, List.getElem?_cons_zero, List.getElem?_cons_succ, Option.bind_some]
      have hs := addq_any _ _ _ _ w1 r0 r1
      rw [Rat.add_zero] at hs
      have HS := Lib.hid hs; clear hs
      clear d0 d1 hd
      refine stepOK_call (by go_simp; first | done | exact ⟨⟨rfl, rfl⟩, rfl⟩) ?_
      (with_reducible refine HS.out.mono ?_); rintro e w2 ⟨v, rfl, hb2, hn⟩
      exact ⟨v, rfl, leaves_mk hb2 hn (fun h => by cases h)⟩
    · intro vals w1 hb hd
      simp only [putsTo, dstOf, if_true, Act.put, List.setIfInBounds_toArray, List.set_cons_zero, List.set_cons_succ, List.getElem?_toArray, List.getElem?_cons_zero, List.getElem?_cons_succ, Option.bind_some]
      obtain ⟨e0, e1, e2⟩ := row3 (heap_below BXu.out hb)
      refine stepOK_value (v := .agg #[.bool su, .slice ou nu cu, .slice au mu du]) (w' := w1) (by go_simp) (leaves_mk (Below.refl _ _) rfl (fun h => by cases h))
    · intro vals w1 hb hd
      simp only [putsTo, dstOf, if_true, Act.put, List.setIfInBounds_toArray, List.set_cons_zero, List.set_cons_succ, List.getElem?_toArray, List.getElem?_cons_zero, List.getElem?_cons_succ, Option.bind_some]
      refine stepOK_value (v := .agg #[.bool false, .slice none 0 0, .slice none 0 0]) (w' := w1) (by go_simp) (leaves_mk (Below.refl _ _) rfl (fun h => by cases h))
    · intro vals w1 hb hd
      have d3 : KEq (.agg #[.bool su, .slice ou nu cu, .slice au mu du]) (vals 3) w1 := hd 3 (by kernel_rfl)
      have r3 : RatIs w1 (vals 3) u := by rw [show vals 3 = _ from d3]; exact Fu.out.below hb
      have d4 : KEq (.agg #[.bool false, .slice none 0 0, .slice none 0 0]) (vals 4) w1 := hd 4 (by kernel_rfl)
      have r4 : RatIs w1 (vals 4) 0 := by rw [show vals 4 = _ from d4]; exact (isR_zero w1).is (by rw [rl_zero]; decide)
      simp only [putsTo, dstOf, if_true, Act.put, List.setIfInBounds_toArray, List.set_cons_zero, List.set_cons_succ, List.getElem?_toArray, List.getElem?_cons_zero, List.getElem?_cons_succ, Option.bind_some]
      have hs := addq_any _ _ _ _ w1 r3 r4
      rw [Rat.add_zero] at hs
      have HS := Lib.hid hs; clear hs
      clear d3 d4 hd
      refine stepOK_call (by go_simp; first | done | exact ⟨⟨rfl, rfl⟩, rfl⟩) ?_
      (with_reducible refine HS.out.mono ?_); rintro e w2 ⟨v, rfl, hb2, hn⟩
      exact ⟨v, rfl, leaves_mk hb2 hn (fun h => by cases h)⟩
    · intro vals w1 hb hd
      simp only [putsTo, dstOf, if_true, Act.put, List.setIfInBounds_toArray, List.set_cons_zero, List.set_cons_succ, List.getElem?_toArray, List.getElem?_cons_zero, List.getElem?_cons_succ, Option.bind_some]
      refine stepOK_value (v := .pointer (some ⟨w1.heap.size, 0, none⟩)) (w' := w1.alloc (.cells #[.bool false, .slice none 0 0, .slice none 0 0] 24)) (by go_simp) (leaves_mk ((Below.refl _ _).alloc (Nat.le_refl _) _) ⟨_, hb.size, rfl, heap_alloc_new _ _⟩ (fun _ => ⟨rfl, by simp⟩))
    · intro vals w1 hb hd
      simp only [putsTo, dstOf, if_true, Act.put, List.setIfInBounds_toArray, List.set_cons_zero, List.set_cons_succ, List.getElem?_toArray, List.getElem?_cons_zero, List.getElem?_cons_succ, Option.bind_some]
      refine stepOK_value (v := .pointer (some ⟨w1.heap.size, 0, none⟩)) (w' := w1.alloc (.cells #[.bool false, .slice none 0 0, .slice none 0 0] 24)) (by go_simp) (leaves_mk ((Below.refl _ _).alloc (Nat.le_refl _) _) ⟨_, hb.size, rfl, heap_alloc_new _ _⟩ (fun _ => ⟨rfl, by simp⟩))
  case tl3 =>
    intro vals w4 hb4 hf hdis
    simp only [putsTo, dstOf, if_true, Act.put, List.setIfInBounds_toArray, List.set_cons_zero, List.set_cons_succ, List.getElem?_toArray, List.getElem?_cons_zero, List.getElem?_cons_succ, Option.bind_some, List.drop_succ_cons, List.drop_zero]
    obtain ⟨gx, hgx, ev6, hzx⟩ : KBox w3.heap.size (vals 6) w4 := hf 6 (by decide)
    have hnXP : IsR w4 (vals 2) (p) := hf 2 (by decide)
    obtain ⟨gy, hgy, ev7, hzy⟩ : KBox w3.heap.size (vals 7) w4 := hf 7 (by decide)
    have hnYQ : IsR w4 (vals 5) (u) := hf 5 (by decide)
    have nexy : gx ≠ gy := fun e => hdis 6 7 (by decide) (by decide) (by decide) (by decide) (by decide) (by rw [ev6, ev7, e])
    clear hf hdis
    rw [ev6]; clear ev6
    rw [ev7]; clear ev7
    have HB4 := Lib.hid (HB3.out.step hb4)
    have Fp := Lib.hid (Fp.out.below hb4)
    have Fu := Lib.hid (Fu.out.below hb4)
    have Fv := Lib.hid (Fv.out.below hb4)
    have BXp := Lib.hid (heap_below BXp.out hb4)
    have BXu := Lib.hid (heap_below BXu.out hb4)
    have BXv := Lib.hid (heap_below BXv.out hb4)
    obtain ⟨uXP, huXP⟩ : ∃ u, u = vals 2 := ⟨_, rfl⟩
    rw [← huXP] at hnXP ⊢; clear huXP
    have XP := Lib.hid hnXP; clear hnXP
    obtain ⟨sXP, oXP, nXP, cXP, aXP, mXP, dXP, rfl⟩ := XP.out.shape
    obtain ⟨uYQ, huYQ⟩ : ∃ u, u = vals 5 := ⟨_, rfl⟩
    rw [← huYQ] at hnYQ ⊢; clear huYQ
    have YQ := Lib.hid hnYQ; clear hnYQ
    obtain ⟨sYQ, oYQ, nYQ, cYQ, aYQ, mYQ, dYQ, rfl⟩ := YQ.out.shape
    have BXx := Lib.hid hzx; clear hzx
    have hgwx : w.heap.size ≤ gx := Nat.le_trans HB3.out.size hgx
    have BXy := Lib.hid hzy; clear hzy
    have hgwy : w.heap.size ≤ gy := Nat.le_trans HB3.out.size hgy
    clear hb4
    obtain ⟨ex0, ex1, ex2⟩ := row3 BXx.out
    obtain ⟨fx0, fx1, fx2⟩ := froz3 BXx.out
    obtain ⟨ey0, ey1, ey2⟩ := row3 BXy.out
    obtain ⟨fy0, fy1, fy2⟩ := froz3 BXy.out
    obtain ⟨w5, hw5⟩ : ∃ w5, w5 = ((w4.setCell ⟨gx, 0, none⟩ (.bool sXP)).setCell ⟨gx, 1, none⟩ (.slice oXP nXP cXP)).setCell ⟨gx, 2, none⟩ (.slice aXP mXP dXP) := ⟨_, rfl⟩
    have hp5 : w5 = put3 w4 (gx) (.bool sXP) (.slice oXP nXP cXP) (.slice aXP mXP dXP) := hw5
    first | have Fp := Lib.hid (putkI hp5 Fp.out BXx.out) | have Fp := Lib.hid (putkR hp5 Fp.out BXx.out) | have Fp := Lib.hid (putkV hp5 Fp.out BXx.out)
    first | have Fu := Lib.hid (putkI hp5 Fu.out BXx.out) | have Fu := Lib.hid (putkR hp5 Fu.out BXx.out) | have Fu := Lib.hid (putkV hp5 Fu.out BXx.out)
    first | have Fv := Lib.hid (putkI hp5 Fv.out BXx.out) | have Fv := Lib.hid (putkR hp5 Fv.out BXx.out) | have Fv := Lib.hid (putkV hp5 Fv.out BXx.out)
    first | have XP := Lib.hid (putkI hp5 XP.out BXx.out) | have XP := Lib.hid (putkR hp5 XP.out BXx.out) | have XP := Lib.hid (putkV hp5 XP.out BXx.out)
    first | have YQ := Lib.hid (putkI hp5 YQ.out BXx.out) | have YQ := Lib.hid (putkR hp5 YQ.out BXx.out) | have YQ := Lib.hid (putkV hp5 YQ.out BXx.out)
    have BXp := Lib.hid (putx hp5 BXp.out (by first | omega | (have := below_lt BXp.out; omega)))
    have BXu := Lib.hid (putx hp5 BXu.out (by first | omega | (have := below_lt BXu.out; omega)))
    have BXv := Lib.hid (putx hp5 BXv.out (by first | omega | (have := below_lt BXv.out; omega)))
    have nxx : w5.heap[gx]? = some (.cells #[.bool sXP, .slice oXP nXP cXP, .slice aXP mXP dXP] 24) := by rw [hp5]; exact put3_heap BXx.out
    have BXy := Lib.hid (putx hp5 BXy.out (by first | omega | (have := below_lt BXy.out; omega)))
    have BXx := Lib.hid nxx; clear nxx
    have HB5 := Lib.hid (putb hp5 HB4.out (by omega))
    have HW5 := Lib.hid hw5; clear hw5 hp5
    obtain ⟨w6, hw6⟩ : ∃ w6, w6 = ((w5.setCell ⟨gy, 0, none⟩ (.bool sYQ)).setCell ⟨gy, 1, none⟩ (.slice oYQ nYQ cYQ)).setCell ⟨gy, 2, none⟩ (.slice aYQ mYQ dYQ) := ⟨_, rfl⟩
    have hp6 : w6 = put3 w5 (gy) (.bool sYQ) (.slice oYQ nYQ cYQ) (.slice aYQ mYQ dYQ) := hw6
    first | have Fp := Lib.hid (putkI hp6 Fp.out BXy.out) | have Fp := Lib.hid (putkR hp6 Fp.out BXy.out) | have Fp := Lib.hid (putkV hp6 Fp.out BXy.out)
    first | have Fu := Lib.hid (putkI hp6 Fu.out BXy.out) | have Fu := Lib.hid (putkR hp6 Fu.out BXy.out) | have Fu := Lib.hid (putkV hp6 Fu.out BXy.out)
    first | have Fv := Lib.hid (putkI hp6 Fv.out BXy.out) | have Fv := Lib.hid (putkR hp6 Fv.out BXy.out) | have Fv := Lib.hid (putkV hp6 Fv.out BXy.out)
    first | have XP := Lib.hid (putkI hp6 XP.out BXy.out) | have XP := Lib.hid (putkR hp6 XP.out BXy.out) | have XP := Lib.hid (putkV hp6 XP.out BXy.out)
    first | have YQ := Lib.hid (putkI hp6 YQ.out BXy.out) | have YQ := Lib.hid (putkR hp6 YQ.out BXy.out) | have YQ := Lib.hid (putkV hp6 YQ.out BXy.out)
    have BXp := Lib.hid (putx hp6 BXp.out (by first | omega | (have := below_lt BXp.out; omega)))
    have BXu := Lib.hid (putx hp6 BXu.out (by first | omega | (have := below_lt BXu.out; omega)))
    have BXv := Lib.hid (putx hp6 BXv.out (by first | omega | (have := below_lt BXv.out; omega)))
    have BXx := Lib.hid (putx hp6 BXx.out (by first | omega | (have := below_lt BXx.out; omega)))
    have nxy : w6.heap[gy]? = some (.cells #[.bool sYQ, .slice oYQ nYQ cYQ, .slice aYQ mYQ dYQ] 24) := by rw [hp6]; exact put3_heap BXy.out
    have BXy := Lib.hid nxy; clear nxy
    have HB6 := Lib.hid (putb hp6 HB5.out (by omega))
    have HW6 := Lib.hid hw6; clear hw6 hp6
    have hs := cmpq_any _ p _ u w6 Fp.out Fu.out (by omega) (by omega)
    rw [← HN.out] at hs
    have HS := Lib.hid hs; clear hs
    obtain ⟨ep0, ep1, ep2⟩ := row3 BXp.out
    obtain ⟨eu0, eu1, eu2⟩ := row3 BXu.out
    rw [HW6.out] at ep0
    rw [HW6.out] at ep1
    rw [HW6.out] at ep2
    rw [HW6.out] at eu0
    rw [HW6.out] at eu1
    rw [HW6.out] at eu2
    rw [HW5.out] at ep0
    rw [HW5.out] at ep1
    rw [HW5.out] at ep2
    rw [HW5.out] at eu0
    rw [HW5.out] at eu1
    rw [HW5.out] at eu2
    go_wp2_with fail
    rw [← HW5.out]
    rw [← HW6.out]
    clear ep0 ep1 ep2 eu0 eu1 eu2 ex0 ex1 ex2 fx0 fx1 fx2 ey0 ey1 ey2 fy0 fy1 fy2
    (with_reducible refine HS.out.mono ?_); rintro e w7 ⟨rfl, hb7⟩
    clear HS
    have HB7 := Lib.hid (HB6.out.step hb7)
    have Fp := Lib.hid (Fp.out.below hb7)
    have Fu := Lib.hid (Fu.out.below hb7)
    have Fv := Lib.hid (Fv.out.below hb7)
    have XP := Lib.hid (XP.out.below hb7)
    have YQ := Lib.hid (YQ.out.below hb7)
    have BXp := Lib.hid (heap_below BXp.out hb7)
    have BXu := Lib.hid (heap_below BXu.out hb7)
    have BXv := Lib.hid (heap_below BXv.out hb7)
    have BXx := Lib.hid (heap_below BXx.out hb7)
    have BXy := Lib.hid (heap_below BXy.out hb7)
    clear hb7
    have HBC := Lib.hid ((Below.refl w7.heap.size w7).drew)
    have hc := fun va vb w1 (ha : IsR w1 va p) (hb : IsR w1 vb u) => rat_any va p vb u w1 ha hb (by omega) (by omega)
    rw [Q1.out] at hc
    have CQ := Lib.hid hc; clear hc
    have hc := fun w1 (h1 : Below w7.heap.size w7 w1) => cmpq_any _ u _ p w1 (Fu.out.below h1) (Fp.out.below h1) (by omega) (by omega)
    rw [Q2.out] at hc
    have C1 := Lib.hid hc; clear hc
    have hc := fun w1 (h1 : Below w7.heap.size w7 w1) => subq_any _ p _ u w1 (Fp.out.below h1) (Fu.out.below h1)
    have C2 := Lib.hid hc; clear hc
    have hc := fun va w1 (ha : IsR w1 va (p - u)) => sign_any va (p - u) w1 (ha.is (by omega))
    rw [Q3.out] at hc
    have C3 := Lib.hid hc; clear hc
    have hc := fun w1 (h1 : Below w7.heap.size w7 w1) => addq_any _ p _ v w1 (Fp.out.below h1) (Fv.out.below h1)
    have C4 := Lib.hid hc; clear hc
    have hc := fun w1 (h1 : Below w7.heap.size w7 w1) => addq_any _ u _ v w1 (Fu.out.below h1) (Fv.out.below h1)
    have C5 := Lib.hid hc; clear hc
    have hc := fun va vb w1 (ha : IsR w1 va (p + v)) (hb : IsR w1 vb (u + v)) => cmpq_any va (p + v) vb (u + v) w1 (ha.is (by omega)) (hb.is (by omega)) (by omega) (by omega)
    rw [Q4.out] at hc
    have C6 := Lib.hid hc; clear hc
    have Zp := Lib.hid (fun w1 (h1 : Below w7.heap.size w7 w1) => row3 (heap_below BXp.out h1))
    have Zu := Lib.hid (fun w1 (h1 : Below w7.heap.size w7 w1) => row3 (heap_below BXu.out h1))
    have Zv := Lib.hid (fun w1 (h1 : Below w7.heap.size w7 w1) => row3 (heap_below BXv.out h1))
    have Zx := Lib.hid (fun w1 (h1 : Below w7.heap.size w7 w1) => row3 (heap_below BXx.out h1))
    have Zy := Lib.hid (fun w1 (h1 : Below w7.heap.size w7 w1) => row3 (heap_below BXy.out h1))
    go_wp2_with fail
    have hwn := HWN.out
    obtain ⟨zp0, zp1, zp2⟩ := Zp.out _ HBC.out
    obtain ⟨zu0, zu1, zu2⟩ := Zu.out _ HBC.out
    obtain ⟨zv0, zv1, zv2⟩ := Zv.out _ HBC.out
    obtain ⟨zx0, zx1, zx2⟩ := Zx.out _ HBC.out
    obtain ⟨zy0, zy1, zy2⟩ := Zy.out _ HBC.out
    go_region_held3 (fun wx => wx.cell? ⟨w.heap.size, 0, none⟩ = some (.bool sp) ∧ wx.cell? ⟨w.heap.size, 1, none⟩ = some (.slice op np cp) ∧ wx.cell? ⟨w.heap.size, 2, none⟩ = some (.slice ap mp dp) ∧ wx.cell? ⟨w.heap.size + 1, 0, none⟩ = some (.bool su) ∧ wx.cell? ⟨w.heap.size + 1, 1, none⟩ = some (.slice ou nu cu) ∧ wx.cell? ⟨w.heap.size + 1, 2, none⟩ = some (.slice au mu du) ∧ wx.cell? ⟨w.heap.size + 2, 0, none⟩ = some (.bool sv) ∧ wx.cell? ⟨w.heap.size + 2, 1, none⟩ = some (.slice ov nv cv) ∧ wx.cell? ⟨w.heap.size + 2, 2, none⟩ = some (.slice av mv dv) ∧ wx.cell? ⟨gx, 0, none⟩ = some (.bool sXP) ∧ wx.cell? ⟨gx, 1, none⟩ = some (.slice oXP nXP cXP) ∧ wx.cell? ⟨gx, 2, none⟩ = some (.slice aXP mXP dXP) ∧ wx.cell? ⟨gy, 0, none⟩ = some (.bool sYQ) ∧ wx.cell? ⟨gy, 1, none⟩ = some (.slice oYQ nYQ cYQ) ∧ wx.cell? ⟨gy, 2, none⟩ = some (.slice aYQ mYQ dYQ)) (first | exact ⟨zp0, zp1, zp2, zu0, zu1, zu2, zv0, zv1, zv2, zx0, zx1, zx2, zy0, zy1, zy2⟩ | exact put6 (by omega) (by omega) (by omega) (by omega) (by omega) ⟨zp0, zp1, zp2, zu0, zu1, zu2, zv0, zv1, zv2, zx0, zx1, zx2, zy0, zy1, zy2⟩ | exact al3 ⟨zp0, zp1, zp2, zu0, zu1, zu2, zv0, zv1, zv2, zx0, zx1, zx2, zy0, zy1, zy2⟩ | exact put3c (by omega) (al3 ⟨zp0, zp1, zp2, zu0, zu1, zu2, zv0, zv1, zv2, zx0, zx1, zx2, zy0, zy1, zy2⟩)) (first
      | (go_at_call 17; (with_reducible refine (CQ.out _ _ _ (XP.out.below HBC.out) (YQ.out.below HBC.out)).mono ?_); rintro e wr0 ⟨rfl, hb⟩; (have HBC := Lib.hid (HBC.out.step hb)); (try have F1 := Lib.hid (F1.out.below hb)); (try have F2 := Lib.hid (F2.out.below hb)); (try have F3 := Lib.hid (F3.out.below hb)); clear hb; (obtain ⟨zp0, zp1, zp2⟩ := Zp.out _ HBC.out); (obtain ⟨zu0, zu1, zu2⟩ := Zu.out _ HBC.out); (obtain ⟨zv0, zv1, zv2⟩ := Zv.out _ HBC.out); (obtain ⟨zx0, zx1, zx2⟩ := Zx.out _ HBC.out); (obtain ⟨zy0, zy1, zy2⟩ := Zy.out _ HBC.out))
      | (go_at_call 41; (with_reducible refine (C1.out _ HBC.out).mono ?_); rintro e wr1 ⟨rfl, hb⟩; (have HBC := Lib.hid (HBC.out.step hb)); (try have F1 := Lib.hid (F1.out.below hb)); (try have F2 := Lib.hid (F2.out.below hb)); (try have F3 := Lib.hid (F3.out.below hb)); clear hb; (obtain ⟨zp0, zp1, zp2⟩ := Zp.out _ HBC.out); (obtain ⟨zu0, zu1, zu2⟩ := Zu.out _ HBC.out); (obtain ⟨zv0, zv1, zv2⟩ := Zv.out _ HBC.out); (obtain ⟨zx0, zx1, zx2⟩ := Zx.out _ HBC.out); (obtain ⟨zy0, zy1, zy2⟩ := Zy.out _ HBC.out))
      | (go_at_call 35; (with_reducible refine (C2.out _ HBC.out).mono ?_); rintro e wr2 ⟨v2r, rfl, hb, hn⟩; (have HBC := Lib.hid (HBC.out.step hb)); (try have F1 := Lib.hid (F1.out.below hb)); (try have F2 := Lib.hid (F2.out.below hb)); (try have F3 := Lib.hid (F3.out.below hb)); (have F1 := Lib.hid hn); clear hn; clear hb; (obtain ⟨zp0, zp1, zp2⟩ := Zp.out _ HBC.out); (obtain ⟨zu0, zu1, zu2⟩ := Zu.out _ HBC.out); (obtain ⟨zv0, zv1, zv2⟩ := Zv.out _ HBC.out); (obtain ⟨zx0, zx1, zx2⟩ := Zx.out _ HBC.out); (obtain ⟨zy0, zy1, zy2⟩ := Zy.out _ HBC.out))
      | (go_at_call 42; (with_reducible refine (C3.out _ _ F1.out).mono ?_); rintro e wr3 ⟨rfl, hb⟩; (have HBC := Lib.hid (HBC.out.step hb)); (try have F1 := Lib.hid (F1.out.below hb)); (try have F2 := Lib.hid (F2.out.below hb)); (try have F3 := Lib.hid (F3.out.below hb)); clear hb; (obtain ⟨zp0, zp1, zp2⟩ := Zp.out _ HBC.out); (obtain ⟨zu0, zu1, zu2⟩ := Zu.out _ HBC.out); (obtain ⟨zv0, zv1, zv2⟩ := Zv.out _ HBC.out); (obtain ⟨zx0, zx1, zx2⟩ := Zx.out _ HBC.out); (obtain ⟨zy0, zy1, zy2⟩ := Zy.out _ HBC.out))
      | (go_at_call 33; (with_reducible refine (C4.out _ HBC.out).mono ?_); rintro e wr4 ⟨v4r, rfl, hb, hn⟩; (have HBC := Lib.hid (HBC.out.step hb)); (try have F1 := Lib.hid (F1.out.below hb)); (try have F2 := Lib.hid (F2.out.below hb)); (try have F3 := Lib.hid (F3.out.below hb)); (have F2 := Lib.hid hn); clear hn; clear hb; (obtain ⟨zp0, zp1, zp2⟩ := Zp.out _ HBC.out); (obtain ⟨zu0, zu1, zu2⟩ := Zu.out _ HBC.out); (obtain ⟨zv0, zv1, zv2⟩ := Zv.out _ HBC.out); (obtain ⟨zx0, zx1, zx2⟩ := Zx.out _ HBC.out); (obtain ⟨zy0, zy1, zy2⟩ := Zy.out _ HBC.out))
      | (go_at_call 33; (with_reducible refine (C5.out _ HBC.out).mono ?_); rintro e wr5 ⟨v5r, rfl, hb, hn⟩; (have HBC := Lib.hid (HBC.out.step hb)); (try have F1 := Lib.hid (F1.out.below hb)); (try have F2 := Lib.hid (F2.out.below hb)); (try have F3 := Lib.hid (F3.out.below hb)); (have F3 := Lib.hid hn); clear hn; clear hb; (obtain ⟨zp0, zp1, zp2⟩ := Zp.out _ HBC.out); (obtain ⟨zu0, zu1, zu2⟩ := Zu.out _ HBC.out); (obtain ⟨zv0, zv1, zv2⟩ := Zv.out _ HBC.out); (obtain ⟨zx0, zx1, zx2⟩ := Zx.out _ HBC.out); (obtain ⟨zy0, zy1, zy2⟩ := Zy.out _ HBC.out))
      | (go_at_call 41; (with_reducible refine (C6.out _ _ _ F2.out F3.out).mono ?_); rintro e wr6 ⟨rfl, hb⟩; (have HBC := Lib.hid (HBC.out.step hb)); (try have F1 := Lib.hid (F1.out.below hb)); (try have F2 := Lib.hid (F2.out.below hb)); (try have F3 := Lib.hid (F3.out.below hb)); clear hb; (obtain ⟨zp0, zp1, zp2⟩ := Zp.out _ HBC.out); (obtain ⟨zu0, zu1, zu2⟩ := Zu.out _ HBC.out); (obtain ⟨zv0, zv1, zv2⟩ := Zv.out _ HBC.out); (obtain ⟨zx0, zx1, zx2⟩ := Zx.out _ HBC.out); (obtain ⟨zy0, zy1, zy2⟩ := Zy.out _ HBC.out)))
    clear hwn
    have Fp := Lib.hid (Fp.out.below HBC.out)
    have Fu := Lib.hid (Fu.out.below HBC.out)
    have Fv := Lib.hid (Fv.out.below HBC.out)
    have XP := Lib.hid (XP.out.below HBC.out)
    have YQ := Lib.hid (YQ.out.below HBC.out)
    have BXp := Lib.hid (heap_below BXp.out HBC.out)
    have BXu := Lib.hid (heap_below BXu.out HBC.out)
    have BXv := Lib.hid (heap_below BXv.out HBC.out)
    have BXx := Lib.hid (heap_below BXx.out HBC.out)
    have BXy := Lib.hid (heap_below BXy.out HBC.out)
    have HB8 := Lib.hid (HB7.out.step HBC.out)
    have HBC := Lib.hid ((Below.refl wr6.heap.size wr6).drew)
    have hc := fun w1 (h1 : Below wr6.heap.size wr6 w1) => mulq_any _ p _ v w1 (Fp.out.below h1) (Fv.out.below h1)
    have C7 := Lib.hid hc; clear hc
    have hc := fun w1 (h1 : Below wr6.heap.size wr6 w1) => mulq_any _ u _ v w1 (Fu.out.below h1) (Fv.out.below h1)
    have C8 := Lib.hid hc; clear hc
    have hc := fun va vb w1 (ha : IsR w1 va (p * v)) (hb : IsR w1 vb (u * v)) => cmpq_any va (p * v) vb (u * v) w1 (ha.is (by omega)) (hb.is (by omega)) (by omega) (by omega)
    rw [Q5.out] at hc
    have C9 := Lib.hid hc; clear hc
    have hc := fun w1 (h1 : Below wr6.heap.size wr6 w1) => sign_any _ v w1 (Fv.out.below h1)
    rw [← HS.out] at hc
    have C10 := Lib.hid hc; clear hc
    have Zp := Lib.hid (fun w1 (h1 : Below wr6.heap.size wr6 w1) => row3 (heap_below BXp.out h1))
    have Zu := Lib.hid (fun w1 (h1 : Below wr6.heap.size wr6 w1) => row3 (heap_below BXu.out h1))
    have Zv := Lib.hid (fun w1 (h1 : Below wr6.heap.size wr6 w1) => row3 (heap_below BXv.out h1))
    go_wp2_with fail
    have hwr := HWR.out
    obtain ⟨zp0, zp1, zp2⟩ := Zp.out _ HBC.out
    obtain ⟨zu0, zu1, zu2⟩ := Zu.out _ HBC.out
    obtain ⟨zv0, zv1, zv2⟩ := Zv.out _ HBC.out
    go_region_held3 (fun wx => wx.cell? ⟨w.heap.size, 0, none⟩ = some (.bool sp) ∧ wx.cell? ⟨w.heap.size, 1, none⟩ = some (.slice op np cp) ∧ wx.cell? ⟨w.heap.size, 2, none⟩ = some (.slice ap mp dp) ∧ wx.cell? ⟨w.heap.size + 1, 0, none⟩ = some (.bool su) ∧ wx.cell? ⟨w.heap.size + 1, 1, none⟩ = some (.slice ou nu cu) ∧ wx.cell? ⟨w.heap.size + 1, 2, none⟩ = some (.slice au mu du) ∧ wx.cell? ⟨w.heap.size + 2, 0, none⟩ = some (.bool sv) ∧ wx.cell? ⟨w.heap.size + 2, 1, none⟩ = some (.slice ov nv cv) ∧ wx.cell? ⟨w.heap.size + 2, 2, none⟩ = some (.slice av mv dv)) (first | exact ⟨zp0, zp1, zp2, zu0, zu1, zu2, zv0, zv1, zv2⟩ | exact put6 (by omega) (by omega) (by omega) ⟨zp0, zp1, zp2, zu0, zu1, zu2, zv0, zv1, zv2⟩ | exact al3 ⟨zp0, zp1, zp2, zu0, zu1, zu2, zv0, zv1, zv2⟩ | exact put3c (by omega) (al3 ⟨zp0, zp1, zp2, zu0, zu1, zu2, zv0, zv1, zv2⟩)) (first
      | (go_at_call 29; (with_reducible refine (C7.out _ HBC.out).mono ?_); rintro e wr2_0 ⟨v0r, rfl, hb, hn⟩; (have HBC := Lib.hid (HBC.out.step hb)); (try have F4 := Lib.hid (F4.out.below hb)); (try have F5 := Lib.hid (F5.out.below hb)); (have F4 := Lib.hid hn); clear hn; clear hb; (obtain ⟨zp0, zp1, zp2⟩ := Zp.out _ HBC.out); (obtain ⟨zu0, zu1, zu2⟩ := Zu.out _ HBC.out); (obtain ⟨zv0, zv1, zv2⟩ := Zv.out _ HBC.out))
      | (go_at_call 29; (with_reducible refine (C8.out _ HBC.out).mono ?_); rintro e wr2_1 ⟨v1r, rfl, hb, hn⟩; (have HBC := Lib.hid (HBC.out.step hb)); (try have F4 := Lib.hid (F4.out.below hb)); (try have F5 := Lib.hid (F5.out.below hb)); (have F5 := Lib.hid hn); clear hn; clear hb; (obtain ⟨zp0, zp1, zp2⟩ := Zp.out _ HBC.out); (obtain ⟨zu0, zu1, zu2⟩ := Zu.out _ HBC.out); (obtain ⟨zv0, zv1, zv2⟩ := Zv.out _ HBC.out))
      | (go_at_call 41; (with_reducible refine (C9.out _ _ _ F4.out F5.out).mono ?_); rintro e wr2_2 ⟨rfl, hb⟩; (have HBC := Lib.hid (HBC.out.step hb)); (try have F4 := Lib.hid (F4.out.below hb)); (try have F5 := Lib.hid (F5.out.below hb)); clear hb; (obtain ⟨zp0, zp1, zp2⟩ := Zp.out _ HBC.out); (obtain ⟨zu0, zu1, zu2⟩ := Zu.out _ HBC.out); (obtain ⟨zv0, zv1, zv2⟩ := Zv.out _ HBC.out))
      | (go_at_call 42; (with_reducible refine (C10.out _ HBC.out).mono ?_); rintro e wr2_3 ⟨rfl, hb⟩; (have HBC := Lib.hid (HBC.out.step hb)); (try have F4 := Lib.hid (F4.out.below hb)); (try have F5 := Lib.hid (F5.out.below hb)); clear hb; (obtain ⟨zp0, zp1, zp2⟩ := Zp.out _ HBC.out); (obtain ⟨zu0, zu1, zu2⟩ := Zu.out _ HBC.out); (obtain ⟨zv0, zv1, zv2⟩ := Zv.out _ HBC.out)))
    clear hwr
    have Fp := Lib.hid (Fp.out.below HBC.out)
    have Fu := Lib.hid (Fu.out.below HBC.out)
    have Fv := Lib.hid (Fv.out.below HBC.out)
    have XP := Lib.hid (XP.out.below HBC.out)
    have YQ := Lib.hid (YQ.out.below HBC.out)
    have BXp := Lib.hid (heap_below BXp.out HBC.out)
    have BXu := Lib.hid (heap_below BXu.out HBC.out)
    have BXv := Lib.hid (heap_below BXv.out HBC.out)
    have BXx := Lib.hid (heap_below BXx.out HBC.out)
    have BXy := Lib.hid (heap_below BXy.out HBC.out)
    have HB9 := Lib.hid (HB8.out.step HBC.out)
    go_wp2_with fail
    go_ret
    exact ⟨by first | rfl | (simp; done), HB9.out⟩
set_option maxRecDepth 100000 in
set_option maxHeartbeats 12800000 in
theorem equal_small2 (vp : Value) (p : Rat) (vu : Value) (u : Rat) (vv : Value) (v : Rat) (w : World) (hp : RatIs w vp p) (hu : RatIs w vu u) (hv : RatIs w vv v) (lp : rl p ≤ 12) (zp : (szR vp).1 ≤ 12 ∧ (szR vp).2 ≤ 12) (lu : rl u ≤ 12) (zu : (szR vu).1 ≤ 12 ∧ (szR vu).2 ≤ 12) (lv : rl v ≤ 12) (zv : (szR vv).1 ≤ 12 ∧ (szR vv).2 ≤ 12) (hn0 : cq p u < 0) (hn1 : 0 ≤ cq u v) :
    Calls Tryd.prog 8 #[vp, vu, vv] w (RetV w (.bool true)) := by
  obtain ⟨sp, op, np, cp, ap, mp, dp, rfl⟩ := hp.shape
  have hlp := hp.rl
  obtain ⟨su, ou, nu, cu, au, mu, du, rfl⟩ := hu.shape
  have hlu := hu.rl
  obtain ⟨sv, ov, nv, cv, av, mv, dv, rfl⟩ := hv.shape
  have hlv := hv.rl
  have cb := cq_bounds p u; have sb := sg_bounds v
  have q1 := cq_zero p u; have q2 := cq_swap p u; have q3 := sg_sub p u; have q4 := cq_add p u v; have q5 := cq_mul p u v
  have k1 := rl_add p v; have k2 := rl_add u v; have k3 := rl_sub p u; have k4 := rl_mul p v; have k5 := rl_mul u v
  obtain ⟨n, hn⟩ : ∃ n, n = cq p u := ⟨_, rfl⟩; obtain ⟨s, hs⟩ : ∃ s, s = sg v := ⟨_, rfl⟩
  rw [← hn] at cb q1 q2 q3 q4 q5 hn0; rw [← hs] at sb q5
  obtain ⟨ns, hns⟩ : ∃ ns, ns = n * s := ⟨_, rfl⟩; rw [← hns] at q5
  have hnb : -1 ≤ ns ∧ ns ≤ 1 := by
    have : (n = -1 ∨ n = 0 ∨ n = 1) ∧ (s = -1 ∨ s = 0 ∨ s = 1) := by omega
    rcases this with ⟨rfl | rfl | rfl, rfl | rfl | rfl⟩ <;> omega
  have HWN : Hid (IntKind.i64.wrap (-n) = -n) := Lib.hid (IntWalk.i64_in _ (by omega))
  have hwr : IntKind.i64.wrap (n * s) = ns := by rw [hns]; exact IntWalk.i64_in _ (by omega)
  have g1 : (n != n) = false := by simp
  have g2 : ((-n) != (-n)) = false := by simp
  have g3 : (ns != ns) = false := by simp
  obtain ⟨m, hm⟩ : ∃ m, m = cq u v := ⟨_, rfl⟩; rw [← hm] at hn1
  have f0 : decide (0 ≤ n) = false := decide_eq_false (by omega); have f1 : decide (0 ≤ m) = true := decide_eq_true hn1; have g4 : (n == 0) = false := by rw [beq_eq_false_iff_ne]; omega
  have HM := Lib.hid hm; clear hm
  rw [g4] at q1
  have HN := Lib.hid hn; have HS := Lib.hid hs; have Q1 := Lib.hid q1; have Q2 := Lib.hid q2; have Q3 := Lib.hid q3; have Q4 := Lib.hid q4; have Q5 := Lib.hid q5; have HWR := Lib.hid hwr; have HNS := Lib.hid hns
  clear hn hs q1 q2 q3 q4 q5 hwr hns hn0
  have hb0 := ((((Below.refl w.heap.size w).alloc (by first | (simp; done) | (simp; omega)) (.cells #[.bool sp, .slice op np cp, .slice ap mp dp] 24)).alloc (by first | (simp; done) | (simp; omega)) (.cells #[.bool su, .slice ou nu cu, .slice au mu du] 24)).alloc (by first | (simp; done) | (simp; omega)) (.cells #[.bool sv, .slice ov nv cv, .slice av mv dv] 24))
  have hxp := nest3_0 w (.cells #[.bool sp, .slice op np cp, .slice ap mp dp] 24) (.cells #[.bool su, .slice ou nu cu, .slice au mu du] 24) (.cells #[.bool sv, .slice ov nv cv, .slice av mv dv] 24)
  have hxu := nest3_1 w (.cells #[.bool sp, .slice op np cp, .slice ap mp dp] 24) (.cells #[.bool su, .slice ou nu cu, .slice au mu du] 24) (.cells #[.bool sv, .slice ov nv cv, .slice av mv dv] 24)
  have hxv := nest3_2 w (.cells #[.bool sp, .slice op np cp, .slice ap mp dp] 24) (.cells #[.bool su, .slice ou nu cu, .slice au mu du] 24) (.cells #[.bool sv, .slice ov nv cv, .slice av mv dv] 24)
  have hpp := hp.below hb0
  have hpu := hu.below hb0
  have hpv := hv.below hb0
  obtain ⟨w0, hw0⟩ : ∃ w0, w0 = (((w.alloc (.cells #[.bool sp, .slice op np cp, .slice ap mp dp] 24)).alloc (.cells #[.bool su, .slice ou nu cu, .slice au mu du] 24)).alloc (.cells #[.bool sv, .slice ov nv cv, .slice av mv dv] 24)) := ⟨_, rfl⟩
  rw [← hw0] at hb0 hxp hxu hxv hpp hpu hpv
  have HB0 := Lib.hid hb0; have HW0 := Lib.hid hw0
  have BXp := Lib.hid hxp
  have BXu := Lib.hid hxu
  have BXv := Lib.hid hxv
  have Fp := Lib.hid hpp
  have Fu := Lib.hid hpu
  have Fv := Lib.hid hpv
  clear hb0 hw0 hxp hxu hxv hpp hp hpu hu hpv hv
  have zzp : np ≤ 12 ∧ mp ≤ 12 := zp; clear zp
  have _lp := lp
  have zzu : nu ≤ 12 ∧ mu ≤ 12 := zu; clear zu
  have _lu := lu
  have zzv : nv ≤ 12 ∧ mv ≤ 12 := zv; clear zv
  have _lv := lv
  go_enter Tryd.func8, Tryd.ntmps8
  have hs := awake02 w0
  have HS := Lib.hid hs; clear hs
  go_wp2_with fail
  rw [← HW0.out]
  (with_reducible refine HS.out.mono ?_); rintro e w1 ⟨rfl, hb1⟩
  clear HS
  have HB1 := Lib.hid (HB0.out.step hb1)
  have Fp := Lib.hid (Fp.out.below hb1)
  have Fu := Lib.hid (Fu.out.below hb1)
  have Fv := Lib.hid (Fv.out.below hb1)
  have BXp := Lib.hid (heap_below BXp.out hb1)
  have BXu := Lib.hid (heap_below BXu.out hb1)
  have BXv := Lib.hid (heap_below BXv.out hb1)
  clear hb1
  obtain ⟨ep0, ep1, ep2⟩ := row3 BXp.out
  obtain ⟨eu0, eu1, eu2⟩ := row3 BXu.out
  obtain ⟨ev0, ev1, ev2⟩ := row3 BXv.out
  obtain ⟨w2, hw2⟩ : ∃ w2, w2 = w1.alloc (.cells #[.bool sp, .slice op np cp, .slice ap mp dp, .bool su, .slice ou nu cu, .slice au mu du, .bool sv, .slice ov nv cv, .slice av mv dv] 24) := ⟨_, rfl⟩
  have hb2 : Below w1.heap.size w1 w2 := by rw [hw2]; exact (Below.refl _ _).alloc (Nat.le_refl _) _
  have hxLS := heap_alloc_new w1 (.cells #[.bool sp, .slice op np cp, .slice ap mp dp, .bool su, .slice ou nu cu, .slice au mu du, .bool sv, .slice ov nv cv, .slice av mv dv] 24)
  obtain ⟨gLS, hgLS⟩ : ∃ gLS, gLS = w1.heap.size := ⟨_, rfl⟩
  rw [← hw2, ← hgLS] at hxLS
  have HW2 := Lib.hid hw2; have HGLS := Lib.hid hgLS; clear hw2 hgLS
  have HB2 := Lib.hid (HB1.out.step hb2)
  have Fp := Lib.hid (Fp.out.below hb2)
  have Fu := Lib.hid (Fu.out.below hb2)
  have Fv := Lib.hid (Fv.out.below hb2)
  have BXp := Lib.hid (heap_below BXp.out hb2)
  have BXu := Lib.hid (heap_below BXu.out hb2)
  have BXv := Lib.hid (heap_below BXv.out hb2)
  clear hb2
  have BXLS := Lib.hid hxLS; clear hxLS
  have hs := rlarge3s BXLS.out zzp zzu zzv
  have HS := Lib.hid hs; clear hs
  go_wp2_with fail
  rw [← HW2.out]
  try rw [← HGLS.out]
  (with_reducible refine HS.out.mono ?_); rintro e w3 ⟨rfl, hb3⟩
  clear HS
  have HB3 := Lib.hid (HB2.out.step hb3)
  have Fp := Lib.hid (Fp.out.below hb3)
  have Fu := Lib.hid (Fu.out.below hb3)
  have Fv := Lib.hid (Fv.out.below hb3)
  have BXp := Lib.hid (heap_below BXp.out hb3)
  have BXu := Lib.hid (heap_below BXu.out hb3)
  have BXv := Lib.hid (heap_below BXv.out hb3)
  clear hb3
  clear BXLS
  go_wp2_with fail
  have lwp := below_lt BXp.out
  have lwu := below_lt BXu.out
  have lwv := below_lt BXv.out
  refine wp_region_facts (w := w3) 8 [] (by kernel_rfl) (Fl [KEq (.agg #[.bool sp, .slice op np cp, .slice ap mp dp]), KEq (.agg #[.bool false, .slice none 0 0, .slice none 0 0]), KIs (p), KEq (.agg #[.bool su, .slice ou nu cu, .slice au mu du]), KEq (.agg #[.bool false, .slice none 0 0, .slice none 0 0]), KIs (u), KBox w3.heap.size, KBox w3.heap.size]) (fun i => i == 6 || i == 7) (by kernel_rfl) (fun _ _ _ _ _ h => h) (monoL (monoC (kEq _) (monoC (kEq _) (monoC (kIs _) (monoC (kEq _) (monoC (kEq _) (monoC (kIs _) (monoC (kBox _) (monoC (kBox _) monoN))))))))) ?st3 ?tl3
  case st3 =>
    simp only [List.take_succ_cons, List.take_zero]
    refine stepsOK_cons rfl ?_ (stepsOK_cons rfl ?_ (stepsOK_cons rfl ?_ (stepsOK_cons rfl ?_ (stepsOK_cons rfl ?_ (stepsOK_cons rfl ?_ (stepsOK_cons rfl ?_ (stepsOK_cons rfl ?_ (stepsOK_nil))))))))
    · intro vals w1 hb hd
      simp only [putsTo, dstOf, if_true, Act.put, List.setIfInBounds_toArray, List.set_cons_zero, List.set_cons_succ, List.getElem?_toArray, List.getElem?_cons_zero, List.getElem?_cons_succ, Option.bind_some]
      obtain ⟨e0, e1, e2⟩ := row3 (heap_below BXp.out hb)
      refine stepOK_value (v := .agg #[.bool sp, .slice op np cp, .slice ap mp dp]) (w' := w1) (by go_simp) (leaves_mk (Below.refl _ _) rfl (fun h => by cases h))
    · intro vals w1 hb hd
      simp only [putsTo, dstOf, if_true, Act.put, List.setIfInBounds_toArray, List.set_cons_zero, List.set_cons_succ, List.getElem?_toArray, List.getElem?_cons_zero, List.getElem?_cons_succ, Option.bind_some]
      refine stepOK_value (v := .agg #[.bool false, .slice none 0 0, .slice none 0 0]) (w' := w1) (by go_simp) (leaves_mk (Below.refl _ _) rfl (fun h => by cases h))
    · intro vals w1 hb hd
      have d0 : KEq (.agg #[.bool sp, .slice op np cp, .slice ap mp dp]) (vals 0) w1 := hd 0 (by kernel_rfl)
      have r0 : RatIs w1 (vals 0) p := by rw [show vals 0 = _ from d0]; exact Fp.out.below hb
      have d1 : KEq (.agg #[.bool false, .slice none 0 0, .slice none 0 0]) (vals 1) w1 := hd 1 (by kernel_rfl)
      have r1 : RatIs w1 (vals 1) 0 := by rw [show vals 1 = _ from d1]; exact (isR_zero w1).is (by rw [rl_zero]; decide)
      simp only [putsTo, dstOf, if_true, Act.put, List.setIfInBounds_toArray, List.set_cons_zero, List.set_cons_succ, List.getElem?_toArray, List.getElem?_cons_zero, List.getElem?_cons_succ, Option.bind_some]
      have hs := addq_any _ _ _ _ w1 r0 r1
      rw [Rat.add_zero] at hs
      have HS := Lib.hid hs; clear hs
      clear d0 d1 hd
      refine stepOK_call (by go_simp; first | done | exact ⟨⟨rfl, rfl⟩, rfl⟩) ?_
      (with_reducible refine HS.out.mono ?_); rintro e w2 ⟨v, rfl, hb2, hn⟩
      exact ⟨v, rfl, leaves_mk hb2 hn (fun h => by cases h)⟩
    · intro vals w1 hb hd
      simp only [putsTo, dstOf, if_true, Act.put, List.setIfInBounds_toArray, List.set_cons_zero, List.set_cons_succ, List.getElem?_toArray, List.getElem?_cons_zero, List.getElem?_cons_succ, Option.bind_some]
      obtain ⟨e0, e1, e2⟩ := row3 (heap_below BXu.out hb)
      refine stepOK_value (v := .agg #[.bool su, .slice ou nu cu, .slice au mu du]) (w' := w1) (by go_simp) (leaves_mk (Below.refl _ _) rfl (fun h => by cases h))
    · intro vals w1 hb hd
      simp only [putsTo, dstOf, if_true, Act.put, List.setIfInBounds_toArray, List.set_cons_zero, List.set_cons_succ, List.getElem?_toArray, List.getElem?_cons_zero, List.getElem?_cons_succ, Option.bind_some]
      refine stepOK_value (v := .agg #[.bool false, .slice none 0 0, .slice none 0 0]) (w' := w1) (by go_simp) (leaves_mk (Below.refl _ _) rfl (fun h => by cases h))
    · intro vals w1 hb hd
      have d3 : KEq (.agg #[.bool su, .slice ou nu cu, .slice au mu du]) (vals 3) w1 := hd 3 (by kernel_rfl)
      have r3 : RatIs w1 (vals 3) u := by rw [show vals 3 = _ from d3]; exact Fu.out.below hb
      have d4 : KEq (.agg #[.bool false, .slice none 0 0, .slice none 0 0]) (vals 4) w1 := hd 4 (by kernel_rfl)
      have r4 : RatIs w1 (vals 4) 0 := by rw [show vals 4 = _ from d4]; exact (isR_zero w1).is (by rw [rl_zero]; decide)
      simp only [putsTo, dstOf, if_true, Act.put, List.setIfInBounds_toArray, List.set_cons_zero, List.set_cons_succ, List.getElem?_toArray, List.getElem?_cons_zero, List.getElem?_cons_succ, Option.bind_some]
      have hs := addq_any _ _ _ _ w1 r3 r4
      rw [Rat.add_zero] at hs
      have HS := Lib.hid hs; clear hs
      clear d3 d4 hd
      refine stepOK_call (by go_simp; first | done | exact ⟨⟨rfl, rfl⟩, rfl⟩) ?_
      (with_reducible refine HS.out.mono ?_); rintro e w2 ⟨v, rfl, hb2, hn⟩
      exact ⟨v, rfl, leaves_mk hb2 hn (fun h => by cases h)⟩
    · intro vals w1 hb hd
      simp only [putsTo, dstOf, if_true, Act.put, List.setIfInBounds_toArray, List.set_cons_zero, List.set_cons_succ, List.getElem?_toArray, List.getElem?_cons_zero, List.getElem?_cons_succ, Option.bind_some]
      refine stepOK_value (v := .pointer (some ⟨w1.heap.size, 0, none⟩)) (w' := w1.alloc (.cells #[.bool false, .slice none 0 0, .slice none 0 0] 24)) (by go_simp) (leaves_mk ((Below.refl _ _).alloc (Nat.le_refl _) _) ⟨_, hb.size, rfl, heap_alloc_new _ _⟩ (fun _ => ⟨rfl, by simp⟩))
    · intro vals w1 hb hd
      simp only [putsTo, dstOf, if_true, Act.put, List.setIfInBounds_toArray, List.set_cons_zero, List.set_cons_succ, List.getElem?_toArray, List.getElem?_cons_zero, List.getElem?_cons_succ, Option.bind_some]
      refine stepOK_value (v := .pointer (some ⟨w1.heap.size, 0, none⟩)) (w' := w1.alloc (.cells #[.bool false, .slice none 0 0, .slice none 0 0] 24)) (by go_simp) (leaves_mk ((Below.refl _ _).alloc (Nat.le_refl _) _) ⟨_, hb.size, rfl, heap_alloc_new _ _⟩ (fun _ => ⟨rfl, by simp⟩))
  case tl3 =>
    intro vals w4 hb4 hf hdis
    simp only [putsTo, dstOf, if_true, Act.put, List.setIfInBounds_toArray, List.set_cons_zero, List.set_cons_succ, List.getElem?_toArray, List.getElem?_cons_zero, List.getElem?_cons_succ, Option.bind_some, List.drop_succ_cons, List.drop_zero]
    obtain ⟨gx, hgx, ev6, hzx⟩ : KBox w3.heap.size (vals 6) w4 := hf 6 (by decide)
    have hnXP : IsR w4 (vals 2) (p) := hf 2 (by decide)
    obtain ⟨gy, hgy, ev7, hzy⟩ : KBox w3.heap.size (vals 7) w4 := hf 7 (by decide)
    have hnYQ : IsR w4 (vals 5) (u) := hf 5 (by decide)
    have nexy : gx ≠ gy := fun e => hdis 6 7 (by decide) (by decide) (by decide) (by decide) (by decide) (by rw [ev6, ev7, e])
    clear hf hdis
    rw [ev6]; clear ev6
    rw [ev7]; clear ev7
    have HB4 := Lib.hid (HB3.out.step hb4)
    have Fp := Lib.hid (Fp.out.below hb4)
    have Fu := Lib.hid (Fu.out.below hb4)
    have Fv := Lib.hid (Fv.out.below hb4)
    have BXp := Lib.hid (heap_below BXp.out hb4)
    have BXu := Lib.hid (heap_below BXu.out hb4)
    have BXv := Lib.hid (heap_below BXv.out hb4)
    obtain ⟨uXP, huXP⟩ : ∃ u, u = vals 2 := ⟨_, rfl⟩
    rw [← huXP] at hnXP ⊢; clear huXP
    have XP := Lib.hid hnXP; clear hnXP
    obtain ⟨sXP, oXP, nXP, cXP, aXP, mXP, dXP, rfl⟩ := XP.out.shape
    obtain ⟨uYQ, huYQ⟩ : ∃ u, u = vals 5 := ⟨_, rfl⟩
    rw [← huYQ] at hnYQ ⊢; clear huYQ
    have YQ := Lib.hid hnYQ; clear hnYQ
    obtain ⟨sYQ, oYQ, nYQ, cYQ, aYQ, mYQ, dYQ, rfl⟩ := YQ.out.shape
    have BXx := Lib.hid hzx; clear hzx
    have hgwx : w.heap.size ≤ gx := Nat.le_trans HB3.out.size hgx
    have BXy := Lib.hid hzy; clear hzy
    have hgwy : w.heap.size ≤ gy := Nat.le_trans HB3.out.size hgy
    clear hb4
    obtain ⟨ex0, ex1, ex2⟩ := row3 BXx.out
    obtain ⟨fx0, fx1, fx2⟩ := froz3 BXx.out
    obtain ⟨ey0, ey1, ey2⟩ := row3 BXy.out
    obtain ⟨fy0, fy1, fy2⟩ := froz3 BXy.out
    obtain ⟨w5, hw5⟩ : ∃ w5, w5 = ((w4.setCell ⟨gx, 0, none⟩ (.bool sXP)).setCell ⟨gx, 1, none⟩ (.slice oXP nXP cXP)).setCell ⟨gx, 2, none⟩ (.slice aXP mXP dXP) := ⟨_, rfl⟩
    have hp5 : w5 = put3 w4 (gx) (.bool sXP) (.slice oXP nXP cXP) (.slice aXP mXP dXP) := hw5
    first | have Fp := Lib.hid (putkI hp5 Fp.out BXx.out) | have Fp := Lib.hid (putkR hp5 Fp.out BXx.out) | have Fp := Lib.hid (putkV hp5 Fp.out BXx.out)
    first | have Fu := Lib.hid (putkI hp5 Fu.out BXx.out) | have Fu := Lib.hid (putkR hp5 Fu.out BXx.out) | have Fu := Lib.hid (putkV hp5 Fu.out BXx.out)
    first | have Fv := Lib.hid (putkI hp5 Fv.out BXx.out) | have Fv := Lib.hid (putkR hp5 Fv.out BXx.out) | have Fv := Lib.hid (putkV hp5 Fv.out BXx.out)
    first | have XP := Lib.hid (putkI hp5 XP.out BXx.out) | have XP := Lib.hid (putkR hp5 XP.out BXx.out) | have XP := Lib.hid (putkV hp5 XP.out BXx.out)
    first | have YQ := Lib.hid (putkI hp5 YQ.out BXx.out) | have YQ := Lib.hid (putkR hp5 YQ.out BXx.out) | have YQ := Lib.hid (putkV hp5 YQ.out BXx.out)
    have BXp := Lib.hid (putx hp5 BXp.out (by first | omega | (have := below_lt BXp.out; omega)))
    have BXu := Lib.hid (putx hp5 BXu.out (by first | omega | (have := below_lt BXu.out; omega)))
    have BXv := Lib.hid (putx hp5 BXv.out (by first | omega | (have := below_lt BXv.out; omega)))
    have nxx : w5.heap[gx]? = some (.cells #[.bool sXP, .slice oXP nXP cXP, .slice aXP mXP dXP] 24) := by rw [hp5]; exact put3_heap BXx.out
    have BXy := Lib.hid (putx hp5 BXy.out (by first | omega | (have := below_lt BXy.out; omega)))
    have BXx := Lib.hid nxx; clear nxx
    have HB5 := Lib.hid (putb hp5 HB4.out (by omega))
    have HW5 := Lib.hid hw5; clear hw5 hp5
    obtain ⟨w6, hw6⟩ : ∃ w6, w6 = ((w5.setCell ⟨gy, 0, none⟩ (.bool sYQ)).setCell ⟨gy, 1, none⟩ (.slice oYQ nYQ cYQ)).setCell ⟨gy, 2, none⟩ (.slice aYQ mYQ dYQ) := ⟨_, rfl⟩
    have hp6 : w6 = put3 w5 (gy) (.bool sYQ) (.slice oYQ nYQ cYQ) (.slice aYQ mYQ dYQ) := hw6
    first | have Fp := Lib.hid (putkI hp6 Fp.out BXy.out) | have Fp := Lib.hid (putkR hp6 Fp.out BXy.out) | have Fp := Lib.hid (putkV hp6 Fp.out BXy.out)
    first | have Fu := Lib.hid (putkI hp6 Fu.out BXy.out) | have Fu := Lib.hid (putkR hp6 Fu.out BXy.out) | have Fu := Lib.hid (putkV hp6 Fu.out BXy.out)
    first | have Fv := Lib.hid (putkI hp6 Fv.out BXy.out) | have Fv := Lib.hid (putkR hp6 Fv.out BXy.out) | have Fv := Lib.hid (putkV hp6 Fv.out BXy.out)
    first | have XP := Lib.hid (putkI hp6 XP.out BXy.out) | have XP := Lib.hid (putkR hp6 XP.out BXy.out) | have XP := Lib.hid (putkV hp6 XP.out BXy.out)
    first | have YQ := Lib.hid (putkI hp6 YQ.out BXy.out) | have YQ := Lib.hid (putkR hp6 YQ.out BXy.out) | have YQ := Lib.hid (putkV hp6 YQ.out BXy.out)
    have BXp := Lib.hid (putx hp6 BXp.out (by first | omega | (have := below_lt BXp.out; omega)))
    have BXu := Lib.hid (putx hp6 BXu.out (by first | omega | (have := below_lt BXu.out; omega)))
    have BXv := Lib.hid (putx hp6 BXv.out (by first | omega | (have := below_lt BXv.out; omega)))
    have BXx := Lib.hid (putx hp6 BXx.out (by first | omega | (have := below_lt BXx.out; omega)))
    have nxy : w6.heap[gy]? = some (.cells #[.bool sYQ, .slice oYQ nYQ cYQ, .slice aYQ mYQ dYQ] 24) := by rw [hp6]; exact put3_heap BXy.out
    have BXy := Lib.hid nxy; clear nxy
    have HB6 := Lib.hid (putb hp6 HB5.out (by omega))
    have HW6 := Lib.hid hw6; clear hw6 hp6
    have hs := cmpq_any _ p _ u w6 Fp.out Fu.out (by omega) (by omega)
    rw [← HN.out] at hs
    have HS := Lib.hid hs; clear hs
    obtain ⟨ep0, ep1, ep2⟩ := row3 BXp.out
    obtain ⟨eu0, eu1, eu2⟩ := row3 BXu.out
    rw [HW6.out] at ep0
    rw [HW6.out] at ep1
    rw [HW6.out] at ep2
    rw [HW6.out] at eu0
    rw [HW6.out] at eu1
    rw [HW6.out] at eu2
    rw [HW5.out] at ep0
    rw [HW5.out] at ep1
    rw [HW5.out] at ep2
    rw [HW5.out] at eu0
    rw [HW5.out] at eu1
    rw [HW5.out] at eu2
    go_wp2_with fail
    rw [← HW5.out]
    rw [← HW6.out]
    clear ep0 ep1 ep2 eu0 eu1 eu2 ex0 ex1 ex2 fx0 fx1 fx2 ey0 ey1 ey2 fy0 fy1 fy2
    (with_reducible refine HS.out.mono ?_); rintro e w7 ⟨rfl, hb7⟩
    clear HS
    have HB7 := Lib.hid (HB6.out.step hb7)
    have Fp := Lib.hid (Fp.out.below hb7)
    have Fu := Lib.hid (Fu.out.below hb7)
    have Fv := Lib.hid (Fv.out.below hb7)
    have XP := Lib.hid (XP.out.below hb7)
    have YQ := Lib.hid (YQ.out.below hb7)
    have BXp := Lib.hid (heap_below BXp.out hb7)
    have BXu := Lib.hid (heap_below BXu.out hb7)
    have BXv := Lib.hid (heap_below BXv.out hb7)
    have BXx := Lib.hid (heap_below BXx.out hb7)
    have BXy := Lib.hid (heap_below BXy.out hb7)
    clear hb7
    have HBC := Lib.hid ((Below.refl w7.heap.size w7).drew)
    have hc := fun va vb w1 (ha : IsR w1 va p) (hb : IsR w1 vb u) => rat_any va p vb u w1 ha hb (by omega) (by omega)
    rw [Q1.out] at hc
    have CQ := Lib.hid hc; clear hc
    have hc := fun w1 (h1 : Below w7.heap.size w7 w1) => cmpq_any _ u _ p w1 (Fu.out.below h1) (Fp.out.below h1) (by omega) (by omega)
    rw [Q2.out] at hc
    have C1 := Lib.hid hc; clear hc
    have hc := fun w1 (h1 : Below w7.heap.size w7 w1) => subq_any _ p _ u w1 (Fp.out.below h1) (Fu.out.below h1)
    have C2 := Lib.hid hc; clear hc
    have hc := fun va w1 (ha : IsR w1 va (p - u)) => sign_any va (p - u) w1 (ha.is (by omega))
    rw [Q3.out] at hc
    have C3 := Lib.hid hc; clear hc
    have hc := fun w1 (h1 : Below w7.heap.size w7 w1) => addq_any _ p _ v w1 (Fp.out.below h1) (Fv.out.below h1)
    have C4 := Lib.hid hc; clear hc
    have hc := fun w1 (h1 : Below w7.heap.size w7 w1) => addq_any _ u _ v w1 (Fu.out.below h1) (Fv.out.below h1)
    have C5 := Lib.hid hc; clear hc
    have hc := fun va vb w1 (ha : IsR w1 va (p + v)) (hb : IsR w1 vb (u + v)) => cmpq_any va (p + v) vb (u + v) w1 (ha.is (by omega)) (hb.is (by omega)) (by omega) (by omega)
    rw [Q4.out] at hc
    have C6 := Lib.hid hc; clear hc
    have Zp := Lib.hid (fun w1 (h1 : Below w7.heap.size w7 w1) => row3 (heap_below BXp.out h1))
    have Zu := Lib.hid (fun w1 (h1 : Below w7.heap.size w7 w1) => row3 (heap_below BXu.out h1))
    have Zv := Lib.hid (fun w1 (h1 : Below w7.heap.size w7 w1) => row3 (heap_below BXv.out h1))
    have Zx := Lib.hid (fun w1 (h1 : Below w7.heap.size w7 w1) => row3 (heap_below BXx.out h1))
    have Zy := Lib.hid (fun w1 (h1 : Below w7.heap.size w7 w1) => row3 (heap_below BXy.out h1))
    go_wp2_with fail
    have hwn := HWN.out
    obtain ⟨zp0, zp1, zp2⟩ := Zp.out _ HBC.out
    obtain ⟨zu0, zu1, zu2⟩ := Zu.out _ HBC.out
    obtain ⟨zv0, zv1, zv2⟩ := Zv.out _ HBC.out
    obtain ⟨zx0, zx1, zx2⟩ := Zx.out _ HBC.out
    obtain ⟨zy0, zy1, zy2⟩ := Zy.out _ HBC.out
    go_region_held3 (fun wx => wx.cell? ⟨w.heap.size, 0, none⟩ = some (.bool sp) ∧ wx.cell? ⟨w.heap.size, 1, none⟩ = some (.slice op np cp) ∧ wx.cell? ⟨w.heap.size, 2, none⟩ = some (.slice ap mp dp) ∧ wx.cell? ⟨w.heap.size + 1, 0, none⟩ = some (.bool su) ∧ wx.cell? ⟨w.heap.size + 1, 1, none⟩ = some (.slice ou nu cu) ∧ wx.cell? ⟨w.heap.size + 1, 2, none⟩ = some (.slice au mu du) ∧ wx.cell? ⟨w.heap.size + 2, 0, none⟩ = some (.bool sv) ∧ wx.cell? ⟨w.heap.size + 2, 1, none⟩ = some (.slice ov nv cv) ∧ wx.cell? ⟨w.heap.size + 2, 2, none⟩ = some (.slice av mv dv) ∧ wx.cell? ⟨gx, 0, none⟩ = some (.bool sXP) ∧ wx.cell? ⟨gx, 1, none⟩ = some (.slice oXP nXP cXP) ∧ wx.cell? ⟨gx, 2, none⟩ = some (.slice aXP mXP dXP) ∧ wx.cell? ⟨gy, 0, none⟩ = some (.bool sYQ) ∧ wx.cell? ⟨gy, 1, none⟩ = some (.slice oYQ nYQ cYQ) ∧ wx.cell? ⟨gy, 2, none⟩ = some (.slice aYQ mYQ dYQ)) (first | exact ⟨zp0, zp1, zp2, zu0, zu1, zu2, zv0, zv1, zv2, zx0, zx1, zx2, zy0, zy1, zy2⟩ | exact put6 (by omega) (by omega) (by omega) (by omega) (by omega) ⟨zp0, zp1, zp2, zu0, zu1, zu2, zv0, zv1, zv2, zx0, zx1, zx2, zy0, zy1, zy2⟩ | exact al3 ⟨zp0, zp1, zp2, zu0, zu1, zu2, zv0, zv1, zv2, zx0, zx1, zx2, zy0, zy1, zy2⟩ | exact put3c (by omega) (al3 ⟨zp0, zp1, zp2, zu0, zu1, zu2, zv0, zv1, zv2, zx0, zx1, zx2, zy0, zy1, zy2⟩)) (first
      | (go_at_call 17; (with_reducible refine (CQ.out _ _ _ (XP.out.below HBC.out) (YQ.out.below HBC.out)).mono ?_); rintro e wr0 ⟨rfl, hb⟩; (have HBC := Lib.hid (HBC.out.step hb)); (try have F1 := Lib.hid (F1.out.below hb)); (try have F2 := Lib.hid (F2.out.below hb)); (try have F3 := Lib.hid (F3.out.below hb)); clear hb; (obtain ⟨zp0, zp1, zp2⟩ := Zp.out _ HBC.out); (obtain ⟨zu0, zu1, zu2⟩ := Zu.out _ HBC.out); (obtain ⟨zv0, zv1, zv2⟩ := Zv.out _ HBC.out); (obtain ⟨zx0, zx1, zx2⟩ := Zx.out _ HBC.out); (obtain ⟨zy0, zy1, zy2⟩ := Zy.out _ HBC.out))
      | (go_at_call 41; (with_reducible refine (C1.out _ HBC.out).mono ?_); rintro e wr1 ⟨rfl, hb⟩; (have HBC := Lib.hid (HBC.out.step hb)); (try have F1 := Lib.hid (F1.out.below hb)); (try have F2 := Lib.hid (F2.out.below hb)); (try have F3 := Lib.hid (F3.out.below hb)); clear hb; (obtain ⟨zp0, zp1, zp2⟩ := Zp.out _ HBC.out); (obtain ⟨zu0, zu1, zu2⟩ := Zu.out _ HBC.out); (obtain ⟨zv0, zv1, zv2⟩ := Zv.out _ HBC.out); (obtain ⟨zx0, zx1, zx2⟩ := Zx.out _ HBC.out); (obtain ⟨zy0, zy1, zy2⟩ := Zy.out _ HBC.out))
      | (go_at_call 35; (with_reducible refine (C2.out _ HBC.out).mono ?_); rintro e wr2 ⟨v2r, rfl, hb, hn⟩; (have HBC := Lib.hid (HBC.out.step hb)); (try have F1 := Lib.hid (F1.out.below hb)); (try have F2 := Lib.hid (F2.out.below hb)); (try have F3 := Lib.hid (F3.out.below hb)); (have F1 := Lib.hid hn); clear hn; clear hb; (obtain ⟨zp0, zp1, zp2⟩ := Zp.out _ HBC.out); (obtain ⟨zu0, zu1, zu2⟩ := Zu.out _ HBC.out); (obtain ⟨zv0, zv1, zv2⟩ := Zv.out _ HBC.out); (obtain ⟨zx0, zx1, zx2⟩ := Zx.out _ HBC.out); (obtain ⟨zy0, zy1, zy2⟩ := Zy.out _ HBC.out))
      | (go_at_call 42; (with_reducible refine (C3.out _ _ F1.out).mono ?_); rintro e wr3 ⟨rfl, hb⟩; (have HBC := Lib.hid (HBC.out.step hb)); (try have F1 := Lib.hid (F1.out.below hb)); (try have F2 := Lib.hid (F2.out.below hb)); (try have F3 := Lib.hid (F3.out.below hb)); clear hb; (obtain ⟨zp0, zp1, zp2⟩ := Zp.out _ HBC.out); (obtain ⟨zu0, zu1, zu2⟩ := Zu.out _ HBC.out); (obtain ⟨zv0, zv1, zv2⟩ := Zv.out _ HBC.out); (obtain ⟨zx0, zx1, zx2⟩ := Zx.out _ HBC.out); (obtain ⟨zy0, zy1, zy2⟩ := Zy.out _ HBC.out))
      | (go_at_call 33; (with_reducible refine (C4.out _ HBC.out).mono ?_); rintro e wr4 ⟨v4r, rfl, hb, hn⟩; (have HBC := Lib.hid (HBC.out.step hb)); (try have F1 := Lib.hid (F1.out.below hb)); (try have F2 := Lib.hid (F2.out.below hb)); (try have F3 := Lib.hid (F3.out.below hb)); (have F2 := Lib.hid hn); clear hn; clear hb; (obtain ⟨zp0, zp1, zp2⟩ := Zp.out _ HBC.out); (obtain ⟨zu0, zu1, zu2⟩ := Zu.out _ HBC.out); (obtain ⟨zv0, zv1, zv2⟩ := Zv.out _ HBC.out); (obtain ⟨zx0, zx1, zx2⟩ := Zx.out _ HBC.out); (obtain ⟨zy0, zy1, zy2⟩ := Zy.out _ HBC.out))
      | (go_at_call 33; (with_reducible refine (C5.out _ HBC.out).mono ?_); rintro e wr5 ⟨v5r, rfl, hb, hn⟩; (have HBC := Lib.hid (HBC.out.step hb)); (try have F1 := Lib.hid (F1.out.below hb)); (try have F2 := Lib.hid (F2.out.below hb)); (try have F3 := Lib.hid (F3.out.below hb)); (have F3 := Lib.hid hn); clear hn; clear hb; (obtain ⟨zp0, zp1, zp2⟩ := Zp.out _ HBC.out); (obtain ⟨zu0, zu1, zu2⟩ := Zu.out _ HBC.out); (obtain ⟨zv0, zv1, zv2⟩ := Zv.out _ HBC.out); (obtain ⟨zx0, zx1, zx2⟩ := Zx.out _ HBC.out); (obtain ⟨zy0, zy1, zy2⟩ := Zy.out _ HBC.out))
      | (go_at_call 41; (with_reducible refine (C6.out _ _ _ F2.out F3.out).mono ?_); rintro e wr6 ⟨rfl, hb⟩; (have HBC := Lib.hid (HBC.out.step hb)); (try have F1 := Lib.hid (F1.out.below hb)); (try have F2 := Lib.hid (F2.out.below hb)); (try have F3 := Lib.hid (F3.out.below hb)); clear hb; (obtain ⟨zp0, zp1, zp2⟩ := Zp.out _ HBC.out); (obtain ⟨zu0, zu1, zu2⟩ := Zu.out _ HBC.out); (obtain ⟨zv0, zv1, zv2⟩ := Zv.out _ HBC.out); (obtain ⟨zx0, zx1, zx2⟩ := Zx.out _ HBC.out); (obtain ⟨zy0, zy1, zy2⟩ := Zy.out _ HBC.out)))
    clear hwn
    have Fp := Lib.hid (Fp.out.below HBC.out)
    have Fu := Lib.hid (Fu.out.below HBC.out)
    have Fv := Lib.hid (Fv.out.below HBC.out)
    have XP := Lib.hid (XP.out.below HBC.out)
    have YQ := Lib.hid (YQ.out.below HBC.out)
    have BXp := Lib.hid (heap_below BXp.out HBC.out)
    have BXu := Lib.hid (heap_below BXu.out HBC.out)
    have BXv := Lib.hid (heap_below BXv.out HBC.out)
    have BXx := Lib.hid (heap_below BXx.out HBC.out)
    have BXy := Lib.hid (heap_below BXy.out HBC.out)
    have HB8 := Lib.hid (HB7.out.step HBC.out)
    have HBC := Lib.hid ((Below.refl wr6.heap.size wr6).drew)
    have hc := fun w1 (h1 : Below wr6.heap.size wr6 w1) => mulq_any _ p _ v w1 (Fp.out.below h1) (Fv.out.below h1)
    have C7 := Lib.hid hc; clear hc
    have hc := fun w1 (h1 : Below wr6.heap.size wr6 w1) => mulq_any _ u _ v w1 (Fu.out.below h1) (Fv.out.below h1)
    have C8 := Lib.hid hc; clear hc
    have hc := fun va vb w1 (ha : IsR w1 va (p * v)) (hb : IsR w1 vb (u * v)) => cmpq_any va (p * v) vb (u * v) w1 (ha.is (by omega)) (hb.is (by omega)) (by omega) (by omega)
    rw [Q5.out] at hc
    have C9 := Lib.hid hc; clear hc
    have hc := fun w1 (h1 : Below wr6.heap.size wr6 w1) => sign_any _ v w1 (Fv.out.below h1)
    rw [← HS.out] at hc
    have C10 := Lib.hid hc; clear hc
    have Zp := Lib.hid (fun w1 (h1 : Below wr6.heap.size wr6 w1) => row3 (heap_below BXp.out h1))
    have Zu := Lib.hid (fun w1 (h1 : Below wr6.heap.size wr6 w1) => row3 (heap_below BXu.out h1))
    have Zv := Lib.hid (fun w1 (h1 : Below wr6.heap.size wr6 w1) => row3 (heap_below BXv.out h1))
    go_wp2_with fail
    have hwr := HWR.out
    obtain ⟨zp0, zp1, zp2⟩ := Zp.out _ HBC.out
    obtain ⟨zu0, zu1, zu2⟩ := Zu.out _ HBC.out
    obtain ⟨zv0, zv1, zv2⟩ := Zv.out _ HBC.out
    go_region_held3 (fun wx => wx.cell? ⟨w.heap.size, 0, none⟩ = some (.bool sp) ∧ wx.cell? ⟨w.heap.size, 1, none⟩ = some (.slice op np cp) ∧ wx.cell? ⟨w.heap.size, 2, none⟩ = some (.slice ap mp dp) ∧ wx.cell? ⟨w.heap.size + 1, 0, none⟩ = some (.bool su) ∧ wx.cell? ⟨w.heap.size + 1, 1, none⟩ = some (.slice ou nu cu) ∧ wx.cell? ⟨w.heap.size + 1, 2, none⟩ = some (.slice au mu du) ∧ wx.cell? ⟨w.heap.size + 2, 0, none⟩ = some (.bool sv) ∧ wx.cell? ⟨w.heap.size + 2, 1, none⟩ = some (.slice ov nv cv) ∧ wx.cell? ⟨w.heap.size + 2, 2, none⟩ = some (.slice av mv dv)) (first | exact ⟨zp0, zp1, zp2, zu0, zu1, zu2, zv0, zv1, zv2⟩ | exact put6 (by omega) (by omega) (by omega) ⟨zp0, zp1, zp2, zu0, zu1, zu2, zv0, zv1, zv2⟩ | exact al3 ⟨zp0, zp1, zp2, zu0, zu1, zu2, zv0, zv1, zv2⟩ | exact put3c (by omega) (al3 ⟨zp0, zp1, zp2, zu0, zu1, zu2, zv0, zv1, zv2⟩)) (first
      | (go_at_call 29; (with_reducible refine (C7.out _ HBC.out).mono ?_); rintro e wr2_0 ⟨v0r, rfl, hb, hn⟩; (have HBC := Lib.hid (HBC.out.step hb)); (try have F4 := Lib.hid (F4.out.below hb)); (try have F5 := Lib.hid (F5.out.below hb)); (have F4 := Lib.hid hn); clear hn; clear hb; (obtain ⟨zp0, zp1, zp2⟩ := Zp.out _ HBC.out); (obtain ⟨zu0, zu1, zu2⟩ := Zu.out _ HBC.out); (obtain ⟨zv0, zv1, zv2⟩ := Zv.out _ HBC.out))
      | (go_at_call 29; (with_reducible refine (C8.out _ HBC.out).mono ?_); rintro e wr2_1 ⟨v1r, rfl, hb, hn⟩; (have HBC := Lib.hid (HBC.out.step hb)); (try have F4 := Lib.hid (F4.out.below hb)); (try have F5 := Lib.hid (F5.out.below hb)); (have F5 := Lib.hid hn); clear hn; clear hb; (obtain ⟨zp0, zp1, zp2⟩ := Zp.out _ HBC.out); (obtain ⟨zu0, zu1, zu2⟩ := Zu.out _ HBC.out); (obtain ⟨zv0, zv1, zv2⟩ := Zv.out _ HBC.out))
      | (go_at_call 41; (with_reducible refine (C9.out _ _ _ F4.out F5.out).mono ?_); rintro e wr2_2 ⟨rfl, hb⟩; (have HBC := Lib.hid (HBC.out.step hb)); (try have F4 := Lib.hid (F4.out.below hb)); (try have F5 := Lib.hid (F5.out.below hb)); clear hb; (obtain ⟨zp0, zp1, zp2⟩ := Zp.out _ HBC.out); (obtain ⟨zu0, zu1, zu2⟩ := Zu.out _ HBC.out); (obtain ⟨zv0, zv1, zv2⟩ := Zv.out _ HBC.out))
      | (go_at_call 42; (with_reducible refine (C10.out _ HBC.out).mono ?_); rintro e wr2_3 ⟨rfl, hb⟩; (have HBC := Lib.hid (HBC.out.step hb)); (try have F4 := Lib.hid (F4.out.below hb)); (try have F5 := Lib.hid (F5.out.below hb)); clear hb; (obtain ⟨zp0, zp1, zp2⟩ := Zp.out _ HBC.out); (obtain ⟨zu0, zu1, zu2⟩ := Zu.out _ HBC.out); (obtain ⟨zv0, zv1, zv2⟩ := Zv.out _ HBC.out)))
    clear hwr
    have Fp := Lib.hid (Fp.out.below HBC.out)
    have Fu := Lib.hid (Fu.out.below HBC.out)
    have Fv := Lib.hid (Fv.out.below HBC.out)
    have XP := Lib.hid (XP.out.below HBC.out)
    have YQ := Lib.hid (YQ.out.below HBC.out)
    have BXp := Lib.hid (heap_below BXp.out HBC.out)
    have BXu := Lib.hid (heap_below BXu.out HBC.out)
    have BXv := Lib.hid (heap_below BXv.out HBC.out)
    have BXx := Lib.hid (heap_below BXx.out HBC.out)
    have BXy := Lib.hid (heap_below BXy.out HBC.out)
    have HB9 := Lib.hid (HB8.out.step HBC.out)
    have hs := cmpq_any _ u _ v wr2_3 Fu.out Fv.out (by omega) (by omega)
    rw [← HM.out] at hs
    have HS := Lib.hid hs; clear hs
    obtain ⟨eu0, eu1, eu2⟩ := row3 BXu.out
    obtain ⟨ev0, ev1, ev2⟩ := row3 BXv.out
    go_wp2_with fail
    clear eu0 eu1 eu2 ev0 ev1 ev2
    (with_reducible refine HS.out.mono ?_); rintro e w10 ⟨rfl, hb10⟩
    clear HS
    have HB10 := Lib.hid (HB9.out.step hb10)
    have Fp := Lib.hid (Fp.out.below hb10)
    have Fu := Lib.hid (Fu.out.below hb10)
    have Fv := Lib.hid (Fv.out.below hb10)
    have XP := Lib.hid (XP.out.below hb10)
    have YQ := Lib.hid (YQ.out.below hb10)
    have BXp := Lib.hid (heap_below BXp.out hb10)
    have BXu := Lib.hid (heap_below BXu.out hb10)
    have BXv := Lib.hid (heap_below BXv.out hb10)
    have BXx := Lib.hid (heap_below BXx.out hb10)
    have BXy := Lib.hid (heap_below BXy.out hb10)
    clear hb10
    go_wp2_with fail
    go_ret
    exact ⟨by first | rfl | (simp; done), HB10.out⟩
set_option maxRecDepth 100000 in
set_option maxHeartbeats 12800000 in
theorem equal_small3 (vp : Value) (p : Rat) (vu : Value) (u : Rat) (vv : Value) (v : Rat) (w : World) (hp : RatIs w vp p) (hu : RatIs w vu u) (hv : RatIs w vv v) (lp : rl p ≤ 12) (zp : (szR vp).1 ≤ 12 ∧ (szR vp).2 ≤ 12) (lu : rl u ≤ 12) (zu : (szR vu).1 ≤ 12 ∧ (szR vu).2 ≤ 12) (lv : rl v ≤ 12) (zv : (szR vv).1 ≤ 12 ∧ (szR vv).2 ≤ 12) (hn0 : cq p u < 0) (hn1 : ¬ 0 ≤ cq u v) :
    Calls Tryd.prog 8 #[vp, vu, vv] w (RetV w (.bool true)) := by
  obtain ⟨sp, op, np, cp, ap, mp, dp, rfl⟩ := hp.shape
  have hlp := hp.rl
  obtain ⟨su, ou, nu, cu, au, mu, du, rfl⟩ := hu.shape
  have hlu := hu.rl
  obtain ⟨sv, ov, nv, cv, av, mv, dv, rfl⟩ := hv.shape
  have hlv := hv.rl
  have cb := cq_bounds p u; have sb := sg_bounds v
  have q1 := cq_zero p u; have q2 := cq_swap p u; have q3 := sg_sub p u; have q4 := cq_add p u v; have q5 := cq_mul p u v
  have k1 := rl_add p v; have k2 := rl_add u v; have k3 := rl_sub p u; have k4 := rl_mul p v; have k5 := rl_mul u v
  obtain ⟨n, hn⟩ : ∃ n, n = cq p u := ⟨_, rfl⟩; obtain ⟨s, hs⟩ : ∃ s, s = sg v := ⟨_, rfl⟩
  rw [← hn] at cb q1 q2 q3 q4 q5 hn0; rw [← hs] at sb q5
  obtain ⟨ns, hns⟩ : ∃ ns, ns = n * s := ⟨_, rfl⟩; rw [← hns] at q5
  have hnb : -1 ≤ ns ∧ ns ≤ 1 := by
    have : (n = -1 ∨ n = 0 ∨ n = 1) ∧ (s = -1 ∨ s = 0 ∨ s = 1) := by omega
    rcases this with ⟨rfl | rfl | rfl, rfl | rfl | rfl⟩ <;> omega
  have HWN : Hid (IntKind.i64.wrap (-n) = -n) := Lib.hid (IntWalk.i64_in _ (by omega))
  have hwr : IntKind.i64.wrap (n * s) = ns := by rw [hns]; exact IntWalk.i64_in _ (by omega)
  have g1 : (n != n) = false := by simp
  have g2 : ((-n) != (-n)) = false := by simp
  have g3 : (ns != ns) = false := by simp
  have h5 := cq_trans (p := p) (by rw [← hn]; omega) hn1
  obtain ⟨m, hm⟩ : ∃ m, m = cq u v := ⟨_, rfl⟩; rw [← hm] at hn1
  obtain ⟨l, hl⟩ : ∃ l, l = cq p v := ⟨_, rfl⟩; rw [← hl] at h5
  have f0 : decide (0 ≤ n) = false := decide_eq_false (by omega); have f1 : decide (0 ≤ m) = false := decide_eq_false hn1; have f2 : decide (l < 0) = true := decide_eq_true h5; have g4 : (n == 0) = false := by rw [beq_eq_false_iff_ne]; omega
  have HM := Lib.hid hm; have HL := Lib.hid hl; clear hm hl hn1
  rw [g4] at q1
  have HN := Lib.hid hn; have HS := Lib.hid hs; have Q1 := Lib.hid q1; have Q2 := Lib.hid q2; have Q3 := Lib.hid q3; have Q4 := Lib.hid q4; have Q5 := Lib.hid q5; have HWR := Lib.hid hwr; have HNS := Lib.hid hns
  clear hn hs q1 q2 q3 q4 q5 hwr hns hn0
  have hb0 := ((((Below.refl w.heap.size w).alloc (by first | (simp; done) | (simp; omega)) (.cells #[.bool sp, .slice op np cp, .slice ap mp dp] 24)).alloc (by first | (simp; done) | (simp; omega)) (.cells #[.bool su, .slice ou nu cu, .slice au mu du] 24)).alloc (by first | (simp; done) | (simp; omega)) (.cells #[.bool sv, .slice ov nv cv, .slice av mv dv] 24))
  have hxp := nest3_0 w (.cells #[.bool sp, .slice op np cp, .slice ap mp dp] 24) (.cells #[.bool su, .slice ou nu cu, .slice au mu du] 24) (.cells #[.bool sv, .slice ov nv cv, .slice av mv dv] 24)
  have hxu := nest3_1 w (.cells #[.bool sp, .slice op np cp, .slice ap mp dp] 24) (.cells #[.bool su, .slice ou nu cu, .slice au mu du] 24) (.cells #[.bool sv, .slice ov nv cv, .slice av mv dv] 24)
  have hxv := nest3_2 w (.cells #[.bool sp, .slice op np cp, .slice ap mp dp] 24) (.cells #[.bool su, .slice ou nu cu, .slice au mu du] 24) (.cells #[.bool sv, .slice ov nv cv, .slice av mv dv] 24)
  have hpp := hp.below hb0
  have hpu := hu.below hb0
  have hpv := hv.below hb0
  obtain ⟨w0, hw0⟩ : ∃ w0, w0 = (((w.alloc (.cells #[.bool sp, .slice op np cp, .slice ap mp dp] 24)).alloc (.cells #[.bool su, .slice ou nu cu, .slice au mu du] 24)).alloc (.cells #[.bool sv, .slice ov nv cv, .slice av mv dv] 24)) := ⟨_, rfl⟩
  rw [← hw0] at hb0 hxp hxu hxv hpp hpu hpv
  have HB0 := Lib.hid hb0; have HW0 := Lib.hid hw0
  have BXp := Lib.hid hxp
  have BXu := Lib.hid hxu
  have BXv := Lib.hid hxv
  have Fp := Lib.hid hpp
  have Fu := Lib.hid hpu
  have Fv := Lib.hid hpv
  clear hb0 hw0 hxp hxu hxv hpp hp hpu hu hpv hv
  have zzp : np ≤ 12 ∧ mp ≤ 12 := zp; clear zp
  have _lp := lp
  have zzu : nu ≤ 12 ∧ mu ≤ 12 := zu; clear zu
  have _lu := lu
  have zzv : nv ≤ 12 ∧ mv ≤ 12 := zv; clear zv
  have _lv := lv
  go_enter Tryd.func8, Tryd.ntmps8
  have hs := awake02 w0
  have HS := Lib.hid hs; clear hs
  go_wp2_with fail
  rw [← HW0.out]
  (with_reducible refine HS.out.mono ?_); rintro e w1 ⟨rfl, hb1⟩
  clear HS
  have HB1 := Lib.hid (HB0.out.step hb1)
  have Fp := Lib.hid (Fp.out.below hb1)
  have Fu := Lib.hid (Fu.out.below hb1)
  have Fv := Lib.hid (Fv.out.below hb1)
  have BXp := Lib.hid (heap_below BXp.out hb1)
  have BXu := Lib.hid (heap_below BXu.out hb1)
  have BXv := Lib.hid (heap_below BXv.out hb1)
  clear hb1
  obtain ⟨ep0, ep1, ep2⟩ := row3 BXp.out
  obtain ⟨eu0, eu1, eu2⟩ := row3 BXu.out
  obtain ⟨ev0, ev1, ev2⟩ := row3 BXv.out
  obtain ⟨w2, hw2⟩ : ∃ w2, w2 = w1.alloc (.cells #[.bool sp, .slice op np cp, .slice ap mp dp, .bool su, .slice ou nu cu, .slice au mu du, .bool sv, .slice ov nv cv, .slice av mv dv] 24) := ⟨_, rfl⟩
  have hb2 : Below w1.heap.size w1 w2 := by rw [hw2]; exact (Below.refl _ _).alloc (Nat.le_refl _) _
  have hxLS := heap_alloc_new w1 (.cells #[.bool sp, .slice op np cp, .slice ap mp dp, .bool su, .slice ou nu cu, .slice au mu du, .bool sv, .slice ov nv cv, .slice av mv dv] 24)
  obtain ⟨gLS, hgLS⟩ : ∃ gLS, gLS = w1.heap.size := ⟨_, rfl⟩
  rw [← hw2, ← hgLS] at hxLS
  have HW2 := Lib.hid hw2; have HGLS := Lib.hid hgLS; clear hw2 hgLS
  have HB2 := Lib.hid (HB1.out.step hb2)
  have Fp := Lib.hid (Fp.out.below hb2)
  have Fu := Lib.hid (Fu.out.below hb2)
  have Fv := Lib.hid (Fv.out.below hb2)
  have BXp := Lib.hid (heap_below BXp.out hb2)
  have BXu := Lib.hid (heap_below BXu.out hb2)
  have BXv := Lib.hid (heap_below BXv.out hb2)
  clear hb2
  have BXLS := Lib.hid hxLS; clear hxLS
  have hs := rlarge3s BXLS.out zzp zzu zzv
  have HS := Lib.hid hs; clear hs
  go_wp2_with fail
  rw [← HW2.out]
  try rw [← HGLS.out]
  (with_reducible refine HS.out.mono ?_); rintro e w3 ⟨rfl, hb3⟩
  clear HS
  have HB3 := Lib.hid (HB2.out.step hb3)
  have Fp := Lib.hid (Fp.out.below hb3)
  have Fu := Lib.hid (Fu.out.below hb3)
  have Fv := Lib.hid (Fv.out.below hb3)
  have BXp := Lib.hid (heap_below BXp.out hb3)
  have BXu := Lib.hid (heap_below BXu.out hb3)
  have BXv := Lib.hid (heap_below BXv.out hb3)
  clear hb3
  clear BXLS
  go_wp2_with fail
  have lwp := below_lt BXp.out
  have lwu := below_lt BXu.out
  have lwv := below_lt BXv.out
  refine wp_region_facts (w := w3) 8 [] (by kernel_rfl) (Fl [KEq (.agg #[.bool sp, .slice op np cp, .slice ap mp dp]), KEq (.agg #[.bool false, .slice none 0 0, .slice none 0 0]), KIs (p), KEq (.agg #[.bool su, .slice ou nu cu, .slice au mu du]), KEq (.agg #[.bool false, .slice none 0 0, .slice none 0 0]), KIs (u), KBox w3.heap.size, KBox w3.heap.size]) (fun i => i == 6 || i == 7) (by kernel_rfl) (fun _ _ _ _ _ h => h) (monoL (monoC (kEq _) (monoC (kEq _) (monoC (kIs _) (monoC (kEq _) (monoC (kEq _) (monoC (kIs _) (monoC (kBox _) (monoC (kBox _) monoN))))))))) ?st3 ?tl3
  case st3 =>
    simp only [List.take_succ_cons, List.take_zero]
    refine stepsOK_cons rfl ?_ (stepsOK_cons rfl ?_ (stepsOK_cons rfl ?_ (stepsOK_cons rfl ?_ (stepsOK_cons rfl ?_ (stepsOK_cons rfl ?_ (stepsOK_cons rfl ?_ (stepsOK_cons rfl ?_ (stepsOK_nil))))))))
    · intro vals w1 hb hd
      simp only [putsTo, dstOf, if_true, Act.put, List.setIfInBounds_toArray, List.set_cons_zero, List.set_cons_succ, List.getElem?_toArray, List.getElem?_cons_zero, List.getElem?_cons_succ, Option.bind_some]
      obtain ⟨e0, e1, e2⟩ := row3 (heap_below BXp.out hb)
      refine stepOK_value (v := .agg #[.bool sp, .slice op np cp, .slice ap mp dp]) (w' := w1) (by go_simp) (leaves_mk (Below.refl _ _) rfl (fun h => by cases h))
    · intro vals w1 hb hd
      simp only [putsTo, dstOf, if_true, Act.put, List.setIfInBounds_toArray, List.set_cons_zero, List.set_cons_succ, List.getElem?_toArray, List.getElem?_cons_zero, List.getElem?_cons_succ, Option.bind_some]
      refine stepOK_value (v := .agg #[.bool false, .slice none 0 0, .slice none 0 0]) (w' := w1) (by go_simp) (leaves_mk (Below.refl _ _) rfl (fun h => by cases h))
    · intro vals w1 hb hd
      have d0 : KEq (.agg #[.bool sp, .slice op np cp, .slice ap mp dp]) (vals 0) w1 := hd 0 (by kernel_rfl)
      have r0 : RatIs w1 (vals 0) p := by rw [show vals 0 = _ from d0]; exact Fp.out.below hb
      have d1 : KEq (.agg #[.bool false, .slice none 0 0, .slice none 0 0]) (vals 1) w1 := hd 1 (by kernel_rfl)
      have r1 : RatIs w1 (vals 1) 0 := by rw [show vals 1 = _ from d1]; exact (isR_zero w1).is (by rw [rl_zero]; decide)
      simp only [putsTo, dstOf, if_true, Act.put, List.setIfInBounds_toArray, List.set_cons_zero, List.set_cons_succ, List.getElem?_toArray, List.getElem?_cons_zero, List.getElem?_cons_succ, Option.bind_some]
      have hs := addq_any _ _ _ _ w1 r0 r1
      rw [Rat.add_zero] at hs
      have HS := Lib.hid hs; clear hs
      clear d0 d1 hd
      refine stepOK_call (by go_simp; first | done | exact ⟨⟨rfl, rfl⟩, rfl⟩) ?_
      (with_reducible refine HS.out.mono ?_); rintro e w2 ⟨v, rfl, hb2, hn⟩
      exact ⟨v, rfl, leaves_mk hb2 hn (fun h => by cases h)⟩
    · intro vals w1 hb hd
      simp only [putsTo, dstOf, if_true, Act.put, List.setIfInBounds_toArray, List.set_cons_zero, List.set_cons_succ, List.getElem?_toArray, List.getElem?_cons_zero, List.getElem?_cons_succ, Option.bind_some]
      obtain ⟨e0, e1, e2⟩ := row3 (heap_below BXu.out hb)
      refine stepOK_value (v := .agg #[.bool su, .slice ou nu cu, .slice au mu du]) (w' := w1) (by go_simp) (leaves_mk (Below.refl _ _) rfl (fun h => by cases h))
    · intro vals w1 hb hd
      simp only [putsTo, dstOf, if_true, Act.put, List.setIfInBounds_toArray, List.set_cons_zero, List.set_cons_succ, List.getElem?_toArray, List.getElem?_cons_zero, List.getElem?_cons_succ, Option.bind_some]
      refine stepOK_value (v := .agg #[.bool false, .slice none 0 0, .slice none 0 0]) (w' := w1) (by go_simp) (leaves_mk (Below.refl _ _) rfl (fun h => by cases h))
    · intro vals w1 hb hd
      have d3 : KEq (.agg #[.bool su, .slice ou nu cu, .slice au mu du]) (vals 3) w1 := hd 3 (by kernel_rfl)
      have r3 : RatIs w1 (vals 3) u := by rw [show vals 3 = _ from d3]; exact Fu.out.below hb
      have d4 : KEq (.agg #[.bool false, .slice none 0 0, .slice none 0 0]) (vals 4) w1 := hd 4 (by kernel_rfl)
      have r4 : RatIs w1 (vals 4) 0 := by rw [show vals 4 = _ from d4]; exact (isR_zero w1).is (by rw [rl_zero]; decide)
      simp only [putsTo, dstOf, if_true, Act.put, List.setIfInBounds_toArray, List.set_cons_zero, List.set_cons_succ, List.getElem?_toArray, List.getElem?_cons_zero, List.getElem?_cons_succ, Option.bind_some]
      have hs := addq_any _ _ _ _ w1 r3 r4
      rw [Rat.add_zero] at hs
      have HS := Lib.hid hs; clear hs
      clear d3 d4 hd
      refine stepOK_call (by go_simp; first | done | exact ⟨⟨rfl, rfl⟩, rfl⟩) ?_
      (with_reducible refine HS.out.mono ?_); rintro e w2 ⟨v, rfl, hb2, hn⟩
      exact ⟨v, rfl, leaves_mk hb2 hn (fun h => by cases h)⟩
    · intro vals w1 hb hd
      simp only [putsTo, dstOf, if_true, Act.put, List.setIfInBounds_toArray, List.set_cons_zero, List.set_cons_succ, List.getElem?_toArray, List.getElem?_cons_zero, List.getElem?_cons_succ, Option.bind_some]
      refine stepOK_value (v := .pointer (some ⟨w1.heap.size, 0, none⟩)) (w' := w1.alloc (.cells #[.bool false, .slice none 0 0, .slice none 0 0] 24)) (by go_simp) (leaves_mk ((Below.refl _ _).alloc (Nat.le_refl _) _) ⟨_, hb.size, rfl, heap_alloc_new _ _⟩ (fun _ => ⟨rfl, by simp⟩))
    · intro vals w1 hb hd
      simp only [putsTo, dstOf, if_true, Act.put, List.setIfInBounds_toArray, List.set_cons_zero, List.set_cons_succ, List.getElem?_toArray, List.getElem?_cons_zero, List.getElem?_cons_succ, Option.bind_some]
      refine stepOK_value (v := .pointer (some ⟨w1.heap.size, 0, none⟩)) (w' := w1.alloc (.cells #[.bool false, .slice none 0 0, .slice none 0 0] 24)) (by go_simp) (leaves_mk ((Below.refl _ _).alloc (Nat.le_refl _) _) ⟨_, hb.size, rfl, heap_alloc_new _ _⟩ (fun _ => ⟨rfl, by simp⟩))
  case tl3 =>
    intro vals w4 hb4 hf hdis
    simp only [putsTo, dstOf, if_true, Act.put, List.setIfInBounds_toArray, List.set_cons_zero, List.set_cons_succ, List.getElem?_toArray, List.getElem?_cons_zero, List.getElem?_cons_succ, Option.bind_some, List.drop_succ_cons, List.drop_zero]
    obtain ⟨gx, hgx, ev6, hzx⟩ : KBox w3.heap.size (vals 6) w4 := hf 6 (by decide)
    have hnXP : IsR w4 (vals 2) (p) := hf 2 (by decide)
    obtain ⟨gy, hgy, ev7, hzy⟩ : KBox w3.heap.size (vals 7) w4 := hf 7 (by decide)
    have hnYQ : IsR w4 (vals 5) (u) := hf 5 (by decide)
    have nexy : gx ≠ gy := fun e => hdis 6 7 (by decide) (by decide) (by decide) (by decide) (by decide) (by rw [ev6, ev7, e])
    clear hf hdis
    rw [ev6]; clear ev6
    rw [ev7]; clear ev7
    have HB4 := Lib.hid (HB3.out.step hb4)
    have Fp := Lib.hid (Fp.out.below hb4)
    have Fu := Lib.hid (Fu.out.below hb4)
    have Fv := Lib.hid (Fv.out.below hb4)
    have BXp := Lib.hid (heap_below BXp.out hb4)
    have BXu := Lib.hid (heap_below BXu.out hb4)
    have BXv := Lib.hid (heap_below BXv.out hb4)
    obtain ⟨uXP, huXP⟩ : ∃ u, u = vals 2 := ⟨_, rfl⟩
    rw [← huXP] at hnXP ⊢; clear huXP
    have XP := Lib.hid hnXP; clear hnXP
    obtain ⟨sXP, oXP, nXP, cXP, aXP, mXP, dXP, rfl⟩ := XP.out.shape
    obtain ⟨uYQ, huYQ⟩ : ∃ u, u = vals 5 := ⟨_, rfl⟩
    rw [← huYQ] at hnYQ ⊢; clear huYQ
    have YQ := Lib.hid hnYQ; clear hnYQ
    obtain ⟨sYQ, oYQ, nYQ, cYQ, aYQ, mYQ, dYQ, rfl⟩ := YQ.out.shape
    have BXx := Lib.hid hzx; clear hzx
    have hgwx : w.heap.size ≤ gx := Nat.le_trans HB3.out.size hgx
    have BXy := Lib.hid hzy; clear hzy
    have hgwy : w.heap.size ≤ gy := Nat.le_trans HB3.out.size hgy
    clear hb4
    obtain ⟨ex0, ex1, ex2⟩ := row3 BXx.out
    obtain ⟨fx0, fx1, fx2⟩ := froz3 BXx.out
    obtain ⟨ey0, ey1, ey2⟩ := row3 BXy.out
    obtain ⟨fy0, fy1, fy2⟩ := froz3 BXy.out
    obtain ⟨w5, hw5⟩ : ∃ w5, w5 = ((w4.setCell ⟨gx, 0, none⟩ (.bool sXP)).setCell ⟨gx, 1, none⟩ (.slice oXP nXP cXP)).setCell ⟨gx, 2, none⟩ (.slice aXP mXP dXP) := ⟨_, rfl⟩
    have hp5 : w5 = put3 w4 (gx) (.bool sXP) (.slice oXP nXP cXP) (.slice aXP mXP dXP) := hw5
    first | have Fp := Lib.hid (putkI hp5 Fp.out BXx.out) | have Fp := Lib.hid (putkR hp5 Fp.out BXx.out) | have Fp := Lib.hid (putkV hp5 Fp.out BXx.out)
    first | have Fu := Lib.hid (putkI hp5 Fu.out BXx.out) | have Fu := Lib.hid (putkR hp5 Fu.out BXx.out) | have Fu := Lib.hid (putkV hp5 Fu.out BXx.out)
    first | have Fv := Lib.hid (putkI hp5 Fv.out BXx.out) | have Fv := Lib.hid (putkR hp5 Fv.out BXx.out) | have Fv := Lib.hid (putkV hp5 Fv.out BXx.out)
    first | have XP := Lib.hid (putkI hp5 XP.out BXx.out) | have XP := Lib.hid (putkR hp5 XP.out BXx.out) | have XP := Lib.hid (putkV hp5 XP.out BXx.out)
    first | have YQ := Lib.hid (putkI hp5 YQ.out BXx.out) | have YQ := Lib.hid (putkR hp5 YQ.out BXx.out) | have YQ := Lib.hid (putkV hp5 YQ.out BXx.out)
    have BXp := Lib.hid (putx hp5 BXp.out (by first | omega | (have := below_lt BXp.out; omega)))
    have BXu := Lib.hid (putx hp5 BXu.out (by first | omega | (have := below_lt BXu.out; omega)))
    have BXv := Lib.hid (putx hp5 BXv.out (by first | omega | (have := below_lt BXv.out; omega)))
    have nxx : w5.heap[gx]? = some (.cells #[.bool sXP, .slice oXP nXP cXP, .slice aXP mXP dXP] 24) := by rw [hp5]; exact put3_heap BXx.out
    have BXy := Lib.hid (putx hp5 BXy.out (by first | omega | (have := below_lt BXy.out; omega)))
    have BXx := Lib.hid nxx; clear nxx
    have HB5 := Lib.hid (putb hp5 HB4.out (by omega))
    have HW5 := Lib.hid hw5; clear hw5 hp5
    obtain ⟨w6, hw6⟩ : ∃ w6, w6 = ((w5.setCell ⟨gy, 0, none⟩ (.bool sYQ)).setCell ⟨gy, 1, none⟩ (.slice oYQ nYQ cYQ)).setCell ⟨gy, 2, none⟩ (.slice aYQ mYQ dYQ) := ⟨_, rfl⟩
    have hp6 : w6 = put3 w5 (gy) (.bool sYQ) (.slice oYQ nYQ cYQ) (.slice aYQ mYQ dYQ) := hw6
    first | have Fp := Lib.hid (putkI hp6 Fp.out BXy.out) | have Fp := Lib.hid (putkR hp6 Fp.out BXy.out) | have Fp := Lib.hid (putkV hp6 Fp.out BXy.out)
    first | have Fu := Lib.hid (putkI hp6 Fu.out BXy.out) | have Fu := Lib.hid (putkR hp6 Fu.out BXy.out) | have Fu := Lib.hid (putkV hp6 Fu.out BXy.out)
    first | have Fv := Lib.hid (putkI hp6 Fv.out BXy.out) | have Fv := Lib.hid (putkR hp6 Fv.out BXy.out) | have Fv := Lib.hid (putkV hp6 Fv.out BXy.out)
    first | have XP := Lib.hid (putkI hp6 XP.out BXy.out) | have XP := Lib.hid (putkR hp6 XP.out BXy.out) | have XP := Lib.hid (putkV hp6 XP.out BXy.out)
    first | have YQ := Lib.hid (putkI hp6 YQ.out BXy.out) | have YQ := Lib.hid (putkR hp6 YQ.out BXy.out) | have YQ := Lib.hid (putkV hp6 YQ.out BXy.out)
    have BXp := Lib.hid (putx hp6 BXp.out (by first | omega | (have := below_lt BXp.out; omega)))
    have BXu := Lib.hid (putx hp6 BXu.out (by first | omega | (have := below_lt BXu.out; omega)))
    have BXv := Lib.hid (putx hp6 BXv.out (by first | omega | (have := below_lt BXv.out; omega)))
    have BXx := Lib.hid (putx hp6 BXx.out (by first | omega | (have := below_lt BXx.out; omega)))
    have nxy : w6.heap[gy]? = some (.cells #[.bool sYQ, .slice oYQ nYQ cYQ, .slice aYQ mYQ dYQ] 24) := by rw [hp6]; exact put3_heap BXy.out
    have BXy := Lib.hid nxy; clear nxy
    have HB6 := Lib.hid (putb hp6 HB5.out (by omega))
    have HW6 := Lib.hid hw6; clear hw6 hp6
    have hs := cmpq_any _ p _ u w6 Fp.out Fu.out (by omega) (by omega)
    rw [← HN.out] at hs
    have HS := Lib.hid hs; clear hs
    obtain ⟨ep0, ep1, ep2⟩ := row3 BXp.out
    obtain ⟨eu0, eu1, eu2⟩ := row3 BXu.out
    rw [HW6.out] at ep0
    rw [HW6.out] at ep1
    rw [HW6.out] at ep2
    rw [HW6.out] at eu0
    rw [HW6.out] at eu1
    rw [HW6.out] at eu2
    rw [HW5.out] at ep0
    rw [HW5.out] at ep1
    rw [HW5.out] at ep2
    rw [HW5.out] at eu0
    rw [HW5.out] at eu1
    rw [HW5.out] at eu2
    go_wp2_with fail
    rw [← HW5.out]
    rw [← HW6.out]
    clear ep0 ep1 ep2 eu0 eu1 eu2 ex0 ex1 ex2 fx0 fx1 fx2 ey0 ey1 ey2 fy0 fy1 fy2
    (with_reducible refine HS.out.mono ?_); rintro e w7 ⟨rfl, hb7⟩
    clear HS
    have HB7 := Lib.hid (HB6.out.step hb7)
    have Fp := Lib.hid (Fp.out.below hb7)
    have Fu := Lib.hid (Fu.out.below hb7)
    have Fv := Lib.hid (Fv.out.below hb7)
    have XP := Lib.hid (XP.out.below hb7)
    have YQ := Lib.hid (YQ.out.below hb7)
    have BXp := Lib.hid (heap_below BXp.out hb7)
    have BXu := Lib.hid (heap_below BXu.out hb7)
    have BXv := Lib.hid (heap_below BXv.out hb7)
    have BXx := Lib.hid (heap_below BXx.out hb7)
    have BXy := Lib.hid (heap_below BXy.out hb7)
    clear hb7
    have HBC := Lib.hid ((Below.refl w7.heap.size w7).drew)
    have hc := fun va vb w1 (ha : IsR w1 va p) (hb : IsR w1 vb u) => rat_any va p vb u w1 ha hb (by omega) (by omega)
    rw [Q1.out] at hc
    have CQ := Lib.hid hc; clear hc
    have hc := fun w1 (h1 : Below w7.heap.size w7 w1) => cmpq_any _ u _ p w1 (Fu.out.below h1) (Fp.out.below h1) (by omega) (by omega)
    rw [Q2.out] at hc
    have C1 := Lib.hid hc; clear hc
    have hc := fun w1 (h1 : Below w7.heap.size w7 w1) => subq_any _ p _ u w1 (Fp.out.below h1) (Fu.out.below h1)
    have C2 := Lib.hid hc; clear hc
    have hc := fun va w1 (ha : IsR w1 va (p - u)) => sign_any va (p - u) w1 (ha.is (by omega))
    rw [Q3.out] at hc
    have C3 := Lib.hid hc; clear hc
    have hc := fun w1 (h1 : Below w7.heap.size w7 w1) => addq_any _ p _ v w1 (Fp.out.below h1) (Fv.out.below h1)
    have C4 := Lib.hid hc; clear hc
    have hc := fun w1 (h1 : Below w7.heap.size w7 w1) => addq_any _ u _ v w1 (Fu.out.below h1) (Fv.out.below h1)
    have C5 := Lib.hid hc; clear hc
    have hc := fun va vb w1 (ha : IsR w1 va (p + v)) (hb : IsR w1 vb (u + v)) => cmpq_any va (p + v) vb (u + v) w1 (ha.is (by omega)) (hb.is (by omega)) (by omega) (by omega)
    rw [Q4.out] at hc
    have C6 := Lib.hid hc; clear hc
    have Zp := Lib.hid (fun w1 (h1 : Below w7.heap.size w7 w1) => row3 (heap_below BXp.out h1))
    have Zu := Lib.hid (fun w1 (h1 : Below w7.heap.size w7 w1) => row3 (heap_below BXu.out h1))
    have Zv := Lib.hid (fun w1 (h1 : Below w7.heap.size w7 w1) => row3 (heap_below BXv.out h1))
    have Zx := Lib.hid (fun w1 (h1 : Below w7.heap.size w7 w1) => row3 (heap_below BXx.out h1))
    have Zy := Lib.hid (fun w1 (h1 : Below w7.heap.size w7 w1) => row3 (heap_below BXy.out h1))
    go_wp2_with fail
    have hwn := HWN.out
    obtain ⟨zp0, zp1, zp2⟩ := Zp.out _ HBC.out
    obtain ⟨zu0, zu1, zu2⟩ := Zu.out _ HBC.out
    obtain ⟨zv0, zv1, zv2⟩ := Zv.out _ HBC.out
    obtain ⟨zx0, zx1, zx2⟩ := Zx.out _ HBC.out
    obtain ⟨zy0, zy1, zy2⟩ := Zy.out _ HBC.out
    go_region_held3 (fun wx => wx.cell? ⟨w.heap.size, 0, none⟩ = some (.bool sp) ∧ wx.cell? ⟨w.heap.size, 1, none⟩ = some (.slice op np cp) ∧ wx.cell? ⟨w.heap.size, 2, none⟩ = some (.slice ap mp dp) ∧ wx.cell? ⟨w.heap.size + 1, 0, none⟩ = some (.bool su) ∧ wx.cell? ⟨w.heap.size + 1, 1, none⟩ = some (.slice ou nu cu) ∧ wx.cell? ⟨w.heap.size + 1, 2, none⟩ = some (.slice au mu du) ∧ wx.cell? ⟨w.heap.size + 2, 0, none⟩ = some (.bool sv) ∧ wx.cell? ⟨w.heap.size + 2, 1, none⟩ = some (.slice ov nv cv) ∧ wx.cell? ⟨w.heap.size + 2, 2, none⟩ = some (.slice av mv dv) ∧ wx.cell? ⟨gx, 0, none⟩ = some (.bool sXP) ∧ wx.cell? ⟨gx, 1, none⟩ = some (.slice oXP nXP cXP) ∧ wx.cell? ⟨gx, 2, none⟩ = some (.slice aXP mXP dXP) ∧ wx.cell? ⟨gy, 0, none⟩ = some (.bool sYQ) ∧ wx.cell? ⟨gy, 1, none⟩ = some (.slice oYQ nYQ cYQ) ∧ wx.cell? ⟨gy, 2, none⟩ = some (.slice aYQ mYQ dYQ)) (first | exact ⟨zp0, zp1, zp2, zu0, zu1, zu2, zv0, zv1, zv2, zx0, zx1, zx2, zy0, zy1, zy2⟩ | exact put6 (by omega) (by omega) (by omega) (by omega) (by omega) ⟨zp0, zp1, zp2, zu0, zu1, zu2, zv0, zv1, zv2, zx0, zx1, zx2, zy0, zy1, zy2⟩ | exact al3 ⟨zp0, zp1, zp2, zu0, zu1, zu2, zv0, zv1, zv2, zx0, zx1, zx2, zy0, zy1, zy2⟩ | exact put3c (by omega) (al3 ⟨zp0, zp1, zp2, zu0, zu1, zu2, zv0, zv1, zv2, zx0, zx1, zx2, zy0, zy1, zy2⟩)) (first
      | (go_at_call 17; (with_reducible refine (CQ.out _ _ _ (XP.out.below HBC.out) (YQ.out.below HBC.out)).mono ?_); rintro e wr0 ⟨rfl, hb⟩; (have HBC := Lib.hid (HBC.out.step hb)); (try have F1 := Lib.hid (F1.out.below hb)); (try have F2 := Lib.hid (F2.out.below hb)); (try have F3 := Lib.hid (F3.out.below hb)); clear hb; (obtain ⟨zp0, zp1, zp2⟩ := Zp.out _ HBC.out); (obtain ⟨zu0, zu1, zu2⟩ := Zu.out _ HBC.out); (obtain ⟨zv0, zv1, zv2⟩ := Zv.out _ HBC.out); (obtain ⟨zx0, zx1, zx2⟩ := Zx.out _ HBC.out); (obtain ⟨zy0, zy1, zy2⟩ := Zy.out _ HBC.out))
      | (go_at_call 41; (with_reducible refine (C1.out _ HBC.out).mono ?_); rintro e wr1 ⟨rfl, hb⟩; (have HBC := Lib.hid (HBC.out.step hb)); (try have F1 := Lib.hid (F1.out.below hb)); (try have F2 := Lib.hid (F2.out.below hb)); (try have F3 := Lib.hid (F3.out.below hb)); clear hb; (obtain ⟨zp0, zp1, zp2⟩ := Zp.out _ HBC.out); (obtain ⟨zu0, zu1, zu2⟩ := Zu.out _ HBC.out); (obtain ⟨zv0, zv1, zv2⟩ := Zv.out _ HBC.out); (obtain ⟨zx0, zx1, zx2⟩ := Zx.out _ HBC.out); (obtain ⟨zy0, zy1, zy2⟩ := Zy.out _ HBC.out))
      | (go_at_call 35; (with_reducible refine (C2.out _ HBC.out).mono ?_); rintro e wr2 ⟨v2r, rfl, hb, hn⟩; (have HBC := Lib.hid (HBC.out.step hb)); (try have F1 := Lib.hid (F1.out.below hb)); (try have F2 := Lib.hid (F2.out.below hb)); (try have F3 := Lib.hid (F3.out.below hb)); (have F1 := Lib.hid hn); clear hn; clear hb; (obtain ⟨zp0, zp1, zp2⟩ := Zp.out _ HBC.out); (obtain ⟨zu0, zu1, zu2⟩ := Zu.out _ HBC.out); (obtain ⟨zv0, zv1, zv2⟩ := Zv.out _ HBC.out); (obtain ⟨zx0, zx1, zx2⟩ := Zx.out _ HBC.out); (obtain ⟨zy0, zy1, zy2⟩ := Zy.out _ HBC.out))
      | (go_at_call 42; (with_reducible refine (C3.out _ _ F1.out).mono ?_); rintro e wr3 ⟨rfl, hb⟩; (have HBC := Lib.hid (HBC.out.step hb)); (try have F1 := Lib.hid (F1.out.below hb)); (try have F2 := Lib.hid (F2.out.below hb)); (try have F3 := Lib.hid (F3.out.below hb)); clear hb; (obtain ⟨zp0, zp1, zp2⟩ := Zp.out _ HBC.out); (obtain ⟨zu0, zu1, zu2⟩ := Zu.out _ HBC.out); (obtain ⟨zv0, zv1, zv2⟩ := Zv.out _ HBC.out); (obtain ⟨zx0, zx1, zx2⟩ := Zx.out _ HBC.out); (obtain ⟨zy0, zy1, zy2⟩ := Zy.out _ HBC.out))
      | (go_at_call 33; (with_reducible refine (C4.out _ HBC.out).mono ?_); rintro e wr4 ⟨v4r, rfl, hb, hn⟩; (have HBC := Lib.hid (HBC.out.step hb)); (try have F1 := Lib.hid (F1.out.below hb)); (try have F2 := Lib.hid (F2.out.below hb)); (try have F3 := Lib.hid (F3.out.below hb)); (have F2 := Lib.hid hn); clear hn; clear hb; (obtain ⟨zp0, zp1, zp2⟩ := Zp.out _ HBC.out); (obtain ⟨zu0, zu1, zu2⟩ := Zu.out _ HBC.out); (obtain ⟨zv0, zv1, zv2⟩ := Zv.out _ HBC.out); (obtain ⟨zx0, zx1, zx2⟩ := Zx.out _ HBC.out); (obtain ⟨zy0, zy1, zy2⟩ := Zy.out _ HBC.out))
      | (go_at_call 33; (with_reducible refine (C5.out _ HBC.out).mono ?_); rintro e wr5 ⟨v5r, rfl, hb, hn⟩; (have HBC := Lib.hid (HBC.out.step hb)); (try have F1 := Lib.hid (F1.out.below hb)); (try have F2 := Lib.hid (F2.out.below hb)); (try have F3 := Lib.hid (F3.out.below hb)); (have F3 := Lib.hid hn); clear hn; clear hb; (obtain ⟨zp0, zp1, zp2⟩ := Zp.out _ HBC.out); (obtain ⟨zu0, zu1, zu2⟩ := Zu.out _ HBC.out); (obtain ⟨zv0, zv1, zv2⟩ := Zv.out _ HBC.out); (obtain ⟨zx0, zx1, zx2⟩ := Zx.out _ HBC.out); (obtain ⟨zy0, zy1, zy2⟩ := Zy.out _ HBC.out))
      | (go_at_call 41; (with_reducible refine (C6.out _ _ _ F2.out F3.out).mono ?_); rintro e wr6 ⟨rfl, hb⟩; (have HBC := Lib.hid (HBC.out.step hb)); (try have F1 := Lib.hid (F1.out.below hb)); (try have F2 := Lib.hid (F2.out.below hb)); (try have F3 := Lib.hid (F3.out.below hb)); clear hb; (obtain ⟨zp0, zp1, zp2⟩ := Zp.out _ HBC.out); (obtain ⟨zu0, zu1, zu2⟩ := Zu.out _ HBC.out); (obtain ⟨zv0, zv1, zv2⟩ := Zv.out _ HBC.out); (obtain ⟨zx0, zx1, zx2⟩ := Zx.out _ HBC.out); (obtain ⟨zy0, zy1, zy2⟩ := Zy.out _ HBC.out)))
    clear hwn
    have Fp := Lib.hid (Fp.out.below HBC.out)
    have Fu := Lib.hid (Fu.out.below HBC.out)
    have Fv := Lib.hid (Fv.out.below HBC.out)
    have XP := Lib.hid (XP.out.below HBC.out)
    have YQ := Lib.hid (YQ.out.below HBC.out)
    have BXp := Lib.hid (heap_below BXp.out HBC.out)
    have BXu := Lib.hid (heap_below BXu.out HBC.out)
    have BXv := Lib.hid (heap_below BXv.out HBC.out)
    have BXx := Lib.hid (heap_below BXx.out HBC.out)
    have BXy := Lib.hid (heap_below BXy.out HBC.out)
    have HB8 := Lib.hid (HB7.out.step HBC.out)
    have HBC := Lib.hid ((Below.refl wr6.heap.size wr6).drew)
    have hc := fun w1 (h1 : Below wr6.heap.size wr6 w1) => mulq_any _ p _ v w1 (Fp.out.below h1) (Fv.out.below h1)
    have C7 := Lib.hid hc; clear hc
    have hc := fun w1 (h1 : Below wr6.heap.size wr6 w1) => mulq_any _ u _ v w1 (Fu.out.below h1) (Fv.out.below h1)
    have C8 := Lib.hid hc; clear hc
    have hc := fun va vb w1 (ha : IsR w1 va (p * v)) (hb : IsR w1 vb (u * v)) => cmpq_any va (p * v) vb (u * v) w1 (ha.is (by omega)) (hb.is (by omega)) (by omega) (by omega)
    rw [Q5.out] at hc
    have C9 := Lib.hid hc; clear hc
    have hc := fun w1 (h1 : Below wr6.heap.size wr6 w1) => sign_any _ v w1 (Fv.out.below h1)
    rw [← HS.out] at hc
    have C10 := Lib.hid hc; clear hc
    have Zp := Lib.hid (fun w1 (h1 : Below wr6.heap.size wr6 w1) => row3 (heap_below BXp.out h1))
    have Zu := Lib.hid (fun w1 (h1 : Below wr6.heap.size wr6 w1) => row3 (heap_below BXu.out h1))
    have Zv := Lib.hid (fun w1 (h1 : Below wr6.heap.size wr6 w1) => row3 (heap_below BXv.out h1))
    go_wp2_with fail
    have hwr := HWR.out
    obtain ⟨zp0, zp1, zp2⟩ := Zp.out _ HBC.out
    obtain ⟨zu0, zu1, zu2⟩ := Zu.out _ HBC.out
    obtain ⟨zv0, zv1, zv2⟩ := Zv.out _ HBC.out
    go_region_held3 (fun wx => wx.cell? ⟨w.heap.size, 0, none⟩ = some (.bool sp) ∧ wx.cell? ⟨w.heap.size, 1, none⟩ = some (.slice op np cp) ∧ wx.cell? ⟨w.heap.size, 2, none⟩ = some (.slice ap mp dp) ∧ wx.cell? ⟨w.heap.size + 1, 0, none⟩ = some (.bool su) ∧ wx.cell? ⟨w.heap.size + 1, 1, none⟩ = some (.slice ou nu cu) ∧ wx.cell? ⟨w.heap.size + 1, 2, none⟩ = some (.slice au mu du) ∧ wx.cell? ⟨w.heap.size + 2, 0, none⟩ = some (.bool sv) ∧ wx.cell? ⟨w.heap.size + 2, 1, none⟩ = some (.slice ov nv cv) ∧ wx.cell? ⟨w.heap.size + 2, 2, none⟩ = some (.slice av mv dv)) (first | exact ⟨zp0, zp1, zp2, zu0, zu1, zu2, zv0, zv1, zv2⟩ | exact put6 (by omega) (by omega) (by omega) ⟨zp0, zp1, zp2, zu0, zu1, zu2, zv0, zv1, zv2⟩ | exact al3 ⟨zp0, zp1, zp2, zu0, zu1, zu2, zv0, zv1, zv2⟩ | exact put3c (by omega) (al3 ⟨zp0, zp1, zp2, zu0, zu1, zu2, zv0, zv1, zv2⟩)) (first
      | (go_at_call 29; (with_reducible refine (C7.out _ HBC.out).mono ?_); rintro e wr2_0 ⟨v0r, rfl, hb, hn⟩; (have HBC := Lib.hid (HBC.out.step hb)); (try have F4 := Lib.hid (F4.out.below hb)); (try have F5 := Lib.hid (F5.out.below hb)); (have F4 := Lib.hid hn); clear hn; clear hb; (obtain ⟨zp0, zp1, zp2⟩ := Zp.out _ HBC.out); (obtain ⟨zu0, zu1, zu2⟩ := Zu.out _ HBC.out); (obtain ⟨zv0, zv1, zv2⟩ := Zv.out _ HBC.out))
      | (go_at_call 29; (with_reducible refine (C8.out _ HBC.out).mono ?_); rintro e wr2_1 ⟨v1r, rfl, hb, hn⟩; (have HBC := Lib.hid (HBC.out.step hb)); (try have F4 := Lib.hid (F4.out.below hb)); (try have F5 := Lib.hid (F5.out.below hb)); (have F5 := Lib.hid hn); clear hn; clear hb; (obtain ⟨zp0, zp1, zp2⟩ := Zp.out _ HBC.out); (obtain ⟨zu0, zu1, zu2⟩ := Zu.out _ HBC.out); (obtain ⟨zv0, zv1, zv2⟩ := Zv.out _ HBC.out))
      | (go_at_call 41; (with_reducible refine (C9.out _ _ _ F4.out F5.out).mono ?_); rintro e wr2_2 ⟨rfl, hb⟩; (have HBC := Lib.hid (HBC.out.step hb)); (try have F4 := Lib.hid (F4.out.below hb)); (try have F5 := Lib.hid (F5.out.below hb)); clear hb; (obtain ⟨zp0, zp1, zp2⟩ := Zp.out _ HBC.out); (obtain ⟨zu0, zu1, zu2⟩ := Zu.out _ HBC.out); (obtain ⟨zv0, zv1, zv2⟩ := Zv.out _ HBC.out))
      | (go_at_call 42; (with_reducible refine (C10.out _ HBC.out).mono ?_); rintro e wr2_3 ⟨rfl, hb⟩; (have HBC := Lib.hid (HBC.out.step hb)); (try have F4 := Lib.hid (F4.out.below hb)); (try have F5 := Lib.hid (F5.out.below hb)); clear hb; (obtain ⟨zp0, zp1, zp2⟩ := Zp.out _ HBC.out); (obtain ⟨zu0, zu1, zu2⟩ := Zu.out _ HBC.out); (obtain ⟨zv0, zv1, zv2⟩ := Zv.out _ HBC.out)))
    clear hwr
    have Fp := Lib.hid (Fp.out.below HBC.out)
    have Fu := Lib.hid (Fu.out.below HBC.out)
    have Fv := Lib.hid (Fv.out.below HBC.out)
    have XP := Lib.hid (XP.out.below HBC.out)
    have YQ := Lib.hid (YQ.out.below HBC.out)
    have BXp := Lib.hid (heap_below BXp.out HBC.out)
    have BXu := Lib.hid (heap_below BXu.out HBC.out)
    have BXv := Lib.hid (heap_below BXv.out HBC.out)
    have BXx := Lib.hid (heap_below BXx.out HBC.out)
    have BXy := Lib.hid (heap_below BXy.out HBC.out)
    have HB9 := Lib.hid (HB8.out.step HBC.out)
    have hs := cmpq_any _ u _ v wr2_3 Fu.out Fv.out (by omega) (by omega)
    rw [← HM.out] at hs
    have HS := Lib.hid hs; clear hs
    obtain ⟨eu0, eu1, eu2⟩ := row3 BXu.out
    obtain ⟨ev0, ev1, ev2⟩ := row3 BXv.out
    go_wp2_with fail
    clear eu0 eu1 eu2 ev0 ev1 ev2
    (with_reducible refine HS.out.mono ?_); rintro e w10 ⟨rfl, hb10⟩
    clear HS
    have HB10 := Lib.hid (HB9.out.step hb10)
    have Fp := Lib.hid (Fp.out.below hb10)
    have Fu := Lib.hid (Fu.out.below hb10)
    have Fv := Lib.hid (Fv.out.below hb10)
    have XP := Lib.hid (XP.out.below hb10)
    have YQ := Lib.hid (YQ.out.below hb10)
    have BXp := Lib.hid (heap_below BXp.out hb10)
    have BXu := Lib.hid (heap_below BXu.out hb10)
    have BXv := Lib.hid (heap_below BXv.out hb10)
    have BXx := Lib.hid (heap_below BXx.out hb10)
    have BXy := Lib.hid (heap_below BXy.out hb10)
    clear hb10
    have hs := cmpq_any _ p _ v w10 Fp.out Fv.out (by omega) (by omega)
    rw [← HL.out] at hs
    have HS := Lib.hid hs; clear hs
    obtain ⟨ep0, ep1, ep2⟩ := row3 BXp.out
    obtain ⟨ev0, ev1, ev2⟩ := row3 BXv.out
    go_wp2_with fail
    clear ep0 ep1 ep2 ev0 ev1 ev2
    (with_reducible refine HS.out.mono ?_); rintro e w11 ⟨rfl, hb11⟩
    clear HS
    have HB11 := Lib.hid (HB10.out.step hb11)
    have Fp := Lib.hid (Fp.out.below hb11)
    have Fu := Lib.hid (Fu.out.below hb11)
    have Fv := Lib.hid (Fv.out.below hb11)
    have XP := Lib.hid (XP.out.below hb11)
    have YQ := Lib.hid (YQ.out.below hb11)
    have BXp := Lib.hid (heap_below BXp.out hb11)
    have BXu := Lib.hid (heap_below BXu.out hb11)
    have BXv := Lib.hid (heap_below BXv.out hb11)
    have BXx := Lib.hid (heap_below BXx.out hb11)
    have BXy := Lib.hid (heap_below BXy.out hb11)
    clear hb11
    go_wp2_with fail
    go_ret
    exact ⟨by first | rfl | (simp; done), HB11.out⟩
theorem equal_small (vp : Value) (p : Rat) (vu : Value) (u : Rat) (vv : Value) (v : Rat) (w : World) (hp : RatIs w vp p) (hu : RatIs w vu u) (hv : RatIs w vv v) (lp : rl p ≤ 12) (zp : (szR vp).1 ≤ 12 ∧ (szR vp).2 ≤ 12) (lu : rl u ≤ 12) (zu : (szR vu).1 ≤ 12 ∧ (szR vu).2 ≤ 12) (lv : rl v ≤ 12) (zv : (szR vv).1 ≤ 12 ∧ (szR vv).2 ≤ 12) : Calls Tryd.prog 8 #[vp, vu, vv] w (RetV w (.bool true)) := by
  rcases Int.lt_trichotomy (cq p u) 0 with h | h | h
  · by_cases h1 : 0 ≤ cq u v
    · exact equal_small2 vp p vu u vv v w hp hu hv lp zp lu zu lv zv h h1
    · exact equal_small3 vp p vu u vv v w hp hu hv lp zp lu zu lv zv h h1
  · exact equal_small0 vp p vu u vv v w hp hu hv lp zp lu zu lv zv h
  · exact equal_small1 vp p vu u vv v w hp hu hv lp zp lu zu lv zv h
set_option maxRecDepth 100000 in
set_option maxHeartbeats 3200000 in
theorem equal_big (vp : Value) (np mp : Nat) (vu : Value) (nu mu : Nat) (vv : Value) (nv mv : Nat) (w : World) (hp : RatSz vp np mp) (hu : RatSz vu nu mu) (hv : RatSz vv nv mv) (hb : 12 < np ∨ 12 < mp ∨ 12 < nu ∨ 12 < mu ∨ 12 < nv ∨ 12 < mv) :
    Calls Tryd.prog 8 #[vp, vu, vv] w (RetV w (.bool true)) := by
  obtain ⟨sp, op, cp, ap, dp, rfl, zp⟩ := hp
  obtain ⟨su, ou, cu, au, du, rfl, zu⟩ := hu
  obtain ⟨sv, ov, cv, av, dv, rfl, zv⟩ := hv
  have HBIG := Lib.hid hb; clear hb
  have hb0 := ((((Below.refl w.heap.size w).alloc (by first | (simp; done) | (simp; omega)) (.cells #[.bool sp, .slice op np cp, .slice ap mp dp] 24)).alloc (by first | (simp; done) | (simp; omega)) (.cells #[.bool su, .slice ou nu cu, .slice au mu du] 24)).alloc (by first | (simp; done) | (simp; omega)) (.cells #[.bool sv, .slice ov nv cv, .slice av mv dv] 24))
  have hxp := nest3_0 w (.cells #[.bool sp, .slice op np cp, .slice ap mp dp] 24) (.cells #[.bool su, .slice ou nu cu, .slice au mu du] 24) (.cells #[.bool sv, .slice ov nv cv, .slice av mv dv] 24)
  have hxu := nest3_1 w (.cells #[.bool sp, .slice op np cp, .slice ap mp dp] 24) (.cells #[.bool su, .slice ou nu cu, .slice au mu du] 24) (.cells #[.bool sv, .slice ov nv cv, .slice av mv dv] 24)
  have hxv := nest3_2 w (.cells #[.bool sp, .slice op np cp, .slice ap mp dp] 24) (.cells #[.bool su, .slice ou nu cu, .slice au mu du] 24) (.cells #[.bool sv, .slice ov nv cv, .slice av mv dv] 24)
  obtain ⟨w0, hw0⟩ : ∃ w0, w0 = (((w.alloc (.cells #[.bool sp, .slice op np cp, .slice ap mp dp] 24)).alloc (.cells #[.bool su, .slice ou nu cu, .slice au mu du] 24)).alloc (.cells #[.bool sv, .slice ov nv cv, .slice av mv dv] 24)) := ⟨_, rfl⟩
  rw [← hw0] at hb0 hxp hxu hxv
  have HB0 := Lib.hid hb0; have HW0 := Lib.hid hw0
  have BXp := Lib.hid hxp
  have BXu := Lib.hid hxu
  have BXv := Lib.hid hxv
  clear hb0 hw0 hxp hxu hxv
  go_enter Tryd.func8, Tryd.ntmps8
  have hs := awake02 w0
  have HS := Lib.hid hs; clear hs
  go_wp2_with fail
  rw [← HW0.out]
  (with_reducible refine HS.out.mono ?_); rintro e w1 ⟨rfl, hb1⟩
  clear HS
  have HB1 := Lib.hid (HB0.out.step hb1)
  have BXp := Lib.hid (heap_below BXp.out hb1)
  have BXu := Lib.hid (heap_below BXu.out hb1)
  have BXv := Lib.hid (heap_below BXv.out hb1)
  clear hb1
  obtain ⟨ep0, ep1, ep2⟩ := row3 BXp.out
  obtain ⟨eu0, eu1, eu2⟩ := row3 BXu.out
  obtain ⟨ev0, ev1, ev2⟩ := row3 BXv.out
  obtain ⟨w2, hw2⟩ : ∃ w2, w2 = w1.alloc (.cells #[.bool sp, .slice op np cp, .slice ap mp dp, .bool su, .slice ou nu cu, .slice au mu du, .bool sv, .slice ov nv cv, .slice av mv dv] 24) := ⟨_, rfl⟩
  have hb2 : Below w1.heap.size w1 w2 := by rw [hw2]; exact (Below.refl _ _).alloc (Nat.le_refl _) _
  have hxLS := heap_alloc_new w1 (.cells #[.bool sp, .slice op np cp, .slice ap mp dp, .bool su, .slice ou nu cu, .slice au mu du, .bool sv, .slice ov nv cv, .slice av mv dv] 24)
  obtain ⟨gLS, hgLS⟩ : ∃ gLS, gLS = w1.heap.size := ⟨_, rfl⟩
  rw [← hw2, ← hgLS] at hxLS
  have HW2 := Lib.hid hw2; have HGLS := Lib.hid hgLS; clear hw2 hgLS
  have HB2 := Lib.hid (HB1.out.step hb2)
  have BXp := Lib.hid (heap_below BXp.out hb2)
  have BXu := Lib.hid (heap_below BXu.out hb2)
  have BXv := Lib.hid (heap_below BXv.out hb2)
  clear hb2
  have BXLS := Lib.hid hxLS; clear hxLS
  have hs := rlarge3b BXLS.out zp zu zv HBIG.out
  have HS := Lib.hid hs; clear hs
  go_wp2_with fail
  rw [← HW2.out]
  try rw [← HGLS.out]
  (with_reducible refine HS.out.mono ?_); rintro e w3 ⟨rfl, hb3⟩
  clear HS
  have HB3 := Lib.hid (HB2.out.step hb3)
  have BXp := Lib.hid (heap_below BXp.out hb3)
  have BXu := Lib.hid (heap_below BXu.out hb3)
  have BXv := Lib.hid (heap_below BXv.out hb3)
  clear hb3
  clear BXLS
  have hs := awake02 w3
  have HS := Lib.hid hs; clear hs
  go_wp2_with fail
  (with_reducible refine HS.out.mono ?_); rintro e w4 ⟨rfl, hb4⟩
  clear HS
  have HB4 := Lib.hid (HB3.out.step hb4)
  have BXp := Lib.hid (heap_below BXp.out hb4)
  have BXu := Lib.hid (heap_below BXu.out hb4)
  have BXv := Lib.hid (heap_below BXv.out hb4)
  clear hb4
  go_wp2_with fail
  go_ret
  exact ⟨rfl, HB4.out⟩
theorem equal02_walk (vp : Value) (sp : Bool) (ap bp : List Nat) (vu : Value) (su : Bool) (au bu : List Nat) (vv : Value) (sv : Bool) (av bv : List Nat) (w : World) (hp : RatV w vp sp ap bp) (hu : RatV w vu su au bu) (hv : RatV w vv sv av bv)  :
    Calls Tryd.prog 8 #[vp, vu, vv] w (RetV w (.bool true)) := by
  obtain ⟨yp, ep⟩ := hp.sz
  obtain ⟨yu, eu⟩ := hu.sz
  obtain ⟨yv, ev⟩ := hv.sz
  by_cases hb : 12 < ap.length ∨ 12 < bp.length ∨ 12 < au.length ∨ 12 < bu.length ∨ 12 < av.length ∨ 12 < bv.length
  · exact equal_big vp ap.length bp.length vu au.length bu.length vv av.length bv.length w yp yu yv hb
  · obtain ⟨up, tp⟩ := hp.lt
    obtain ⟨uu, tu⟩ := hu.lt
    obtain ⟨uv, tv⟩ := hv.lt
    exact equal_small vp (rq sp ap bp) vu (rq su au bu) vv (rq sv av bv) w (hp.is (by omega) (by omega)) (hu.is (by omega) (by omega)) (hv.is (by omega) (by omega)) (rl_rq up tp (by omega) (by omega) (by decide)) (by rw [ep]; exact ⟨by show ap.length ≤ 12; omega, by show bp.length ≤ 12; omega⟩) (rl_rq uu tu (by omega) (by omega) (by decide)) (by rw [eu]; exact ⟨by show au.length ≤ 12; omega, by show bu.length ≤ 12; omega⟩) (rl_rq uv tv (by omega) (by omega) (by decide)) (by rw [ev]; exact ⟨by show av.length ≤ 12; omega, by show bv.length ≤ 12; omega⟩) 
end Go.Proofs.YtabdndlaelfdeaaDoor
