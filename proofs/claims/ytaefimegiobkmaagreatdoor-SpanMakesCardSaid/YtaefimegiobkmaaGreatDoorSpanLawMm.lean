/-
  SpanMakes: the walk of the statement.
  Conditions: each theorem's own.
-/
import Derived.Test.YtaefimegiobkmaaGreatDoorMA9
namespace Go.Proofs.YtaefimegiobkmaaGreatDoor
open Go.RowKit Go.ChangeShapes Go.WideShapes

set_option maxRecDepth 100000 in
set_option maxHeartbeats 3200000 in
theorem spanmakes_big (va : Value) (na ma nax max : Nat) (w : World) (ha : SpSz va na ma nax max) (hbig : 6 < na ∨ 6 < ma ∨ 6 < nax ∨ 6 < max) :
    Calls Tryz.prog 4 #[va] w (RetV w (.bool true)) := by
  have HBW := Lib.hid (Below.refl w.heap.size w)
  have kz0 : rl 0 ≤ 1 := by rw [rl_zero]; exact Nat.le_refl _
  obtain ⟨qa, oa, ka, pa, ra, qax, oax, kax, pax, rax, rfl, Za⟩ := ha
  have HBIG := Lib.hid hbig; clear hbig
  obtain ⟨w1, hw1⟩ : ∃ w1, w1 = w.alloc (.cells #[.bool qa, .slice oa na ka, .slice pa ma ra, .bool qax, .slice oax nax kax, .slice pax max rax] 26) := ⟨_, rfl⟩
  have hb1 : Below w.heap.size w w1 := by rw [hw1]; exact (Below.refl _ _).alloc (Nat.le_refl _) _
  have hx1 := heap_alloc_new w (.cells #[.bool qa, .slice oa na ka, .slice pa ma ra, .bool qax, .slice oax nax kax, .slice pax max rax] 26)
  obtain ⟨g1, hg1⟩ : ∃ g, g = w.heap.size := ⟨_, rfl⟩
  rw [← hw1, ← hg1] at hx1
  have lw1 : w.heap.size ≤ g1 := by rw [hg1]; exact HBW.out.size
  have HW1 := Lib.hid hw1; have HG1 := Lib.hid hg1; clear hw1 hg1
  have HB1 := Lib.hid (HBW.out.step hb1)
  have BX1 := Lib.hid hx1; clear hb1 hx1
  go_enter Tryz.func4, Tryz.ntmps4
  have hs := awake03 w1
  have HS := Lib.hid hs; clear hs
  go_wp2_with (with_reducible first | refine pauseCall ?_ | refine pauseLoop ?_ | refine pauseDraw ?_ | refine pauseBody ?_ | refine pauseRounds ?_)
  try rw [← HW1.out]
  try rw [← HG1.out]
  refine Pause.mk ?_
  (with_reducible refine HS.out.mono ?_); rintro e w2 ⟨rfl, hb2⟩
  clear HS
  have HB2 := Lib.hid (HB1.out.step hb2)
  have BX1 := Lib.hid (heap_below BX1.out hb2)
  clear hb2
  obtain ⟨x1_0, x1_1, x1_2, x1_3, x1_4, x1_5⟩ := row6 BX1.out
  obtain ⟨w3, hw3⟩ : ∃ w3, w3 = w2.alloc (.cells #[.bool qa, .slice oa na ka, .slice pa ma ra, .bool qax, .slice oax nax kax, .slice pax max rax] 26) := ⟨_, rfl⟩
  have hb3 : Below w2.heap.size w2 w3 := by rw [hw3]; exact (Below.refl _ _).alloc (Nat.le_refl _) _
  have hx3 := heap_alloc_new w2 (.cells #[.bool qa, .slice oa na ka, .slice pa ma ra, .bool qax, .slice oax nax kax, .slice pax max rax] 26)
  obtain ⟨g3, hg3⟩ : ∃ g, g = w2.heap.size := ⟨_, rfl⟩
  rw [← hw3, ← hg3] at hx3
  have lw3 : w.heap.size ≤ g3 := by rw [hg3]; exact HB2.out.size
  have ltBX13 : g1 < g3 := by rw [hg3]; exact below_lt BX1.out
  have HW3 := Lib.hid hw3; have HG3 := Lib.hid hg3; clear hw3 hg3
  have HB3 := Lib.hid (HB2.out.step hb3)
  have BX1 := Lib.hid (heap_below BX1.out hb3)
  have BX3 := Lib.hid hx3; clear hb3 hx3
  have hs := slarge1b BX3.out Za HBIG.out
  have HS := Lib.hid hs; clear hs
  try rw [HG3.out] at x1_0
  try rw [HG3.out] at x1_1
  try rw [HG3.out] at x1_2
  try rw [HG3.out] at x1_3
  try rw [HG3.out] at x1_4
  try rw [HG3.out] at x1_5
  go_wp2_with (with_reducible first | refine pauseCall ?_ | refine pauseLoop ?_ | refine pauseDraw ?_ | refine pauseBody ?_ | refine pauseRounds ?_)
  try rw [← HW3.out]
  try rw [← HG3.out]
  clear x1_0 x1_1 x1_2 x1_3 x1_4 x1_5
  refine Pause.mk ?_
  (with_reducible refine HS.out.mono ?_); rintro e w4 ⟨rfl, hb4⟩
  clear HS
  have HB4 := Lib.hid (HB3.out.step hb4)
  have BX1 := Lib.hid (heap_below BX1.out hb4)
  have BX3 := Lib.hid (heap_below BX3.out hb4)
  clear BX3
  clear hb4
  have hs := awake03 w4
  have HS := Lib.hid hs; clear hs
  go_wp2_with (with_reducible first | refine pauseCall ?_ | refine pauseLoop ?_ | refine pauseDraw ?_ | refine pauseBody ?_ | refine pauseRounds ?_)
  refine Pause.mk ?_
  (with_reducible refine HS.out.mono ?_); rintro e w5 ⟨rfl, hb5⟩
  clear HS
  have HB5 := Lib.hid (HB4.out.step hb5)
  have BX1 := Lib.hid (heap_below BX1.out hb5)
  clear hb5
  go_wp2_with (with_reducible first | refine pauseCall ?_ | refine pauseLoop ?_ | refine pauseDraw ?_ | refine pauseBody ?_ | refine pauseRounds ?_)
  refine Pause.mk ?_
  go_ret
  exact ⟨by first | rfl | (simp; done), HB5.out⟩
set_option maxRecDepth 100000 in
set_option maxHeartbeats 12800000 in
theorem spanmakes_ok (va : Value) (sa : Bool) (aa ba : List Nat) (ta : Bool) (ca da : List Nat) (w : World) (ha : SpV w va sa aa ba ta ca da) (la1 : aa.length ≤ 6) (la2 : ba.length ≤ 6) (la3 : ca.length ≤ 6) (la4 : da.length ≤ 6)  :
    Calls Tryz.prog 4 #[va] w (RetV w (.bool true)) := by
  have HBW := Lib.hid (Below.refl w.heap.size w)
  have kz0 : rl 0 ≤ 1 := by rw [rl_zero]; exact Nat.le_refl _
  have za := ha.sz.2
  obtain ⟨qa, oa, na, ka, pa, ma, ra, qax, oax, nax, kax, pax, max, rax, rfl⟩ := ha.shape
  have Za : na ≤ 6 ∧ ma ≤ 6 ∧ nax ≤ 6 ∧ max ≤ 6 := by have e1 : na = _ := congrArg (·.1) za; have e2 : ma = _ := congrArg (·.2.1) za; have e3 : nax = _ := congrArg (·.2.2.1) za; have e4 : max = _ := congrArg (·.2.2.2) za; rw [e1, e2, e3, e4]; exact ⟨la1, la2, la3, la4⟩
  clear za
  have hla1 : rl (rq sa aa ba) ≤ 6 := rl_rq ha.lt.1.1 ha.lt.1.2 la1 la2 (by decide); have hla2 : rl (rq ta ca da) ≤ 6 := rl_rq ha.lt.2.1 ha.lt.2.2 la3 la4 (by decide)
  obtain ⟨S_a, hSa⟩ : ∃ S, S = sq sa aa ba ta ca da := ⟨_, rfl⟩
  have hsa : rl S_a.1 ≤ 6 ∧ rl S_a.2 ≤ 6 := by rw [hSa]; exact rl_sq ha.lt.1.1 ha.lt.1.2 ha.lt.2.1 ha.lt.2.2 la1 la2 la3 la4 (by decide)
  obtain ⟨hsa1, hsa2⟩ := hsa
  have Fa := Lib.hid (show SpIs w _ S_a from ⟨_, _, _, _, _, _, ha, hSa.symm, by omega, by omega, by omega, by omega⟩); clear hSa
  have HOa := Lib.hid Fa.out.ok
  obtain ⟨p_a, hpa⟩ : ∃ p, p = rq sa aa ba := ⟨_, rfl⟩; obtain ⟨r_a, hra⟩ : ∃ r, r = rq ta ca da := ⟨_, rfl⟩
  have Fal := Lib.hid (show RatIs w _ p_a from hpa ▸ (spV_ends ha).1.is (by omega) (by omega)); have Fah := Lib.hid (show RatIs w _ r_a from hra ▸ (spV_ends ha).2.is (by omega) (by omega))
  have hla1 : rl p_a ≤ 6 := by rw [hpa]; exact hla1
  have hla2 : rl r_a ≤ 6 := by rw [hra]; exact hla2
  have FaV := Lib.hid ha; clear ha hpa hra
  obtain ⟨vb, hvb⟩ : ∃ b, b = decide (Vld sa aa ba ∧ Vld ta ca da ∧ rq sa aa ba ≤ rq ta ca da) := ⟨_, rfl⟩
  have HVB := Lib.hid hvb.symm; clear hvb
  obtain ⟨E, hE⟩ : ∃ m, m = smC (p_a) (r_a) := ⟨_, rfl⟩
  have smallE : E < 1000 := by rw [hE]; unfold smC; split <;> decide
  have HE := Lib.hid hE.symm; clear hE
  obtain ⟨w1, hw1⟩ : ∃ w1, w1 = w.alloc (.cells #[.bool qa, .slice oa na ka, .slice pa ma ra, .bool qax, .slice oax nax kax, .slice pax max rax] 26) := ⟨_, rfl⟩
  have hb1 : Below w.heap.size w w1 := by rw [hw1]; exact (Below.refl _ _).alloc (Nat.le_refl _) _
  have hx1 := heap_alloc_new w (.cells #[.bool qa, .slice oa na ka, .slice pa ma ra, .bool qax, .slice oax nax kax, .slice pax max rax] 26)
  obtain ⟨g1, hg1⟩ : ∃ g, g = w.heap.size := ⟨_, rfl⟩
  rw [← hw1, ← hg1] at hx1
  have lw1 : w.heap.size ≤ g1 := by rw [hg1]; exact HBW.out.size
  have HW1 := Lib.hid hw1; have HG1 := Lib.hid hg1; clear hw1 hg1
  have HB1 := Lib.hid (HBW.out.step hb1)
  have Fa := Lib.hid (Fa.out.below hb1)
  have Fal := Lib.hid (Fal.out.below hb1)
  have Fah := Lib.hid (Fah.out.below hb1)
  have FaV := Lib.hid (FaV.out.below hb1)
  have BX1 := Lib.hid hx1; clear hb1 hx1
  go_enter Tryz.func4, Tryz.ntmps4
  have hs := awake03 w1
  have HS := Lib.hid hs; clear hs
  go_wp2_with (with_reducible first | refine pauseCall ?_ | refine pauseLoop ?_ | refine pauseDraw ?_ | refine pauseBody ?_ | refine pauseRounds ?_)
  try rw [← HW1.out]
  try rw [← HG1.out]
  refine Pause.mk ?_
  (with_reducible refine HS.out.mono ?_); rintro e w2 ⟨rfl, hb2⟩
  clear HS
  have HB2 := Lib.hid (HB1.out.step hb2)
  have Fa := Lib.hid (Fa.out.below hb2)
  have Fal := Lib.hid (Fal.out.below hb2)
  have Fah := Lib.hid (Fah.out.below hb2)
  have FaV := Lib.hid (FaV.out.below hb2)
  have BX1 := Lib.hid (heap_below BX1.out hb2)
  clear hb2
  obtain ⟨x1_0, x1_1, x1_2, x1_3, x1_4, x1_5⟩ := row6 BX1.out
  obtain ⟨w3, hw3⟩ : ∃ w3, w3 = w2.alloc (.cells #[.bool qa, .slice oa na ka, .slice pa ma ra, .bool qax, .slice oax nax kax, .slice pax max rax] 26) := ⟨_, rfl⟩
  have hb3 : Below w2.heap.size w2 w3 := by rw [hw3]; exact (Below.refl _ _).alloc (Nat.le_refl _) _
  have hx3 := heap_alloc_new w2 (.cells #[.bool qa, .slice oa na ka, .slice pa ma ra, .bool qax, .slice oax nax kax, .slice pax max rax] 26)
  obtain ⟨g3, hg3⟩ : ∃ g, g = w2.heap.size := ⟨_, rfl⟩
  rw [← hw3, ← hg3] at hx3
  have lw3 : w.heap.size ≤ g3 := by rw [hg3]; exact HB2.out.size
  have ltBX13 : g1 < g3 := by rw [hg3]; exact below_lt BX1.out
  have HW3 := Lib.hid hw3; have HG3 := Lib.hid hg3; clear hw3 hg3
  have HB3 := Lib.hid (HB2.out.step hb3)
  have Fa := Lib.hid (Fa.out.below hb3)
  have Fal := Lib.hid (Fal.out.below hb3)
  have Fah := Lib.hid (Fah.out.below hb3)
  have FaV := Lib.hid (FaV.out.below hb3)
  have BX1 := Lib.hid (heap_below BX1.out hb3)
  have BX3 := Lib.hid hx3; clear hb3 hx3
  have hs := slarge1s BX3.out Za
  have HS := Lib.hid hs; clear hs
  try rw [HG3.out] at x1_0
  try rw [HG3.out] at x1_1
  try rw [HG3.out] at x1_2
  try rw [HG3.out] at x1_3
  try rw [HG3.out] at x1_4
  try rw [HG3.out] at x1_5
  go_wp2_with (with_reducible first | refine pauseCall ?_ | refine pauseLoop ?_ | refine pauseDraw ?_ | refine pauseBody ?_ | refine pauseRounds ?_)
  try rw [← HW3.out]
  try rw [← HG3.out]
  clear x1_0 x1_1 x1_2 x1_3 x1_4 x1_5
  refine Pause.mk ?_
  (with_reducible refine HS.out.mono ?_); rintro e w4 ⟨rfl, hb4⟩
  clear HS
  have HB4 := Lib.hid (HB3.out.step hb4)
  have Fa := Lib.hid (Fa.out.below hb4)
  have Fal := Lib.hid (Fal.out.below hb4)
  have Fah := Lib.hid (Fah.out.below hb4)
  have FaV := Lib.hid (FaV.out.below hb4)
  have BX1 := Lib.hid (heap_below BX1.out hb4)
  have BX3 := Lib.hid (heap_below BX3.out hb4)
  clear BX3
  clear hb4
  obtain ⟨x2_0, x2_1, x2_2, x2_3, x2_4, x2_5⟩ := row6 BX1.out
  obtain ⟨x3_0, x3_1, x3_2, x3_3, x3_4, x3_5⟩ := row6 BX1.out
  obtain ⟨k4, k5⟩ := rl_smV (p_a) (r_a)
  have hs := smake_any _ (p_a) _ (r_a) w4 Fal.out Fah.out (by omega) (by omega)
  rw [HE.out] at hs
  have HS := Lib.hid hs; clear hs
  go_wp2_with (with_reducible first | refine pauseCall ?_ | refine pauseLoop ?_ | refine pauseDraw ?_ | refine pauseBody ?_ | refine pauseRounds ?_)
  clear x2_0 x2_1 x2_2 x2_3 x2_4 x2_5 x3_0 x3_1 x3_2 x3_3 x3_4 x3_5
  refine Pause.mk ?_
  (with_reducible refine HS.out.mono ?_); rintro e w5 ⟨v5, rfl, hb5, hn5⟩
  clear HS
  have HB5 := Lib.hid (HB4.out.step hb5)
  have Fa := Lib.hid (Fa.out.below hb5)
  have Fal := Lib.hid (Fal.out.below hb5)
  have Fah := Lib.hid (Fah.out.below hb5)
  have FaV := Lib.hid (FaV.out.below hb5)
  have BX1 := Lib.hid (heap_below BX1.out hb5)
  have N5 := Lib.hid hn5; clear hn5
  obtain ⟨s6, o6, n6, c6, a6, m6, d6, s6x, o6x, n6x, c6x, a6x, m6x, d6x, rfl⟩ := N5.out.shape
  have N5l := Lib.hid (isSp_ends N5.out).1; have N5h := Lib.hid (isSp_ends N5.out).2
  clear hb5
  obtain ⟨w6, hw6⟩ : ∃ w6, w6 = w5.alloc (.cells #[.bool s6, .slice o6 n6 c6, .slice a6 m6 d6, .bool s6x, .slice o6x n6x c6x, .slice a6x m6x d6x] 26) := ⟨_, rfl⟩
  have hb6 : Below w5.heap.size w5 w6 := by rw [hw6]; exact (Below.refl _ _).alloc (Nat.le_refl _) _
  have hx6 := heap_alloc_new w5 (.cells #[.bool s6, .slice o6 n6 c6, .slice a6 m6 d6, .bool s6x, .slice o6x n6x c6x, .slice a6x m6x d6x] 26)
  obtain ⟨g6, hg6⟩ : ∃ g, g = w5.heap.size := ⟨_, rfl⟩
  rw [← hw6, ← hg6] at hx6
  have lw6 : w.heap.size ≤ g6 := by rw [hg6]; exact HB5.out.size
  have ltBX16 : g1 < g6 := by rw [hg6]; exact below_lt BX1.out
  have HW6 := Lib.hid hw6; have HG6 := Lib.hid hg6; clear hw6 hg6
  have HB6 := Lib.hid (HB5.out.step hb6)
  have Fa := Lib.hid (Fa.out.below hb6)
  have Fal := Lib.hid (Fal.out.below hb6)
  have Fah := Lib.hid (Fah.out.below hb6)
  have FaV := Lib.hid (FaV.out.below hb6)
  have N5 := Lib.hid (N5.out.below hb6)
  have N5l := Lib.hid (N5l.out.below hb6)
  have N5h := Lib.hid (N5h.out.below hb6)
  have BX1 := Lib.hid (heap_below BX1.out hb6)
  have BX6 := Lib.hid hx6; clear hb6 hx6
  obtain ⟨x7_0, x7_1, x7_2, x7_3, x7_4, x7_5⟩ := row6 BX1.out
  obtain ⟨x8_0, x8_1, x8_2, x8_3, x8_4, x8_5⟩ := row6 BX1.out
  obtain ⟨k9, k10⟩ := rl_smV (p_a) (r_a)
  have hs := rsmake_any _ (p_a) _ (r_a) w6 Fal.out Fah.out (by omega) (by omega)
  rw [HE.out] at hs
  have HS := Lib.hid hs; clear hs
  try rw [HW6.out] at x7_0
  try rw [HG6.out] at x7_0
  try rw [HW6.out] at x7_1
  try rw [HG6.out] at x7_1
  try rw [HW6.out] at x7_2
  try rw [HG6.out] at x7_2
  try rw [HW6.out] at x7_3
  try rw [HG6.out] at x7_3
  try rw [HW6.out] at x7_4
  try rw [HG6.out] at x7_4
  try rw [HW6.out] at x7_5
  try rw [HG6.out] at x7_5
  try rw [HW6.out] at x8_0
  try rw [HG6.out] at x8_0
  try rw [HW6.out] at x8_1
  try rw [HG6.out] at x8_1
  try rw [HW6.out] at x8_2
  try rw [HG6.out] at x8_2
  try rw [HW6.out] at x8_3
  try rw [HG6.out] at x8_3
  try rw [HW6.out] at x8_4
  try rw [HG6.out] at x8_4
  try rw [HW6.out] at x8_5
  try rw [HG6.out] at x8_5
  go_wp2_with (with_reducible first | refine pauseCall ?_ | refine pauseLoop ?_ | refine pauseDraw ?_ | refine pauseBody ?_ | refine pauseRounds ?_)
  try rw [← HW6.out]
  try rw [← HG6.out]
  clear x7_0 x7_1 x7_2 x7_3 x7_4 x7_5 x8_0 x8_1 x8_2 x8_3 x8_4 x8_5
  refine Pause.mk ?_
  (with_reducible refine HS.out.mono ?_); rintro e w7 ⟨v7, rfl, hb7, hn7⟩
  clear HS
  have HB7 := Lib.hid (HB6.out.step hb7)
  have Fa := Lib.hid (Fa.out.below hb7)
  have Fal := Lib.hid (Fal.out.below hb7)
  have Fah := Lib.hid (Fah.out.below hb7)
  have FaV := Lib.hid (FaV.out.below hb7)
  have N5 := Lib.hid (N5.out.below hb7)
  have N5l := Lib.hid (N5l.out.below hb7)
  have N5h := Lib.hid (N5h.out.below hb7)
  have BX1 := Lib.hid (heap_below BX1.out hb7)
  have BX6 := Lib.hid (heap_below BX6.out hb7)
  have N7 := Lib.hid hn7; clear hn7
  obtain ⟨s11, o11, n11, c11, a11, m11, d11, s11x, o11x, n11x, c11x, a11x, m11x, d11x, rfl⟩ := N7.out.shape
  have N7l := Lib.hid (isSp_ends N7.out).1; have N7h := Lib.hid (isSp_ends N7.out).2
  clear hb7
  obtain ⟨w8, hw8⟩ : ∃ w8, w8 = w7.alloc (.cells #[.bool s11, .slice o11 n11 c11, .slice a11 m11 d11, .bool s11x, .slice o11x n11x c11x, .slice a11x m11x d11x] 26) := ⟨_, rfl⟩
  have hb8 : Below w7.heap.size w7 w8 := by rw [hw8]; exact (Below.refl _ _).alloc (Nat.le_refl _) _
  have hx8 := heap_alloc_new w7 (.cells #[.bool s11, .slice o11 n11 c11, .slice a11 m11 d11, .bool s11x, .slice o11x n11x c11x, .slice a11x m11x d11x] 26)
  obtain ⟨g8, hg8⟩ : ∃ g, g = w7.heap.size := ⟨_, rfl⟩
  rw [← hw8, ← hg8] at hx8
  have lw8 : w.heap.size ≤ g8 := by rw [hg8]; exact HB7.out.size
  have ltBX18 : g1 < g8 := by rw [hg8]; exact below_lt BX1.out
  have ltBX68 : g6 < g8 := by rw [hg8]; exact below_lt BX6.out
  have HW8 := Lib.hid hw8; have HG8 := Lib.hid hg8; clear hw8 hg8
  have HB8 := Lib.hid (HB7.out.step hb8)
  have Fa := Lib.hid (Fa.out.below hb8)
  have Fal := Lib.hid (Fal.out.below hb8)
  have Fah := Lib.hid (Fah.out.below hb8)
  have FaV := Lib.hid (FaV.out.below hb8)
  have N5 := Lib.hid (N5.out.below hb8)
  have N5l := Lib.hid (N5l.out.below hb8)
  have N5h := Lib.hid (N5h.out.below hb8)
  have N7 := Lib.hid (N7.out.below hb8)
  have N7l := Lib.hid (N7l.out.below hb8)
  have N7h := Lib.hid (N7h.out.below hb8)
  have BX1 := Lib.hid (heap_below BX1.out hb8)
  have BX6 := Lib.hid (heap_below BX6.out hb8)
  have BX8 := Lib.hid hx8; clear hb8 hx8
  go_wp2_with (with_reducible first | refine pauseCall ?_ | refine pauseLoop ?_ | refine pauseDraw ?_ | refine pauseBody ?_ | refine pauseRounds ?_)
  try rw [← HW8.out]
  try rw [← HG8.out]
  refine Pause.mk ?_
  obtain ⟨k12, k13⟩ : rl ((p_a, p_a) : Rat × Rat).1 = rl (p_a) ∧ rl ((p_a, p_a) : Rat × Rat).2 = rl (p_a) := ⟨rfl, rfl⟩
  obtain ⟨k14, k15⟩ : rl ((p_a, p_a) : Rat × Rat).1 = rl (p_a) ∧ rl ((p_a, p_a) : Rat × Rat).2 = rl (p_a) := ⟨rfl, rfl⟩
  have k16 := rl_sub (S_a).2 (S_a).1
  have k17 := rl_sub (S_a).2 (S_a).1
  refine wp_region_facts (A := ?aa18) (w := w8) 36 [] (by kernel_rfl) (Fl [KEq (.agg #[.bool qa, .slice oa na ka, .slice pa ma ra, .bool qax, .slice oax nax kax, .slice pax max rax]), KEq (.bool vb), KEq (.agg #[.bool qa, .slice oa na ka, .slice pa ma ra, .bool qax, .slice oax nax kax, .slice pax max rax]), KEq (.bool vb), KEq (.bool true), KEq (.bool true), KEq (.agg #[.bool s6, .slice o6 n6 c6, .slice a6 m6 d6, .bool s6x, .slice o6x n6x c6x, .slice a6x m6x d6x]), KEq (.agg #[.bool s11, .slice o11 n11 c11, .slice a11 m11 d11, .bool s11x, .slice o11x n11x c11x, .slice a11x m11x d11x]), KEq (.bool true), KEq (.bool true), KEq (.bool true), KEq ((errV E)), KEq (.int .i64 (E : Nat)), KEq (.int .i64 (E : Nat)), KEq (.bool true), KEq (.bool true), KEq (.bool true), KEq (.pointer (some ⟨g1, 0, none⟩)), KEq (.agg #[.bool qa, .slice oa na ka, .slice pa ma ra]), KSp ((p_a, p_a)), KEq (.pointer (some ⟨g1, 0, none⟩)), KEq (.agg #[.bool qa, .slice oa na ka, .slice pa ma ra]), KSp ((p_a, p_a)), KEq (.bool true), KEq (.bool true), KEq (.bool true), KEq (.agg #[.bool qa, .slice oa na ka, .slice pa ma ra, .bool qax, .slice oax nax kax, .slice pax max rax]), KIs (((S_a).2 - (S_a).1)), KEq (.agg #[.bool qa, .slice oa na ka, .slice pa ma ra, .bool qax, .slice oax nax kax, .slice pax max rax]), KIs (((S_a).2 - (S_a).1)), KEq (.bool true), KEq (.bool true), KEq (.bool true), KEq (.agg #[.bool qa, .slice oa na ka, .slice pa ma ra, .bool qax, .slice oax nax kax, .slice pax max rax]), KEq (.string ⟨(stx (S_a)).toArray⟩), KEq (.agg #[.bool qa, .slice oa na ka, .slice pa ma ra, .bool qax, .slice oax nax kax, .slice pax max rax])]) (fun i => false) (by kernel_rfl) ?hq18 (monoL (monoC (kEq _) (monoC (kEq _) (monoC (kEq _) (monoC (kEq _) (monoC (kEq _) (monoC (kEq _) (monoC (kEq _) (monoC (kEq _) (monoC (kEq _) (monoC (kEq _) (monoC (kEq _) (monoC (kEq _) (monoC (kEq _) (monoC (kEq _) (monoC (kEq _) (monoC (kEq _) (monoC (kEq _) (monoC (kEq _) (monoC (kEq _) (monoC (kSp _) (monoC (kEq _) (monoC (kEq _) (monoC (kSp _) (monoC (kEq _) (monoC (kEq _) (monoC (kEq _) (monoC (kEq _) (monoC (kIs _) (monoC (kEq _) (monoC (kIs _) (monoC (kEq _) (monoC (kEq _) (monoC (kEq _) (monoC (kEq _) (monoC (kEq _) (monoC (kEq _) monoN))))))))))))))))))))))))))))))))))))) ?ha18 ?st18 ?tl18
  case hq18 =>
    intro c a d v w h
    first | (simp only [Exit.then] at h ⊢; exact h) | (simp only [Exit.inBlock, Exit.then] at h ⊢; exact h) | exact h
  case ha18 =>
    intro vals
    simp only [putsTo, dstOf, if_true, Act.put, List.setIfInBounds_toArray, List.set_cons_zero, List.set_cons_succ, List.getElem?_toArray, List.getElem?_cons_zero, List.getElem?_cons_succ, Option.bind_some]
    exact rfl
  case st18 =>
    simp only [List.take_succ_cons, List.take_zero]
    refine stepsOK_cons rfl rfl ?_ (stepsOK_cons rfl rfl ?_ (stepsOK_cons rfl rfl ?_ (stepsOK_cons rfl rfl ?_ (stepsOK_cons rfl rfl ?_ (stepsOK_cons rfl rfl ?_ (stepsOK_guard rfl ?_ (stepsOK_guard rfl ?_ (stepsOK_guard rfl ?_ (stepsOK_cons rfl rfl ?_ (stepsOK_cons rfl rfl ?_ (stepsOK_guard rfl ?_ (stepsOK_guard rfl ?_ (stepsOK_guard rfl ?_ (stepsOK_guard rfl ?_ (stepsOK_cons rfl rfl ?_ (stepsOK_cons rfl rfl ?_ (stepsOK_guard rfl ?_ (stepsOK_guard rfl ?_ (stepsOK_guard rfl ?_ (stepsOK_guard rfl ?_ (stepsOK_guard rfl ?_ (stepsOK_guard rfl ?_ (stepsOK_guard rfl ?_ (stepsOK_cons rfl rfl ?_ (stepsOK_cons rfl rfl ?_ (stepsOK_guard rfl ?_ (stepsOK_guard rfl ?_ (stepsOK_guard rfl ?_ (stepsOK_guard rfl ?_ (stepsOK_guard rfl ?_ (stepsOK_cons rfl rfl ?_ (stepsOK_cons rfl rfl ?_ (stepsOK_guard rfl ?_ (stepsOK_guard rfl ?_ (stepsOK_guard rfl ?_ (stepsOK_nil))))))))))))))))))))))))))))))))))))
    · intro vals w1 hb hd
      obtain ⟨e0, e1, e2, e3, e4, e5⟩ := row6 (heap_below BX1.out hb)
      refine stepOK_value (v := .agg #[.bool qa, .slice oa na ka, .slice pa ma ra, .bool qax, .slice oax nax kax, .slice pax max rax]) (w' := w1) (by go_simp) (leaves_mk (Below.refl _ _) rfl (fun h => by cases h))
    · intro vals w1 hb hd
      have d0 : KEq (.agg #[.bool qa, .slice oa na ka, .slice pa ma ra, .bool qax, .slice oax nax kax, .slice pax max rax]) (vals 0) w1 := hd 0 (by kernel_rfl)
      have z0 : vals 0 = _ := d0
      have hs := svalid_any _ sa aa ba ta ca da w1 (FaV.out.below hb) (by omega) (by omega) (by omega) (by omega)
      rw [HVB.out] at hs
      have HS := Lib.hid hs; clear hs
      rw [z0]; clear z0
      clear d0 hd
      refine stepOK_call (by go_simp; first | done | exact ⟨⟨rfl, rfl⟩, rfl⟩) ?_
      (with_reducible refine HS.out.mono ?_); rintro e w2 ⟨rfl, hb2⟩
      exact ⟨_, rfl, leaves_mk hb2 rfl (fun h => by cases h)⟩
    · intro vals w1 hb hd
      obtain ⟨e0, e1, e2, e3, e4, e5⟩ := row6 (heap_below BX1.out hb)
      refine stepOK_value (v := .agg #[.bool qa, .slice oa na ka, .slice pa ma ra, .bool qax, .slice oax nax kax, .slice pax max rax]) (w' := w1) (by go_simp) (leaves_mk (Below.refl _ _) rfl (fun h => by cases h))
    · intro vals w1 hb hd
      have d2 : KEq (.agg #[.bool qa, .slice oa na ka, .slice pa ma ra, .bool qax, .slice oax nax kax, .slice pax max rax]) (vals 2) w1 := hd 2 (by kernel_rfl)
      have z2 : vals 2 = _ := d2
      have hs := rsvalid_any _ sa aa ba ta ca da w1 (FaV.out.below hb) (by omega) (by omega) (by omega) (by omega)
      rw [HVB.out] at hs
      have HS := Lib.hid hs; clear hs
      rw [z2]; clear z2
      clear d2 hd
      refine stepOK_call (by go_simp; first | done | exact ⟨⟨rfl, rfl⟩, rfl⟩) ?_
      (with_reducible refine HS.out.mono ?_); rintro e w2 ⟨rfl, hb2⟩
      exact ⟨_, rfl, leaves_mk hb2 rfl (fun h => by cases h)⟩
    · intro vals w1 hb hd
      have d1 : KEq (.bool vb) (vals 1) w1 := hd 1 (by kernel_rfl)
      have d3 : KEq (.bool vb) (vals 3) w1 := hd 3 (by kernel_rfl)
      rw [show vals 1 = _ from d1]
      rw [show vals 3 = _ from d3]
      refine stepOK_value (v := (.bool true)) (w' := w1) (by go_simp) (leaves_mk (Below.refl _ _) rfl (fun h => by cases h))
    · intro vals w1 hb hd
      have d4 : KEq (.bool true) (vals 4) w1 := hd 4 (by kernel_rfl)
      rw [show vals 4 = _ from d4]
      refine stepOK_value (v := (.bool true)) (w' := w1) (by go_simp) (leaves_mk (Below.refl _ _) rfl (fun h => by cases h))
    · intro vals w1 hb hd
      have dg : KEq (.bool true) (vals 5) w1 := hd 5 (by kernel_rfl)
      refine stepG_yes (wanted_of rfl rfl (congrArg some dg) rfl) ?_
      clear dg
      obtain ⟨e0, e1, e2, e3, e4, e5⟩ := row6 (heap_below BX6.out hb)
      refine stepOK_value (v := .agg #[.bool s6, .slice o6 n6 c6, .slice a6 m6 d6, .bool s6x, .slice o6x n6x c6x, .slice a6x m6x d6x]) (w' := w1) (by go_simp) (leaves_mk (Below.refl _ _) rfl (fun h => by cases h))
    · intro vals w1 hb hd
      have dg : KEq (.bool true) (vals 5) w1 := hd 5 (by kernel_rfl)
      refine stepG_yes (wanted_of rfl rfl (congrArg some dg) rfl) ?_
      clear dg
      obtain ⟨e0, e1, e2, e3, e4, e5⟩ := row6 (heap_below BX8.out hb)
      refine stepOK_value (v := .agg #[.bool s11, .slice o11 n11 c11, .slice a11 m11 d11, .bool s11x, .slice o11x n11x c11x, .slice a11x m11x d11x]) (w' := w1) (by go_simp) (leaves_mk (Below.refl _ _) rfl (fun h => by cases h))
    · intro vals w1 hb hd
      have dg : KEq (.bool true) (vals 5) w1 := hd 5 (by kernel_rfl)
      refine stepG_yes (wanted_of rfl rfl (congrArg some dg) rfl) ?_
      clear dg
      have d6 : KEq (.agg #[.bool s6, .slice o6 n6 c6, .slice a6 m6 d6, .bool s6x, .slice o6x n6x c6x, .slice a6x m6x d6x]) (vals 6) w1 := hd 6 (by kernel_rfl)
      have d7 : KEq (.agg #[.bool s11, .slice o11 n11 c11, .slice a11 m11 d11, .bool s11x, .slice o11x n11x c11x, .slice a11x m11x d11x]) (vals 7) w1 := hd 7 (by kernel_rfl)
      have z6 : vals 6 = _ := d6
      have z7 : vals 7 = _ := d7
      have hs := spsame_any _ (smV (p_a) (r_a)) _ w1 (N5.out.below hb) (N7.out.below hb) (by omega) (by omega)
      have HS := Lib.hid hs; clear hs
      rw [z6]; clear z6
      rw [z7]; clear z7
      clear d6 d7 hd
      refine stepOK_call (by go_simp; first | done | exact ⟨⟨rfl, rfl⟩, rfl⟩) ?_
      (with_reducible refine HS.out.mono ?_); rintro e w2 ⟨rfl, hb2⟩
      exact ⟨_, rfl, leaves_mk hb2 rfl (fun h => by cases h)⟩
    · intro vals w1 hb hd
      have d5 : KEq (.bool true) (vals 5) w1 := hd 5 (by kernel_rfl)
      have d8 : KEq (.bool true) (vals 8) w1 := hd 8 (by kernel_rfl)
      rw [show vals 5 = _ from d5]
      rw [show vals 8 = _ from d8]
      refine stepOK_value (v := (.bool true)) (w' := w1) (by go_simp) (leaves_mk (Below.refl _ _) rfl (fun h => by cases h))
    · intro vals w1 hb hd
      have d9 : KEq (.bool true) (vals 9) w1 := hd 9 (by kernel_rfl)
      rw [show vals 9 = _ from d9]
      refine stepOK_value (v := (.bool true)) (w' := w1) (by go_simp) (leaves_mk (Below.refl _ _) rfl (fun h => by cases h))
    · intro vals w1 hb hd
      have dg : KEq (.bool true) (vals 10) w1 := hd 10 (by kernel_rfl)
      refine stepG_yes (wanted_of rfl rfl (congrArg some dg) rfl) ?_
      clear dg
      refine stepOK_value (v := ((errV E))) (w' := w1) (by go_simp) (leaves_mk (Below.refl _ _) rfl (fun h => by cases h))
    · intro vals w1 hb hd
      have dg : KEq (.bool true) (vals 10) w1 := hd 10 (by kernel_rfl)
      refine stepG_yes (wanted_of rfl rfl (congrArg some dg) rfl) ?_
      clear dg
      have d11 : KEq ((errV E)) (vals 11) w1 := hd 11 (by kernel_rfl)
      have z11 : vals 11 = _ := d11
      have hs := num_any E w1 smallE
      have HS := Lib.hid hs; clear hs
      rw [z11]; clear z11
      clear d11 hd
      refine stepOK_call (by go_simp; first | done | exact ⟨⟨rfl, rfl⟩, rfl⟩) ?_
      (with_reducible refine HS.out.mono ?_); rintro e w2 ⟨rfl, rfl⟩
      exact ⟨_, rfl, leaves_mk (Below.refl _ _) rfl (fun h => by cases h)⟩
    · intro vals w1 hb hd
      have dg : KEq (.bool true) (vals 10) w1 := hd 10 (by kernel_rfl)
      refine stepG_yes (wanted_of rfl rfl (congrArg some dg) rfl) ?_
      clear dg
      refine stepOK_value (v := (.int .i64 (E : Nat))) (w' := w1) (by go_simp) (leaves_mk (Below.refl _ _) rfl (fun h => by cases h))
    · intro vals w1 hb hd
      have dg : KEq (.bool true) (vals 10) w1 := hd 10 (by kernel_rfl)
      refine stepG_yes (wanted_of rfl rfl (congrArg some dg) rfl) ?_
      clear dg
      have d12 : KEq (.int .i64 (E : Nat)) (vals 12) w1 := hd 12 (by kernel_rfl)
      have d13 : KEq (.int .i64 (E : Nat)) (vals 13) w1 := hd 13 (by kernel_rfl)
      rw [show vals 12 = _ from d12]
      rw [show vals 13 = _ from d13]
      refine stepOK_value (v := (.bool true)) (w' := w1) (by go_simp) (leaves_mk (Below.refl _ _) rfl (fun h => by cases h))
    · intro vals w1 hb hd
      have d10 : KEq (.bool true) (vals 10) w1 := hd 10 (by kernel_rfl)
      have d14 : KEq (.bool true) (vals 14) w1 := hd 14 (by kernel_rfl)
      rw [show vals 10 = _ from d10]
      rw [show vals 14 = _ from d14]
      refine stepOK_value (v := (.bool true)) (w' := w1) (by go_simp) (leaves_mk (Below.refl _ _) rfl (fun h => by cases h))
    · intro vals w1 hb hd
      have d15 : KEq (.bool true) (vals 15) w1 := hd 15 (by kernel_rfl)
      rw [show vals 15 = _ from d15]
      refine stepOK_value (v := (.bool true)) (w' := w1) (by go_simp) (leaves_mk (Below.refl _ _) rfl (fun h => by cases h))
    · intro vals w1 hb hd
      have dg : KEq (.bool true) (vals 16) w1 := hd 16 (by kernel_rfl)
      refine stepG_yes (wanted_of rfl rfl (congrArg some dg) rfl) ?_
      clear dg
      refine stepOK_value (v := (.pointer (some ⟨g1, 0, none⟩))) (w' := w1) (by go_simp) (leaves_mk (Below.refl _ _) rfl (fun h => by cases h))
    · intro vals w1 hb hd
      have dg : KEq (.bool true) (vals 16) w1 := hd 16 (by kernel_rfl)
      refine stepG_yes (wanted_of rfl rfl (congrArg some dg) rfl) ?_
      clear dg
      have d17 : KEq (.pointer (some ⟨g1, 0, none⟩)) (vals 17) w1 := hd 17 (by kernel_rfl)
      rw [show vals 17 = _ from d17]
      obtain ⟨e0, e1, e2, e3, e4, e5⟩ := row6 (heap_below BX1.out hb)
      refine stepOK_value (v := .agg #[.bool qa, .slice oa na ka, .slice pa ma ra]) (w' := w1) (by go_simp) (leaves_mk (Below.refl _ _) rfl (fun h => by cases h))
    · intro vals w1 hb hd
      have dg : KEq (.bool true) (vals 16) w1 := hd 16 (by kernel_rfl)
      refine stepG_yes (wanted_of rfl rfl (congrArg some dg) rfl) ?_
      clear dg
      have d18 : KEq (.agg #[.bool qa, .slice oa na ka, .slice pa ma ra]) (vals 18) w1 := hd 18 (by kernel_rfl)
      have z18 : vals 18 = _ := d18
      have hs := point_any _ (p_a) w1 (Fal.out.below hb) (by omega)
      have HS := Lib.hid hs; clear hs
      rw [z18]; clear z18
      clear d18 hd
      refine stepOK_call (by go_simp; first | done | exact ⟨⟨rfl, rfl⟩, rfl⟩) ?_
      (with_reducible refine HS.out.mono ?_); rintro e w2 ⟨v, rfl, hb2, hn⟩
      exact ⟨v, rfl, leaves_mk hb2 hn (fun h => by cases h)⟩
    · intro vals w1 hb hd
      have dg : KEq (.bool true) (vals 16) w1 := hd 16 (by kernel_rfl)
      refine stepG_yes (wanted_of rfl rfl (congrArg some dg) rfl) ?_
      clear dg
      refine stepOK_value (v := (.pointer (some ⟨g1, 0, none⟩))) (w' := w1) (by go_simp) (leaves_mk (Below.refl _ _) rfl (fun h => by cases h))
    · intro vals w1 hb hd
      have dg : KEq (.bool true) (vals 16) w1 := hd 16 (by kernel_rfl)
      refine stepG_yes (wanted_of rfl rfl (congrArg some dg) rfl) ?_
      clear dg
      have d20 : KEq (.pointer (some ⟨g1, 0, none⟩)) (vals 20) w1 := hd 20 (by kernel_rfl)
      rw [show vals 20 = _ from d20]
      obtain ⟨e0, e1, e2, e3, e4, e5⟩ := row6 (heap_below BX1.out hb)
      refine stepOK_value (v := .agg #[.bool qa, .slice oa na ka, .slice pa ma ra]) (w' := w1) (by go_simp) (leaves_mk (Below.refl _ _) rfl (fun h => by cases h))
    · intro vals w1 hb hd
      have dg : KEq (.bool true) (vals 16) w1 := hd 16 (by kernel_rfl)
      refine stepG_yes (wanted_of rfl rfl (congrArg some dg) rfl) ?_
      clear dg
      have d21 : KEq (.agg #[.bool qa, .slice oa na ka, .slice pa ma ra]) (vals 21) w1 := hd 21 (by kernel_rfl)
      have z21 : vals 21 = _ := d21
      have hs := rpoint_any _ (p_a) w1 (Fal.out.below hb) (by omega)
      have HS := Lib.hid hs; clear hs
      rw [z21]; clear z21
      clear d21 hd
      refine stepOK_call (by go_simp; first | done | exact ⟨⟨rfl, rfl⟩, rfl⟩) ?_
      (with_reducible refine HS.out.mono ?_); rintro e w2 ⟨v, rfl, hb2, hn⟩
      exact ⟨v, rfl, leaves_mk hb2 hn (fun h => by cases h)⟩
    · intro vals w1 hb hd
      have dg : KEq (.bool true) (vals 16) w1 := hd 16 (by kernel_rfl)
      refine stepG_yes (wanted_of rfl rfl (congrArg some dg) rfl) ?_
      clear dg
      have d19 : KSp ((p_a, p_a)) (vals 19) w1 := hd 19 (by kernel_rfl)
      have R19 : Hid (IsSp w1 (vals 19) ((p_a, p_a))) := Lib.hid d19
      have d22 : KSp ((p_a, p_a)) (vals 22) w1 := hd 22 (by kernel_rfl)
      have R22 : Hid (IsSp w1 (vals 22) ((p_a, p_a))) := Lib.hid d22
      have hs := spsame_any _ ((p_a, p_a)) _ w1 R19.out R22.out (by omega) (by omega)
      have HS := Lib.hid hs; clear hs
      clear d19 d22 hd
      refine stepOK_call (by go_simp; first | done | exact ⟨⟨rfl, rfl⟩, rfl⟩) ?_
      (with_reducible refine HS.out.mono ?_); rintro e w2 ⟨rfl, hb2⟩
      exact ⟨_, rfl, leaves_mk hb2 rfl (fun h => by cases h)⟩
    · intro vals w1 hb hd
      have d16 : KEq (.bool true) (vals 16) w1 := hd 16 (by kernel_rfl)
      have d23 : KEq (.bool true) (vals 23) w1 := hd 23 (by kernel_rfl)
      rw [show vals 16 = _ from d16]
      rw [show vals 23 = _ from d23]
      refine stepOK_value (v := (.bool true)) (w' := w1) (by go_simp) (leaves_mk (Below.refl _ _) rfl (fun h => by cases h))
    · intro vals w1 hb hd
      have d24 : KEq (.bool true) (vals 24) w1 := hd 24 (by kernel_rfl)
      rw [show vals 24 = _ from d24]
      refine stepOK_value (v := (.bool true)) (w' := w1) (by go_simp) (leaves_mk (Below.refl _ _) rfl (fun h => by cases h))
    · intro vals w1 hb hd
      have dg : KEq (.bool true) (vals 25) w1 := hd 25 (by kernel_rfl)
      refine stepG_yes (wanted_of rfl rfl (congrArg some dg) rfl) ?_
      clear dg
      obtain ⟨e0, e1, e2, e3, e4, e5⟩ := row6 (heap_below BX1.out hb)
      refine stepOK_value (v := .agg #[.bool qa, .slice oa na ka, .slice pa ma ra, .bool qax, .slice oax nax kax, .slice pax max rax]) (w' := w1) (by go_simp) (leaves_mk (Below.refl _ _) rfl (fun h => by cases h))
    · intro vals w1 hb hd
      have dg : KEq (.bool true) (vals 25) w1 := hd 25 (by kernel_rfl)
      refine stepG_yes (wanted_of rfl rfl (congrArg some dg) rfl) ?_
      clear dg
      have d26 : KEq (.agg #[.bool qa, .slice oa na ka, .slice pa ma ra, .bool qax, .slice oax nax kax, .slice pax max rax]) (vals 26) w1 := hd 26 (by kernel_rfl)
      have z26 : vals 26 = _ := d26
      have hs := swidth_any _ (S_a) w1 (Fa.out.below hb) (by omega) (by omega)
      have HS := Lib.hid hs; clear hs
      rw [z26]; clear z26
      clear d26 hd
      refine stepOK_call (by go_simp; first | done | exact ⟨⟨rfl, rfl⟩, rfl⟩) ?_
      (with_reducible refine HS.out.mono ?_); rintro e w2 ⟨v, rfl, hb2, hn⟩
      exact ⟨v, rfl, leaves_mk hb2 hn (fun h => by cases h)⟩
    · intro vals w1 hb hd
      have dg : KEq (.bool true) (vals 25) w1 := hd 25 (by kernel_rfl)
      refine stepG_yes (wanted_of rfl rfl (congrArg some dg) rfl) ?_
      clear dg
      obtain ⟨e0, e1, e2, e3, e4, e5⟩ := row6 (heap_below BX1.out hb)
      refine stepOK_value (v := .agg #[.bool qa, .slice oa na ka, .slice pa ma ra, .bool qax, .slice oax nax kax, .slice pax max rax]) (w' := w1) (by go_simp) (leaves_mk (Below.refl _ _) rfl (fun h => by cases h))
    · intro vals w1 hb hd
      have dg : KEq (.bool true) (vals 25) w1 := hd 25 (by kernel_rfl)
      refine stepG_yes (wanted_of rfl rfl (congrArg some dg) rfl) ?_
      clear dg
      have d28 : KEq (.agg #[.bool qa, .slice oa na ka, .slice pa ma ra, .bool qax, .slice oax nax kax, .slice pax max rax]) (vals 28) w1 := hd 28 (by kernel_rfl)
      have z28 : vals 28 = _ := d28
      have hs := rswidth_any _ (S_a) w1 (Fa.out.below hb) (by omega) (by omega)
      have HS := Lib.hid hs; clear hs
      rw [z28]; clear z28
      clear d28 hd
      refine stepOK_call (by go_simp; first | done | exact ⟨⟨rfl, rfl⟩, rfl⟩) ?_
      (with_reducible refine HS.out.mono ?_); rintro e w2 ⟨v, rfl, hb2, hn⟩
      exact ⟨v, rfl, leaves_mk hb2 hn (fun h => by cases h)⟩
    · intro vals w1 hb hd
      have dg : KEq (.bool true) (vals 25) w1 := hd 25 (by kernel_rfl)
      refine stepG_yes (wanted_of rfl rfl (congrArg some dg) rfl) ?_
      clear dg
      have d27 : KIs (((S_a).2 - (S_a).1)) (vals 27) w1 := hd 27 (by kernel_rfl)
      have R27 : Hid (IsR w1 (vals 27) (((S_a).2 - (S_a).1))) := Lib.hid d27
      have d29 : KIs (((S_a).2 - (S_a).1)) (vals 29) w1 := hd 29 (by kernel_rfl)
      have R29 : Hid (IsR w1 (vals 29) (((S_a).2 - (S_a).1))) := Lib.hid d29
      have hs := rat_same _ _ (((S_a).2 - (S_a).1)) w1 R27.out R29.out (by omega)
      have HS := Lib.hid hs; clear hs
      clear d27 d29 hd
      refine stepOK_call (by go_simp; first | done | exact ⟨⟨rfl, rfl⟩, rfl⟩) ?_
      (with_reducible refine HS.out.mono ?_); rintro e w2 ⟨rfl, hb2⟩
      exact ⟨_, rfl, leaves_mk hb2 rfl (fun h => by cases h)⟩
    · intro vals w1 hb hd
      have d25 : KEq (.bool true) (vals 25) w1 := hd 25 (by kernel_rfl)
      have d30 : KEq (.bool true) (vals 30) w1 := hd 30 (by kernel_rfl)
      rw [show vals 25 = _ from d25]
      rw [show vals 30 = _ from d30]
      refine stepOK_value (v := (.bool true)) (w' := w1) (by go_simp) (leaves_mk (Below.refl _ _) rfl (fun h => by cases h))
    · intro vals w1 hb hd
      have d31 : KEq (.bool true) (vals 31) w1 := hd 31 (by kernel_rfl)
      rw [show vals 31 = _ from d31]
      refine stepOK_value (v := (.bool true)) (w' := w1) (by go_simp) (leaves_mk (Below.refl _ _) rfl (fun h => by cases h))
    · intro vals w1 hb hd
      have dg : KEq (.bool true) (vals 32) w1 := hd 32 (by kernel_rfl)
      refine stepG_yes (wanted_of rfl rfl (congrArg some dg) rfl) ?_
      clear dg
      obtain ⟨e0, e1, e2, e3, e4, e5⟩ := row6 (heap_below BX1.out hb)
      refine stepOK_value (v := .agg #[.bool qa, .slice oa na ka, .slice pa ma ra, .bool qax, .slice oax nax kax, .slice pax max rax]) (w' := w1) (by go_simp) (leaves_mk (Below.refl _ _) rfl (fun h => by cases h))
    · intro vals w1 hb hd
      have dg : KEq (.bool true) (vals 32) w1 := hd 32 (by kernel_rfl)
      refine stepG_yes (wanted_of rfl rfl (congrArg some dg) rfl) ?_
      clear dg
      have d33 : KEq (.agg #[.bool qa, .slice oa na ka, .slice pa ma ra, .bool qax, .slice oax nax kax, .slice pax max rax]) (vals 33) w1 := hd 33 (by kernel_rfl)
      have z33 : vals 33 = _ := d33
      have hs := stext_any _ (S_a) w1 (Fa.out.below hb) (by omega) (by omega)
      have HS := Lib.hid hs; clear hs
      rw [z33]; clear z33
      clear d33 hd
      refine stepOK_call (by go_simp; first | done | exact ⟨⟨rfl, rfl⟩, rfl⟩) ?_
      (with_reducible refine HS.out.mono ?_); rintro e w2 ⟨rfl, hb2⟩
      exact ⟨_, rfl, leaves_mk hb2 rfl (fun h => by cases h)⟩
    · intro vals w1 hb hd
      have dg : KEq (.bool true) (vals 32) w1 := hd 32 (by kernel_rfl)
      refine stepG_yes (wanted_of rfl rfl (congrArg some dg) rfl) ?_
      clear dg
      obtain ⟨e0, e1, e2, e3, e4, e5⟩ := row6 (heap_below BX1.out hb)
      refine stepOK_value (v := .agg #[.bool qa, .slice oa na ka, .slice pa ma ra, .bool qax, .slice oax nax kax, .slice pax max rax]) (w' := w1) (by go_simp) (leaves_mk (Below.refl _ _) rfl (fun h => by cases h))
  case tl18 =>
    intro vals w9 hb9 hf hdis
    simp only [List.drop_succ_cons, List.drop_zero]
    have z32 : vals 32 = _ := hf 32 (by decide)
    try rw [z32]
    clear z32
    have z34 : vals 34 = _ := hf 34 (by decide)
    try rw [z34]
    clear z34
    have z35 : vals 35 = _ := hf 35 (by decide)
    try rw [z35]
    clear z35
    clear hf hdis
    have HB9 := Lib.hid (HB8.out.step hb9)
    have Fa := Lib.hid (Fa.out.below hb9)
    have Fal := Lib.hid (Fal.out.below hb9)
    have Fah := Lib.hid (Fah.out.below hb9)
    have FaV := Lib.hid (FaV.out.below hb9)
    have N5 := Lib.hid (N5.out.below hb9)
    have N5l := Lib.hid (N5l.out.below hb9)
    have N5h := Lib.hid (N5h.out.below hb9)
    have N7 := Lib.hid (N7.out.below hb9)
    have N7l := Lib.hid (N7l.out.below hb9)
    have N7h := Lib.hid (N7h.out.below hb9)
    have BX1 := Lib.hid (heap_below BX1.out hb9)
    have BX6 := Lib.hid (heap_below BX6.out hb9)
    have BX8 := Lib.hid (heap_below BX8.out hb9)
    clear hb9
    skip
    have hs := rstext_any _ (S_a) w9 Fa.out (by omega) (by omega)
    have HS := Lib.hid hs; clear hs
    go_wp2_with (with_reducible first | refine pauseCall ?_ | refine pauseLoop ?_ | refine pauseDraw ?_ | refine pauseBody ?_ | refine pauseRounds ?_)
    refine Pause.mk ?_
    (with_reducible refine HS.out.mono ?_); rintro e w10 ⟨rfl, hb10⟩
    clear HS
    have HB10 := Lib.hid (HB9.out.step hb10)
    have Fa := Lib.hid (Fa.out.below hb10)
    have Fal := Lib.hid (Fal.out.below hb10)
    have Fah := Lib.hid (Fah.out.below hb10)
    have FaV := Lib.hid (FaV.out.below hb10)
    have N5 := Lib.hid (N5.out.below hb10)
    have N5l := Lib.hid (N5l.out.below hb10)
    have N5h := Lib.hid (N5h.out.below hb10)
    have N7 := Lib.hid (N7.out.below hb10)
    have N7l := Lib.hid (N7l.out.below hb10)
    have N7h := Lib.hid (N7h.out.below hb10)
    have BX1 := Lib.hid (heap_below BX1.out hb10)
    have BX6 := Lib.hid (heap_below BX6.out hb10)
    have BX8 := Lib.hid (heap_below BX8.out hb10)
    clear hb10
    go_wp2_with (with_reducible first | refine pauseCall ?_ | refine pauseLoop ?_ | refine pauseDraw ?_ | refine pauseBody ?_ | refine pauseRounds ?_)
    refine Pause.mk ?_
    go_ret
    exact ⟨by first | rfl | (simp; done), HB10.out⟩
theorem spanmakes_any (va : Value) (sa : Bool) (aa ba : List Nat) (ta : Bool) (ca da : List Nat) (w : World) (ha : SpV w va sa aa ba ta ca da) :
    Calls Tryz.prog 4 #[va] w (RetV w (.bool true)) := by
  by_cases hbig : 6 < aa.length ∨ 6 < ba.length ∨ 6 < ca.length ∨ 6 < da.length
  · exact spanmakes_big va aa.length ba.length ca.length da.length w ha.sz.1 hbig
  exact spanmakes_ok va sa aa ba ta ca da w ha (by omega) (by omega) (by omega) (by omega)
end Go.Proofs.YtaefimegiobkmaaGreatDoor
