/-
  The texts SpanLaw2, Span5m, SpanLawI, Span5c, OpenR, OpenS, Close, OpenB, one behind the other (what the law leans on).
  Conditions: each theorem's own.
-/
import Derived.Lib.SmallJoins
import Derived.Carry
import Derived.ShutString
import Derived.OpenShut
import Derived.Test.YtaefimegiobkmaaDoorMA5
/-
  faultlinelaw03.awake: the document's examples.
  Conditions: each theorem's own.
-/
namespace Go.Proofs.YtaefimegiobkmaaDoor
open Go.RowKit Go.ChangeShapes Go.WideShapes

theorem awk3_1 : stx (sMul (((-1 : Int) : Rat), ((2 : Int) : Rat)) (((-3 : Int) : Rat), ((1 : Int) : Rat))) = [45, 54, 46, 46, 51] := by kernel_rfl
theorem awk3_2 : stx (sdV (((1 : Int) : Rat), ((2 : Int) : Rat)) (((2 : Int) : Rat), ((4 : Int) : Rat))) = [49, 47, 52, 46, 46, 49] := by kernel_rfl
theorem awk3_3 : sdC (((2 : Int) : Rat), ((4 : Int) : Rat)) = 0 := by kernel_rfl
set_option maxRecDepth 100000 in
set_option maxHeartbeats 6400000 in
theorem awake03  (w : World)   :
    Calls Tryd.prog 7 #[] w (RetV w (.bool true)) := by
  have HBW := Lib.hid (Below.refl w.heap.size w)
  have kz0 : rl 0 ≤ 1 := by rw [rl_zero]; exact Nat.le_refl _
  have HD := Lib.hid awk3_3
  go_enter Tryd.func7, Tryd.ntmps7
  have k1 : rl (((-1) : Int) : Rat) ≤ 2 := rl_small (by decide) (by decide)
  have hs := rofq_any (-1) w (by decide) (by decide)
  have HS := Lib.hid hs; clear hs
  go_wp2_with (with_reducible first | refine pauseCall ?_ | refine pauseLoop ?_ | refine pauseDraw ?_ | refine pauseBody ?_ | refine pauseRounds ?_)
  refine Pause.mk ?_
  (with_reducible refine HS.out.mono ?_); rintro e w1 ⟨v1, rfl, hb1, hn1⟩
  clear HS
  have HB1 := Lib.hid (HBW.out.step hb1)
  have N1 := Lib.hid hn1; clear hn1
  obtain ⟨s2, o2, n2, c2, a2, m2, d2, rfl⟩ := N1.out.shape
  clear hb1
  have k3 : rl ((2 : Int) : Rat) ≤ 2 := rl_small (by decide) (by decide)
  have hs := rofq_any 2 w1 (by decide) (by decide)
  have HS := Lib.hid hs; clear hs
  go_wp2_with (with_reducible first | refine pauseCall ?_ | refine pauseLoop ?_ | refine pauseDraw ?_ | refine pauseBody ?_ | refine pauseRounds ?_)
  refine Pause.mk ?_
  (with_reducible refine HS.out.mono ?_); rintro e w2 ⟨v2, rfl, hb2, hn2⟩
  clear HS
  have HB2 := Lib.hid (HB1.out.step hb2)
  have N1 := Lib.hid (N1.out.below hb2)
  have N2 := Lib.hid hn2; clear hn2
  obtain ⟨s4, o4, n4, c4, a4, m4, d4, rfl⟩ := N2.out.shape
  clear hb2
  obtain ⟨w3, hw3⟩ : ∃ w3, w3 = w2.alloc (.cells #[.bool s2, .slice o2 n2 c2, .slice a2 m2 d2, .bool s4, .slice o4 n4 c4, .slice a4 m4 d4] 26) := ⟨_, rfl⟩
  have hb3 : Below w2.heap.size w2 w3 := by rw [hw3]; exact (Below.refl _ _).alloc (Nat.le_refl _) _
  have hx3 := heap_alloc_new w2 (.cells #[.bool s2, .slice o2 n2 c2, .slice a2 m2 d2, .bool s4, .slice o4 n4 c4, .slice a4 m4 d4] 26)
  obtain ⟨g3, hg3⟩ : ∃ g, g = w2.heap.size := ⟨_, rfl⟩
  rw [← hw3, ← hg3] at hx3
  have lw3 : w.heap.size ≤ g3 := by rw [hg3]; exact HB2.out.size
  have HW3 := Lib.hid hw3; have HG3 := Lib.hid hg3; clear hw3 hg3
  have HB3 := Lib.hid (HB2.out.step hb3)
  have N1 := Lib.hid (N1.out.below hb3)
  have N2 := Lib.hid (N2.out.below hb3)
  have BX3 := Lib.hid hx3; clear hb3 hx3
  have k5 : rl (((-3) : Int) : Rat) ≤ 2 := rl_small (by decide) (by decide)
  have hs := rofq_any (-3) w3 (by decide) (by decide)
  have HS := Lib.hid hs; clear hs
  go_wp2_with (with_reducible first | refine pauseCall ?_ | refine pauseLoop ?_ | refine pauseDraw ?_ | refine pauseBody ?_ | refine pauseRounds ?_)
  try rw [← HW3.out]
  try rw [← HG3.out]
  refine Pause.mk ?_
  (with_reducible refine HS.out.mono ?_); rintro e w4 ⟨v4, rfl, hb4, hn4⟩
  clear HS
  have HB4 := Lib.hid (HB3.out.step hb4)
  have N1 := Lib.hid (N1.out.below hb4)
  have N2 := Lib.hid (N2.out.below hb4)
  have BX3 := Lib.hid (heap_below BX3.out hb4)
  have N4 := Lib.hid hn4; clear hn4
  obtain ⟨s6, o6, n6, c6, a6, m6, d6, rfl⟩ := N4.out.shape
  clear hb4
  have k7 : rl ((1 : Int) : Rat) ≤ 2 := rl_small (by decide) (by decide)
  have hs := rofq_any 1 w4 (by decide) (by decide)
  have HS := Lib.hid hs; clear hs
  go_wp2_with (with_reducible first | refine pauseCall ?_ | refine pauseLoop ?_ | refine pauseDraw ?_ | refine pauseBody ?_ | refine pauseRounds ?_)
  refine Pause.mk ?_
  (with_reducible refine HS.out.mono ?_); rintro e w5 ⟨v5, rfl, hb5, hn5⟩
  clear HS
  have HB5 := Lib.hid (HB4.out.step hb5)
  have N1 := Lib.hid (N1.out.below hb5)
  have N2 := Lib.hid (N2.out.below hb5)
  have N4 := Lib.hid (N4.out.below hb5)
  have BX3 := Lib.hid (heap_below BX3.out hb5)
  have N5 := Lib.hid hn5; clear hn5
  obtain ⟨s8, o8, n8, c8, a8, m8, d8, rfl⟩ := N5.out.shape
  clear hb5
  obtain ⟨w6, hw6⟩ : ∃ w6, w6 = w5.alloc (.cells #[.bool s6, .slice o6 n6 c6, .slice a6 m6 d6, .bool s8, .slice o8 n8 c8, .slice a8 m8 d8] 26) := ⟨_, rfl⟩
  have hb6 : Below w5.heap.size w5 w6 := by rw [hw6]; exact (Below.refl _ _).alloc (Nat.le_refl _) _
  have hx6 := heap_alloc_new w5 (.cells #[.bool s6, .slice o6 n6 c6, .slice a6 m6 d6, .bool s8, .slice o8 n8 c8, .slice a8 m8 d8] 26)
  obtain ⟨g6, hg6⟩ : ∃ g, g = w5.heap.size := ⟨_, rfl⟩
  rw [← hw6, ← hg6] at hx6
  have lw6 : w.heap.size ≤ g6 := by rw [hg6]; exact HB5.out.size
  have ltBX36 : g3 < g6 := by rw [hg6]; exact below_lt BX3.out
  have HW6 := Lib.hid hw6; have HG6 := Lib.hid hg6; clear hw6 hg6
  have HB6 := Lib.hid (HB5.out.step hb6)
  have N1 := Lib.hid (N1.out.below hb6)
  have N2 := Lib.hid (N2.out.below hb6)
  have N4 := Lib.hid (N4.out.below hb6)
  have N5 := Lib.hid (N5.out.below hb6)
  have BX3 := Lib.hid (heap_below BX3.out hb6)
  have BX6 := Lib.hid hx6; clear hb6 hx6
  have k9 : rl ((1 : Int) : Rat) ≤ 2 := rl_small (by decide) (by decide)
  have hs := rofq_any 1 w6 (by decide) (by decide)
  have HS := Lib.hid hs; clear hs
  go_wp2_with (with_reducible first | refine pauseCall ?_ | refine pauseLoop ?_ | refine pauseDraw ?_ | refine pauseBody ?_ | refine pauseRounds ?_)
  try rw [← HW6.out]
  try rw [← HG6.out]
  refine Pause.mk ?_
  (with_reducible refine HS.out.mono ?_); rintro e w7 ⟨v7, rfl, hb7, hn7⟩
  clear HS
  have HB7 := Lib.hid (HB6.out.step hb7)
  have N1 := Lib.hid (N1.out.below hb7)
  have N2 := Lib.hid (N2.out.below hb7)
  have N4 := Lib.hid (N4.out.below hb7)
  have N5 := Lib.hid (N5.out.below hb7)
  have BX3 := Lib.hid (heap_below BX3.out hb7)
  have BX6 := Lib.hid (heap_below BX6.out hb7)
  have N7 := Lib.hid hn7; clear hn7
  obtain ⟨s10, o10, n10, c10, a10, m10, d10, rfl⟩ := N7.out.shape
  clear hb7
  have k11 : rl ((2 : Int) : Rat) ≤ 2 := rl_small (by decide) (by decide)
  have hs := rofq_any 2 w7 (by decide) (by decide)
  have HS := Lib.hid hs; clear hs
  go_wp2_with (with_reducible first | refine pauseCall ?_ | refine pauseLoop ?_ | refine pauseDraw ?_ | refine pauseBody ?_ | refine pauseRounds ?_)
  refine Pause.mk ?_
  (with_reducible refine HS.out.mono ?_); rintro e w8 ⟨v8, rfl, hb8, hn8⟩
  clear HS
  have HB8 := Lib.hid (HB7.out.step hb8)
  have N1 := Lib.hid (N1.out.below hb8)
  have N2 := Lib.hid (N2.out.below hb8)
  have N4 := Lib.hid (N4.out.below hb8)
  have N5 := Lib.hid (N5.out.below hb8)
  have N7 := Lib.hid (N7.out.below hb8)
  have BX3 := Lib.hid (heap_below BX3.out hb8)
  have BX6 := Lib.hid (heap_below BX6.out hb8)
  have N8 := Lib.hid hn8; clear hn8
  obtain ⟨s12, o12, n12, c12, a12, m12, d12, rfl⟩ := N8.out.shape
  clear hb8
  have k13 : rl ((2 : Int) : Rat) ≤ 2 := rl_small (by decide) (by decide)
  have hs := rofq_any 2 w8 (by decide) (by decide)
  have HS := Lib.hid hs; clear hs
  go_wp2_with (with_reducible first | refine pauseCall ?_ | refine pauseLoop ?_ | refine pauseDraw ?_ | refine pauseBody ?_ | refine pauseRounds ?_)
  refine Pause.mk ?_
  (with_reducible refine HS.out.mono ?_); rintro e w9 ⟨v9, rfl, hb9, hn9⟩
  clear HS
  have HB9 := Lib.hid (HB8.out.step hb9)
  have N1 := Lib.hid (N1.out.below hb9)
  have N2 := Lib.hid (N2.out.below hb9)
  have N4 := Lib.hid (N4.out.below hb9)
  have N5 := Lib.hid (N5.out.below hb9)
  have N7 := Lib.hid (N7.out.below hb9)
  have N8 := Lib.hid (N8.out.below hb9)
  have BX3 := Lib.hid (heap_below BX3.out hb9)
  have BX6 := Lib.hid (heap_below BX6.out hb9)
  have N9 := Lib.hid hn9; clear hn9
  obtain ⟨s14, o14, n14, c14, a14, m14, d14, rfl⟩ := N9.out.shape
  clear hb9
  have k15 : rl ((4 : Int) : Rat) ≤ 2 := rl_small (by decide) (by decide)
  have hs := rofq_any 4 w9 (by decide) (by decide)
  have HS := Lib.hid hs; clear hs
  go_wp2_with (with_reducible first | refine pauseCall ?_ | refine pauseLoop ?_ | refine pauseDraw ?_ | refine pauseBody ?_ | refine pauseRounds ?_)
  refine Pause.mk ?_
  (with_reducible refine HS.out.mono ?_); rintro e w10 ⟨v10, rfl, hb10, hn10⟩
  clear HS
  have HB10 := Lib.hid (HB9.out.step hb10)
  have N1 := Lib.hid (N1.out.below hb10)
  have N2 := Lib.hid (N2.out.below hb10)
  have N4 := Lib.hid (N4.out.below hb10)
  have N5 := Lib.hid (N5.out.below hb10)
  have N7 := Lib.hid (N7.out.below hb10)
  have N8 := Lib.hid (N8.out.below hb10)
  have N9 := Lib.hid (N9.out.below hb10)
  have BX3 := Lib.hid (heap_below BX3.out hb10)
  have BX6 := Lib.hid (heap_below BX6.out hb10)
  have N10 := Lib.hid hn10; clear hn10
  obtain ⟨s16, o16, n16, c16, a16, m16, d16, rfl⟩ := N10.out.shape
  clear hb10
  obtain ⟨kp19, kp19x⟩ : rl (((((1 : Int) : Rat)), (((2 : Int) : Rat))) : Rat × Rat).1 ≤ rl (((1 : Int) : Rat)) ∧ rl (((((1 : Int) : Rat)), (((2 : Int) : Rat))) : Rat × Rat).2 ≤ rl (((2 : Int) : Rat)) := ⟨Nat.le_refl _, Nat.le_refl _⟩
  obtain ⟨kp20, kp20x⟩ : rl (((((2 : Int) : Rat)), (((4 : Int) : Rat))) : Rat × Rat).1 ≤ rl (((2 : Int) : Rat)) ∧ rl (((((2 : Int) : Rat)), (((4 : Int) : Rat))) : Rat × Rat).2 ≤ rl (((4 : Int) : Rat)) := ⟨Nat.le_refl _, Nat.le_refl _⟩
  obtain ⟨k17, k18⟩ := rl_sdV (((((1 : Int) : Rat)), (((2 : Int) : Rat)))) (((((2 : Int) : Rat)), (((4 : Int) : Rat))))
  have hs := sdiv_any _ (((((1 : Int) : Rat)), (((2 : Int) : Rat)))) _ (((((2 : Int) : Rat)), (((4 : Int) : Rat)))) w10 ((isSp_of N7.out N8.out).is (Rat.intCast_le_intCast.2 (by decide)) (by omega) (by omega)) ((isSp_of N9.out N10.out).is (Rat.intCast_le_intCast.2 (by decide)) (by omega) (by omega)) (by omega) (by omega) (by omega) (by omega)
  rw [HD.out, errV_zero] at hs
  have HS := Lib.hid hs; clear hs
  go_wp2_with (with_reducible first | refine pauseCall ?_ | refine pauseLoop ?_ | refine pauseDraw ?_ | refine pauseBody ?_ | refine pauseRounds ?_)
  refine Pause.mk ?_
  (with_reducible refine HS.out.mono ?_); rintro e w11 ⟨v11, rfl, hb11, hn11⟩
  clear HS
  have HB11 := Lib.hid (HB10.out.step hb11)
  have N1 := Lib.hid (N1.out.below hb11)
  have N2 := Lib.hid (N2.out.below hb11)
  have N4 := Lib.hid (N4.out.below hb11)
  have N5 := Lib.hid (N5.out.below hb11)
  have N7 := Lib.hid (N7.out.below hb11)
  have N8 := Lib.hid (N8.out.below hb11)
  have N9 := Lib.hid (N9.out.below hb11)
  have N10 := Lib.hid (N10.out.below hb11)
  have BX3 := Lib.hid (heap_below BX3.out hb11)
  have BX6 := Lib.hid (heap_below BX6.out hb11)
  have N11 := Lib.hid hn11; clear hn11
  obtain ⟨s21, o21, n21, c21, a21, m21, d21, s21x, o21x, n21x, c21x, a21x, m21x, d21x, rfl⟩ := N11.out.shape
  have N11l := Lib.hid (isSp_ends N11.out).1; have N11h := Lib.hid (isSp_ends N11.out).2
  clear hb11
  obtain ⟨w12, hw12⟩ : ∃ w12, w12 = w11.alloc (.cells #[.bool s21, .slice o21 n21 c21, .slice a21 m21 d21, .bool s21x, .slice o21x n21x c21x, .slice a21x m21x d21x] 26) := ⟨_, rfl⟩
  have hb12 : Below w11.heap.size w11 w12 := by rw [hw12]; exact (Below.refl _ _).alloc (Nat.le_refl _) _
  have hx12 := heap_alloc_new w11 (.cells #[.bool s21, .slice o21 n21 c21, .slice a21 m21 d21, .bool s21x, .slice o21x n21x c21x, .slice a21x m21x d21x] 26)
  obtain ⟨g12, hg12⟩ : ∃ g, g = w11.heap.size := ⟨_, rfl⟩
  rw [← hw12, ← hg12] at hx12
  have lw12 : w.heap.size ≤ g12 := by rw [hg12]; exact HB11.out.size
  have ltBX312 : g3 < g12 := by rw [hg12]; exact below_lt BX3.out
  have ltBX612 : g6 < g12 := by rw [hg12]; exact below_lt BX6.out
  have HW12 := Lib.hid hw12; have HG12 := Lib.hid hg12; clear hw12 hg12
  have HB12 := Lib.hid (HB11.out.step hb12)
  have N1 := Lib.hid (N1.out.below hb12)
  have N2 := Lib.hid (N2.out.below hb12)
  have N4 := Lib.hid (N4.out.below hb12)
  have N5 := Lib.hid (N5.out.below hb12)
  have N7 := Lib.hid (N7.out.below hb12)
  have N8 := Lib.hid (N8.out.below hb12)
  have N9 := Lib.hid (N9.out.below hb12)
  have N10 := Lib.hid (N10.out.below hb12)
  have N11 := Lib.hid (N11.out.below hb12)
  have N11l := Lib.hid (N11l.out.below hb12)
  have N11h := Lib.hid (N11h.out.below hb12)
  have BX3 := Lib.hid (heap_below BX3.out hb12)
  have BX6 := Lib.hid (heap_below BX6.out hb12)
  have BX12 := Lib.hid hx12; clear hb12 hx12
  obtain ⟨x22_0, x22_1, x22_2, x22_3, x22_4, x22_5⟩ := row6 BX3.out
  obtain ⟨x23_0, x23_1, x23_2, x23_3, x23_4, x23_5⟩ := row6 BX6.out
  obtain ⟨kp26, kp26x⟩ : rl ((((((-1) : Int) : Rat)), (((2 : Int) : Rat))) : Rat × Rat).1 ≤ rl ((((-1) : Int) : Rat)) ∧ rl ((((((-1) : Int) : Rat)), (((2 : Int) : Rat))) : Rat × Rat).2 ≤ rl (((2 : Int) : Rat)) := ⟨Nat.le_refl _, Nat.le_refl _⟩
  obtain ⟨kp27, kp27x⟩ : rl ((((((-3) : Int) : Rat)), (((1 : Int) : Rat))) : Rat × Rat).1 ≤ rl ((((-3) : Int) : Rat)) ∧ rl ((((((-3) : Int) : Rat)), (((1 : Int) : Rat))) : Rat × Rat).2 ≤ rl (((1 : Int) : Rat)) := ⟨Nat.le_refl _, Nat.le_refl _⟩
  obtain ⟨k24, k25⟩ := rl_sMul ((((((-1) : Int) : Rat)), (((2 : Int) : Rat)))) ((((((-3) : Int) : Rat)), (((1 : Int) : Rat))))
  have hs := smul_any _ ((((((-1) : Int) : Rat)), (((2 : Int) : Rat)))) _ ((((((-3) : Int) : Rat)), (((1 : Int) : Rat)))) w12 ((isSp_of N1.out N2.out).is (Rat.intCast_le_intCast.2 (by decide)) (by omega) (by omega)) ((isSp_of N4.out N5.out).is (Rat.intCast_le_intCast.2 (by decide)) (by omega) (by omega)) (by omega) (by omega) (by omega) (by omega)
  have HS := Lib.hid hs; clear hs
  try rw [HW12.out] at x22_0
  try rw [HG12.out] at x22_0
  try rw [HW12.out] at x22_1
  try rw [HG12.out] at x22_1
  try rw [HW12.out] at x22_2
  try rw [HG12.out] at x22_2
  try rw [HW12.out] at x22_3
  try rw [HG12.out] at x22_3
  try rw [HW12.out] at x22_4
  try rw [HG12.out] at x22_4
  try rw [HW12.out] at x22_5
  try rw [HG12.out] at x22_5
  try rw [HW12.out] at x23_0
  try rw [HG12.out] at x23_0
  try rw [HW12.out] at x23_1
  try rw [HG12.out] at x23_1
  try rw [HW12.out] at x23_2
  try rw [HG12.out] at x23_2
  try rw [HW12.out] at x23_3
  try rw [HG12.out] at x23_3
  try rw [HW12.out] at x23_4
  try rw [HG12.out] at x23_4
  try rw [HW12.out] at x23_5
  try rw [HG12.out] at x23_5
  go_wp2_with (with_reducible first | refine pauseCall ?_ | refine pauseLoop ?_ | refine pauseDraw ?_ | refine pauseBody ?_ | refine pauseRounds ?_)
  try rw [← HW12.out]
  try rw [← HG12.out]
  clear x22_0 x22_1 x22_2 x22_3 x22_4 x22_5 x23_0 x23_1 x23_2 x23_3 x23_4 x23_5
  refine Pause.mk ?_
  (with_reducible refine HS.out.mono ?_); rintro e w13 ⟨v13, rfl, hb13, hn13⟩
  clear HS
  have HB13 := Lib.hid (HB12.out.step hb13)
  have N1 := Lib.hid (N1.out.below hb13)
  have N2 := Lib.hid (N2.out.below hb13)
  have N4 := Lib.hid (N4.out.below hb13)
  have N5 := Lib.hid (N5.out.below hb13)
  have N7 := Lib.hid (N7.out.below hb13)
  have N8 := Lib.hid (N8.out.below hb13)
  have N9 := Lib.hid (N9.out.below hb13)
  have N10 := Lib.hid (N10.out.below hb13)
  have N11 := Lib.hid (N11.out.below hb13)
  have N11l := Lib.hid (N11l.out.below hb13)
  have N11h := Lib.hid (N11h.out.below hb13)
  have BX3 := Lib.hid (heap_below BX3.out hb13)
  have BX6 := Lib.hid (heap_below BX6.out hb13)
  have BX12 := Lib.hid (heap_below BX12.out hb13)
  have N13 := Lib.hid hn13; clear hn13
  obtain ⟨s28, o28, n28, c28, a28, m28, d28, s28x, o28x, n28x, c28x, a28x, m28x, d28x, rfl⟩ := N13.out.shape
  have N13l := Lib.hid (isSp_ends N13.out).1; have N13h := Lib.hid (isSp_ends N13.out).2
  clear hb13
  have hs := stext_any _ (sMul ((((((-1) : Int) : Rat)), (((2 : Int) : Rat)))) ((((((-3) : Int) : Rat)), (((1 : Int) : Rat))))) w13 (N13.out.is (around4_ok _ _ _ _) (by omega) (by omega)) (by omega) (by omega)
  rw [show stx (sMul ((((((-1) : Int) : Rat)), (((2 : Int) : Rat)))) ((((((-3) : Int) : Rat)), (((1 : Int) : Rat))))) = _ from awk3_1] at hs
  have HS := Lib.hid hs; clear hs
  go_wp2_with (with_reducible first | refine pauseCall ?_ | refine pauseLoop ?_ | refine pauseDraw ?_ | refine pauseBody ?_ | refine pauseRounds ?_)
  refine Pause.mk ?_
  (with_reducible refine HS.out.mono ?_); rintro e w14 ⟨rfl, hb14⟩
  clear HS
  have HB14 := Lib.hid (HB13.out.step hb14)
  have N1 := Lib.hid (N1.out.below hb14)
  have N2 := Lib.hid (N2.out.below hb14)
  have N4 := Lib.hid (N4.out.below hb14)
  have N5 := Lib.hid (N5.out.below hb14)
  have N7 := Lib.hid (N7.out.below hb14)
  have N8 := Lib.hid (N8.out.below hb14)
  have N9 := Lib.hid (N9.out.below hb14)
  have N10 := Lib.hid (N10.out.below hb14)
  have N11 := Lib.hid (N11.out.below hb14)
  have N11l := Lib.hid (N11l.out.below hb14)
  have N11h := Lib.hid (N11h.out.below hb14)
  have N13 := Lib.hid (N13.out.below hb14)
  have N13l := Lib.hid (N13l.out.below hb14)
  have N13h := Lib.hid (N13h.out.below hb14)
  have BX3 := Lib.hid (heap_below BX3.out hb14)
  have BX6 := Lib.hid (heap_below BX6.out hb14)
  have BX12 := Lib.hid (heap_below BX12.out hb14)
  clear hb14
  obtain ⟨x29_0, x29_1, x29_2, x29_3, x29_4, x29_5⟩ := row6 BX12.out
  have hs := stext_any _ (sdV (((((1 : Int) : Rat)), (((2 : Int) : Rat)))) (((((2 : Int) : Rat)), (((4 : Int) : Rat))))) w14 (N11.out.is (sdV_ok _ _) (by omega) (by omega)) (by omega) (by omega)
  rw [show stx (sdV (((((1 : Int) : Rat)), (((2 : Int) : Rat)))) (((((2 : Int) : Rat)), (((4 : Int) : Rat))))) = _ from awk3_2] at hs
  have HS := Lib.hid hs; clear hs
  go_wp2_with (with_reducible first | refine pauseCall ?_ | refine pauseLoop ?_ | refine pauseDraw ?_ | refine pauseBody ?_ | refine pauseRounds ?_)
  clear x29_0 x29_1 x29_2 x29_3 x29_4 x29_5
  refine Pause.mk ?_
  (with_reducible refine HS.out.mono ?_); rintro e w15 ⟨rfl, hb15⟩
  clear HS
  have HB15 := Lib.hid (HB14.out.step hb15)
  have N1 := Lib.hid (N1.out.below hb15)
  have N2 := Lib.hid (N2.out.below hb15)
  have N4 := Lib.hid (N4.out.below hb15)
  have N5 := Lib.hid (N5.out.below hb15)
  have N7 := Lib.hid (N7.out.below hb15)
  have N8 := Lib.hid (N8.out.below hb15)
  have N9 := Lib.hid (N9.out.below hb15)
  have N10 := Lib.hid (N10.out.below hb15)
  have N11 := Lib.hid (N11.out.below hb15)
  have N11l := Lib.hid (N11l.out.below hb15)
  have N11h := Lib.hid (N11h.out.below hb15)
  have N13 := Lib.hid (N13.out.below hb15)
  have N13l := Lib.hid (N13l.out.below hb15)
  have N13h := Lib.hid (N13h.out.below hb15)
  have BX3 := Lib.hid (heap_below BX3.out hb15)
  have BX6 := Lib.hid (heap_below BX6.out hb15)
  have BX12 := Lib.hid (heap_below BX12.out hb15)
  clear hb15
  go_wp2_with (with_reducible first | refine pauseCall ?_ | refine pauseLoop ?_ | refine pauseDraw ?_ | refine pauseBody ?_ | refine pauseRounds ?_)
  refine Pause.mk ?_
  go_ret
  exact ⟨by first | rfl | (simp; done), HB15.out⟩
end Go.Proofs.YtaefimegiobkmaaDoor
/-
  span: common parts: what they hand back.
  Conditions: each theorem's own.
-/
namespace Go.Proofs.YtaefimegiobkmaaDoor
open Go.RowKit Go.ChangeShapes Go.WideShapes

set_option maxRecDepth 100000 in
set_option maxHeartbeats 6400000 in
theorem smeet_1 (va : Value) (a : Rat × Rat) (vb : Value) (b : Rat × Rat) (w : World) (ha : SpIs w va a) (hb : SpIs w vb b) (la1 : rl a.1 ≤ 39000) (la2 : rl a.2 ≤ 39000) (lb1 : rl b.1 ≤ 39000) (lb2 : rl b.2 ≤ 39000) (h : ¬ mx ((a).1) ((b).1) ≤ mn ((a).2) ((b).2)) :
    Calls Tryd.prog 20 #[va, vb] w (RetSpE w (0, 0) (errV 17)) := by
  have HBW := Lib.hid (Below.refl w.heap.size w)
  have kz0 : rl 0 ≤ 1 := by rw [rl_zero]; exact Nat.le_refl _
  obtain ⟨qa, oa, na, ka, pa, ma, ra, qax, oax, nax, kax, pax, max, rax, rfl⟩ := ha.shape
  have hla := ha.rl; have hoa := ha.ok; obtain ⟨hlaa, hlab⟩ := hla
  have hoa := Lib.hid hoa
  obtain ⟨qb, ob, nb, kb, pb, mb, rb, qbx, obx, nbx, kbx, pbx, mbx, rbx, rfl⟩ := hb.shape
  have hlb := hb.rl; have hob := hb.ok; obtain ⟨hlba, hlbb⟩ := hlb
  have hob := Lib.hid hob
  rw [errV_pos (by decide)]
  obtain ⟨n, hn⟩ : ∃ n, n = cq (mx ((a).1) ((b).1)) (mn ((a).2) ((b).2)) := ⟨_, rfl⟩
  have f1 : decide (0 < n) = true := by rw [hn]; exact decide_eq_true ((cq_gt _ _).2 (by grind))
  have HN := Lib.hid hn; clear hn h
  have Fa := Lib.hid ha; clear ha
  have Fb := Lib.hid hb; clear hb
  obtain ⟨w1, hw1⟩ : ∃ w1, w1 = w.alloc (.cells #[.bool qa, .slice oa na ka, .slice pa ma ra, .bool qax, .slice oax nax kax, .slice pax max rax] 26) := ⟨_, rfl⟩
  have hb1 : Below w.heap.size w w1 := by rw [hw1]; exact (Below.refl _ _).alloc (Nat.le_refl _) _
  have hx1 := heap_alloc_new w (.cells #[.bool qa, .slice oa na ka, .slice pa ma ra, .bool qax, .slice oax nax kax, .slice pax max rax] 26)
  obtain ⟨g1, hg1⟩ : ∃ g, g = w.heap.size := ⟨_, rfl⟩
  rw [← hw1, ← hg1] at hx1
  have lw1 : w.heap.size ≤ g1 := by rw [hg1]; exact HBW.out.size
  have HW1 := Lib.hid hw1; have HG1 := Lib.hid hg1; clear hw1 hg1
  have HB1 := Lib.hid (HBW.out.step hb1)
  have Fa := Lib.hid (Fa.out.below hb1)
  have Fb := Lib.hid (Fb.out.below hb1)
  have BX1 := Lib.hid hx1; clear hb1 hx1
  obtain ⟨w2, hw2⟩ : ∃ w2, w2 = w1.alloc (.cells #[.bool qb, .slice ob nb kb, .slice pb mb rb, .bool qbx, .slice obx nbx kbx, .slice pbx mbx rbx] 26) := ⟨_, rfl⟩
  have hb2 : Below w1.heap.size w1 w2 := by rw [hw2]; exact (Below.refl _ _).alloc (Nat.le_refl _) _
  have hx2 := heap_alloc_new w1 (.cells #[.bool qb, .slice ob nb kb, .slice pb mb rb, .bool qbx, .slice obx nbx kbx, .slice pbx mbx rbx] 26)
  obtain ⟨g2, hg2⟩ : ∃ g, g = w1.heap.size := ⟨_, rfl⟩
  rw [← hw2, ← hg2] at hx2
  have lw2 : w.heap.size ≤ g2 := by rw [hg2]; exact HB1.out.size
  have ltBX12 : g1 < g2 := by rw [hg2]; exact below_lt BX1.out
  have hs2 : g2 = w.heap.size + 1 := by rw [hg2, HW1.out]; simp
  have HS2 := Lib.hid hs2; clear hs2
  have HW2 := Lib.hid hw2; have HG2 := Lib.hid hg2; clear hw2 hg2
  have HB2 := Lib.hid (HB1.out.step hb2)
  have Fa := Lib.hid (Fa.out.below hb2)
  have Fb := Lib.hid (Fb.out.below hb2)
  have BX1 := Lib.hid (heap_below BX1.out hb2)
  have BX2 := Lib.hid hx2; clear hb2 hx2
  obtain ⟨w3, hw3⟩ : ∃ w3, w3 = w2.alloc (.cells #[.bool false, .slice none 0 0, .slice none 0 0, .bool false, .slice none 0 0, .slice none 0 0] 26) := ⟨_, rfl⟩
  have hb3 : Below w2.heap.size w2 w3 := by rw [hw3]; exact (Below.refl _ _).alloc (Nat.le_refl _) _
  have hx3 := heap_alloc_new w2 (.cells #[.bool false, .slice none 0 0, .slice none 0 0, .bool false, .slice none 0 0, .slice none 0 0] 26)
  obtain ⟨g3, hg3⟩ : ∃ g, g = w2.heap.size := ⟨_, rfl⟩
  rw [← hw3, ← hg3] at hx3
  have lw3 : w.heap.size ≤ g3 := by rw [hg3]; exact HB2.out.size
  have ltBX13 : g1 < g3 := by rw [hg3]; exact below_lt BX1.out
  have ltBX23 : g2 < g3 := by rw [hg3]; exact below_lt BX2.out
  have hs3 : g3 = w.heap.size + 2 := by rw [hg3, HW2.out, HW1.out]; simp
  have HS3 := Lib.hid hs3; clear hs3
  have HW3 := Lib.hid hw3; have HG3 := Lib.hid hg3; clear hw3 hg3
  have HB3 := Lib.hid (HB2.out.step hb3)
  have Fa := Lib.hid (Fa.out.below hb3)
  have Fb := Lib.hid (Fb.out.below hb3)
  have BX1 := Lib.hid (heap_below BX1.out hb3)
  have BX2 := Lib.hid (heap_below BX2.out hb3)
  have BX3 := Lib.hid hx3; clear hb3 hx3
  go_enter Tryd.func20, Tryd.ntmps20
  go_wp2_with (with_reducible first | refine pauseCall ?_ | refine pauseLoop ?_ | refine pauseDraw ?_ | refine pauseBody ?_ | refine pauseRounds ?_)
  try rw [← HW1.out]
  try rw [← HW2.out]
  try rw [← HW3.out]
  try rw [← HS3.out]
  try rw [← HS2.out]
  try rw [← HG1.out]
  try rw [← HG2.out]
  try rw [← HG3.out]
  refine Pause.mk ?_
  refine wp_region_facts (A := ?aa1) (w := w3) 3 [] (by kernel_rfl) (Fl [KEq (.agg #[.bool qa, .slice oa na ka, .slice pa ma ra, .bool qax, .slice oax nax kax, .slice pax max rax]), KSp (a), KEq (.agg #[.bool qb, .slice ob nb kb, .slice pb mb rb, .bool qbx, .slice obx nbx kbx, .slice pbx mbx rbx])]) (fun i => false) (by kernel_rfl) ?hq1 (monoL (monoC (kEq _) (monoC (kSp _) (monoC (kEq _) monoN)))) ?ha1 ?st1 ?tl1
  case hq1 =>
    intro c a d v w h
    first | (simp only [Exit.then] at h ⊢; exact h) | (simp only [Exit.inBlock, Exit.then] at h ⊢; exact h) | exact h
  case ha1 =>
    intro vals
    simp only [putsTo, dstOf, if_true, Act.put, List.setIfInBounds_toArray, List.set_cons_zero, List.set_cons_succ, List.getElem?_toArray, List.getElem?_cons_zero, List.getElem?_cons_succ, Option.bind_some]
    exact rfl
  case st1 =>
    simp only [List.take_succ_cons, List.take_zero]
    refine stepsOK_cons rfl rfl ?_ (stepsOK_cons rfl rfl ?_ (stepsOK_cons rfl rfl ?_ (stepsOK_nil)))
    · intro vals w1 hb hd
      obtain ⟨e0, e1, e2, e3, e4, e5⟩ := row6 (heap_below BX1.out hb)
      refine stepOK_value (v := .agg #[.bool qa, .slice oa na ka, .slice pa ma ra, .bool qax, .slice oax nax kax, .slice pax max rax]) (w' := w1) (by go_simp) (leaves_mk (Below.refl _ _) rfl (fun h => by cases h))
    · intro vals w1 hb hd
      have d0 : KEq (.agg #[.bool qa, .slice oa na ka, .slice pa ma ra, .bool qax, .slice oax nax kax, .slice pax max rax]) (vals 0) w1 := hd 0 (by kernel_rfl)
      have z0 : vals 0 = _ := d0
      have hs := norm_any _ (a) w1 (Fa.out.below hb)
      have HS := Lib.hid hs; clear hs
      rw [z0]; clear z0
      clear d0 hd
      refine stepOK_call (by go_simp; first | done | exact ⟨⟨rfl, rfl⟩, rfl⟩) ?_
      (with_reducible refine HS.out.mono ?_); rintro e w2 ⟨v, rfl, hb2, hn⟩
      exact ⟨v, rfl, leaves_mk hb2 hn (fun h => by cases h)⟩
    · intro vals w1 hb hd
      obtain ⟨e0, e1, e2, e3, e4, e5⟩ := row6 (heap_below BX2.out hb)
      refine stepOK_value (v := .agg #[.bool qb, .slice ob nb kb, .slice pb mb rb, .bool qbx, .slice obx nbx kbx, .slice pbx mbx rbx]) (w' := w1) (by go_simp) (leaves_mk (Below.refl _ _) rfl (fun h => by cases h))
  case tl1 =>
    intro vals w4 hb4 hf hdis
    simp only [List.drop_succ_cons, List.drop_zero]
    obtain ⟨u1_1, hu1⟩ : ∃ u, u = vals 1 := ⟨_, rfl⟩
    have hn1_1 : IsSp w4 (vals 1) (a) := hf 1 (by decide)
    rw [← hu1] at hn1_1 ⊢; clear hu1
    have z2 : vals 2 = _ := hf 2 (by decide)
    try rw [z2]
    clear z2
    clear hf hdis
    have HB4 := Lib.hid (HB3.out.step hb4)
    have Fa := Lib.hid (Fa.out.below hb4)
    have Fb := Lib.hid (Fb.out.below hb4)
    have BX1 := Lib.hid (heap_below BX1.out hb4)
    have BX2 := Lib.hid (heap_below BX2.out hb4)
    have BX3 := Lib.hid (heap_below BX3.out hb4)
    clear hb4
    have N1_1 := Lib.hid hn1_1; clear hn1_1
    obtain ⟨s2, o2, n2, c2, a2, m2, d2, s2x, o2x, n2x, c2x, a2x, m2x, d2x, rfl⟩ := N1_1.out.shape
    have N1_1l := Lib.hid (isSp_ends N1_1.out).1; have N1_1h := Lib.hid (isSp_ends N1_1.out).2
    skip
    have hs := norm_any _ (b) w4 Fb.out
    have HS := Lib.hid hs; clear hs
    go_wp2_with (with_reducible first | refine pauseCall ?_ | refine pauseLoop ?_ | refine pauseDraw ?_ | refine pauseBody ?_ | refine pauseRounds ?_)
    refine Pause.mk ?_
    (with_reducible refine HS.out.mono ?_); rintro e w5 ⟨v5, rfl, hb5, hn5⟩
    clear HS
    have HB5 := Lib.hid (HB4.out.step hb5)
    have Fa := Lib.hid (Fa.out.below hb5)
    have Fb := Lib.hid (Fb.out.below hb5)
    have N1_1 := Lib.hid (N1_1.out.below hb5)
    have N1_1l := Lib.hid (N1_1l.out.below hb5)
    have N1_1h := Lib.hid (N1_1h.out.below hb5)
    have BX1 := Lib.hid (heap_below BX1.out hb5)
    have BX2 := Lib.hid (heap_below BX2.out hb5)
    have BX3 := Lib.hid (heap_below BX3.out hb5)
    have N5 := Lib.hid hn5; clear hn5
    obtain ⟨s3, o3, n3, c3, a3, m3, d3, s3x, o3x, n3x, c3x, a3x, m3x, d3x, rfl⟩ := N5.out.shape
    have N5l := Lib.hid (isSp_ends N5.out).1; have N5h := Lib.hid (isSp_ends N5.out).2
    clear hb5
    go_wp2_with (with_reducible refine wpList_pauseS ?_)
    refine wpList_stL g1 0 [.bool s2, .slice o2 n2 c2, .slice a2 m2 d2, .bool s2x, .slice o2x n2x c2x, .slice a2x m2x d2x] BX1.out rfl rfl (Nat.le_of_ble_eq_true rfl) (by kernel_rfl) rfl ?_
    intro w6 hp6
    have Fa := Lib.hid (putL_SS hp6 Fa.out BX1.out noW6)
    have Fb := Lib.hid (putL_SS hp6 Fb.out BX1.out noW6)
    have N1_1 := Lib.hid (putL_SI hp6 N1_1.out BX1.out noW6)
    have N1_1l := Lib.hid (putL_I hp6 N1_1l.out BX1.out noW6)
    have N1_1h := Lib.hid (putL_I hp6 N1_1h.out BX1.out noW6)
    have N5 := Lib.hid (putL_SI hp6 N5.out BX1.out noW6)
    have N5l := Lib.hid (putL_I hp6 N5l.out BX1.out noW6)
    have N5h := Lib.hid (putL_I hp6 N5h.out BX1.out noW6)
    have BX2 := Lib.hid (putLx hp6 BX2.out (by omega))
    have BX3 := Lib.hid (putLx hp6 BX3.out (by omega))
    have nx6 : w6.heap[g1]? = some (.cells #[.bool s2, .slice o2 n2 c2, .slice a2 m2 d2, .bool s2x, .slice o2x n2x c2x, .slice a2x m2x d2x] 26) := by rw [hp6]; exact putL_6 BX1.out
    have BX1 := Lib.hid nx6; clear nx6
    have HB6 := Lib.hid (putLb hp6 HB5.out (by omega))
    clear hp6
    go_wp2_with (with_reducible refine wpList_pauseS ?_)
    refine wpList_stL g2 0 [.bool s3, .slice o3 n3 c3, .slice a3 m3 d3, .bool s3x, .slice o3x n3x c3x, .slice a3x m3x d3x] BX2.out rfl rfl (Nat.le_of_ble_eq_true rfl) (by kernel_rfl) rfl ?_
    intro w7 hp7
    have Fa := Lib.hid (putL_SS hp7 Fa.out BX2.out noW6)
    have Fb := Lib.hid (putL_SS hp7 Fb.out BX2.out noW6)
    have N1_1 := Lib.hid (putL_SI hp7 N1_1.out BX2.out noW6)
    have N1_1l := Lib.hid (putL_I hp7 N1_1l.out BX2.out noW6)
    have N1_1h := Lib.hid (putL_I hp7 N1_1h.out BX2.out noW6)
    have N5 := Lib.hid (putL_SI hp7 N5.out BX2.out noW6)
    have N5l := Lib.hid (putL_I hp7 N5l.out BX2.out noW6)
    have N5h := Lib.hid (putL_I hp7 N5h.out BX2.out noW6)
    have BX1 := Lib.hid (putLx hp7 BX1.out (by omega))
    have BX3 := Lib.hid (putLx hp7 BX3.out (by omega))
    have nx7 : w7.heap[g2]? = some (.cells #[.bool s3, .slice o3 n3 c3, .slice a3 m3 d3, .bool s3x, .slice o3x n3x c3x, .slice a3x m3x d3x] 26) := by rw [hp7]; exact putL_6 BX2.out
    have BX2 := Lib.hid nx7; clear nx7
    have HB7 := Lib.hid (putLb hp7 HB6.out (by omega))
    clear hp7
    go_wp2_with (with_reducible first | refine pauseCall ?_ | refine pauseLoop ?_ | refine pauseDraw ?_ | refine pauseBody ?_ | refine pauseRounds ?_)
    refine Pause.mk ?_
    have k4 := rl_mx ((a).1) ((b).1)
    have k5 := rl_mn ((a).2) ((b).2)
    refine wp_region_facts (A := ?aa6) (w := w7) 12 [] (by kernel_rfl) (Fl [KEq (.pointer (some ⟨g1, 0, none⟩)), KEq (.agg #[.bool s2, .slice o2 n2 c2, .slice a2 m2 d2]), KEq (.pointer (some ⟨g2, 0, none⟩)), KEq (.agg #[.bool s3, .slice o3 n3 c3, .slice a3 m3 d3]), KIs (mx ((a).1) ((b).1)), KEq (.pointer (some ⟨g1, 3, none⟩)), KEq (.agg #[.bool s2x, .slice o2x n2x c2x, .slice a2x m2x d2x]), KEq (.pointer (some ⟨g2, 3, none⟩)), KEq (.agg #[.bool s3x, .slice o3x n3x c3x, .slice a3x m3x d3x]), KIs (mn ((a).2) ((b).2)), KNew w7.heap.size #[.bool false, .slice none 0 0, .slice none 0 0] 24, KNew w7.heap.size #[.bool false, .slice none 0 0, .slice none 0 0] 24]) (fun i => i == 10 || i == 11) (by kernel_rfl) ?hq6 (monoL (monoC (kEq _) (monoC (kEq _) (monoC (kEq _) (monoC (kEq _) (monoC (kIs _) (monoC (kEq _) (monoC (kEq _) (monoC (kEq _) (monoC (kEq _) (monoC (kIs _) (monoC (kNew _ _ _) (monoC (kNew _ _ _) monoN))))))))))))) ?ha6 ?st6 ?tl6
    case hq6 =>
      intro c a d v w h
      first | (simp only [Exit.then] at h ⊢; exact h) | (simp only [Exit.inBlock, Exit.then] at h ⊢; exact h) | exact h
    case ha6 =>
      intro vals
      simp only [putsTo, dstOf, if_true, Act.put, List.setIfInBounds_toArray, List.set_cons_zero, List.set_cons_succ, List.getElem?_toArray, List.getElem?_cons_zero, List.getElem?_cons_succ, Option.bind_some]
      exact rfl
    case st6 =>
      simp only [List.take_succ_cons, List.take_zero]
      refine stepsOK_cons rfl rfl ?_ (stepsOK_cons rfl rfl ?_ (stepsOK_cons rfl rfl ?_ (stepsOK_cons rfl rfl ?_ (stepsOK_cons rfl rfl ?_ (stepsOK_cons rfl rfl ?_ (stepsOK_cons rfl rfl ?_ (stepsOK_cons rfl rfl ?_ (stepsOK_cons rfl rfl ?_ (stepsOK_cons rfl rfl ?_ (stepsOK_cons rfl rfl ?_ (stepsOK_cons rfl rfl ?_ (stepsOK_nil))))))))))))
      · intro vals w1 hb hd
        refine stepOK_value (v := (.pointer (some ⟨g1, 0, none⟩))) (w' := w1) (by go_simp) (leaves_mk (Below.refl _ _) rfl (fun h => by cases h))
      · intro vals w1 hb hd
        have d0 : KEq (.pointer (some ⟨g1, 0, none⟩)) (vals 0) w1 := hd 0 (by kernel_rfl)
        rw [show vals 0 = _ from d0]
        obtain ⟨e0, e1, e2, e3, e4, e5⟩ := row6 (heap_below BX1.out hb)
        refine stepOK_value (v := .agg #[.bool s2, .slice o2 n2 c2, .slice a2 m2 d2]) (w' := w1) (by go_simp) (leaves_mk (Below.refl _ _) rfl (fun h => by cases h))
      · intro vals w1 hb hd
        refine stepOK_value (v := (.pointer (some ⟨g2, 0, none⟩))) (w' := w1) (by go_simp) (leaves_mk (Below.refl _ _) rfl (fun h => by cases h))
      · intro vals w1 hb hd
        have d2 : KEq (.pointer (some ⟨g2, 0, none⟩)) (vals 2) w1 := hd 2 (by kernel_rfl)
        rw [show vals 2 = _ from d2]
        obtain ⟨e0, e1, e2, e3, e4, e5⟩ := row6 (heap_below BX2.out hb)
        refine stepOK_value (v := .agg #[.bool s3, .slice o3 n3 c3, .slice a3 m3 d3]) (w' := w1) (by go_simp) (leaves_mk (Below.refl _ _) rfl (fun h => by cases h))
      · intro vals w1 hb hd
        have d1 : KEq (.agg #[.bool s2, .slice o2 n2 c2, .slice a2 m2 d2]) (vals 1) w1 := hd 1 (by kernel_rfl)
        have d3 : KEq (.agg #[.bool s3, .slice o3 n3 c3, .slice a3 m3 d3]) (vals 3) w1 := hd 3 (by kernel_rfl)
        have z1 : vals 1 = _ := d1
        have z3 : vals 3 = _ := d3
        have hs := maxq_any _ ((a).1) _ ((b).1) w1 ((N1_1l.out.below hb).is (by omega)) ((N5l.out.below hb).is (by omega)) (by omega) (by omega)
        have HS := Lib.hid hs; clear hs
        rw [z1]; clear z1
        rw [z3]; clear z3
        clear d1 d3 hd
        refine stepOK_call (by go_simp; first | done | exact ⟨⟨rfl, rfl⟩, rfl⟩) ?_
        (with_reducible refine HS.out.mono ?_); rintro e w2 ⟨v, rfl, hb2, hn⟩
        exact ⟨v, rfl, leaves_mk hb2 hn (fun h => by cases h)⟩
      · intro vals w1 hb hd
        refine stepOK_value (v := (.pointer (some ⟨g1, 3, none⟩))) (w' := w1) (by go_simp) (leaves_mk (Below.refl _ _) rfl (fun h => by cases h))
      · intro vals w1 hb hd
        have d5 : KEq (.pointer (some ⟨g1, 3, none⟩)) (vals 5) w1 := hd 5 (by kernel_rfl)
        rw [show vals 5 = _ from d5]
        obtain ⟨e0, e1, e2, e3, e4, e5⟩ := row6 (heap_below BX1.out hb)
        refine stepOK_value (v := .agg #[.bool s2x, .slice o2x n2x c2x, .slice a2x m2x d2x]) (w' := w1) (by go_simp) (leaves_mk (Below.refl _ _) rfl (fun h => by cases h))
      · intro vals w1 hb hd
        refine stepOK_value (v := (.pointer (some ⟨g2, 3, none⟩))) (w' := w1) (by go_simp) (leaves_mk (Below.refl _ _) rfl (fun h => by cases h))
      · intro vals w1 hb hd
        have d7 : KEq (.pointer (some ⟨g2, 3, none⟩)) (vals 7) w1 := hd 7 (by kernel_rfl)
        rw [show vals 7 = _ from d7]
        obtain ⟨e0, e1, e2, e3, e4, e5⟩ := row6 (heap_below BX2.out hb)
        refine stepOK_value (v := .agg #[.bool s3x, .slice o3x n3x c3x, .slice a3x m3x d3x]) (w' := w1) (by go_simp) (leaves_mk (Below.refl _ _) rfl (fun h => by cases h))
      · intro vals w1 hb hd
        have d6 : KEq (.agg #[.bool s2x, .slice o2x n2x c2x, .slice a2x m2x d2x]) (vals 6) w1 := hd 6 (by kernel_rfl)
        have d8 : KEq (.agg #[.bool s3x, .slice o3x n3x c3x, .slice a3x m3x d3x]) (vals 8) w1 := hd 8 (by kernel_rfl)
        have z6 : vals 6 = _ := d6
        have z8 : vals 8 = _ := d8
        have hs := minq_any _ ((a).2) _ ((b).2) w1 ((N1_1h.out.below hb).is (by omega)) ((N5h.out.below hb).is (by omega)) (by omega) (by omega)
        have HS := Lib.hid hs; clear hs
        rw [z6]; clear z6
        rw [z8]; clear z8
        clear d6 d8 hd
        refine stepOK_call (by go_simp; first | done | exact ⟨⟨rfl, rfl⟩, rfl⟩) ?_
        (with_reducible refine HS.out.mono ?_); rintro e w2 ⟨v, rfl, hb2, hn⟩
        exact ⟨v, rfl, leaves_mk hb2 hn (fun h => by cases h)⟩
      · intro vals w1 hb hd
        refine stepOK_value (v := .pointer (some ⟨w1.heap.size, 0, none⟩)) (w' := w1.alloc (.cells #[.bool false, .slice none 0 0, .slice none 0 0] 24)) (by go_simp) (leaves_mk ((Below.refl _ _).alloc (Nat.le_refl _) _) ⟨_, hb.size, rfl, heap_alloc_new _ _⟩ (fun _ => ⟨rfl, by simp⟩))
      · intro vals w1 hb hd
        refine stepOK_value (v := .pointer (some ⟨w1.heap.size, 0, none⟩)) (w' := w1.alloc (.cells #[.bool false, .slice none 0 0, .slice none 0 0] 24)) (by go_simp) (leaves_mk ((Below.refl _ _).alloc (Nat.le_refl _) _) ⟨_, hb.size, rfl, heap_alloc_new _ _⟩ (fun _ => ⟨rfl, by simp⟩))
    case tl6 =>
      intro vals w8 hb8 hf hdis
      simp only [List.drop_succ_cons, List.drop_zero]
      obtain ⟨u6_4, hu4⟩ : ∃ u, u = vals 4 := ⟨_, rfl⟩
      have hn6_4 : IsR w8 (vals 4) (mx ((a).1) ((b).1)) := hf 4 (by decide)
      rw [← hu4] at hn6_4 ⊢; clear hu4
      obtain ⟨u6_9, hu9⟩ : ∃ u, u = vals 9 := ⟨_, rfl⟩
      have hn6_9 : IsR w8 (vals 9) (mn ((a).2) ((b).2)) := hf 9 (by decide)
      rw [← hu9] at hn6_9 ⊢; clear hu9
      obtain ⟨g6_10, hg6_10, ev10, hz6_10⟩ : KNew w7.heap.size #[.bool false, .slice none 0 0, .slice none 0 0] 24 (vals 10) w8 := hf 10 (by decide)
      have eq10 := ev10
      rw [ev10]; clear ev10
      have lw6_10 : w.heap.size ≤ g6_10 := Nat.le_trans HB7.out.size hg6_10
      have ltBX16_10 : g1 < g6_10 := Nat.lt_of_lt_of_le (below_lt BX1.out) hg6_10
      have ltBX26_10 : g2 < g6_10 := Nat.lt_of_lt_of_le (below_lt BX2.out) hg6_10
      have ltBX36_10 : g3 < g6_10 := Nat.lt_of_lt_of_le (below_lt BX3.out) hg6_10
      obtain ⟨g6_11, hg6_11, ev11, hz6_11⟩ : KNew w7.heap.size #[.bool false, .slice none 0 0, .slice none 0 0] 24 (vals 11) w8 := hf 11 (by decide)
      have ne10_11 : g6_10 ≠ g6_11 := fun e => hdis 10 11 (by decide) (by decide) (by decide) (by decide) (by decide) (by rw [eq10, ev11, e])
      have eq11 := ev11
      rw [ev11]; clear ev11
      have lw6_11 : w.heap.size ≤ g6_11 := Nat.le_trans HB7.out.size hg6_11
      have ltBX16_11 : g1 < g6_11 := Nat.lt_of_lt_of_le (below_lt BX1.out) hg6_11
      have ltBX26_11 : g2 < g6_11 := Nat.lt_of_lt_of_le (below_lt BX2.out) hg6_11
      have ltBX36_11 : g3 < g6_11 := Nat.lt_of_lt_of_le (below_lt BX3.out) hg6_11
      clear hf hdis eq10 eq11
      have HB8 := Lib.hid (HB7.out.step hb8)
      have Fa := Lib.hid (Fa.out.below hb8)
      have Fb := Lib.hid (Fb.out.below hb8)
      have N1_1 := Lib.hid (N1_1.out.below hb8)
      have N1_1l := Lib.hid (N1_1l.out.below hb8)
      have N1_1h := Lib.hid (N1_1h.out.below hb8)
      have N5 := Lib.hid (N5.out.below hb8)
      have N5l := Lib.hid (N5l.out.below hb8)
      have N5h := Lib.hid (N5h.out.below hb8)
      have BX1 := Lib.hid (heap_below BX1.out hb8)
      have BX2 := Lib.hid (heap_below BX2.out hb8)
      have BX3 := Lib.hid (heap_below BX3.out hb8)
      clear hb8
      have BX6_10 := Lib.hid hz6_10; clear hz6_10 hg6_10
      have BX6_11 := Lib.hid hz6_11; clear hz6_11 hg6_11
      have N6_4 := Lib.hid hn6_4; clear hn6_4
      obtain ⟨s7, o7, n7, c7, a7, m7, d7, rfl⟩ := N6_4.out.shape
      have N6_9 := Lib.hid hn6_9; clear hn6_9
      obtain ⟨s8, o8, n8, c8, a8, m8, d8, rfl⟩ := N6_9.out.shape
      skip
      go_wp2_with (with_reducible refine wpList_pauseS ?_)
      refine wpList_stL g6_10 0 [.bool s7, .slice o7 n7 c7, .slice a7 m7 d7] BX6_10.out rfl rfl (Nat.le_of_ble_eq_true rfl) (by kernel_rfl) rfl ?_
      intro w9 hp9
      have Fa := Lib.hid (putL_SS hp9 Fa.out BX6_10.out noW3)
      have Fb := Lib.hid (putL_SS hp9 Fb.out BX6_10.out noW3)
      have N1_1 := Lib.hid (putL_SI hp9 N1_1.out BX6_10.out noW3)
      have N1_1l := Lib.hid (putL_I hp9 N1_1l.out BX6_10.out noW3)
      have N1_1h := Lib.hid (putL_I hp9 N1_1h.out BX6_10.out noW3)
      have N5 := Lib.hid (putL_SI hp9 N5.out BX6_10.out noW3)
      have N5l := Lib.hid (putL_I hp9 N5l.out BX6_10.out noW3)
      have N5h := Lib.hid (putL_I hp9 N5h.out BX6_10.out noW3)
      have N6_4 := Lib.hid (putL_I hp9 N6_4.out BX6_10.out noW3)
      have N6_9 := Lib.hid (putL_I hp9 N6_9.out BX6_10.out noW3)
      have BX1 := Lib.hid (putLx hp9 BX1.out (by omega))
      have BX2 := Lib.hid (putLx hp9 BX2.out (by omega))
      have BX3 := Lib.hid (putLx hp9 BX3.out (by omega))
      have BX6_11 := Lib.hid (putLx hp9 BX6_11.out (by omega))
      have nx9 : w9.heap[g6_10]? = some (.cells #[.bool s7, .slice o7 n7 c7, .slice a7 m7 d7] 24) := by rw [hp9]; exact putL_r BX6_10.out
      have BX6_10 := Lib.hid nx9; clear nx9
      have HB9 := Lib.hid (putLb hp9 HB8.out (by omega))
      clear hp9
      go_wp2_with (with_reducible refine wpList_pauseS ?_)
      refine wpList_stL g6_11 0 [.bool s8, .slice o8 n8 c8, .slice a8 m8 d8] BX6_11.out rfl rfl (Nat.le_of_ble_eq_true rfl) (by kernel_rfl) rfl ?_
      intro w10 hp10
      have Fa := Lib.hid (putL_SS hp10 Fa.out BX6_11.out noW3)
      have Fb := Lib.hid (putL_SS hp10 Fb.out BX6_11.out noW3)
      have N1_1 := Lib.hid (putL_SI hp10 N1_1.out BX6_11.out noW3)
      have N1_1l := Lib.hid (putL_I hp10 N1_1l.out BX6_11.out noW3)
      have N1_1h := Lib.hid (putL_I hp10 N1_1h.out BX6_11.out noW3)
      have N5 := Lib.hid (putL_SI hp10 N5.out BX6_11.out noW3)
      have N5l := Lib.hid (putL_I hp10 N5l.out BX6_11.out noW3)
      have N5h := Lib.hid (putL_I hp10 N5h.out BX6_11.out noW3)
      have N6_4 := Lib.hid (putL_I hp10 N6_4.out BX6_11.out noW3)
      have N6_9 := Lib.hid (putL_I hp10 N6_9.out BX6_11.out noW3)
      have BX1 := Lib.hid (putLx hp10 BX1.out (by omega))
      have BX2 := Lib.hid (putLx hp10 BX2.out (by omega))
      have BX3 := Lib.hid (putLx hp10 BX3.out (by omega))
      have BX6_10 := Lib.hid (putLx hp10 BX6_10.out (by omega))
      have nx10 : w10.heap[g6_11]? = some (.cells #[.bool s8, .slice o8 n8 c8, .slice a8 m8 d8] 24) := by rw [hp10]; exact putL_r BX6_11.out
      have BX6_11 := Lib.hid nx10; clear nx10
      have HB10 := Lib.hid (putLb hp10 HB9.out (by omega))
      clear hp10
      obtain ⟨x9_0, x9_1, x9_2⟩ := row3 BX6_10.out
      obtain ⟨x10_0, x10_1, x10_2⟩ := row3 BX6_11.out
      have hs := cmpq_any _ (mx ((a).1) ((b).1)) _ (mn ((a).2) ((b).2)) w10 (N6_4.out.is (by omega)) (N6_9.out.is (by omega)) (by omega) (by omega)
      rw [← HN.out] at hs
      have HS := Lib.hid hs; clear hs
      go_wp2_with (with_reducible first | refine pauseCall ?_ | refine pauseLoop ?_ | refine pauseDraw ?_ | refine pauseBody ?_ | refine pauseRounds ?_)
      clear x9_0 x9_1 x9_2 x10_0 x10_1 x10_2
      refine Pause.mk ?_
      (with_reducible refine HS.out.mono ?_); rintro e w11 ⟨rfl, hb11⟩
      clear HS
      have HB11 := Lib.hid (HB10.out.step hb11)
      have Fa := Lib.hid (Fa.out.below hb11)
      have Fb := Lib.hid (Fb.out.below hb11)
      have N1_1 := Lib.hid (N1_1.out.below hb11)
      have N1_1l := Lib.hid (N1_1l.out.below hb11)
      have N1_1h := Lib.hid (N1_1h.out.below hb11)
      have N5 := Lib.hid (N5.out.below hb11)
      have N5l := Lib.hid (N5l.out.below hb11)
      have N5h := Lib.hid (N5h.out.below hb11)
      have N6_4 := Lib.hid (N6_4.out.below hb11)
      have N6_9 := Lib.hid (N6_9.out.below hb11)
      have BX1 := Lib.hid (heap_below BX1.out hb11)
      have BX2 := Lib.hid (heap_below BX2.out hb11)
      have BX3 := Lib.hid (heap_below BX3.out hb11)
      have BX6_10 := Lib.hid (heap_below BX6_10.out hb11)
      have BX6_11 := Lib.hid (heap_below BX6_11.out hb11)
      clear hb11
      go_wp2_with (with_reducible refine wpList_pauseS ?_)
      refine wpList_stL g3 0 [.bool false, .slice none 0 0, .slice none 0 0, .bool false, .slice none 0 0, .slice none 0 0] BX3.out rfl rfl (Nat.le_of_ble_eq_true rfl) (by kernel_rfl) rfl ?_
      intro w12 hp12
      have Fa := Lib.hid (putL_SS hp12 Fa.out BX3.out noW6)
      have Fb := Lib.hid (putL_SS hp12 Fb.out BX3.out noW6)
      have N1_1 := Lib.hid (putL_SI hp12 N1_1.out BX3.out noW6)
      have N1_1l := Lib.hid (putL_I hp12 N1_1l.out BX3.out noW6)
      have N1_1h := Lib.hid (putL_I hp12 N1_1h.out BX3.out noW6)
      have N5 := Lib.hid (putL_SI hp12 N5.out BX3.out noW6)
      have N5l := Lib.hid (putL_I hp12 N5l.out BX3.out noW6)
      have N5h := Lib.hid (putL_I hp12 N5h.out BX3.out noW6)
      have N6_4 := Lib.hid (putL_I hp12 N6_4.out BX3.out noW6)
      have N6_9 := Lib.hid (putL_I hp12 N6_9.out BX3.out noW6)
      have BX1 := Lib.hid (putLx hp12 BX1.out (by omega))
      have BX2 := Lib.hid (putLx hp12 BX2.out (by omega))
      have BX6_10 := Lib.hid (putLx hp12 BX6_10.out (by omega))
      have BX6_11 := Lib.hid (putLx hp12 BX6_11.out (by omega))
      have nx12 : w12.heap[g3]? = some (.cells #[.bool false, .slice none 0 0, .slice none 0 0, .bool false, .slice none 0 0, .slice none 0 0] 26) := by rw [hp12]; exact putL_6 BX3.out
      have BX3 := Lib.hid nx12; clear nx12
      have HB12 := Lib.hid (putLb hp12 HB11.out (by omega))
      clear hp12
      obtain ⟨x11_0, x11_1, x11_2, x11_3, x11_4, x11_5⟩ := row6 BX3.out
      go_wp2_with (with_reducible first | refine pauseCall ?_ | refine pauseLoop ?_ | refine pauseDraw ?_ | refine pauseBody ?_ | refine pauseRounds ?_)
      clear x11_0 x11_1 x11_2 x11_3 x11_4 x11_5
      refine Pause.mk ?_
      refine ret_span2 rfl g3 _ _ _ _ _ _ (by first | rfl | exact rfl) BX3.out rfl ?_
      exact ⟨_, rfl, HB12.out, (isSp_zero _)⟩
set_option maxRecDepth 100000 in
set_option maxHeartbeats 6400000 in
theorem smeet_2 (va : Value) (a : Rat × Rat) (vb : Value) (b : Rat × Rat) (w : World) (ha : SpIs w va a) (hb : SpIs w vb b) (la1 : rl a.1 ≤ 39000) (la2 : rl a.2 ≤ 39000) (lb1 : rl b.1 ≤ 39000) (lb2 : rl b.2 ≤ 39000) (h : mx ((a).1) ((b).1) ≤ mn ((a).2) ((b).2)) :
    Calls Tryd.prog 20 #[va, vb] w (RetSpE w (around2 (mx ((a).1) ((b).1)) (mn ((a).2) ((b).2))) (errV 0)) := by
  have HBW := Lib.hid (Below.refl w.heap.size w)
  have kz0 : rl 0 ≤ 1 := by rw [rl_zero]; exact Nat.le_refl _
  obtain ⟨qa, oa, na, ka, pa, ma, ra, qax, oax, nax, kax, pax, max, rax, rfl⟩ := ha.shape
  have hla := ha.rl; have hoa := ha.ok; obtain ⟨hlaa, hlab⟩ := hla
  have hoa := Lib.hid hoa
  obtain ⟨qb, ob, nb, kb, pb, mb, rb, qbx, obx, nbx, kbx, pbx, mbx, rbx, rfl⟩ := hb.shape
  have hlb := hb.rl; have hob := hb.ok; obtain ⟨hlba, hlbb⟩ := hlb
  have hob := Lib.hid hob
  rw [errV_zero]
  obtain ⟨n, hn⟩ : ∃ n, n = cq (mx ((a).1) ((b).1)) (mn ((a).2) ((b).2)) := ⟨_, rfl⟩
  have f1 : decide (0 < n) = false := by rw [hn]; exact decide_eq_false (fun k => by have := (cq_gt _ _).1 k; grind)
  have HN := Lib.hid hn; clear hn h
  have Fa := Lib.hid ha; clear ha
  have Fb := Lib.hid hb; clear hb
  obtain ⟨w1, hw1⟩ : ∃ w1, w1 = w.alloc (.cells #[.bool qa, .slice oa na ka, .slice pa ma ra, .bool qax, .slice oax nax kax, .slice pax max rax] 26) := ⟨_, rfl⟩
  have hb1 : Below w.heap.size w w1 := by rw [hw1]; exact (Below.refl _ _).alloc (Nat.le_refl _) _
  have hx1 := heap_alloc_new w (.cells #[.bool qa, .slice oa na ka, .slice pa ma ra, .bool qax, .slice oax nax kax, .slice pax max rax] 26)
  obtain ⟨g1, hg1⟩ : ∃ g, g = w.heap.size := ⟨_, rfl⟩
  rw [← hw1, ← hg1] at hx1
  have lw1 : w.heap.size ≤ g1 := by rw [hg1]; exact HBW.out.size
  have HW1 := Lib.hid hw1; have HG1 := Lib.hid hg1; clear hw1 hg1
  have HB1 := Lib.hid (HBW.out.step hb1)
  have Fa := Lib.hid (Fa.out.below hb1)
  have Fb := Lib.hid (Fb.out.below hb1)
  have BX1 := Lib.hid hx1; clear hb1 hx1
  obtain ⟨w2, hw2⟩ : ∃ w2, w2 = w1.alloc (.cells #[.bool qb, .slice ob nb kb, .slice pb mb rb, .bool qbx, .slice obx nbx kbx, .slice pbx mbx rbx] 26) := ⟨_, rfl⟩
  have hb2 : Below w1.heap.size w1 w2 := by rw [hw2]; exact (Below.refl _ _).alloc (Nat.le_refl _) _
  have hx2 := heap_alloc_new w1 (.cells #[.bool qb, .slice ob nb kb, .slice pb mb rb, .bool qbx, .slice obx nbx kbx, .slice pbx mbx rbx] 26)
  obtain ⟨g2, hg2⟩ : ∃ g, g = w1.heap.size := ⟨_, rfl⟩
  rw [← hw2, ← hg2] at hx2
  have lw2 : w.heap.size ≤ g2 := by rw [hg2]; exact HB1.out.size
  have ltBX12 : g1 < g2 := by rw [hg2]; exact below_lt BX1.out
  have hs2 : g2 = w.heap.size + 1 := by rw [hg2, HW1.out]; simp
  have HS2 := Lib.hid hs2; clear hs2
  have HW2 := Lib.hid hw2; have HG2 := Lib.hid hg2; clear hw2 hg2
  have HB2 := Lib.hid (HB1.out.step hb2)
  have Fa := Lib.hid (Fa.out.below hb2)
  have Fb := Lib.hid (Fb.out.below hb2)
  have BX1 := Lib.hid (heap_below BX1.out hb2)
  have BX2 := Lib.hid hx2; clear hb2 hx2
  obtain ⟨w3, hw3⟩ : ∃ w3, w3 = w2.alloc (.cells #[.bool false, .slice none 0 0, .slice none 0 0, .bool false, .slice none 0 0, .slice none 0 0] 26) := ⟨_, rfl⟩
  have hb3 : Below w2.heap.size w2 w3 := by rw [hw3]; exact (Below.refl _ _).alloc (Nat.le_refl _) _
  have hx3 := heap_alloc_new w2 (.cells #[.bool false, .slice none 0 0, .slice none 0 0, .bool false, .slice none 0 0, .slice none 0 0] 26)
  obtain ⟨g3, hg3⟩ : ∃ g, g = w2.heap.size := ⟨_, rfl⟩
  rw [← hw3, ← hg3] at hx3
  have lw3 : w.heap.size ≤ g3 := by rw [hg3]; exact HB2.out.size
  have ltBX13 : g1 < g3 := by rw [hg3]; exact below_lt BX1.out
  have ltBX23 : g2 < g3 := by rw [hg3]; exact below_lt BX2.out
  have hs3 : g3 = w.heap.size + 2 := by rw [hg3, HW2.out, HW1.out]; simp
  have HS3 := Lib.hid hs3; clear hs3
  have HW3 := Lib.hid hw3; have HG3 := Lib.hid hg3; clear hw3 hg3
  have HB3 := Lib.hid (HB2.out.step hb3)
  have Fa := Lib.hid (Fa.out.below hb3)
  have Fb := Lib.hid (Fb.out.below hb3)
  have BX1 := Lib.hid (heap_below BX1.out hb3)
  have BX2 := Lib.hid (heap_below BX2.out hb3)
  have BX3 := Lib.hid hx3; clear hb3 hx3
  go_enter Tryd.func20, Tryd.ntmps20
  go_wp2_with (with_reducible first | refine pauseCall ?_ | refine pauseLoop ?_ | refine pauseDraw ?_ | refine pauseBody ?_ | refine pauseRounds ?_)
  try rw [← HW1.out]
  try rw [← HW2.out]
  try rw [← HW3.out]
  try rw [← HS3.out]
  try rw [← HS2.out]
  try rw [← HG1.out]
  try rw [← HG2.out]
  try rw [← HG3.out]
  refine Pause.mk ?_
  refine wp_region_facts (A := ?aa1) (w := w3) 3 [] (by kernel_rfl) (Fl [KEq (.agg #[.bool qa, .slice oa na ka, .slice pa ma ra, .bool qax, .slice oax nax kax, .slice pax max rax]), KSp (a), KEq (.agg #[.bool qb, .slice ob nb kb, .slice pb mb rb, .bool qbx, .slice obx nbx kbx, .slice pbx mbx rbx])]) (fun i => false) (by kernel_rfl) ?hq1 (monoL (monoC (kEq _) (monoC (kSp _) (monoC (kEq _) monoN)))) ?ha1 ?st1 ?tl1
  case hq1 =>
    intro c a d v w h
    first | (simp only [Exit.then] at h ⊢; exact h) | (simp only [Exit.inBlock, Exit.then] at h ⊢; exact h) | exact h
  case ha1 =>
    intro vals
    simp only [putsTo, dstOf, if_true, Act.put, List.setIfInBounds_toArray, List.set_cons_zero, List.set_cons_succ, List.getElem?_toArray, List.getElem?_cons_zero, List.getElem?_cons_succ, Option.bind_some]
    exact rfl
  case st1 =>
    simp only [List.take_succ_cons, List.take_zero]
    refine stepsOK_cons rfl rfl ?_ (stepsOK_cons rfl rfl ?_ (stepsOK_cons rfl rfl ?_ (stepsOK_nil)))
    · intro vals w1 hb hd
      obtain ⟨e0, e1, e2, e3, e4, e5⟩ := row6 (heap_below BX1.out hb)
      refine stepOK_value (v := .agg #[.bool qa, .slice oa na ka, .slice pa ma ra, .bool qax, .slice oax nax kax, .slice pax max rax]) (w' := w1) (by go_simp) (leaves_mk (Below.refl _ _) rfl (fun h => by cases h))
    · intro vals w1 hb hd
      have d0 : KEq (.agg #[.bool qa, .slice oa na ka, .slice pa ma ra, .bool qax, .slice oax nax kax, .slice pax max rax]) (vals 0) w1 := hd 0 (by kernel_rfl)
      have z0 : vals 0 = _ := d0
      have hs := norm_any _ (a) w1 (Fa.out.below hb)
      have HS := Lib.hid hs; clear hs
      rw [z0]; clear z0
      clear d0 hd
      refine stepOK_call (by go_simp; first | done | exact ⟨⟨rfl, rfl⟩, rfl⟩) ?_
      (with_reducible refine HS.out.mono ?_); rintro e w2 ⟨v, rfl, hb2, hn⟩
      exact ⟨v, rfl, leaves_mk hb2 hn (fun h => by cases h)⟩
    · intro vals w1 hb hd
      obtain ⟨e0, e1, e2, e3, e4, e5⟩ := row6 (heap_below BX2.out hb)
      refine stepOK_value (v := .agg #[.bool qb, .slice ob nb kb, .slice pb mb rb, .bool qbx, .slice obx nbx kbx, .slice pbx mbx rbx]) (w' := w1) (by go_simp) (leaves_mk (Below.refl _ _) rfl (fun h => by cases h))
  case tl1 =>
    intro vals w4 hb4 hf hdis
    simp only [List.drop_succ_cons, List.drop_zero]
    obtain ⟨u1_1, hu1⟩ : ∃ u, u = vals 1 := ⟨_, rfl⟩
    have hn1_1 : IsSp w4 (vals 1) (a) := hf 1 (by decide)
    rw [← hu1] at hn1_1 ⊢; clear hu1
    have z2 : vals 2 = _ := hf 2 (by decide)
    try rw [z2]
    clear z2
    clear hf hdis
    have HB4 := Lib.hid (HB3.out.step hb4)
    have Fa := Lib.hid (Fa.out.below hb4)
    have Fb := Lib.hid (Fb.out.below hb4)
    have BX1 := Lib.hid (heap_below BX1.out hb4)
    have BX2 := Lib.hid (heap_below BX2.out hb4)
    have BX3 := Lib.hid (heap_below BX3.out hb4)
    clear hb4
    have N1_1 := Lib.hid hn1_1; clear hn1_1
    obtain ⟨s2, o2, n2, c2, a2, m2, d2, s2x, o2x, n2x, c2x, a2x, m2x, d2x, rfl⟩ := N1_1.out.shape
    have N1_1l := Lib.hid (isSp_ends N1_1.out).1; have N1_1h := Lib.hid (isSp_ends N1_1.out).2
    skip
    have hs := norm_any _ (b) w4 Fb.out
    have HS := Lib.hid hs; clear hs
    go_wp2_with (with_reducible first | refine pauseCall ?_ | refine pauseLoop ?_ | refine pauseDraw ?_ | refine pauseBody ?_ | refine pauseRounds ?_)
    refine Pause.mk ?_
    (with_reducible refine HS.out.mono ?_); rintro e w5 ⟨v5, rfl, hb5, hn5⟩
    clear HS
    have HB5 := Lib.hid (HB4.out.step hb5)
    have Fa := Lib.hid (Fa.out.below hb5)
    have Fb := Lib.hid (Fb.out.below hb5)
    have N1_1 := Lib.hid (N1_1.out.below hb5)
    have N1_1l := Lib.hid (N1_1l.out.below hb5)
    have N1_1h := Lib.hid (N1_1h.out.below hb5)
    have BX1 := Lib.hid (heap_below BX1.out hb5)
    have BX2 := Lib.hid (heap_below BX2.out hb5)
    have BX3 := Lib.hid (heap_below BX3.out hb5)
    have N5 := Lib.hid hn5; clear hn5
    obtain ⟨s3, o3, n3, c3, a3, m3, d3, s3x, o3x, n3x, c3x, a3x, m3x, d3x, rfl⟩ := N5.out.shape
    have N5l := Lib.hid (isSp_ends N5.out).1; have N5h := Lib.hid (isSp_ends N5.out).2
    clear hb5
    go_wp2_with (with_reducible refine wpList_pauseS ?_)
    refine wpList_stL g1 0 [.bool s2, .slice o2 n2 c2, .slice a2 m2 d2, .bool s2x, .slice o2x n2x c2x, .slice a2x m2x d2x] BX1.out rfl rfl (Nat.le_of_ble_eq_true rfl) (by kernel_rfl) rfl ?_
    intro w6 hp6
    have Fa := Lib.hid (putL_SS hp6 Fa.out BX1.out noW6)
    have Fb := Lib.hid (putL_SS hp6 Fb.out BX1.out noW6)
    have N1_1 := Lib.hid (putL_SI hp6 N1_1.out BX1.out noW6)
    have N1_1l := Lib.hid (putL_I hp6 N1_1l.out BX1.out noW6)
    have N1_1h := Lib.hid (putL_I hp6 N1_1h.out BX1.out noW6)
    have N5 := Lib.hid (putL_SI hp6 N5.out BX1.out noW6)
    have N5l := Lib.hid (putL_I hp6 N5l.out BX1.out noW6)
    have N5h := Lib.hid (putL_I hp6 N5h.out BX1.out noW6)
    have BX2 := Lib.hid (putLx hp6 BX2.out (by omega))
    have BX3 := Lib.hid (putLx hp6 BX3.out (by omega))
    have nx6 : w6.heap[g1]? = some (.cells #[.bool s2, .slice o2 n2 c2, .slice a2 m2 d2, .bool s2x, .slice o2x n2x c2x, .slice a2x m2x d2x] 26) := by rw [hp6]; exact putL_6 BX1.out
    have BX1 := Lib.hid nx6; clear nx6
    have HB6 := Lib.hid (putLb hp6 HB5.out (by omega))
    clear hp6
    go_wp2_with (with_reducible refine wpList_pauseS ?_)
    refine wpList_stL g2 0 [.bool s3, .slice o3 n3 c3, .slice a3 m3 d3, .bool s3x, .slice o3x n3x c3x, .slice a3x m3x d3x] BX2.out rfl rfl (Nat.le_of_ble_eq_true rfl) (by kernel_rfl) rfl ?_
    intro w7 hp7
    have Fa := Lib.hid (putL_SS hp7 Fa.out BX2.out noW6)
    have Fb := Lib.hid (putL_SS hp7 Fb.out BX2.out noW6)
    have N1_1 := Lib.hid (putL_SI hp7 N1_1.out BX2.out noW6)
    have N1_1l := Lib.hid (putL_I hp7 N1_1l.out BX2.out noW6)
    have N1_1h := Lib.hid (putL_I hp7 N1_1h.out BX2.out noW6)
    have N5 := Lib.hid (putL_SI hp7 N5.out BX2.out noW6)
    have N5l := Lib.hid (putL_I hp7 N5l.out BX2.out noW6)
    have N5h := Lib.hid (putL_I hp7 N5h.out BX2.out noW6)
    have BX1 := Lib.hid (putLx hp7 BX1.out (by omega))
    have BX3 := Lib.hid (putLx hp7 BX3.out (by omega))
    have nx7 : w7.heap[g2]? = some (.cells #[.bool s3, .slice o3 n3 c3, .slice a3 m3 d3, .bool s3x, .slice o3x n3x c3x, .slice a3x m3x d3x] 26) := by rw [hp7]; exact putL_6 BX2.out
    have BX2 := Lib.hid nx7; clear nx7
    have HB7 := Lib.hid (putLb hp7 HB6.out (by omega))
    clear hp7
    go_wp2_with (with_reducible first | refine pauseCall ?_ | refine pauseLoop ?_ | refine pauseDraw ?_ | refine pauseBody ?_ | refine pauseRounds ?_)
    refine Pause.mk ?_
    have k4 := rl_mx ((a).1) ((b).1)
    have k5 := rl_mn ((a).2) ((b).2)
    refine wp_region_facts (A := ?aa6) (w := w7) 12 [] (by kernel_rfl) (Fl [KEq (.pointer (some ⟨g1, 0, none⟩)), KEq (.agg #[.bool s2, .slice o2 n2 c2, .slice a2 m2 d2]), KEq (.pointer (some ⟨g2, 0, none⟩)), KEq (.agg #[.bool s3, .slice o3 n3 c3, .slice a3 m3 d3]), KIs (mx ((a).1) ((b).1)), KEq (.pointer (some ⟨g1, 3, none⟩)), KEq (.agg #[.bool s2x, .slice o2x n2x c2x, .slice a2x m2x d2x]), KEq (.pointer (some ⟨g2, 3, none⟩)), KEq (.agg #[.bool s3x, .slice o3x n3x c3x, .slice a3x m3x d3x]), KIs (mn ((a).2) ((b).2)), KNew w7.heap.size #[.bool false, .slice none 0 0, .slice none 0 0] 24, KNew w7.heap.size #[.bool false, .slice none 0 0, .slice none 0 0] 24]) (fun i => i == 10 || i == 11) (by kernel_rfl) ?hq6 (monoL (monoC (kEq _) (monoC (kEq _) (monoC (kEq _) (monoC (kEq _) (monoC (kIs _) (monoC (kEq _) (monoC (kEq _) (monoC (kEq _) (monoC (kEq _) (monoC (kIs _) (monoC (kNew _ _ _) (monoC (kNew _ _ _) monoN))))))))))))) ?ha6 ?st6 ?tl6
    case hq6 =>
      intro c a d v w h
      first | (simp only [Exit.then] at h ⊢; exact h) | (simp only [Exit.inBlock, Exit.then] at h ⊢; exact h) | exact h
    case ha6 =>
      intro vals
      simp only [putsTo, dstOf, if_true, Act.put, List.setIfInBounds_toArray, List.set_cons_zero, List.set_cons_succ, List.getElem?_toArray, List.getElem?_cons_zero, List.getElem?_cons_succ, Option.bind_some]
      exact rfl
    case st6 =>
      simp only [List.take_succ_cons, List.take_zero]
      refine stepsOK_cons rfl rfl ?_ (stepsOK_cons rfl rfl ?_ (stepsOK_cons rfl rfl ?_ (stepsOK_cons rfl rfl ?_ (stepsOK_cons rfl rfl ?_ (stepsOK_cons rfl rfl ?_ (stepsOK_cons rfl rfl ?_ (stepsOK_cons rfl rfl ?_ (stepsOK_cons rfl rfl ?_ (stepsOK_cons rfl rfl ?_ (stepsOK_cons rfl rfl ?_ (stepsOK_cons rfl rfl ?_ (stepsOK_nil))))))))))))
      · intro vals w1 hb hd
        refine stepOK_value (v := (.pointer (some ⟨g1, 0, none⟩))) (w' := w1) (by go_simp) (leaves_mk (Below.refl _ _) rfl (fun h => by cases h))
      · intro vals w1 hb hd
        have d0 : KEq (.pointer (some ⟨g1, 0, none⟩)) (vals 0) w1 := hd 0 (by kernel_rfl)
        rw [show vals 0 = _ from d0]
        obtain ⟨e0, e1, e2, e3, e4, e5⟩ := row6 (heap_below BX1.out hb)
        refine stepOK_value (v := .agg #[.bool s2, .slice o2 n2 c2, .slice a2 m2 d2]) (w' := w1) (by go_simp) (leaves_mk (Below.refl _ _) rfl (fun h => by cases h))
      · intro vals w1 hb hd
        refine stepOK_value (v := (.pointer (some ⟨g2, 0, none⟩))) (w' := w1) (by go_simp) (leaves_mk (Below.refl _ _) rfl (fun h => by cases h))
      · intro vals w1 hb hd
        have d2 : KEq (.pointer (some ⟨g2, 0, none⟩)) (vals 2) w1 := hd 2 (by kernel_rfl)
        rw [show vals 2 = _ from d2]
        obtain ⟨e0, e1, e2, e3, e4, e5⟩ := row6 (heap_below BX2.out hb)
        refine stepOK_value (v := .agg #[.bool s3, .slice o3 n3 c3, .slice a3 m3 d3]) (w' := w1) (by go_simp) (leaves_mk (Below.refl _ _) rfl (fun h => by cases h))
      · intro vals w1 hb hd
        have d1 : KEq (.agg #[.bool s2, .slice o2 n2 c2, .slice a2 m2 d2]) (vals 1) w1 := hd 1 (by kernel_rfl)
        have d3 : KEq (.agg #[.bool s3, .slice o3 n3 c3, .slice a3 m3 d3]) (vals 3) w1 := hd 3 (by kernel_rfl)
        have z1 : vals 1 = _ := d1
        have z3 : vals 3 = _ := d3
        have hs := maxq_any _ ((a).1) _ ((b).1) w1 ((N1_1l.out.below hb).is (by omega)) ((N5l.out.below hb).is (by omega)) (by omega) (by omega)
        have HS := Lib.hid hs; clear hs
        rw [z1]; clear z1
        rw [z3]; clear z3
        clear d1 d3 hd
        refine stepOK_call (by go_simp; first | done | exact ⟨⟨rfl, rfl⟩, rfl⟩) ?_
        (with_reducible refine HS.out.mono ?_); rintro e w2 ⟨v, rfl, hb2, hn⟩
        exact ⟨v, rfl, leaves_mk hb2 hn (fun h => by cases h)⟩
      · intro vals w1 hb hd
        refine stepOK_value (v := (.pointer (some ⟨g1, 3, none⟩))) (w' := w1) (by go_simp) (leaves_mk (Below.refl _ _) rfl (fun h => by cases h))
      · intro vals w1 hb hd
        have d5 : KEq (.pointer (some ⟨g1, 3, none⟩)) (vals 5) w1 := hd 5 (by kernel_rfl)
        rw [show vals 5 = _ from d5]
        obtain ⟨e0, e1, e2, e3, e4, e5⟩ := row6 (heap_below BX1.out hb)
        refine stepOK_value (v := .agg #[.bool s2x, .slice o2x n2x c2x, .slice a2x m2x d2x]) (w' := w1) (by go_simp) (leaves_mk (Below.refl _ _) rfl (fun h => by cases h))
      · intro vals w1 hb hd
        refine stepOK_value (v := (.pointer (some ⟨g2, 3, none⟩))) (w' := w1) (by go_simp) (leaves_mk (Below.refl _ _) rfl (fun h => by cases h))
      · intro vals w1 hb hd
        have d7 : KEq (.pointer (some ⟨g2, 3, none⟩)) (vals 7) w1 := hd 7 (by kernel_rfl)
        rw [show vals 7 = _ from d7]
        obtain ⟨e0, e1, e2, e3, e4, e5⟩ := row6 (heap_below BX2.out hb)
        refine stepOK_value (v := .agg #[.bool s3x, .slice o3x n3x c3x, .slice a3x m3x d3x]) (w' := w1) (by go_simp) (leaves_mk (Below.refl _ _) rfl (fun h => by cases h))
      · intro vals w1 hb hd
        have d6 : KEq (.agg #[.bool s2x, .slice o2x n2x c2x, .slice a2x m2x d2x]) (vals 6) w1 := hd 6 (by kernel_rfl)
        have d8 : KEq (.agg #[.bool s3x, .slice o3x n3x c3x, .slice a3x m3x d3x]) (vals 8) w1 := hd 8 (by kernel_rfl)
        have z6 : vals 6 = _ := d6
        have z8 : vals 8 = _ := d8
        have hs := minq_any _ ((a).2) _ ((b).2) w1 ((N1_1h.out.below hb).is (by omega)) ((N5h.out.below hb).is (by omega)) (by omega) (by omega)
        have HS := Lib.hid hs; clear hs
        rw [z6]; clear z6
        rw [z8]; clear z8
        clear d6 d8 hd
        refine stepOK_call (by go_simp; first | done | exact ⟨⟨rfl, rfl⟩, rfl⟩) ?_
        (with_reducible refine HS.out.mono ?_); rintro e w2 ⟨v, rfl, hb2, hn⟩
        exact ⟨v, rfl, leaves_mk hb2 hn (fun h => by cases h)⟩
      · intro vals w1 hb hd
        refine stepOK_value (v := .pointer (some ⟨w1.heap.size, 0, none⟩)) (w' := w1.alloc (.cells #[.bool false, .slice none 0 0, .slice none 0 0] 24)) (by go_simp) (leaves_mk ((Below.refl _ _).alloc (Nat.le_refl _) _) ⟨_, hb.size, rfl, heap_alloc_new _ _⟩ (fun _ => ⟨rfl, by simp⟩))
      · intro vals w1 hb hd
        refine stepOK_value (v := .pointer (some ⟨w1.heap.size, 0, none⟩)) (w' := w1.alloc (.cells #[.bool false, .slice none 0 0, .slice none 0 0] 24)) (by go_simp) (leaves_mk ((Below.refl _ _).alloc (Nat.le_refl _) _) ⟨_, hb.size, rfl, heap_alloc_new _ _⟩ (fun _ => ⟨rfl, by simp⟩))
    case tl6 =>
      intro vals w8 hb8 hf hdis
      simp only [List.drop_succ_cons, List.drop_zero]
      obtain ⟨u6_4, hu4⟩ : ∃ u, u = vals 4 := ⟨_, rfl⟩
      have hn6_4 : IsR w8 (vals 4) (mx ((a).1) ((b).1)) := hf 4 (by decide)
      rw [← hu4] at hn6_4 ⊢; clear hu4
      obtain ⟨u6_9, hu9⟩ : ∃ u, u = vals 9 := ⟨_, rfl⟩
      have hn6_9 : IsR w8 (vals 9) (mn ((a).2) ((b).2)) := hf 9 (by decide)
      rw [← hu9] at hn6_9 ⊢; clear hu9
      obtain ⟨g6_10, hg6_10, ev10, hz6_10⟩ : KNew w7.heap.size #[.bool false, .slice none 0 0, .slice none 0 0] 24 (vals 10) w8 := hf 10 (by decide)
      have eq10 := ev10
      rw [ev10]; clear ev10
      have lw6_10 : w.heap.size ≤ g6_10 := Nat.le_trans HB7.out.size hg6_10
      have ltBX16_10 : g1 < g6_10 := Nat.lt_of_lt_of_le (below_lt BX1.out) hg6_10
      have ltBX26_10 : g2 < g6_10 := Nat.lt_of_lt_of_le (below_lt BX2.out) hg6_10
      have ltBX36_10 : g3 < g6_10 := Nat.lt_of_lt_of_le (below_lt BX3.out) hg6_10
      obtain ⟨g6_11, hg6_11, ev11, hz6_11⟩ : KNew w7.heap.size #[.bool false, .slice none 0 0, .slice none 0 0] 24 (vals 11) w8 := hf 11 (by decide)
      have ne10_11 : g6_10 ≠ g6_11 := fun e => hdis 10 11 (by decide) (by decide) (by decide) (by decide) (by decide) (by rw [eq10, ev11, e])
      have eq11 := ev11
      rw [ev11]; clear ev11
      have lw6_11 : w.heap.size ≤ g6_11 := Nat.le_trans HB7.out.size hg6_11
      have ltBX16_11 : g1 < g6_11 := Nat.lt_of_lt_of_le (below_lt BX1.out) hg6_11
      have ltBX26_11 : g2 < g6_11 := Nat.lt_of_lt_of_le (below_lt BX2.out) hg6_11
      have ltBX36_11 : g3 < g6_11 := Nat.lt_of_lt_of_le (below_lt BX3.out) hg6_11
      clear hf hdis eq10 eq11
      have HB8 := Lib.hid (HB7.out.step hb8)
      have Fa := Lib.hid (Fa.out.below hb8)
      have Fb := Lib.hid (Fb.out.below hb8)
      have N1_1 := Lib.hid (N1_1.out.below hb8)
      have N1_1l := Lib.hid (N1_1l.out.below hb8)
      have N1_1h := Lib.hid (N1_1h.out.below hb8)
      have N5 := Lib.hid (N5.out.below hb8)
      have N5l := Lib.hid (N5l.out.below hb8)
      have N5h := Lib.hid (N5h.out.below hb8)
      have BX1 := Lib.hid (heap_below BX1.out hb8)
      have BX2 := Lib.hid (heap_below BX2.out hb8)
      have BX3 := Lib.hid (heap_below BX3.out hb8)
      clear hb8
      have BX6_10 := Lib.hid hz6_10; clear hz6_10 hg6_10
      have BX6_11 := Lib.hid hz6_11; clear hz6_11 hg6_11
      have N6_4 := Lib.hid hn6_4; clear hn6_4
      obtain ⟨s7, o7, n7, c7, a7, m7, d7, rfl⟩ := N6_4.out.shape
      have N6_9 := Lib.hid hn6_9; clear hn6_9
      obtain ⟨s8, o8, n8, c8, a8, m8, d8, rfl⟩ := N6_9.out.shape
      skip
      go_wp2_with (with_reducible refine wpList_pauseS ?_)
      refine wpList_stL g6_10 0 [.bool s7, .slice o7 n7 c7, .slice a7 m7 d7] BX6_10.out rfl rfl (Nat.le_of_ble_eq_true rfl) (by kernel_rfl) rfl ?_
      intro w9 hp9
      have Fa := Lib.hid (putL_SS hp9 Fa.out BX6_10.out noW3)
      have Fb := Lib.hid (putL_SS hp9 Fb.out BX6_10.out noW3)
      have N1_1 := Lib.hid (putL_SI hp9 N1_1.out BX6_10.out noW3)
      have N1_1l := Lib.hid (putL_I hp9 N1_1l.out BX6_10.out noW3)
      have N1_1h := Lib.hid (putL_I hp9 N1_1h.out BX6_10.out noW3)
      have N5 := Lib.hid (putL_SI hp9 N5.out BX6_10.out noW3)
      have N5l := Lib.hid (putL_I hp9 N5l.out BX6_10.out noW3)
      have N5h := Lib.hid (putL_I hp9 N5h.out BX6_10.out noW3)
      have N6_4 := Lib.hid (putL_I hp9 N6_4.out BX6_10.out noW3)
      have N6_9 := Lib.hid (putL_I hp9 N6_9.out BX6_10.out noW3)
      have BX1 := Lib.hid (putLx hp9 BX1.out (by omega))
      have BX2 := Lib.hid (putLx hp9 BX2.out (by omega))
      have BX3 := Lib.hid (putLx hp9 BX3.out (by omega))
      have BX6_11 := Lib.hid (putLx hp9 BX6_11.out (by omega))
      have nx9 : w9.heap[g6_10]? = some (.cells #[.bool s7, .slice o7 n7 c7, .slice a7 m7 d7] 24) := by rw [hp9]; exact putL_r BX6_10.out
      have BX6_10 := Lib.hid nx9; clear nx9
      have HB9 := Lib.hid (putLb hp9 HB8.out (by omega))
      clear hp9
      go_wp2_with (with_reducible refine wpList_pauseS ?_)
      refine wpList_stL g6_11 0 [.bool s8, .slice o8 n8 c8, .slice a8 m8 d8] BX6_11.out rfl rfl (Nat.le_of_ble_eq_true rfl) (by kernel_rfl) rfl ?_
      intro w10 hp10
      have Fa := Lib.hid (putL_SS hp10 Fa.out BX6_11.out noW3)
      have Fb := Lib.hid (putL_SS hp10 Fb.out BX6_11.out noW3)
      have N1_1 := Lib.hid (putL_SI hp10 N1_1.out BX6_11.out noW3)
      have N1_1l := Lib.hid (putL_I hp10 N1_1l.out BX6_11.out noW3)
      have N1_1h := Lib.hid (putL_I hp10 N1_1h.out BX6_11.out noW3)
      have N5 := Lib.hid (putL_SI hp10 N5.out BX6_11.out noW3)
      have N5l := Lib.hid (putL_I hp10 N5l.out BX6_11.out noW3)
      have N5h := Lib.hid (putL_I hp10 N5h.out BX6_11.out noW3)
      have N6_4 := Lib.hid (putL_I hp10 N6_4.out BX6_11.out noW3)
      have N6_9 := Lib.hid (putL_I hp10 N6_9.out BX6_11.out noW3)
      have BX1 := Lib.hid (putLx hp10 BX1.out (by omega))
      have BX2 := Lib.hid (putLx hp10 BX2.out (by omega))
      have BX3 := Lib.hid (putLx hp10 BX3.out (by omega))
      have BX6_10 := Lib.hid (putLx hp10 BX6_10.out (by omega))
      have nx10 : w10.heap[g6_11]? = some (.cells #[.bool s8, .slice o8 n8 c8, .slice a8 m8 d8] 24) := by rw [hp10]; exact putL_r BX6_11.out
      have BX6_11 := Lib.hid nx10; clear nx10
      have HB10 := Lib.hid (putLb hp10 HB9.out (by omega))
      clear hp10
      obtain ⟨x9_0, x9_1, x9_2⟩ := row3 BX6_10.out
      obtain ⟨x10_0, x10_1, x10_2⟩ := row3 BX6_11.out
      have hs := cmpq_any _ (mx ((a).1) ((b).1)) _ (mn ((a).2) ((b).2)) w10 (N6_4.out.is (by omega)) (N6_9.out.is (by omega)) (by omega) (by omega)
      rw [← HN.out] at hs
      have HS := Lib.hid hs; clear hs
      go_wp2_with (with_reducible first | refine pauseCall ?_ | refine pauseLoop ?_ | refine pauseDraw ?_ | refine pauseBody ?_ | refine pauseRounds ?_)
      clear x9_0 x9_1 x9_2 x10_0 x10_1 x10_2
      refine Pause.mk ?_
      (with_reducible refine HS.out.mono ?_); rintro e w11 ⟨rfl, hb11⟩
      clear HS
      have HB11 := Lib.hid (HB10.out.step hb11)
      have Fa := Lib.hid (Fa.out.below hb11)
      have Fb := Lib.hid (Fb.out.below hb11)
      have N1_1 := Lib.hid (N1_1.out.below hb11)
      have N1_1l := Lib.hid (N1_1l.out.below hb11)
      have N1_1h := Lib.hid (N1_1h.out.below hb11)
      have N5 := Lib.hid (N5.out.below hb11)
      have N5l := Lib.hid (N5l.out.below hb11)
      have N5h := Lib.hid (N5h.out.below hb11)
      have N6_4 := Lib.hid (N6_4.out.below hb11)
      have N6_9 := Lib.hid (N6_9.out.below hb11)
      have BX1 := Lib.hid (heap_below BX1.out hb11)
      have BX2 := Lib.hid (heap_below BX2.out hb11)
      have BX3 := Lib.hid (heap_below BX3.out hb11)
      have BX6_10 := Lib.hid (heap_below BX6_10.out hb11)
      have BX6_11 := Lib.hid (heap_below BX6_11.out hb11)
      clear hb11
      obtain ⟨x11_0, x11_1, x11_2⟩ := row3 BX6_10.out
      obtain ⟨x12_0, x12_1, x12_2⟩ := row3 BX6_11.out
      obtain ⟨w12, hw12⟩ : ∃ w12, w12 = w11.alloc (.cells #[.bool s7, .slice o7 n7 c7, .slice a7 m7 d7, .bool s8, .slice o8 n8 c8, .slice a8 m8 d8] 24) := ⟨_, rfl⟩
      have hb12 : Below w11.heap.size w11 w12 := by rw [hw12]; exact (Below.refl _ _).alloc (Nat.le_refl _) _
      have hx12 := heap_alloc_new w11 (.cells #[.bool s7, .slice o7 n7 c7, .slice a7 m7 d7, .bool s8, .slice o8 n8 c8, .slice a8 m8 d8] 24)
      obtain ⟨g12, hg12⟩ : ∃ g, g = w11.heap.size := ⟨_, rfl⟩
      rw [← hw12, ← hg12] at hx12
      have lw12 : w.heap.size ≤ g12 := by rw [hg12]; exact HB11.out.size
      have ltBX112 : g1 < g12 := by rw [hg12]; exact below_lt BX1.out
      have ltBX212 : g2 < g12 := by rw [hg12]; exact below_lt BX2.out
      have ltBX312 : g3 < g12 := by rw [hg12]; exact below_lt BX3.out
      have ltBX6_1012 : g6_10 < g12 := by rw [hg12]; exact below_lt BX6_10.out
      have ltBX6_1112 : g6_11 < g12 := by rw [hg12]; exact below_lt BX6_11.out
      have HW12 := Lib.hid hw12; have HG12 := Lib.hid hg12; clear hw12 hg12
      have HB12 := Lib.hid (HB11.out.step hb12)
      have Fa := Lib.hid (Fa.out.below hb12)
      have Fb := Lib.hid (Fb.out.below hb12)
      have N1_1 := Lib.hid (N1_1.out.below hb12)
      have N1_1l := Lib.hid (N1_1l.out.below hb12)
      have N1_1h := Lib.hid (N1_1h.out.below hb12)
      have N5 := Lib.hid (N5.out.below hb12)
      have N5l := Lib.hid (N5l.out.below hb12)
      have N5h := Lib.hid (N5h.out.below hb12)
      have N6_4 := Lib.hid (N6_4.out.below hb12)
      have N6_9 := Lib.hid (N6_9.out.below hb12)
      have BX1 := Lib.hid (heap_below BX1.out hb12)
      have BX2 := Lib.hid (heap_below BX2.out hb12)
      have BX3 := Lib.hid (heap_below BX3.out hb12)
      have BX6_10 := Lib.hid (heap_below BX6_10.out hb12)
      have BX6_11 := Lib.hid (heap_below BX6_11.out hb12)
      have BX12 := Lib.hid hx12; clear hb12 hx12
      obtain ⟨k13, k14⟩ := rl_around2 (mx ((a).1) ((b).1)) (mn ((a).2) ((b).2))
      have hs := of2 w12 BX12.out (N6_4.out.is (by omega)) (by omega) (N6_9.out.is (by omega)) (by omega)
      have HS := Lib.hid hs; clear hs
      try rw [HG12.out] at x11_0
      try rw [HG12.out] at x11_1
      try rw [HG12.out] at x11_2
      try rw [HG12.out] at x12_0
      try rw [HG12.out] at x12_1
      try rw [HG12.out] at x12_2
      go_wp2_with (with_reducible first | refine pauseCall ?_ | refine pauseLoop ?_ | refine pauseDraw ?_ | refine pauseBody ?_ | refine pauseRounds ?_)
      try rw [← HW12.out]
      try rw [← HG12.out]
      clear x11_0 x11_1 x11_2 x12_0 x12_1 x12_2
      refine Pause.mk ?_
      (with_reducible refine HS.out.mono ?_); rintro e w13 ⟨v13, rfl, hb13, hn13⟩
      clear HS
      have HB13 := Lib.hid (HB12.out.step hb13)
      have Fa := Lib.hid (Fa.out.below hb13)
      have Fb := Lib.hid (Fb.out.below hb13)
      have N1_1 := Lib.hid (N1_1.out.below hb13)
      have N1_1l := Lib.hid (N1_1l.out.below hb13)
      have N1_1h := Lib.hid (N1_1h.out.below hb13)
      have N5 := Lib.hid (N5.out.below hb13)
      have N5l := Lib.hid (N5l.out.below hb13)
      have N5h := Lib.hid (N5h.out.below hb13)
      have N6_4 := Lib.hid (N6_4.out.below hb13)
      have N6_9 := Lib.hid (N6_9.out.below hb13)
      have BX1 := Lib.hid (heap_below BX1.out hb13)
      have BX2 := Lib.hid (heap_below BX2.out hb13)
      have BX3 := Lib.hid (heap_below BX3.out hb13)
      have BX6_10 := Lib.hid (heap_below BX6_10.out hb13)
      have BX6_11 := Lib.hid (heap_below BX6_11.out hb13)
      have BX12 := Lib.hid (heap_below BX12.out hb13)
      clear BX12
      have N13 := Lib.hid hn13; clear hn13
      obtain ⟨s15, o15, n15, c15, a15, m15, d15, s15x, o15x, n15x, c15x, a15x, m15x, d15x, rfl⟩ := N13.out.shape
      have N13l := Lib.hid (isSp_ends N13.out).1; have N13h := Lib.hid (isSp_ends N13.out).2
      clear hb13
      go_wp2_with (with_reducible refine wpList_pauseS ?_)
      refine wpList_stL g3 0 [.bool s15, .slice o15 n15 c15, .slice a15 m15 d15, .bool s15x, .slice o15x n15x c15x, .slice a15x m15x d15x] BX3.out rfl rfl (Nat.le_of_ble_eq_true rfl) (by kernel_rfl) rfl ?_
      intro w14 hp14
      have Fa := Lib.hid (putL_SS hp14 Fa.out BX3.out noW6)
      have Fb := Lib.hid (putL_SS hp14 Fb.out BX3.out noW6)
      have N1_1 := Lib.hid (putL_SI hp14 N1_1.out BX3.out noW6)
      have N1_1l := Lib.hid (putL_I hp14 N1_1l.out BX3.out noW6)
      have N1_1h := Lib.hid (putL_I hp14 N1_1h.out BX3.out noW6)
      have N5 := Lib.hid (putL_SI hp14 N5.out BX3.out noW6)
      have N5l := Lib.hid (putL_I hp14 N5l.out BX3.out noW6)
      have N5h := Lib.hid (putL_I hp14 N5h.out BX3.out noW6)
      have N6_4 := Lib.hid (putL_I hp14 N6_4.out BX3.out noW6)
      have N6_9 := Lib.hid (putL_I hp14 N6_9.out BX3.out noW6)
      have N13 := Lib.hid (putL_SI hp14 N13.out BX3.out noW6)
      have N13l := Lib.hid (putL_I hp14 N13l.out BX3.out noW6)
      have N13h := Lib.hid (putL_I hp14 N13h.out BX3.out noW6)
      have BX1 := Lib.hid (putLx hp14 BX1.out (by omega))
      have BX2 := Lib.hid (putLx hp14 BX2.out (by omega))
      have BX6_10 := Lib.hid (putLx hp14 BX6_10.out (by omega))
      have BX6_11 := Lib.hid (putLx hp14 BX6_11.out (by omega))
      have nx14 : w14.heap[g3]? = some (.cells #[.bool s15, .slice o15 n15 c15, .slice a15 m15 d15, .bool s15x, .slice o15x n15x c15x, .slice a15x m15x d15x] 26) := by rw [hp14]; exact putL_6 BX3.out
      have BX3 := Lib.hid nx14; clear nx14
      have HB14 := Lib.hid (putLb hp14 HB13.out (by omega))
      clear hp14
      obtain ⟨x16_0, x16_1, x16_2, x16_3, x16_4, x16_5⟩ := row6 BX3.out
      go_wp2_with (with_reducible first | refine pauseCall ?_ | refine pauseLoop ?_ | refine pauseDraw ?_ | refine pauseBody ?_ | refine pauseRounds ?_)
      clear x16_0 x16_1 x16_2 x16_3 x16_4 x16_5
      refine Pause.mk ?_
      refine ret_span2 rfl g3 _ _ _ _ _ _ (by first | rfl | exact rfl) BX3.out rfl ?_
      exact ⟨_, rfl, HB14.out, N13.out⟩
theorem smeet_any (va : Value) (a : Rat × Rat) (vb : Value) (b : Rat × Rat) (w : World) (ha : SpIs w va a) (hb : SpIs w vb b) (la1 : rl a.1 ≤ 39000) (la2 : rl a.2 ≤ 39000) (lb1 : rl b.1 ≤ 39000) (lb2 : rl b.2 ≤ 39000) :
    Calls Tryd.prog 20 #[va, vb] w (RetSpE w (stV a b) (errV (stC a b))) := by
  unfold stV stC
  by_cases h : (sMeet a b).1 ≤ (sMeet a b).2
  · rw [if_pos h, if_pos h]
    have k := smeet_2 va a vb b w ha hb la1 la2 lb1 lb2 h
    rw [show around2 (mx ((a).1) ((b).1)) (mn ((a).2) ((b).2)) = sMeet a b from around2_le h] at k; exact k
  · rw [if_neg h, if_neg h]; exact smeet_1 va a vb b w ha hb la1 la2 lb1 lb2 h
end Go.Proofs.YtaefimegiobkmaaDoor
/-
  faultlinelaw03.in: a number of an interval.
  Conditions: each theorem's own.
-/
namespace Go.Proofs.YtaefimegiobkmaaDoor
open Go.RowKit Go.ChangeShapes Go.WideShapes

/-- a fact that holds where a test turned out so -/
def KIf (b want : Bool) (K : Value → World → Prop) : Value → World → Prop := fun v w => b = want → K v w
theorem kIf (b want : Bool) {K : Value → World → Prop} (hk : MonoF K) : MonoF (KIf b want K) := fun v w1 w2 h hb e => hk v w1 w2 (h e) hb
theorem row2 {w : World} {g : Nat} {x0 x1 : Value} {T : TypeId} (h : w.heap[g]? = some (.cells #[x0, x1] T)) : w.cell? ⟨g, 0, none⟩ = some x0 ∧ w.cell? ⟨g, 1, none⟩ = some x1 :=
  ⟨cell_of_row _ _ _ _ _ _ h, cell_of_row _ _ _ _ _ _ h⟩
theorem row4 {w : World} {g : Nat} {x0 x1 x2 x3 : Value} {T : TypeId} (h : w.heap[g]? = some (.cells #[x0, x1, x2, x3] T)) : w.cell? ⟨g, 0, none⟩ = some x0 ∧ w.cell? ⟨g, 1, none⟩ = some x1 ∧ w.cell? ⟨g, 2, none⟩ = some x2 ∧ w.cell? ⟨g, 3, none⟩ = some x3 :=
  ⟨cell_of_row _ _ _ _ _ _ h, cell_of_row _ _ _ _ _ _ h, cell_of_row _ _ _ _ _ _ h, cell_of_row _ _ _ _ _ _ h⟩
theorem errV_8 : errV 8 = .iface 41 (.int .i64 8) := rfl
theorem errV_17 : errV 17 = .iface 41 (.int .i64 17) := rfl
theorem sub_refl {a : Rat × Rat} (h : a.1 ≤ a.2) : subS a a := ok_ends h
theorem rl_inK (a : Rat × Rat) (k : Nat) (hk : k < 256) : rl (inK a k) ≤ rl a.1 + (4 + (rl a.2 + rl a.1 + 1)) + 1 := by
  have h1 := rl_add a.1 (((k : Int) : Rat) / ((255 : Int) : Rat) * (a.2 - a.1))
  have h2 := rl_mul (((k : Int) : Rat) / ((255 : Int) : Rat)) (a.2 - a.1)
  have h3 := rl_div' ((k : Int) : Rat) ((255 : Int) : Rat)
  have h4 : rl ((k : Int) : Rat) ≤ 2 := rl_small (by omega) (by omega)
  have h5 : rl ((255 : Int) : Rat) ≤ 2 := rl_small (by decide) (by decide)
  have h6 := rl_sub a.2 a.1
  unfold inK; omega
set_option maxRecDepth 100000 in
set_option maxHeartbeats 3200000 in
theorem inK_any (va : Value) (a : Rat × Rat) (k : Nat) (w : World) (ha : IsSp w va a) (hk : k < 256) (la1 : rl a.1 ≤ 9000) (la2 : rl a.2 ≤ 9000) :
    Calls Tryd.prog 22 #[va, .int .u8 (k : Nat)] w (RetR w (inK a k)) := by
  have HBW := Lib.hid (Below.refl w.heap.size w)
  have kz0 : rl 0 ≤ 1 := by rw [rl_zero]; exact Nat.le_refl _
  obtain ⟨qa, oa, na, ka, pa, ma, ra, qax, oax, nax, kax, pax, max, rax, rfl⟩ := ha.shape
  have Fa := Lib.hid ha; clear ha
  have Fal := Lib.hid (isSp_ends Fa.out).1; have Fah := Lib.hid (isSp_ends Fa.out).2
  obtain ⟨w1, hw1⟩ : ∃ w1, w1 = w.alloc (.cells #[.bool qa, .slice oa na ka, .slice pa ma ra, .bool qax, .slice oax nax kax, .slice pax max rax] 26) := ⟨_, rfl⟩
  have hb1 : Below w.heap.size w w1 := by rw [hw1]; exact (Below.refl _ _).alloc (Nat.le_refl _) _
  have hx1 := heap_alloc_new w (.cells #[.bool qa, .slice oa na ka, .slice pa ma ra, .bool qax, .slice oax nax kax, .slice pax max rax] 26)
  obtain ⟨g1, hg1⟩ : ∃ g, g = w.heap.size := ⟨_, rfl⟩
  rw [← hw1, ← hg1] at hx1
  have lw1 : w.heap.size ≤ g1 := by rw [hg1]; exact HBW.out.size
  have HW1 := Lib.hid hw1; have HG1 := Lib.hid hg1; clear hw1 hg1
  have HB1 := Lib.hid (HBW.out.step hb1)
  have Fa := Lib.hid (Fa.out.below hb1)
  have Fal := Lib.hid (Fal.out.below hb1)
  have Fah := Lib.hid (Fah.out.below hb1)
  have BX1 := Lib.hid hx1; clear hb1 hx1
  obtain ⟨w2, hw2⟩ : ∃ w2, w2 = w1.alloc (.cells #[.bool false, .slice none 0 0, .slice none 0 0] 24) := ⟨_, rfl⟩
  have hb2 : Below w1.heap.size w1 w2 := by rw [hw2]; exact (Below.refl _ _).alloc (Nat.le_refl _) _
  have hx2 := heap_alloc_new w1 (.cells #[.bool false, .slice none 0 0, .slice none 0 0] 24)
  obtain ⟨g2, hg2⟩ : ∃ g, g = w1.heap.size := ⟨_, rfl⟩
  rw [← hw2, ← hg2] at hx2
  have lw2 : w.heap.size ≤ g2 := by rw [hg2]; exact HB1.out.size
  have ltBX12 : g1 < g2 := by rw [hg2]; exact below_lt BX1.out
  have hs2 : g2 = w.heap.size + 1 := by rw [hg2, HW1.out]; simp
  have HS2 := Lib.hid hs2; clear hs2
  have HW2 := Lib.hid hw2; have HG2 := Lib.hid hg2; clear hw2 hg2
  have HB2 := Lib.hid (HB1.out.step hb2)
  have Fa := Lib.hid (Fa.out.below hb2)
  have Fal := Lib.hid (Fal.out.below hb2)
  have Fah := Lib.hid (Fah.out.below hb2)
  have BX1 := Lib.hid (heap_below BX1.out hb2)
  have BX2 := Lib.hid hx2; clear hb2 hx2
  go_enter Tryd.func22, Tryd.ntmps22
  have k1 := rl_div' ((k : Int) : Rat) ((255 : Int) : Rat)
  have k2 : rl ((k : Int) : Rat) ≤ 2 := rl_small (by omega) (by omega)
  have k3 : rl ((255 : Int) : Rat) ≤ 2 := rl_small (by decide) (by decide)
  have hs := make_any (k : Nat) 255 w2 (by omega) (by omega) (by decide) (by decide)
  rw [show zc ((255 : Int)).natAbs = 0 from rfl, errV_zero] at hs
  have HS := Lib.hid hs; clear hs
  go_wp2_with (with_reducible first | refine pauseCall ?_ | refine pauseLoop ?_ | refine pauseDraw ?_ | refine pauseBody ?_ | refine pauseRounds ?_)
  try rw [← HW1.out]
  try rw [← HW2.out]
  try rw [← HS2.out]
  try rw [← HG1.out]
  try rw [← HG2.out]
  refine Pause.mk ?_
  (with_reducible refine HS.out.mono ?_); rintro e w3 ⟨v3, rfl, hb3, hn3⟩
  clear HS
  have HB3 := Lib.hid (HB2.out.step hb3)
  have Fa := Lib.hid (Fa.out.below hb3)
  have Fal := Lib.hid (Fal.out.below hb3)
  have Fah := Lib.hid (Fah.out.below hb3)
  have BX1 := Lib.hid (heap_below BX1.out hb3)
  have BX2 := Lib.hid (heap_below BX2.out hb3)
  have N3 := Lib.hid hn3; clear hn3
  obtain ⟨s4, o4, n4, c4, a4, m4, d4, rfl⟩ := N3.out.shape
  clear hb3
  obtain ⟨w4, hw4⟩ : ∃ w4, w4 = w3.alloc (.cells #[.bool s4, .slice o4 n4 c4, .slice a4 m4 d4] 24) := ⟨_, rfl⟩
  have hb4 : Below w3.heap.size w3 w4 := by rw [hw4]; exact (Below.refl _ _).alloc (Nat.le_refl _) _
  have hx4 := heap_alloc_new w3 (.cells #[.bool s4, .slice o4 n4 c4, .slice a4 m4 d4] 24)
  obtain ⟨g4, hg4⟩ : ∃ g, g = w3.heap.size := ⟨_, rfl⟩
  rw [← hw4, ← hg4] at hx4
  have lw4 : w.heap.size ≤ g4 := by rw [hg4]; exact HB3.out.size
  have ltBX14 : g1 < g4 := by rw [hg4]; exact below_lt BX1.out
  have ltBX24 : g2 < g4 := by rw [hg4]; exact below_lt BX2.out
  have HW4 := Lib.hid hw4; have HG4 := Lib.hid hg4; clear hw4 hg4
  have HB4 := Lib.hid (HB3.out.step hb4)
  have Fa := Lib.hid (Fa.out.below hb4)
  have Fal := Lib.hid (Fal.out.below hb4)
  have Fah := Lib.hid (Fah.out.below hb4)
  have N3 := Lib.hid (N3.out.below hb4)
  have BX1 := Lib.hid (heap_below BX1.out hb4)
  have BX2 := Lib.hid (heap_below BX2.out hb4)
  have BX4 := Lib.hid hx4; clear hb4 hx4
  go_wp2_with (with_reducible first | refine pauseCall ?_ | refine pauseLoop ?_ | refine pauseDraw ?_ | refine pauseBody ?_ | refine pauseRounds ?_)
  try rw [← HW4.out]
  try rw [← HG4.out]
  refine Pause.mk ?_
  have k5 := rl_sub (a.2) (a.1)
  have k6 := rl_mul (((k : Int) : Rat) / ((255 : Int) : Rat)) ((a.2) - (a.1))
  refine wp_region_facts (A := ?aa7) (w := w4) 9 [] (by kernel_rfl) (Fl [KEq (.pointer (some ⟨g1, 0, none⟩)), KEq (.agg #[.bool qa, .slice oa na ka, .slice pa ma ra]), KEq (.agg #[.bool s4, .slice o4 n4 c4, .slice a4 m4 d4]), KEq (.pointer (some ⟨g1, 3, none⟩)), KEq (.agg #[.bool qax, .slice oax nax kax, .slice pax max rax]), KEq (.pointer (some ⟨g1, 0, none⟩)), KEq (.agg #[.bool qa, .slice oa na ka, .slice pa ma ra]), KIs ((a.2) - (a.1)), KIs ((((k : Int) : Rat) / ((255 : Int) : Rat)) * ((a.2) - (a.1)))]) (fun i => false) (by kernel_rfl) ?hq7 (monoL (monoC (kEq _) (monoC (kEq _) (monoC (kEq _) (monoC (kEq _) (monoC (kEq _) (monoC (kEq _) (monoC (kEq _) (monoC (kIs _) (monoC (kIs _) monoN)))))))))) ?ha7 ?st7 ?tl7
  case hq7 =>
    intro c a d v w h
    first | (simp only [Exit.then] at h ⊢; exact h) | (simp only [Exit.inBlock, Exit.then] at h ⊢; exact h) | exact h
  case ha7 =>
    intro vals
    simp only [putsTo, dstOf, if_true, Act.put, List.setIfInBounds_toArray, List.set_cons_zero, List.set_cons_succ, List.getElem?_toArray, List.getElem?_cons_zero, List.getElem?_cons_succ, Option.bind_some]
    exact rfl
  case st7 =>
    simp only [List.take_succ_cons, List.take_zero]
    refine stepsOK_cons rfl rfl ?_ (stepsOK_cons rfl rfl ?_ (stepsOK_cons rfl rfl ?_ (stepsOK_cons rfl rfl ?_ (stepsOK_cons rfl rfl ?_ (stepsOK_cons rfl rfl ?_ (stepsOK_cons rfl rfl ?_ (stepsOK_cons rfl rfl ?_ (stepsOK_cons rfl rfl ?_ (stepsOK_nil)))))))))
    · intro vals w1 hb hd
      refine stepOK_value (v := (.pointer (some ⟨g1, 0, none⟩))) (w' := w1) (by go_simp) (leaves_mk (Below.refl _ _) rfl (fun h => by cases h))
    · intro vals w1 hb hd
      have d0 : KEq (.pointer (some ⟨g1, 0, none⟩)) (vals 0) w1 := hd 0 (by kernel_rfl)
      rw [show vals 0 = _ from d0]
      obtain ⟨e0, e1, e2, e3, e4, e5⟩ := row6 (heap_below BX1.out hb)
      refine stepOK_value (v := .agg #[.bool qa, .slice oa na ka, .slice pa ma ra]) (w' := w1) (by go_simp) (leaves_mk (Below.refl _ _) rfl (fun h => by cases h))
    · intro vals w1 hb hd
      obtain ⟨e0, e1, e2⟩ := row3 (heap_below BX4.out hb)
      refine stepOK_value (v := .agg #[.bool s4, .slice o4 n4 c4, .slice a4 m4 d4]) (w' := w1) (by go_simp) (leaves_mk (Below.refl _ _) rfl (fun h => by cases h))
    · intro vals w1 hb hd
      refine stepOK_value (v := (.pointer (some ⟨g1, 3, none⟩))) (w' := w1) (by go_simp) (leaves_mk (Below.refl _ _) rfl (fun h => by cases h))
    · intro vals w1 hb hd
      have d3 : KEq (.pointer (some ⟨g1, 3, none⟩)) (vals 3) w1 := hd 3 (by kernel_rfl)
      rw [show vals 3 = _ from d3]
      obtain ⟨e0, e1, e2, e3, e4, e5⟩ := row6 (heap_below BX1.out hb)
      refine stepOK_value (v := .agg #[.bool qax, .slice oax nax kax, .slice pax max rax]) (w' := w1) (by go_simp) (leaves_mk (Below.refl _ _) rfl (fun h => by cases h))
    · intro vals w1 hb hd
      refine stepOK_value (v := (.pointer (some ⟨g1, 0, none⟩))) (w' := w1) (by go_simp) (leaves_mk (Below.refl _ _) rfl (fun h => by cases h))
    · intro vals w1 hb hd
      have d5 : KEq (.pointer (some ⟨g1, 0, none⟩)) (vals 5) w1 := hd 5 (by kernel_rfl)
      rw [show vals 5 = _ from d5]
      obtain ⟨e0, e1, e2, e3, e4, e5⟩ := row6 (heap_below BX1.out hb)
      refine stepOK_value (v := .agg #[.bool qa, .slice oa na ka, .slice pa ma ra]) (w' := w1) (by go_simp) (leaves_mk (Below.refl _ _) rfl (fun h => by cases h))
    · intro vals w1 hb hd
      have d4 : KEq (.agg #[.bool qax, .slice oax nax kax, .slice pax max rax]) (vals 4) w1 := hd 4 (by kernel_rfl)
      have d6 : KEq (.agg #[.bool qa, .slice oa na ka, .slice pa ma ra]) (vals 6) w1 := hd 6 (by kernel_rfl)
      have z4 : vals 4 = _ := d4
      have z6 : vals 6 = _ := d6
      have hs := subq_any _ (a.2) _ (a.1) w1 ((Fah.out.below hb).is (by omega)) ((Fal.out.below hb).is (by omega))
      have HS := Lib.hid hs; clear hs
      rw [z4]; clear z4
      rw [z6]; clear z6
      clear d4 d6 hd
      refine stepOK_call (by go_simp; first | done | exact ⟨⟨rfl, rfl⟩, rfl⟩) ?_
      (with_reducible refine HS.out.mono ?_); rintro e w2 ⟨v, rfl, hb2, hn⟩
      exact ⟨v, rfl, leaves_mk hb2 hn (fun h => by cases h)⟩
    · intro vals w1 hb hd
      have d2 : KEq (.agg #[.bool s4, .slice o4 n4 c4, .slice a4 m4 d4]) (vals 2) w1 := hd 2 (by kernel_rfl)
      have d7 : KIs ((a.2) - (a.1)) (vals 7) w1 := hd 7 (by kernel_rfl)
      have R7 : Hid (IsR w1 (vals 7) ((a.2) - (a.1))) := Lib.hid d7
      have z2 : vals 2 = _ := d2
      have hs := mulq_any _ (((k : Int) : Rat) / ((255 : Int) : Rat)) _ ((a.2) - (a.1)) w1 ((N3.out.below hb).is (by omega)) (R7.out.is (by omega))
      have HS := Lib.hid hs; clear hs
      rw [z2]; clear z2
      clear d2 d7 hd
      refine stepOK_call (by go_simp; first | done | exact ⟨⟨rfl, rfl⟩, rfl⟩) ?_
      (with_reducible refine HS.out.mono ?_); rintro e w2 ⟨v, rfl, hb2, hn⟩
      exact ⟨v, rfl, leaves_mk hb2 hn (fun h => by cases h)⟩
  case tl7 =>
    intro vals w5 hb5 hf hdis
    simp only [List.drop_succ_cons, List.drop_zero]
    have z1 : vals 1 = _ := hf 1 (by decide)
    try rw [z1]
    clear z1
    obtain ⟨u7_8, hu8⟩ : ∃ u, u = vals 8 := ⟨_, rfl⟩
    have hn7_8 : IsR w5 (vals 8) ((((k : Int) : Rat) / ((255 : Int) : Rat)) * ((a.2) - (a.1))) := hf 8 (by decide)
    rw [← hu8] at hn7_8 ⊢; clear hu8
    clear hf hdis
    have HB5 := Lib.hid (HB4.out.step hb5)
    have Fa := Lib.hid (Fa.out.below hb5)
    have Fal := Lib.hid (Fal.out.below hb5)
    have Fah := Lib.hid (Fah.out.below hb5)
    have N3 := Lib.hid (N3.out.below hb5)
    have BX1 := Lib.hid (heap_below BX1.out hb5)
    have BX2 := Lib.hid (heap_below BX2.out hb5)
    have BX4 := Lib.hid (heap_below BX4.out hb5)
    clear hb5
    have N7_8 := Lib.hid hn7_8; clear hn7_8
    obtain ⟨s8, o8, n8, c8, a8, m8, d8, rfl⟩ := N7_8.out.shape
    skip
    have k9 := rl_add (a.1) ((((k : Int) : Rat) / ((255 : Int) : Rat)) * ((a.2) - (a.1)))
    have hs := addq_any _ (a.1) _ ((((k : Int) : Rat) / ((255 : Int) : Rat)) * ((a.2) - (a.1))) w5 (Fal.out.is (by omega)) (N7_8.out.is (by omega))
    have HS := Lib.hid hs; clear hs
    go_wp2_with (with_reducible first | refine pauseCall ?_ | refine pauseLoop ?_ | refine pauseDraw ?_ | refine pauseBody ?_ | refine pauseRounds ?_)
    refine Pause.mk ?_
    (with_reducible refine HS.out.mono ?_); rintro e w6 ⟨v6, rfl, hb6, hn6⟩
    clear HS
    have HB6 := Lib.hid (HB5.out.step hb6)
    have Fa := Lib.hid (Fa.out.below hb6)
    have Fal := Lib.hid (Fal.out.below hb6)
    have Fah := Lib.hid (Fah.out.below hb6)
    have N3 := Lib.hid (N3.out.below hb6)
    have N7_8 := Lib.hid (N7_8.out.below hb6)
    have BX1 := Lib.hid (heap_below BX1.out hb6)
    have BX2 := Lib.hid (heap_below BX2.out hb6)
    have BX4 := Lib.hid (heap_below BX4.out hb6)
    have N6 := Lib.hid hn6; clear hn6
    obtain ⟨s10, o10, n10, c10, a10, m10, d10, rfl⟩ := N6.out.shape
    clear hb6
    go_wp2_with (with_reducible refine wpList_pauseS ?_)
    refine wpList_stL g2 0 [.bool s10, .slice o10 n10 c10, .slice a10 m10 d10] BX2.out rfl rfl (Nat.le_of_ble_eq_true rfl) (by kernel_rfl) rfl ?_
    intro w7 hp7
    have Fa := Lib.hid (putL_SI hp7 Fa.out BX2.out noW3)
    have Fal := Lib.hid (putL_I hp7 Fal.out BX2.out noW3)
    have Fah := Lib.hid (putL_I hp7 Fah.out BX2.out noW3)
    have N3 := Lib.hid (putL_I hp7 N3.out BX2.out noW3)
    have N7_8 := Lib.hid (putL_I hp7 N7_8.out BX2.out noW3)
    have N6 := Lib.hid (putL_I hp7 N6.out BX2.out noW3)
    have BX1 := Lib.hid (putLx hp7 BX1.out (by omega))
    have BX4 := Lib.hid (putLx hp7 BX4.out (by omega))
    have nx7 : w7.heap[g2]? = some (.cells #[.bool s10, .slice o10 n10 c10, .slice a10 m10 d10] 24) := by rw [hp7]; exact putL_r BX2.out
    have BX2 := Lib.hid nx7; clear nx7
    have HB7 := Lib.hid (putLb hp7 HB6.out (by omega))
    clear hp7
    obtain ⟨x11_0, x11_1, x11_2⟩ := row3 BX2.out
    go_wp2_with (with_reducible first | refine pauseCall ?_ | refine pauseLoop ?_ | refine pauseDraw ?_ | refine pauseBody ?_ | refine pauseRounds ?_)
    clear x11_0 x11_1 x11_2
    refine Pause.mk ?_
    refine ret_rat rfl g2 _ _ _ (by first | rfl | exact rfl) BX2.out rfl ?_
    exact ⟨_, rfl, HB7.out, N6.out⟩
end Go.Proofs.YtaefimegiobkmaaDoor
/-
  span: the part in 0..1: what they hand back.
  Conditions: each theorem's own.
-/
namespace Go.Proofs.YtaefimegiobkmaaDoor
open Go.RowKit Go.ChangeShapes Go.WideShapes

set_option maxRecDepth 100000 in
set_option maxHeartbeats 3200000 in
theorem clip1_raw (vx : Value) (x : Rat) (w : World) (hx : RatIs w vx x) (lx : rl x ≤ 39000) :
    Calls Tryd.prog 52 #[vx] w (RetR w (mx (0) (mn (x) (((1 : Int) : Rat))))) := by
  have HBW := Lib.hid (Below.refl w.heap.size w)
  have kz0 : rl 0 ≤ 1 := by rw [rl_zero]; exact Nat.le_refl _
  obtain ⟨sx, ox, nx, cx, ax, mx, dx, rfl⟩ := hx.shape
  have hlx := hx.rl
  have Fx := Lib.hid hx; clear hx
  obtain ⟨w1, hw1⟩ : ∃ w1, w1 = w.alloc (.cells #[.bool sx, .slice ox nx cx, .slice ax mx dx] 24) := ⟨_, rfl⟩
  have hb1 : Below w.heap.size w w1 := by rw [hw1]; exact (Below.refl _ _).alloc (Nat.le_refl _) _
  have hx1 := heap_alloc_new w (.cells #[.bool sx, .slice ox nx cx, .slice ax mx dx] 24)
  obtain ⟨g1, hg1⟩ : ∃ g, g = w.heap.size := ⟨_, rfl⟩
  rw [← hw1, ← hg1] at hx1
  have lw1 : w.heap.size ≤ g1 := by rw [hg1]; exact HBW.out.size
  have HW1 := Lib.hid hw1; have HG1 := Lib.hid hg1; clear hw1 hg1
  have HB1 := Lib.hid (HBW.out.step hb1)
  have Fx := Lib.hid (Fx.out.below hb1)
  have BX1 := Lib.hid hx1; clear hb1 hx1
  obtain ⟨w2, hw2⟩ : ∃ w2, w2 = w1.alloc (.cells #[.bool false, .slice none 0 0, .slice none 0 0] 24) := ⟨_, rfl⟩
  have hb2 : Below w1.heap.size w1 w2 := by rw [hw2]; exact (Below.refl _ _).alloc (Nat.le_refl _) _
  have hx2 := heap_alloc_new w1 (.cells #[.bool false, .slice none 0 0, .slice none 0 0] 24)
  obtain ⟨g2, hg2⟩ : ∃ g, g = w1.heap.size := ⟨_, rfl⟩
  rw [← hw2, ← hg2] at hx2
  have lw2 : w.heap.size ≤ g2 := by rw [hg2]; exact HB1.out.size
  have ltBX12 : g1 < g2 := by rw [hg2]; exact below_lt BX1.out
  have hs2 : g2 = w.heap.size + 1 := by rw [hg2, HW1.out]; simp
  have HS2 := Lib.hid hs2; clear hs2
  have HW2 := Lib.hid hw2; have HG2 := Lib.hid hg2; clear hw2 hg2
  have HB2 := Lib.hid (HB1.out.step hb2)
  have Fx := Lib.hid (Fx.out.below hb2)
  have BX1 := Lib.hid (heap_below BX1.out hb2)
  have BX2 := Lib.hid hx2; clear hb2 hx2
  go_enter Tryd.func52, Tryd.ntmps52
  go_wp2_with (with_reducible first | refine pauseCall ?_ | refine pauseLoop ?_ | refine pauseDraw ?_ | refine pauseBody ?_ | refine pauseRounds ?_)
  try rw [← HW1.out]
  try rw [← HW2.out]
  try rw [← HS2.out]
  try rw [← HG1.out]
  try rw [← HG2.out]
  refine Pause.mk ?_
  have k1 : rl ((1 : Int) : Rat) ≤ 2 := rl_small (by decide) (by decide)
  refine wp_region_facts (A := ?aa2) (w := w2) 3 [0] (by kernel_rfl) (Fl [KEq (.agg #[.bool false, .slice none 0 0, .slice none 0 0]), KEq (.agg #[.bool sx, .slice ox nx cx, .slice ax mx dx]), KIs (((1 : Int) : Rat))]) (fun i => false) (by kernel_rfl) ?hq2 (monoL (monoC (kEq _) (monoC (kEq _) (monoC (kIs _) monoN)))) ?ha2 ?st2 ?tl2
  case hq2 =>
    intro c a d v w h
    first | (simp only [Exit.then] at h ⊢; exact h) | (simp only [Exit.inBlock, Exit.then] at h ⊢; exact h) | exact h
  case ha2 =>
    intro vals
    simp only [putsTo, dstOf, if_true, Act.put, List.setIfInBounds_toArray, List.set_cons_zero, List.set_cons_succ, List.getElem?_toArray, List.getElem?_cons_zero, List.getElem?_cons_succ, Option.bind_some]
    exact rfl
  case st2 =>
    simp only [List.take_succ_cons, List.take_zero]
    refine stepsOK_pure rfl ?_ (stepsOK_cons rfl rfl ?_ (stepsOK_cons rfl rfl ?_ (stepsOK_nil)))
    · intro vals w1 hb hd
      refine stepPure_value (v := (.agg #[.bool false, .slice none 0 0, .slice none 0 0])) (fun w => by go_simp) (leaves_mk (Below.refl _ _) rfl (fun h => by cases h))
    · intro vals w1 hb hd
      obtain ⟨e0, e1, e2⟩ := row3 (heap_below BX1.out hb)
      refine stepOK_value (v := .agg #[.bool sx, .slice ox nx cx, .slice ax mx dx]) (w' := w1) (by go_simp) (leaves_mk (Below.refl _ _) rfl (fun h => by cases h))
    · intro vals w1 hb hd
      have hs := ofq_any 1 w1 (by decide) (by decide)
      have HS := Lib.hid hs; clear hs
      clear hd
      refine stepOK_call (by go_simp; first | done | exact ⟨⟨rfl, rfl⟩, rfl⟩) ?_
      (with_reducible refine HS.out.mono ?_); rintro e w2 ⟨v, rfl, hb2, hn⟩
      exact ⟨v, rfl, leaves_mk hb2 hn (fun h => by cases h)⟩
  case tl2 =>
    intro vals w3 hb3 hf hdis
    simp only [List.drop_succ_cons, List.drop_zero]
    have z0 : vals 0 = _ := hf 0 (by decide)
    try rw [z0]
    clear z0
    have z1 : vals 1 = _ := hf 1 (by decide)
    try rw [z1]
    clear z1
    obtain ⟨u2_2, hu2⟩ : ∃ u, u = vals 2 := ⟨_, rfl⟩
    have hn2_2 : IsR w3 (vals 2) (((1 : Int) : Rat)) := hf 2 (by decide)
    rw [← hu2] at hn2_2 ⊢; clear hu2
    clear hf hdis
    have HB3 := Lib.hid (HB2.out.step hb3)
    have Fx := Lib.hid (Fx.out.below hb3)
    have BX1 := Lib.hid (heap_below BX1.out hb3)
    have BX2 := Lib.hid (heap_below BX2.out hb3)
    clear hb3
    have N2_2 := Lib.hid hn2_2; clear hn2_2
    obtain ⟨s3, o3, n3, c3, a3, m3, d3, rfl⟩ := N2_2.out.shape
    skip
    have k4 := rl_mn (x) (((1 : Int) : Rat))
    have hs := minq_any _ (x) _ (((1 : Int) : Rat)) w3 Fx.out (N2_2.out.is (by omega)) (by omega) (by omega)
    have HS := Lib.hid hs; clear hs
    go_wp2_with (with_reducible first | refine pauseCall ?_ | refine pauseLoop ?_ | refine pauseDraw ?_ | refine pauseBody ?_ | refine pauseRounds ?_)
    refine Pause.mk ?_
    (with_reducible refine HS.out.mono ?_); rintro e w4 ⟨v4, rfl, hb4, hn4⟩
    clear HS
    have HB4 := Lib.hid (HB3.out.step hb4)
    have Fx := Lib.hid (Fx.out.below hb4)
    have N2_2 := Lib.hid (N2_2.out.below hb4)
    have BX1 := Lib.hid (heap_below BX1.out hb4)
    have BX2 := Lib.hid (heap_below BX2.out hb4)
    have N4 := Lib.hid hn4; clear hn4
    obtain ⟨s5, o5, n5, c5, a5, m5, d5, rfl⟩ := N4.out.shape
    clear hb4
    have k6 := rl_mx (0) (mn (x) (((1 : Int) : Rat)))
    have hs := maxq_any _ (0) _ (mn (x) (((1 : Int) : Rat))) w4 ((isR_zero _).is (by rw [rl_zero]; decide)) (N4.out.is (by omega)) (by omega) (by omega)
    have HS := Lib.hid hs; clear hs
    go_wp2_with (with_reducible first | refine pauseCall ?_ | refine pauseLoop ?_ | refine pauseDraw ?_ | refine pauseBody ?_ | refine pauseRounds ?_)
    refine Pause.mk ?_
    (with_reducible refine HS.out.mono ?_); rintro e w5 ⟨v5, rfl, hb5, hn5⟩
    clear HS
    have HB5 := Lib.hid (HB4.out.step hb5)
    have Fx := Lib.hid (Fx.out.below hb5)
    have N2_2 := Lib.hid (N2_2.out.below hb5)
    have N4 := Lib.hid (N4.out.below hb5)
    have BX1 := Lib.hid (heap_below BX1.out hb5)
    have BX2 := Lib.hid (heap_below BX2.out hb5)
    have N5 := Lib.hid hn5; clear hn5
    obtain ⟨s7, o7, n7, c7, a7, m7, d7, rfl⟩ := N5.out.shape
    clear hb5
    go_wp2_with (with_reducible refine wpList_pauseS ?_)
    refine wpList_stL g2 0 [.bool s7, .slice o7 n7 c7, .slice a7 m7 d7] BX2.out rfl rfl (Nat.le_of_ble_eq_true rfl) (by kernel_rfl) rfl ?_
    intro w6 hp6
    have Fx := Lib.hid (putL_R hp6 Fx.out BX2.out noW3)
    have N2_2 := Lib.hid (putL_I hp6 N2_2.out BX2.out noW3)
    have N4 := Lib.hid (putL_I hp6 N4.out BX2.out noW3)
    have N5 := Lib.hid (putL_I hp6 N5.out BX2.out noW3)
    have BX1 := Lib.hid (putLx hp6 BX1.out (by omega))
    have nx6 : w6.heap[g2]? = some (.cells #[.bool s7, .slice o7 n7 c7, .slice a7 m7 d7] 24) := by rw [hp6]; exact putL_r BX2.out
    have BX2 := Lib.hid nx6; clear nx6
    have HB6 := Lib.hid (putLb hp6 HB5.out (by omega))
    clear hp6
    obtain ⟨x8_0, x8_1, x8_2⟩ := row3 BX2.out
    go_wp2_with (with_reducible first | refine pauseCall ?_ | refine pauseLoop ?_ | refine pauseDraw ?_ | refine pauseBody ?_ | refine pauseRounds ?_)
    clear x8_0 x8_1 x8_2
    refine Pause.mk ?_
    refine ret_rat rfl g2 _ _ _ (by first | rfl | exact rfl) BX2.out rfl ?_
    exact ⟨_, rfl, HB6.out, N5.out⟩
theorem clip1_any (vx : Value) (x : Rat) (w : World) (hx : RatIs w vx x) (lx : rl x ≤ 39000) : Calls Tryd.prog 52 #[vx] w (RetR w (clip x)) := clip1_raw vx x w hx lx
set_option maxRecDepth 100000 in
set_option maxHeartbeats 3200000 in
theorem sclip_raw (va : Value) (a : Rat × Rat) (w : World) (ha : SpIs w va a) (la1 : rl a.1 ≤ 38000) (la2 : rl a.2 ≤ 38000) :
    Calls Tryd.prog 31 #[va] w (RetSp w (around2 (clip ((a).1)) (clip ((a).2)))) := by
  have HBW := Lib.hid (Below.refl w.heap.size w)
  have kz0 : rl 0 ≤ 1 := by rw [rl_zero]; exact Nat.le_refl _
  obtain ⟨qa, oa, na, ka, pa, ma, ra, qax, oax, nax, kax, pax, max, rax, rfl⟩ := ha.shape
  have hla := ha.rl; have hoa := ha.ok; obtain ⟨hlaa, hlab⟩ := hla
  have hoa := Lib.hid hoa
  have Fa := Lib.hid ha; clear ha
  obtain ⟨w1, hw1⟩ : ∃ w1, w1 = w.alloc (.cells #[.bool qa, .slice oa na ka, .slice pa ma ra, .bool qax, .slice oax nax kax, .slice pax max rax] 26) := ⟨_, rfl⟩
  have hb1 : Below w.heap.size w w1 := by rw [hw1]; exact (Below.refl _ _).alloc (Nat.le_refl _) _
  have hx1 := heap_alloc_new w (.cells #[.bool qa, .slice oa na ka, .slice pa ma ra, .bool qax, .slice oax nax kax, .slice pax max rax] 26)
  obtain ⟨g1, hg1⟩ : ∃ g, g = w.heap.size := ⟨_, rfl⟩
  rw [← hw1, ← hg1] at hx1
  have lw1 : w.heap.size ≤ g1 := by rw [hg1]; exact HBW.out.size
  have HW1 := Lib.hid hw1; have HG1 := Lib.hid hg1; clear hw1 hg1
  have HB1 := Lib.hid (HBW.out.step hb1)
  have Fa := Lib.hid (Fa.out.below hb1)
  have BX1 := Lib.hid hx1; clear hb1 hx1
  obtain ⟨w2, hw2⟩ : ∃ w2, w2 = w1.alloc (.cells #[.bool false, .slice none 0 0, .slice none 0 0, .bool false, .slice none 0 0, .slice none 0 0] 26) := ⟨_, rfl⟩
  have hb2 : Below w1.heap.size w1 w2 := by rw [hw2]; exact (Below.refl _ _).alloc (Nat.le_refl _) _
  have hx2 := heap_alloc_new w1 (.cells #[.bool false, .slice none 0 0, .slice none 0 0, .bool false, .slice none 0 0, .slice none 0 0] 26)
  obtain ⟨g2, hg2⟩ : ∃ g, g = w1.heap.size := ⟨_, rfl⟩
  rw [← hw2, ← hg2] at hx2
  have lw2 : w.heap.size ≤ g2 := by rw [hg2]; exact HB1.out.size
  have ltBX12 : g1 < g2 := by rw [hg2]; exact below_lt BX1.out
  have hs2 : g2 = w.heap.size + 1 := by rw [hg2, HW1.out]; simp
  have HS2 := Lib.hid hs2; clear hs2
  have HW2 := Lib.hid hw2; have HG2 := Lib.hid hg2; clear hw2 hg2
  have HB2 := Lib.hid (HB1.out.step hb2)
  have Fa := Lib.hid (Fa.out.below hb2)
  have BX1 := Lib.hid (heap_below BX1.out hb2)
  have BX2 := Lib.hid hx2; clear hb2 hx2
  go_enter Tryd.func31, Tryd.ntmps31
  obtain ⟨x1_0, x1_1, x1_2, x1_3, x1_4, x1_5⟩ := row6 BX1.out
  have hs := norm_any _ (a) w2 Fa.out
  have HS := Lib.hid hs; clear hs
  try rw [HW2.out] at x1_0
  try rw [HG2.out] at x1_0
  try rw [HW1.out] at x1_0
  try rw [HG1.out] at x1_0
  try rw [HW2.out] at x1_1
  try rw [HG2.out] at x1_1
  try rw [HW1.out] at x1_1
  try rw [HG1.out] at x1_1
  try rw [HW2.out] at x1_2
  try rw [HG2.out] at x1_2
  try rw [HW1.out] at x1_2
  try rw [HG1.out] at x1_2
  try rw [HW2.out] at x1_3
  try rw [HG2.out] at x1_3
  try rw [HW1.out] at x1_3
  try rw [HG1.out] at x1_3
  try rw [HW2.out] at x1_4
  try rw [HG2.out] at x1_4
  try rw [HW1.out] at x1_4
  try rw [HG1.out] at x1_4
  try rw [HW2.out] at x1_5
  try rw [HG2.out] at x1_5
  try rw [HW1.out] at x1_5
  try rw [HG1.out] at x1_5
  go_wp2_with (with_reducible first | refine pauseCall ?_ | refine pauseLoop ?_ | refine pauseDraw ?_ | refine pauseBody ?_ | refine pauseRounds ?_)
  try rw [← HW1.out]
  try rw [← HW2.out]
  try rw [← HS2.out]
  try rw [← HG1.out]
  try rw [← HG2.out]
  clear x1_0 x1_1 x1_2 x1_3 x1_4 x1_5
  refine Pause.mk ?_
  (with_reducible refine HS.out.mono ?_); rintro e w3 ⟨v3, rfl, hb3, hn3⟩
  clear HS
  have HB3 := Lib.hid (HB2.out.step hb3)
  have Fa := Lib.hid (Fa.out.below hb3)
  have BX1 := Lib.hid (heap_below BX1.out hb3)
  have BX2 := Lib.hid (heap_below BX2.out hb3)
  have N3 := Lib.hid hn3; clear hn3
  obtain ⟨s2, o2, n2, c2, a2, m2, d2, s2x, o2x, n2x, c2x, a2x, m2x, d2x, rfl⟩ := N3.out.shape
  have N3l := Lib.hid (isSp_ends N3.out).1; have N3h := Lib.hid (isSp_ends N3.out).2
  clear hb3
  go_wp2_with (with_reducible refine wpList_pauseS ?_)
  refine wpList_stL g1 0 [.bool s2, .slice o2 n2 c2, .slice a2 m2 d2, .bool s2x, .slice o2x n2x c2x, .slice a2x m2x d2x] BX1.out rfl rfl (Nat.le_of_ble_eq_true rfl) (by kernel_rfl) rfl ?_
  intro w4 hp4
  have Fa := Lib.hid (putL_SS hp4 Fa.out BX1.out noW6)
  have N3 := Lib.hid (putL_SI hp4 N3.out BX1.out noW6)
  have N3l := Lib.hid (putL_I hp4 N3l.out BX1.out noW6)
  have N3h := Lib.hid (putL_I hp4 N3h.out BX1.out noW6)
  have BX2 := Lib.hid (putLx hp4 BX2.out (by omega))
  have nx4 : w4.heap[g1]? = some (.cells #[.bool s2, .slice o2 n2 c2, .slice a2 m2 d2, .bool s2x, .slice o2x n2x c2x, .slice a2x m2x d2x] 26) := by rw [hp4]; exact putL_6 BX1.out
  have BX1 := Lib.hid nx4; clear nx4
  have HB4 := Lib.hid (putLb hp4 HB3.out (by omega))
  clear hp4
  go_wp2_with (with_reducible first | refine pauseCall ?_ | refine pauseLoop ?_ | refine pauseDraw ?_ | refine pauseBody ?_ | refine pauseRounds ?_)
  refine Pause.mk ?_
  have k3 := rl_clip ((a).1)
  refine wp_region_facts (A := ?aa4) (w := w4) 7 [] (by kernel_rfl) (Fl [KEq (.func (.func 52) #[] #[]), KEq (.pointer (some ⟨g1, 0, none⟩)), KEq (.agg #[.bool s2, .slice o2 n2 c2, .slice a2 m2 d2]), KIs (clip ((a).1)), KEq (.func (.func 52) #[] #[]), KEq (.pointer (some ⟨g1, 3, none⟩)), KEq (.agg #[.bool s2x, .slice o2x n2x c2x, .slice a2x m2x d2x])]) (fun i => false) (by kernel_rfl) ?hq4 (monoL (monoC (kEq _) (monoC (kEq _) (monoC (kEq _) (monoC (kIs _) (monoC (kEq _) (monoC (kEq _) (monoC (kEq _) monoN)))))))) ?ha4 ?st4 ?tl4
  case hq4 =>
    intro c a d v w h
    first | (simp only [Exit.then] at h ⊢; exact h) | (simp only [Exit.inBlock, Exit.then] at h ⊢; exact h) | exact h
  case ha4 =>
    intro vals
    simp only [putsTo, dstOf, if_true, Act.put, List.setIfInBounds_toArray, List.set_cons_zero, List.set_cons_succ, List.getElem?_toArray, List.getElem?_cons_zero, List.getElem?_cons_succ, Option.bind_some]
    exact rfl
  case st4 =>
    simp only [List.take_succ_cons, List.take_zero]
    refine stepsOK_cons rfl rfl ?_ (stepsOK_cons rfl rfl ?_ (stepsOK_cons rfl rfl ?_ (stepsOK_cons rfl rfl ?_ (stepsOK_cons rfl rfl ?_ (stepsOK_cons rfl rfl ?_ (stepsOK_cons rfl rfl ?_ (stepsOK_nil)))))))
    · intro vals w1 hb hd
      refine stepOK_value (v := (.func (.func 52) #[] #[])) (w' := w1) (by go_simp) (leaves_mk (Below.refl _ _) rfl (fun h => by cases h))
    · intro vals w1 hb hd
      refine stepOK_value (v := (.pointer (some ⟨g1, 0, none⟩))) (w' := w1) (by go_simp) (leaves_mk (Below.refl _ _) rfl (fun h => by cases h))
    · intro vals w1 hb hd
      have d1 : KEq (.pointer (some ⟨g1, 0, none⟩)) (vals 1) w1 := hd 1 (by kernel_rfl)
      rw [show vals 1 = _ from d1]
      obtain ⟨e0, e1, e2, e3, e4, e5⟩ := row6 (heap_below BX1.out hb)
      refine stepOK_value (v := .agg #[.bool s2, .slice o2 n2 c2, .slice a2 m2 d2]) (w' := w1) (by go_simp) (leaves_mk (Below.refl _ _) rfl (fun h => by cases h))
    · intro vals w1 hb hd
      have d0 : KEq (.func (.func 52) #[] #[]) (vals 0) w1 := hd 0 (by kernel_rfl)
      have d2 : KEq (.agg #[.bool s2, .slice o2 n2 c2, .slice a2 m2 d2]) (vals 2) w1 := hd 2 (by kernel_rfl)
      have z0 : vals 0 = _ := d0
      have z2 : vals 2 = _ := d2
      have hs := clip1_any _ ((a).1) w1 ((N3l.out.below hb).is (by omega)) (by omega)
      have HS := Lib.hid hs; clear hs
      rw [z0]; clear z0
      rw [z2]; clear z2
      clear d0 d2 hd
      refine stepOK_call (by go_simp; first | done | exact ⟨⟨rfl, rfl⟩, rfl⟩) ?_
      (with_reducible refine HS.out.mono ?_); rintro e w2 ⟨v, rfl, hb2, hn⟩
      exact ⟨v, rfl, leaves_mk hb2 hn (fun h => by cases h)⟩
    · intro vals w1 hb hd
      refine stepOK_value (v := (.func (.func 52) #[] #[])) (w' := w1) (by go_simp) (leaves_mk (Below.refl _ _) rfl (fun h => by cases h))
    · intro vals w1 hb hd
      refine stepOK_value (v := (.pointer (some ⟨g1, 3, none⟩))) (w' := w1) (by go_simp) (leaves_mk (Below.refl _ _) rfl (fun h => by cases h))
    · intro vals w1 hb hd
      have d5 : KEq (.pointer (some ⟨g1, 3, none⟩)) (vals 5) w1 := hd 5 (by kernel_rfl)
      rw [show vals 5 = _ from d5]
      obtain ⟨e0, e1, e2, e3, e4, e5⟩ := row6 (heap_below BX1.out hb)
      refine stepOK_value (v := .agg #[.bool s2x, .slice o2x n2x c2x, .slice a2x m2x d2x]) (w' := w1) (by go_simp) (leaves_mk (Below.refl _ _) rfl (fun h => by cases h))
  case tl4 =>
    intro vals w5 hb5 hf hdis
    simp only [List.drop_succ_cons, List.drop_zero]
    obtain ⟨u4_3, hu3⟩ : ∃ u, u = vals 3 := ⟨_, rfl⟩
    have hn4_3 : IsR w5 (vals 3) (clip ((a).1)) := hf 3 (by decide)
    rw [← hu3] at hn4_3 ⊢; clear hu3
    have z4 : vals 4 = _ := hf 4 (by decide)
    try rw [z4]
    clear z4
    have z6 : vals 6 = _ := hf 6 (by decide)
    try rw [z6]
    clear z6
    clear hf hdis
    have HB5 := Lib.hid (HB4.out.step hb5)
    have Fa := Lib.hid (Fa.out.below hb5)
    have N3 := Lib.hid (N3.out.below hb5)
    have N3l := Lib.hid (N3l.out.below hb5)
    have N3h := Lib.hid (N3h.out.below hb5)
    have BX1 := Lib.hid (heap_below BX1.out hb5)
    have BX2 := Lib.hid (heap_below BX2.out hb5)
    clear hb5
    have N4_3 := Lib.hid hn4_3; clear hn4_3
    obtain ⟨s5, o5, n5, c5, a5, m5, d5, rfl⟩ := N4_3.out.shape
    skip
    have k6 := rl_clip ((a).2)
    have hs := clip1_any _ ((a).2) w5 (N3h.out.is (by omega)) (by omega)
    have HS := Lib.hid hs; clear hs
    go_wp2_with (with_reducible first | refine pauseCall ?_ | refine pauseLoop ?_ | refine pauseDraw ?_ | refine pauseBody ?_ | refine pauseRounds ?_)
    refine Pause.mk ?_
    (with_reducible refine HS.out.mono ?_); rintro e w6 ⟨v6, rfl, hb6, hn6⟩
    clear HS
    have HB6 := Lib.hid (HB5.out.step hb6)
    have Fa := Lib.hid (Fa.out.below hb6)
    have N3 := Lib.hid (N3.out.below hb6)
    have N3l := Lib.hid (N3l.out.below hb6)
    have N3h := Lib.hid (N3h.out.below hb6)
    have N4_3 := Lib.hid (N4_3.out.below hb6)
    have BX1 := Lib.hid (heap_below BX1.out hb6)
    have BX2 := Lib.hid (heap_below BX2.out hb6)
    have N6 := Lib.hid hn6; clear hn6
    obtain ⟨s7, o7, n7, c7, a7, m7, d7, rfl⟩ := N6.out.shape
    clear hb6
    obtain ⟨w7, hw7⟩ : ∃ w7, w7 = w6.alloc (.cells #[.bool s5, .slice o5 n5 c5, .slice a5 m5 d5, .bool s7, .slice o7 n7 c7, .slice a7 m7 d7] 24) := ⟨_, rfl⟩
    have hb7 : Below w6.heap.size w6 w7 := by rw [hw7]; exact (Below.refl _ _).alloc (Nat.le_refl _) _
    have hx7 := heap_alloc_new w6 (.cells #[.bool s5, .slice o5 n5 c5, .slice a5 m5 d5, .bool s7, .slice o7 n7 c7, .slice a7 m7 d7] 24)
    obtain ⟨g7, hg7⟩ : ∃ g, g = w6.heap.size := ⟨_, rfl⟩
    rw [← hw7, ← hg7] at hx7
    have lw7 : w.heap.size ≤ g7 := by rw [hg7]; exact HB6.out.size
    have ltBX17 : g1 < g7 := by rw [hg7]; exact below_lt BX1.out
    have ltBX27 : g2 < g7 := by rw [hg7]; exact below_lt BX2.out
    have HW7 := Lib.hid hw7; have HG7 := Lib.hid hg7; clear hw7 hg7
    have HB7 := Lib.hid (HB6.out.step hb7)
    have Fa := Lib.hid (Fa.out.below hb7)
    have N3 := Lib.hid (N3.out.below hb7)
    have N3l := Lib.hid (N3l.out.below hb7)
    have N3h := Lib.hid (N3h.out.below hb7)
    have N4_3 := Lib.hid (N4_3.out.below hb7)
    have N6 := Lib.hid (N6.out.below hb7)
    have BX1 := Lib.hid (heap_below BX1.out hb7)
    have BX2 := Lib.hid (heap_below BX2.out hb7)
    have BX7 := Lib.hid hx7; clear hb7 hx7
    obtain ⟨k8, k9⟩ := rl_around2 (clip ((a).1)) (clip ((a).2))
    have hs := of2 w7 BX7.out (N4_3.out.is (by omega)) (by omega) (N6.out.is (by omega)) (by omega)
    have HS := Lib.hid hs; clear hs
    go_wp2_with (with_reducible first | refine pauseCall ?_ | refine pauseLoop ?_ | refine pauseDraw ?_ | refine pauseBody ?_ | refine pauseRounds ?_)
    try rw [← HW7.out]
    try rw [← HG7.out]
    refine Pause.mk ?_
    (with_reducible refine HS.out.mono ?_); rintro e w8 ⟨v8, rfl, hb8, hn8⟩
    clear HS
    have HB8 := Lib.hid (HB7.out.step hb8)
    have Fa := Lib.hid (Fa.out.below hb8)
    have N3 := Lib.hid (N3.out.below hb8)
    have N3l := Lib.hid (N3l.out.below hb8)
    have N3h := Lib.hid (N3h.out.below hb8)
    have N4_3 := Lib.hid (N4_3.out.below hb8)
    have N6 := Lib.hid (N6.out.below hb8)
    have BX1 := Lib.hid (heap_below BX1.out hb8)
    have BX2 := Lib.hid (heap_below BX2.out hb8)
    have BX7 := Lib.hid (heap_below BX7.out hb8)
    clear BX7
    have N8 := Lib.hid hn8; clear hn8
    obtain ⟨s10, o10, n10, c10, a10, m10, d10, s10x, o10x, n10x, c10x, a10x, m10x, d10x, rfl⟩ := N8.out.shape
    have N8l := Lib.hid (isSp_ends N8.out).1; have N8h := Lib.hid (isSp_ends N8.out).2
    clear hb8
    go_wp2_with (with_reducible refine wpList_pauseS ?_)
    refine wpList_stL g2 0 [.bool s10, .slice o10 n10 c10, .slice a10 m10 d10, .bool s10x, .slice o10x n10x c10x, .slice a10x m10x d10x] BX2.out rfl rfl (Nat.le_of_ble_eq_true rfl) (by kernel_rfl) rfl ?_
    intro w9 hp9
    have Fa := Lib.hid (putL_SS hp9 Fa.out BX2.out noW6)
    have N3 := Lib.hid (putL_SI hp9 N3.out BX2.out noW6)
    have N3l := Lib.hid (putL_I hp9 N3l.out BX2.out noW6)
    have N3h := Lib.hid (putL_I hp9 N3h.out BX2.out noW6)
    have N4_3 := Lib.hid (putL_I hp9 N4_3.out BX2.out noW6)
    have N6 := Lib.hid (putL_I hp9 N6.out BX2.out noW6)
    have N8 := Lib.hid (putL_SI hp9 N8.out BX2.out noW6)
    have N8l := Lib.hid (putL_I hp9 N8l.out BX2.out noW6)
    have N8h := Lib.hid (putL_I hp9 N8h.out BX2.out noW6)
    have BX1 := Lib.hid (putLx hp9 BX1.out (by omega))
    have nx9 : w9.heap[g2]? = some (.cells #[.bool s10, .slice o10 n10 c10, .slice a10 m10 d10, .bool s10x, .slice o10x n10x c10x, .slice a10x m10x d10x] 26) := by rw [hp9]; exact putL_6 BX2.out
    have BX2 := Lib.hid nx9; clear nx9
    have HB9 := Lib.hid (putLb hp9 HB8.out (by omega))
    clear hp9
    obtain ⟨x11_0, x11_1, x11_2, x11_3, x11_4, x11_5⟩ := row6 BX2.out
    go_wp2_with (with_reducible first | refine pauseCall ?_ | refine pauseLoop ?_ | refine pauseDraw ?_ | refine pauseBody ?_ | refine pauseRounds ?_)
    clear x11_0 x11_1 x11_2 x11_3 x11_4 x11_5
    refine Pause.mk ?_
    refine ret_span rfl g2 _ _ _ _ _ _ (by first | rfl | exact rfl) BX2.out rfl ?_
    exact ⟨_, rfl, HB9.out, N8.out⟩
theorem sclip_any (va : Value) (a : Rat × Rat) (w : World) (ha : SpIs w va a) (la1 : rl a.1 ≤ 38000) (la2 : rl a.2 ≤ 38000) :
    Calls Tryd.prog 31 #[va] w (RetSp w (sClip a)) := by
  have h := sclip_raw va a w ha la1 la2
  rw [clip_around ha.ok] at h; exact h
end Go.Proofs.YtaefimegiobkmaaDoor
/-
  Arguments that are fractions.
  Conditions: none beyond each theorem's own.
-/
namespace Go.Proofs.YtaefimegiobkmaaDoor
open Go.RowKit Go.ChangeShapes Go.WideShapes

/-- a field that is a slice of words -/
theorem open_words_cell {H : Type} {enc : TypeId × Value → H} {P : Program} {W : World} {t e : TypeId} {v : Value} {x : DataW H × List MemPlace} {fuel : Nat} (ht : P.underlying t = some (.slice e)) (he : P.underlying e = some (.int .u32)) (hc : P.cellsOf e = 1)
    (hf : DataW.trod enc P W 0 (fun _ => true) true fuel t [v] = some x) : ∃ l : List Nat, Num W v l := by
  rcases open_ints ht he hc hf with ⟨hcs, hx⟩ | ⟨a, len', cap', zs, hcs, _, hl, hm, hz, hx, hcell, hwz⟩
  · have hcs' : v = .slice none 0 0 := by simpa using hcs
    rw [hcs']; exact ⟨[], Num.nil W⟩
  · have hcs' : v = .slice (some a) len' cap' := by simpa using hcs
    rw [hcs']
    have hz' : len' ≤ zs.length := by rw [hz]; simp; exact hl
    have hgd : ∀ j, j < len' → gd ((zs.take len').map Int.toNat) j = (zs.getD j 0).toNat := fun j hj => by
      simp [gd, List.getD_eq_getElem?_getD, hj, show j < zs.length by omega]
    have hwf : ∀ j, j < zs.length → 0 ≤ zs.getD j 0 ∧ zs.getD j 0 < 4294967296 := fun j hj => by
      have hmem : zs.getD j 0 ∈ zs := by rw [List.getD_eq_getElem?_getD, List.getElem?_eq_getElem hj]; exact List.getElem_mem hj
      have := hwz _ hmem
      simp only [Lit.wf, Bool.and_eq_true, decide_eq_true_eq] at this
      have h1 : IntKind.u32.min = 0 := by decide
      have h2 : IntKind.u32.max = 4294967296 - 1 := by decide
      rw [h1, h2] at this; omega
    have hlen : ((zs.take len').map Int.toNat).length = len' := by rw [List.length_map, List.length_take]; omega
    refine ⟨(zs.take len').map Int.toNat, some a, cap', by rw [hlen], by omega, by unfold maxLen at hm; omega, by simp, ?_, ?_⟩
    · intro b off s hs
      obtain rfl : a = ⟨b, off, s⟩ := Option.some.inj hs
      have h0 : 0 < len' → b < W.heap.size ∧ s = none := fun h0 => by
        have := hcell 0 (by omega)
        have e0 : (⟨b, off, s⟩ : Addr).add 0 = ⟨b, off, s⟩ := by simp [Addr.add]
        rw [e0] at this
        refine ⟨World.block_lt_of_cell? W _ this, ?_⟩
        cases s with
        | none => rfl
        | some x =>
          unfold World.cell? at this
          split at this <;> simp at this
      refine ⟨fun hh => h0 (by omega), fun j hj => ?_⟩
      rw [hlen] at hj
      obtain ⟨_, rfl⟩ := h0 (by omega)
      have := hcell j (by omega)
      have e2 : (⟨b, off, none⟩ : Addr).add j = ⟨b, off + j, none⟩ := by unfold Addr.add; split <;> simp_all
      rw [e2] at this
      rw [this, hgd j hj]
      have := hwf j (by omega)
      congr 2; omega
    · intro j
      by_cases hj : j < len'
      · rw [hgd j hj]; have := hwf j (by omega); omega
      · rw [gd_over _ _ (by omega)]; omega

end Go.Proofs.YtaefimegiobkmaaDoor
/-
  Arguments that are intervals.
  Conditions: none beyond each theorem's own.
-/
namespace Go.Proofs.YtaefimegiobkmaaDoor
open Go.RowKit Go.ChangeShapes Go.WideShapes Go.Joins Go.Deep

theorem array6 {α : Type} {cs : Array α} (h : cs.size = 6) : ∃ c0 c1 c2 c3 c4 c5, cs = #[c0, c1, c2, c3, c4, c5] := by
  obtain ⟨l⟩ := cs
  match l, h with
  | [c0, c1, c2, c3, c4, c5], _ => exact ⟨c0, c1, c2, c3, c4, c5, rfl⟩
set_option maxRecDepth 100000 in
set_option maxHeartbeats 1600000 in
theorem open_ratc {H : Type} {enc : TypeId × Value → H} {W : World} {c0 c1 c2 : Value} {x : DataW H × List MemPlace} {fuel : Nat}
    (h : DataW.trod enc Tryd.prog W 0 (fun _ => true) true fuel 24 [c0, c1, c2] = some x) : ∃ s a b, RatV W (.agg #[c0, c1, c2]) s a b := by
  obtain ⟨y0, y1, y2, n, hx, _, h0, h1, h2⟩ := trod_struct3 Tryd.underlying24 h
  have h0' : DataW.trod enc Tryd.prog W 0 (fun _ => true) true n 4 [c0] = some y0 := h0
  have h1' : DataW.trod enc Tryd.prog W 0 (fun _ => true) true n 22 [c1] = some y1 := h1
  have h2' : DataW.trod enc Tryd.prog W 0 (fun _ => true) true n 22 [c2] = some y2 := h2
  obtain ⟨b', k0, _⟩ := DataW.trod_bool Tryd.underlying4 h0'
  have e0 : c0 = .bool b' := by simpa using k0
  obtain ⟨a, ha⟩ := open_words_cell Tryd.underlying22 Tryd.underlying78 (by kernel_rfl) h1'
  obtain ⟨b, hb⟩ := open_words_cell Tryd.underlying22 Tryd.underlying78 (by kernel_rfl) h2'
  exact ⟨b', a, b, c1, c2, by rw [e0], ha, hb⟩
set_option maxRecDepth 100000 in
set_option maxHeartbeats 1600000 in
theorem open_span {H : Type} {enc : TypeId × Value → H} {W : World} {v : Value} {d : DataW H} {p : List MemPlace} {base : Nat}
    (hv : Value.okWide Tryd.prog W .any base 26 v) (h : DataW.Trod enc Tryd.prog W 0 (fun _ => true) true 26 v d p) : ∃ s a b t c d, SpV W v s a b t c d := by
  obtain ⟨cs, rfl, hsz⟩ := okWide_struct Tryd.underlying26 hv
  obtain ⟨c0, c1, c2, c3, c4, c5, rfl⟩ := array6 (hsz.trans (by kernel_rfl))
  obtain ⟨fuel, hf⟩ := h
  obtain ⟨y0, y1, n, hx, _, h0, h1⟩ := trod_struct2 Tryd.underlying26 hf
  have h0' : DataW.trod enc Tryd.prog W 0 (fun _ => true) true n 24 [c0, c1, c2] = some y0 := h0
  have h1' : DataW.trod enc Tryd.prog W 0 (fun _ => true) true n 24 [c3, c4, c5] = some y1 := h1
  obtain ⟨s, a, b, k0⟩ := open_ratc h0'
  obtain ⟨t, c, d, k1⟩ := open_ratc h1'
  exact ⟨s, a, b, t, c, d, c0, c1, c2, c3, c4, c5, rfl, k0, k1⟩
end Go.Proofs.YtaefimegiobkmaaDoor
/-
  The last step of a law's proof: true was handed back and nothing that was there has changed, so the row's claim holds.
  Conditions: each theorem's own.
-/
namespace Go.Proofs.YtaefimegiobkmaaDoor
open Go.RowKit Go.ChangeShapes Go.WideShapes

theorem trodAll_below {H : Type} {enc : TypeId × Value → H} {P : Program} (hl : laidOutB P = true) {W W' : World} (hb : Below W.heap.size W W') :
    ∀ (ts : List TypeId) (vs : List Value) (ds : List (DataW H)) (ps : List MemPlace), (ts.all fun t => P.readableRec t && decide (t < P.types.size)) = true →
      DataW.TrodAll enc P W 0 (fun _ => true) true ts vs ds ps → (∀ x ∈ ps, x.block < W.heap.size) → DataW.TrodAll enc P W' 0 (fun b => decide (b < W.heap.size)) true ts vs ds ps := by
  intro ts
  induction ts with
  | nil =>
    intro vs ds ps hr h hlt
    cases vs <;> cases ds <;> first | exact h | exact h.elim
  | cons t ts ih =>
    intro vs ds ps hr h hlt
    simp only [List.all_cons, Bool.and_eq_true, decide_eq_true_eq] at hr
    cases vs with
    | nil => cases ds <;> exact h.elim
    | cons v vs =>
      cases ds with
      | nil => exact h.elim
      | cons d ds =>
        obtain ⟨p, q, h1, h2, rfl⟩ := h
        exact ⟨p, q, Below.trod hl hr.1.1 hr.1.2 h1 hb (fun x hx => hlt x (List.mem_append_left _ hx)),
          ih vs ds q hr.2 h2 (fun x hx => hlt x (List.mem_append_right _ hx)), rfl⟩

theorem law_close {H : Type} {enc : TypeId × Value → H} {P : Program} {f : Func} {s : ChangeSpec} {W W' : World} {args : Array Value} {ds gs : List (DataW H)} {before : List MemPlace} {tb : TypeId}
    (hl : laidOutB P = true) (hrd : (f.params.toList.all fun t => P.readableRec t && decide (t < P.types.size)) = true) (hvars : s.vars = []) (hr : f.resultTypes = #[tb]) (hbool : P.underlying tb = some .bool)
    (hres : (s.fn H (ds ++ gs)).results = [.lit (.bool true)]) (hargs : (s.fn H (ds ++ gs)).args = ds) (hvs : (s.fn H (ds ++ gs)).vars = [])
    (hW : DataW.Whole enc P f.params.toList s.vars false W args.toList ds gs before) (hb : Below W.heap.size W W') :
    s.post enc P f false true false false W args (.bool true) W' := by
  have hlt := hW.lt
  have hW' := hW
  obtain ⟨p, q, hA, hV, rfl, hz, hn⟩ := hW
  rw [hvars] at hV
  obtain ⟨rfl, rfl⟩ := trodVars_none hV
  refine ⟨ds, [], p ++ [], [], p, [], hW', ?_, ?_, ?_, hb.frame _, fun h => by cases h⟩
  · rw [hres, hr]
    exact ⟨[], [], shut_bool hbool true, rfl, rfl⟩
  · rw [hargs]
    exact trodAll_below hl hb _ _ _ _ hrd hA (fun x hx => by simpa using hlt x (List.mem_append_left _ hx))
  · rw [hvs, hvars]; rfl
end Go.Proofs.YtaefimegiobkmaaDoor
/-
  Arguments that are arrays of bytes.
  Conditions: none beyond each theorem's own.
-/
namespace Go.Proofs.YtaefimegiobkmaaDoor
open Go.RowKit Go.ChangeShapes Go.WideShapes Go.Joins Go.Deep

theorem okWide_arr {P : Program} {w : World} {r : Reach} {base : Nat} {t e : TypeId} {n : Nat} {v : Value} (ht : P.underlying t = some (.array n e)) (h : Value.okWide P w r base t v) : ∃ cs, v = .agg cs ∧ cs.size = P.cellsOf t := by
  simp only [Value.okWide, ht] at h
  obtain ⟨cs, h1, h2, _⟩ := h
  exact ⟨cs, h1, h2⟩
theorem byte_cell {H : Type} {enc : TypeId × Value → H} {W : World} {c : Value} {x : DataW H × List MemPlace} {fuel : Nat}
    (h : DataW.trod enc Tryd.prog W 0 (fun _ => true) true fuel 5 [c] = some x) : ∃ k : Nat, c = .int .u8 (k : Nat) ∧ k < 256 := by
  obtain ⟨n, e, _, hw⟩ := DataW.trod_int Tryd.underlying5 h
  have e0 : c = .int .u8 n := by simpa using e
  simp only [Lit.wf, Bool.and_eq_true, decide_eq_true_eq] at hw
  have h1 : IntKind.u8.min = 0 := by decide
  have h2 : IntKind.u8.max = 255 := by decide
  rw [h1, h2] at hw
  refine ⟨n.toNat, ?_, by omega⟩
  rw [e0]; congr 1; omega
set_option maxRecDepth 100000 in
set_option maxHeartbeats 1600000 in
theorem open_bytes2 {H : Type} {enc : TypeId × Value → H} {W : World} {v : Value} {d : DataW H} {p : List MemPlace} {base : Nat}
    (hv : Value.okWide Tryd.prog W .any base 43 v) (h : DataW.Trod enc Tryd.prog W 0 (fun _ => true) true 43 v d p) : ∃ k0 k1 : Nat, v = .agg #[.int .u8 (k0 : Nat), .int .u8 (k1 : Nat)] ∧ k0 < 256 ∧ k1 < 256 := by
  obtain ⟨cs, rfl, hsz⟩ := okWide_arr Tryd.underlying43 hv
  obtain ⟨c0, c1, rfl⟩ := array2 (hsz.trans (by kernel_rfl))
  obtain ⟨fuel, hf⟩ := h
  obtain ⟨xs, m, _, hx, hl, hlen, hi⟩ := DataW.trod_array Tryd.underlying43 hf
  have hc : Tryd.prog.cellsOf 5 = 1 := by kernel_rfl
  rw [hc] at hi
  match xs, hlen, hi with
  | [y0, y1], _, hi =>
    have h0 : DataW.trod enc Tryd.prog W 0 (fun _ => true) true m 5 [c0] = some y0 := hi 0 (by decide)
    have h1 : DataW.trod enc Tryd.prog W 0 (fun _ => true) true m 5 [c1] = some y1 := hi 1 (by decide)
    obtain ⟨k0, rfl, b0⟩ := byte_cell h0
    obtain ⟨k1, rfl, b1⟩ := byte_cell h1
    exact ⟨k0, k1, rfl, b0, b1⟩
set_option maxRecDepth 100000 in
set_option maxHeartbeats 1600000 in
theorem open_bytes4 {H : Type} {enc : TypeId × Value → H} {W : World} {v : Value} {d : DataW H} {p : List MemPlace} {base : Nat}
    (hv : Value.okWide Tryd.prog W .any base 50 v) (h : DataW.Trod enc Tryd.prog W 0 (fun _ => true) true 50 v d p) : ∃ k0 k1 k2 k3 : Nat, v = .agg #[.int .u8 (k0 : Nat), .int .u8 (k1 : Nat), .int .u8 (k2 : Nat), .int .u8 (k3 : Nat)] ∧ k0 < 256 ∧ k1 < 256 ∧ k2 < 256 ∧ k3 < 256 := by
  obtain ⟨cs, rfl, hsz⟩ := okWide_arr Tryd.underlying50 hv
  obtain ⟨c0, c1, c2, c3, rfl⟩ := array4 (hsz.trans (by kernel_rfl))
  obtain ⟨fuel, hf⟩ := h
  obtain ⟨xs, m, _, hx, hl, hlen, hi⟩ := DataW.trod_array Tryd.underlying50 hf
  have hc : Tryd.prog.cellsOf 5 = 1 := by kernel_rfl
  rw [hc] at hi
  match xs, hlen, hi with
  | [y0, y1, y2, y3], _, hi =>
    have h0 : DataW.trod enc Tryd.prog W 0 (fun _ => true) true m 5 [c0] = some y0 := hi 0 (by decide)
    have h1 : DataW.trod enc Tryd.prog W 0 (fun _ => true) true m 5 [c1] = some y1 := hi 1 (by decide)
    have h2 : DataW.trod enc Tryd.prog W 0 (fun _ => true) true m 5 [c2] = some y2 := hi 2 (by decide)
    have h3 : DataW.trod enc Tryd.prog W 0 (fun _ => true) true m 5 [c3] = some y3 := hi 3 (by decide)
    obtain ⟨k0, rfl, b0⟩ := byte_cell h0
    obtain ⟨k1, rfl, b1⟩ := byte_cell h1
    obtain ⟨k2, rfl, b2⟩ := byte_cell h2
    obtain ⟨k3, rfl, b3⟩ := byte_cell h3
    exact ⟨k0, k1, k2, k3, rfl, b0, b1, b2, b3⟩
end Go.Proofs.YtaefimegiobkmaaDoor
