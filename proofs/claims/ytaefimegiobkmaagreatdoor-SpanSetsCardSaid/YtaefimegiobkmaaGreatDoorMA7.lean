/-
  The texts SpanLaw2, one behind the other (what the law leans on).
  Conditions: each theorem's own.
-/
import Derived.Test.YtaefimegiobkmaaGreatDoorMA6
/-
  faultlinelaw03.awake: the document's examples.
  Conditions: each theorem's own.
-/
namespace Go.Proofs.YtaefimegiobkmaaGreatDoor
open Go.RowKit Go.ChangeShapes Go.WideShapes

theorem awk3_1 : stx (sMul (((-1 : Int) : Rat), ((2 : Int) : Rat)) (((-3 : Int) : Rat), ((1 : Int) : Rat))) = [45, 54, 46, 46, 51] := by kernel_rfl
theorem awk3_2 : stx (sdV (((1 : Int) : Rat), ((2 : Int) : Rat)) (((2 : Int) : Rat), ((4 : Int) : Rat))) = [49, 47, 52, 46, 46, 49] := by kernel_rfl
theorem awk3_3 : sdC (((2 : Int) : Rat), ((4 : Int) : Rat)) = 0 := by kernel_rfl
set_option maxRecDepth 100000 in
set_option maxHeartbeats 6400000 in
theorem awake03  (w : World)   :
    Calls Tryz.prog 7 #[] w (RetV w (.bool true)) := by
  have HBW := Lib.hid (Below.refl w.heap.size w)
  have kz0 : rl 0 ≤ 1 := by rw [rl_zero]; exact Nat.le_refl _
  have HD := Lib.hid awk3_3
  go_enter Tryz.func7, Tryz.ntmps7
  have k1 : rl (((-1) : Int) : Rat) ≤ 2 := rl_small (by decide) (by decide)
  have hs := rofq_any (-1) w (by decide) (by decide)
  have HS := Lib.hid hs; clear hs
  go_wp2_with (with_reducible first | refine pauseCall ?_ | refine pauseLoop ?_ | refine pauseDraw ?_ | refine pauseBody ?_ | refine pauseRounds ?_)
  refine Pause.mk ?_
  (with_reducible refine HS.out.mono ?_); rintro e w1 ⟨v1, rfl, hb1, hn1⟩
  clear HS
  have HB1 := Lib.hid (HBW.out.step hb1)
  have N1 := Lib.hid hn1; clear hn1
  obtain ⟨s2, o2, n2, c2, a2, m2, d2, rfl⟩ := N1.out.shape
  clear hb1
  have k3 : rl ((2 : Int) : Rat) ≤ 2 := rl_small (by decide) (by decide)
  have hs := rofq_any 2 w1 (by decide) (by decide)
  have HS := Lib.hid hs; clear hs
  go_wp2_with (with_reducible first | refine pauseCall ?_ | refine pauseLoop ?_ | refine pauseDraw ?_ | refine pauseBody ?_ | refine pauseRounds ?_)
  refine Pause.mk ?_
  (with_reducible refine HS.out.mono ?_); rintro e w2 ⟨v2, rfl, hb2, hn2⟩
  clear HS
  have HB2 := Lib.hid (HB1.out.step hb2)
  have N1 := Lib.hid (N1.out.below hb2)
  have N2 := Lib.hid hn2; clear hn2
  obtain ⟨s4, o4, n4, c4, a4, m4, d4, rfl⟩ := N2.out.shape
  clear hb2
  obtain ⟨w3, hw3⟩ : ∃ w3, w3 = w2.alloc (.cells #[.bool s2, .slice o2 n2 c2, .slice a2 m2 d2, .bool s4, .slice o4 n4 c4, .slice a4 m4 d4] 26) := ⟨_, rfl⟩
  have hb3 : Below w2.heap.size w2 w3 := by rw [hw3]; exact (Below.refl _ _).alloc (Nat.le_refl _) _
  have hx3 := heap_alloc_new w2 (.cells #[.bool s2, .slice o2 n2 c2, .slice a2 m2 d2, .bool s4, .slice o4 n4 c4, .slice a4 m4 d4] 26)
  obtain ⟨g3, hg3⟩ : ∃ g, g = w2.heap.size := ⟨_, rfl⟩
  rw [← hw3, ← hg3] at hx3
  have lw3 : w.heap.size ≤ g3 := by rw [hg3]; exact HB2.out.size
  have HW3 := Lib.hid hw3; have HG3 := Lib.hid hg3; clear hw3 hg3
  have HB3 := Lib.hid (HB2.out.step hb3)
  have N1 := Lib.hid (N1.out.below hb3)
  have N2 := Lib.hid (N2.out.below hb3)
  have BX3 := Lib.hid hx3; clear hb3 hx3
  have k5 : rl (((-3) : Int) : Rat) ≤ 2 := rl_small (by decide) (by decide)
  have hs := rofq_any (-3) w3 (by decide) (by decide)
  have HS := Lib.hid hs; clear hs
  go_wp2_with (with_reducible first | refine pauseCall ?_ | refine pauseLoop ?_ | refine pauseDraw ?_ | refine pauseBody ?_ | refine pauseRounds ?_)
  try rw [← HW3.out]
  try rw [← HG3.out]
  refine Pause.mk ?_
  (with_reducible refine HS.out.mono ?_); rintro e w4 ⟨v4, rfl, hb4, hn4⟩
  clear HS
  have HB4 := Lib.hid (HB3.out.step hb4)
  have N1 := Lib.hid (N1.out.below hb4)
  have N2 := Lib.hid (N2.out.below hb4)
  have BX3 := Lib.hid (heap_below BX3.out hb4)
  have N4 := Lib.hid hn4; clear hn4
  obtain ⟨s6, o6, n6, c6, a6, m6, d6, rfl⟩ := N4.out.shape
  clear hb4
  have k7 : rl ((1 : Int) : Rat) ≤ 2 := rl_small (by decide) (by decide)
  have hs := rofq_any 1 w4 (by decide) (by decide)
  have HS := Lib.hid hs; clear hs
  go_wp2_with (with_reducible first | refine pauseCall ?_ | refine pauseLoop ?_ | refine pauseDraw ?_ | refine pauseBody ?_ | refine pauseRounds ?_)
  refine Pause.mk ?_
  (with_reducible refine HS.out.mono ?_); rintro e w5 ⟨v5, rfl, hb5, hn5⟩
  clear HS
  have HB5 := Lib.hid (HB4.out.step hb5)
  have N1 := Lib.hid (N1.out.below hb5)
  have N2 := Lib.hid (N2.out.below hb5)
  have N4 := Lib.hid (N4.out.below hb5)
  have BX3 := Lib.hid (heap_below BX3.out hb5)
  have N5 := Lib.hid hn5; clear hn5
  obtain ⟨s8, o8, n8, c8, a8, m8, d8, rfl⟩ := N5.out.shape
  clear hb5
  obtain ⟨w6, hw6⟩ : ∃ w6, w6 = w5.alloc (.cells #[.bool s6, .slice o6 n6 c6, .slice a6 m6 d6, .bool s8, .slice o8 n8 c8, .slice a8 m8 d8] 26) := ⟨_, rfl⟩
  have hb6 : Below w5.heap.size w5 w6 := by rw [hw6]; exact (Below.refl _ _).alloc (Nat.le_refl _) _
  have hx6 := heap_alloc_new w5 (.cells #[.bool s6, .slice o6 n6 c6, .slice a6 m6 d6, .bool s8, .slice o8 n8 c8, .slice a8 m8 d8] 26)
  obtain ⟨g6, hg6⟩ : ∃ g, g = w5.heap.size := ⟨_, rfl⟩
  rw [← hw6, ← hg6] at hx6
  have lw6 : w.heap.size ≤ g6 := by rw [hg6]; exact HB5.out.size
  have ltBX36 : g3 < g6 := by rw [hg6]; exact below_lt BX3.out
  have HW6 := Lib.hid hw6; have HG6 := Lib.hid hg6; clear hw6 hg6
  have HB6 := Lib.hid (HB5.out.step hb6)
  have N1 := Lib.hid (N1.out.below hb6)
  have N2 := Lib.hid (N2.out.below hb6)
  have N4 := Lib.hid (N4.out.below hb6)
  have N5 := Lib.hid (N5.out.below hb6)
  have BX3 := Lib.hid (heap_below BX3.out hb6)
  have BX6 := Lib.hid hx6; clear hb6 hx6
  have k9 : rl ((1 : Int) : Rat) ≤ 2 := rl_small (by decide) (by decide)
  have hs := rofq_any 1 w6 (by decide) (by decide)
  have HS := Lib.hid hs; clear hs
  go_wp2_with (with_reducible first | refine pauseCall ?_ | refine pauseLoop ?_ | refine pauseDraw ?_ | refine pauseBody ?_ | refine pauseRounds ?_)
  try rw [← HW6.out]
  try rw [← HG6.out]
  refine Pause.mk ?_
  (with_reducible refine HS.out.mono ?_); rintro e w7 ⟨v7, rfl, hb7, hn7⟩
  clear HS
  have HB7 := Lib.hid (HB6.out.step hb7)
  have N1 := Lib.hid (N1.out.below hb7)
  have N2 := Lib.hid (N2.out.below hb7)
  have N4 := Lib.hid (N4.out.below hb7)
  have N5 := Lib.hid (N5.out.below hb7)
  have BX3 := Lib.hid (heap_below BX3.out hb7)
  have BX6 := Lib.hid (heap_below BX6.out hb7)
  have N7 := Lib.hid hn7; clear hn7
  obtain ⟨s10, o10, n10, c10, a10, m10, d10, rfl⟩ := N7.out.shape
  clear hb7
  have k11 : rl ((2 : Int) : Rat) ≤ 2 := rl_small (by decide) (by decide)
  have hs := rofq_any 2 w7 (by decide) (by decide)
  have HS := Lib.hid hs; clear hs
  go_wp2_with (with_reducible first | refine pauseCall ?_ | refine pauseLoop ?_ | refine pauseDraw ?_ | refine pauseBody ?_ | refine pauseRounds ?_)
  refine Pause.mk ?_
  (with_reducible refine HS.out.mono ?_); rintro e w8 ⟨v8, rfl, hb8, hn8⟩
  clear HS
  have HB8 := Lib.hid (HB7.out.step hb8)
  have N1 := Lib.hid (N1.out.below hb8)
  have N2 := Lib.hid (N2.out.below hb8)
  have N4 := Lib.hid (N4.out.below hb8)
  have N5 := Lib.hid (N5.out.below hb8)
  have N7 := Lib.hid (N7.out.below hb8)
  have BX3 := Lib.hid (heap_below BX3.out hb8)
  have BX6 := Lib.hid (heap_below BX6.out hb8)
  have N8 := Lib.hid hn8; clear hn8
  obtain ⟨s12, o12, n12, c12, a12, m12, d12, rfl⟩ := N8.out.shape
  clear hb8
  have k13 : rl ((2 : Int) : Rat) ≤ 2 := rl_small (by decide) (by decide)
  have hs := rofq_any 2 w8 (by decide) (by decide)
  have HS := Lib.hid hs; clear hs
  go_wp2_with (with_reducible first | refine pauseCall ?_ | refine pauseLoop ?_ | refine pauseDraw ?_ | refine pauseBody ?_ | refine pauseRounds ?_)
  refine Pause.mk ?_
  (with_reducible refine HS.out.mono ?_); rintro e w9 ⟨v9, rfl, hb9, hn9⟩
  clear HS
  have HB9 := Lib.hid (HB8.out.step hb9)
  have N1 := Lib.hid (N1.out.below hb9)
  have N2 := Lib.hid (N2.out.below hb9)
  have N4 := Lib.hid (N4.out.below hb9)
  have N5 := Lib.hid (N5.out.below hb9)
  have N7 := Lib.hid (N7.out.below hb9)
  have N8 := Lib.hid (N8.out.below hb9)
  have BX3 := Lib.hid (heap_below BX3.out hb9)
  have BX6 := Lib.hid (heap_below BX6.out hb9)
  have N9 := Lib.hid hn9; clear hn9
  obtain ⟨s14, o14, n14, c14, a14, m14, d14, rfl⟩ := N9.out.shape
  clear hb9
  have k15 : rl ((4 : Int) : Rat) ≤ 2 := rl_small (by decide) (by decide)
  have hs := rofq_any 4 w9 (by decide) (by decide)
  have HS := Lib.hid hs; clear hs
  go_wp2_with (with_reducible first | refine pauseCall ?_ | refine pauseLoop ?_ | refine pauseDraw ?_ | refine pauseBody ?_ | refine pauseRounds ?_)
  refine Pause.mk ?_
  (with_reducible refine HS.out.mono ?_); rintro e w10 ⟨v10, rfl, hb10, hn10⟩
  clear HS
  have HB10 := Lib.hid (HB9.out.step hb10)
  have N1 := Lib.hid (N1.out.below hb10)
  have N2 := Lib.hid (N2.out.below hb10)
  have N4 := Lib.hid (N4.out.below hb10)
  have N5 := Lib.hid (N5.out.below hb10)
  have N7 := Lib.hid (N7.out.below hb10)
  have N8 := Lib.hid (N8.out.below hb10)
  have N9 := Lib.hid (N9.out.below hb10)
  have BX3 := Lib.hid (heap_below BX3.out hb10)
  have BX6 := Lib.hid (heap_below BX6.out hb10)
  have N10 := Lib.hid hn10; clear hn10
  obtain ⟨s16, o16, n16, c16, a16, m16, d16, rfl⟩ := N10.out.shape
  clear hb10
  obtain ⟨kp19, kp19x⟩ : rl (((((1 : Int) : Rat)), (((2 : Int) : Rat))) : Rat × Rat).1 ≤ rl (((1 : Int) : Rat)) ∧ rl (((((1 : Int) : Rat)), (((2 : Int) : Rat))) : Rat × Rat).2 ≤ rl (((2 : Int) : Rat)) := ⟨Nat.le_refl _, Nat.le_refl _⟩
  obtain ⟨kp20, kp20x⟩ : rl (((((2 : Int) : Rat)), (((4 : Int) : Rat))) : Rat × Rat).1 ≤ rl (((2 : Int) : Rat)) ∧ rl (((((2 : Int) : Rat)), (((4 : Int) : Rat))) : Rat × Rat).2 ≤ rl (((4 : Int) : Rat)) := ⟨Nat.le_refl _, Nat.le_refl _⟩
  obtain ⟨k17, k18⟩ := rl_sdV (((((1 : Int) : Rat)), (((2 : Int) : Rat)))) (((((2 : Int) : Rat)), (((4 : Int) : Rat))))
  have hs := sdiv_any _ (((((1 : Int) : Rat)), (((2 : Int) : Rat)))) _ (((((2 : Int) : Rat)), (((4 : Int) : Rat)))) w10 ((isSp_of N7.out N8.out).is (Rat.intCast_le_intCast.2 (by decide)) (by omega) (by omega)) ((isSp_of N9.out N10.out).is (Rat.intCast_le_intCast.2 (by decide)) (by omega) (by omega)) (by omega) (by omega) (by omega) (by omega)
  rw [HD.out, errV_zero] at hs
  have HS := Lib.hid hs; clear hs
  go_wp2_with (with_reducible first | refine pauseCall ?_ | refine pauseLoop ?_ | refine pauseDraw ?_ | refine pauseBody ?_ | refine pauseRounds ?_)
  refine Pause.mk ?_
  (with_reducible refine HS.out.mono ?_); rintro e w11 ⟨v11, rfl, hb11, hn11⟩
  clear HS
  have HB11 := Lib.hid (HB10.out.step hb11)
  have N1 := Lib.hid (N1.out.below hb11)
  have N2 := Lib.hid (N2.out.below hb11)
  have N4 := Lib.hid (N4.out.below hb11)
  have N5 := Lib.hid (N5.out.below hb11)
  have N7 := Lib.hid (N7.out.below hb11)
  have N8 := Lib.hid (N8.out.below hb11)
  have N9 := Lib.hid (N9.out.below hb11)
  have N10 := Lib.hid (N10.out.below hb11)
  have BX3 := Lib.hid (heap_below BX3.out hb11)
  have BX6 := Lib.hid (heap_below BX6.out hb11)
  have N11 := Lib.hid hn11; clear hn11
  obtain ⟨s21, o21, n21, c21, a21, m21, d21, s21x, o21x, n21x, c21x, a21x, m21x, d21x, rfl⟩ := N11.out.shape
  have N11l := Lib.hid (isSp_ends N11.out).1; have N11h := Lib.hid (isSp_ends N11.out).2
  clear hb11
  obtain ⟨w12, hw12⟩ : ∃ w12, w12 = w11.alloc (.cells #[.bool s21, .slice o21 n21 c21, .slice a21 m21 d21, .bool s21x, .slice o21x n21x c21x, .slice a21x m21x d21x] 26) := ⟨_, rfl⟩
  have hb12 : Below w11.heap.size w11 w12 := by rw [hw12]; exact (Below.refl _ _).alloc (Nat.le_refl _) _
  have hx12 := heap_alloc_new w11 (.cells #[.bool s21, .slice o21 n21 c21, .slice a21 m21 d21, .bool s21x, .slice o21x n21x c21x, .slice a21x m21x d21x] 26)
  obtain ⟨g12, hg12⟩ : ∃ g, g = w11.heap.size := ⟨_, rfl⟩
  rw [← hw12, ← hg12] at hx12
  have lw12 : w.heap.size ≤ g12 := by rw [hg12]; exact HB11.out.size
  have ltBX312 : g3 < g12 := by rw [hg12]; exact below_lt BX3.out
  have ltBX612 : g6 < g12 := by rw [hg12]; exact below_lt BX6.out
  have HW12 := Lib.hid hw12; have HG12 := Lib.hid hg12; clear hw12 hg12
  have HB12 := Lib.hid (HB11.out.step hb12)
  have N1 := Lib.hid (N1.out.below hb12)
  have N2 := Lib.hid (N2.out.below hb12)
  have N4 := Lib.hid (N4.out.below hb12)
  have N5 := Lib.hid (N5.out.below hb12)
  have N7 := Lib.hid (N7.out.below hb12)
  have N8 := Lib.hid (N8.out.below hb12)
  have N9 := Lib.hid (N9.out.below hb12)
  have N10 := Lib.hid (N10.out.below hb12)
  have N11 := Lib.hid (N11.out.below hb12)
  have N11l := Lib.hid (N11l.out.below hb12)
  have N11h := Lib.hid (N11h.out.below hb12)
  have BX3 := Lib.hid (heap_below BX3.out hb12)
  have BX6 := Lib.hid (heap_below BX6.out hb12)
  have BX12 := Lib.hid hx12; clear hb12 hx12
  obtain ⟨x22_0, x22_1, x22_2, x22_3, x22_4, x22_5⟩ := row6 BX3.out
  obtain ⟨x23_0, x23_1, x23_2, x23_3, x23_4, x23_5⟩ := row6 BX6.out
  obtain ⟨kp26, kp26x⟩ : rl ((((((-1) : Int) : Rat)), (((2 : Int) : Rat))) : Rat × Rat).1 ≤ rl ((((-1) : Int) : Rat)) ∧ rl ((((((-1) : Int) : Rat)), (((2 : Int) : Rat))) : Rat × Rat).2 ≤ rl (((2 : Int) : Rat)) := ⟨Nat.le_refl _, Nat.le_refl _⟩
  obtain ⟨kp27, kp27x⟩ : rl ((((((-3) : Int) : Rat)), (((1 : Int) : Rat))) : Rat × Rat).1 ≤ rl ((((-3) : Int) : Rat)) ∧ rl ((((((-3) : Int) : Rat)), (((1 : Int) : Rat))) : Rat × Rat).2 ≤ rl (((1 : Int) : Rat)) := ⟨Nat.le_refl _, Nat.le_refl _⟩
  obtain ⟨k24, k25⟩ := rl_sMul ((((((-1) : Int) : Rat)), (((2 : Int) : Rat)))) ((((((-3) : Int) : Rat)), (((1 : Int) : Rat))))
  have hs := smul_any _ ((((((-1) : Int) : Rat)), (((2 : Int) : Rat)))) _ ((((((-3) : Int) : Rat)), (((1 : Int) : Rat)))) w12 ((isSp_of N1.out N2.out).is (Rat.intCast_le_intCast.2 (by decide)) (by omega) (by omega)) ((isSp_of N4.out N5.out).is (Rat.intCast_le_intCast.2 (by decide)) (by omega) (by omega)) (by omega) (by omega) (by omega) (by omega)
  have HS := Lib.hid hs; clear hs
  try rw [HW12.out] at x22_0
  try rw [HG12.out] at x22_0
  try rw [HW12.out] at x22_1
  try rw [HG12.out] at x22_1
  try rw [HW12.out] at x22_2
  try rw [HG12.out] at x22_2
  try rw [HW12.out] at x22_3
  try rw [HG12.out] at x22_3
  try rw [HW12.out] at x22_4
  try rw [HG12.out] at x22_4
  try rw [HW12.out] at x22_5
  try rw [HG12.out] at x22_5
  try rw [HW12.out] at x23_0
  try rw [HG12.out] at x23_0
  try rw [HW12.out] at x23_1
  try rw [HG12.out] at x23_1
  try rw [HW12.out] at x23_2
  try rw [HG12.out] at x23_2
  try rw [HW12.out] at x23_3
  try rw [HG12.out] at x23_3
  try rw [HW12.out] at x23_4
  try rw [HG12.out] at x23_4
  try rw [HW12.out] at x23_5
  try rw [HG12.out] at x23_5
  go_wp2_with (with_reducible first | refine pauseCall ?_ | refine pauseLoop ?_ | refine pauseDraw ?_ | refine pauseBody ?_ | refine pauseRounds ?_)
  try rw [← HW12.out]
  try rw [← HG12.out]
  clear x22_0 x22_1 x22_2 x22_3 x22_4 x22_5 x23_0 x23_1 x23_2 x23_3 x23_4 x23_5
  refine Pause.mk ?_
  (with_reducible refine HS.out.mono ?_); rintro e w13 ⟨v13, rfl, hb13, hn13⟩
  clear HS
  have HB13 := Lib.hid (HB12.out.step hb13)
  have N1 := Lib.hid (N1.out.below hb13)
  have N2 := Lib.hid (N2.out.below hb13)
  have N4 := Lib.hid (N4.out.below hb13)
  have N5 := Lib.hid (N5.out.below hb13)
  have N7 := Lib.hid (N7.out.below hb13)
  have N8 := Lib.hid (N8.out.below hb13)
  have N9 := Lib.hid (N9.out.below hb13)
  have N10 := Lib.hid (N10.out.below hb13)
  have N11 := Lib.hid (N11.out.below hb13)
  have N11l := Lib.hid (N11l.out.below hb13)
  have N11h := Lib.hid (N11h.out.below hb13)
  have BX3 := Lib.hid (heap_below BX3.out hb13)
  have BX6 := Lib.hid (heap_below BX6.out hb13)
  have BX12 := Lib.hid (heap_below BX12.out hb13)
  have N13 := Lib.hid hn13; clear hn13
  obtain ⟨s28, o28, n28, c28, a28, m28, d28, s28x, o28x, n28x, c28x, a28x, m28x, d28x, rfl⟩ := N13.out.shape
  have N13l := Lib.hid (isSp_ends N13.out).1; have N13h := Lib.hid (isSp_ends N13.out).2
  clear hb13
  have hs := stext_any _ (sMul ((((((-1) : Int) : Rat)), (((2 : Int) : Rat)))) ((((((-3) : Int) : Rat)), (((1 : Int) : Rat))))) w13 (N13.out.is (around4_ok _ _ _ _) (by omega) (by omega)) (by omega) (by omega)
  rw [show stx (sMul ((((((-1) : Int) : Rat)), (((2 : Int) : Rat)))) ((((((-3) : Int) : Rat)), (((1 : Int) : Rat))))) = _ from awk3_1] at hs
  have HS := Lib.hid hs; clear hs
  go_wp2_with (with_reducible first | refine pauseCall ?_ | refine pauseLoop ?_ | refine pauseDraw ?_ | refine pauseBody ?_ | refine pauseRounds ?_)
  refine Pause.mk ?_
  (with_reducible refine HS.out.mono ?_); rintro e w14 ⟨rfl, hb14⟩
  clear HS
  have HB14 := Lib.hid (HB13.out.step hb14)
  have N1 := Lib.hid (N1.out.below hb14)
  have N2 := Lib.hid (N2.out.below hb14)
  have N4 := Lib.hid (N4.out.below hb14)
  have N5 := Lib.hid (N5.out.below hb14)
  have N7 := Lib.hid (N7.out.below hb14)
  have N8 := Lib.hid (N8.out.below hb14)
  have N9 := Lib.hid (N9.out.below hb14)
  have N10 := Lib.hid (N10.out.below hb14)
  have N11 := Lib.hid (N11.out.below hb14)
  have N11l := Lib.hid (N11l.out.below hb14)
  have N11h := Lib.hid (N11h.out.below hb14)
  have N13 := Lib.hid (N13.out.below hb14)
  have N13l := Lib.hid (N13l.out.below hb14)
  have N13h := Lib.hid (N13h.out.below hb14)
  have BX3 := Lib.hid (heap_below BX3.out hb14)
  have BX6 := Lib.hid (heap_below BX6.out hb14)
  have BX12 := Lib.hid (heap_below BX12.out hb14)
  clear hb14
  obtain ⟨x29_0, x29_1, x29_2, x29_3, x29_4, x29_5⟩ := row6 BX12.out
  have hs := stext_any _ (sdV (((((1 : Int) : Rat)), (((2 : Int) : Rat)))) (((((2 : Int) : Rat)), (((4 : Int) : Rat))))) w14 (N11.out.is (sdV_ok _ _) (by omega) (by omega)) (by omega) (by omega)
  rw [show stx (sdV (((((1 : Int) : Rat)), (((2 : Int) : Rat)))) (((((2 : Int) : Rat)), (((4 : Int) : Rat))))) = _ from awk3_2] at hs
  have HS := Lib.hid hs; clear hs
  go_wp2_with (with_reducible first | refine pauseCall ?_ | refine pauseLoop ?_ | refine pauseDraw ?_ | refine pauseBody ?_ | refine pauseRounds ?_)
  clear x29_0 x29_1 x29_2 x29_3 x29_4 x29_5
  refine Pause.mk ?_
  (with_reducible refine HS.out.mono ?_); rintro e w15 ⟨rfl, hb15⟩
  clear HS
  have HB15 := Lib.hid (HB14.out.step hb15)
  have N1 := Lib.hid (N1.out.below hb15)
  have N2 := Lib.hid (N2.out.below hb15)
  have N4 := Lib.hid (N4.out.below hb15)
  have N5 := Lib.hid (N5.out.below hb15)
  have N7 := Lib.hid (N7.out.below hb15)
  have N8 := Lib.hid (N8.out.below hb15)
  have N9 := Lib.hid (N9.out.below hb15)
  have N10 := Lib.hid (N10.out.below hb15)
  have N11 := Lib.hid (N11.out.below hb15)
  have N11l := Lib.hid (N11l.out.below hb15)
  have N11h := Lib.hid (N11h.out.below hb15)
  have N13 := Lib.hid (N13.out.below hb15)
  have N13l := Lib.hid (N13l.out.below hb15)
  have N13h := Lib.hid (N13h.out.below hb15)
  have BX3 := Lib.hid (heap_below BX3.out hb15)
  have BX6 := Lib.hid (heap_below BX6.out hb15)
  have BX12 := Lib.hid (heap_below BX12.out hb15)
  clear hb15
  go_wp2_with (with_reducible first | refine pauseCall ?_ | refine pauseLoop ?_ | refine pauseDraw ?_ | refine pauseBody ?_ | refine pauseRounds ?_)
  refine Pause.mk ?_
  go_ret
  exact ⟨by first | rfl | (simp; done), HB15.out⟩
end Go.Proofs.YtaefimegiobkmaaGreatDoor
