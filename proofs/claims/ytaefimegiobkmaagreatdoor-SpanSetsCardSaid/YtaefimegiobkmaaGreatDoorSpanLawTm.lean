/-
  SpanSets: the walk of the statement.
  Conditions: each theorem's own.
-/
import Derived.Test.YtaefimegiobkmaaGreatDoorMA9
import Derived.Test.YtaefimegiobkmaaGreatDoorMD1
namespace Go.Proofs.YtaefimegiobkmaaGreatDoor
open Go.RowKit Go.ChangeShapes Go.WideShapes

set_option maxRecDepth 100000 in
set_option maxHeartbeats 3200000 in
theorem spansets_big (va : Value) (na ma nax max : Nat) (vb : Value) (nb mb nbx mbx : Nat) (vx : Value) (nx mx : Nat) (w : World) (ha : SpSz va na ma nax max) (hb : SpSz vb nb mb nbx mbx) (hx : RatSzq vx nx mx) (hbig : 6 < na ∨ 6 < ma ∨ 6 < nax ∨ 6 < max ∨ 6 < nb ∨ 6 < mb ∨ 6 < nbx ∨ 6 < mbx) :
    Calls Tryz.prog 6 #[va, vb, vx] w (RetV w (.bool true)) := by
  have HBW := Lib.hid (Below.refl w.heap.size w)
  have kz0 : rl 0 ≤ 1 := by rw [rl_zero]; exact Nat.le_refl _
  obtain ⟨qa, oa, ka, pa, ra, qax, oax, kax, pax, rax, rfl, Za⟩ := ha
  obtain ⟨qb, ob, kb, pb, rb, qbx, obx, kbx, pbx, rbx, rfl, Zb⟩ := hb
  obtain ⟨qx, ox, kx, px, rx, rfl, Zx⟩ := hx
  have HBIG := Lib.hid hbig; clear hbig
  obtain ⟨w1, hw1⟩ : ∃ w1, w1 = w.alloc (.cells #[.bool qa, .slice oa na ka, .slice pa ma ra, .bool qax, .slice oax nax kax, .slice pax max rax] 26) := ⟨_, rfl⟩
  have hb1 : Below w.heap.size w w1 := by rw [hw1]; exact (Below.refl _ _).alloc (Nat.le_refl _) _
  have hx1 := heap_alloc_new w (.cells #[.bool qa, .slice oa na ka, .slice pa ma ra, .bool qax, .slice oax nax kax, .slice pax max rax] 26)
  obtain ⟨g1, hg1⟩ : ∃ g, g = w.heap.size := ⟨_, rfl⟩
  rw [← hw1, ← hg1] at hx1
  have lw1 : w.heap.size ≤ g1 := by rw [hg1]; exact HBW.out.size
  have HW1 := Lib.hid hw1; have HG1 := Lib.hid hg1; clear hw1 hg1
  have HB1 := Lib.hid (HBW.out.step hb1)
  have BX1 := Lib.hid hx1; clear hb1 hx1
  obtain ⟨w2, hw2⟩ : ∃ w2, w2 = w1.alloc (.cells #[.bool qb, .slice ob nb kb, .slice pb mb rb, .bool qbx, .slice obx nbx kbx, .slice pbx mbx rbx] 26) := ⟨_, rfl⟩
  have hb2 : Below w1.heap.size w1 w2 := by rw [hw2]; exact (Below.refl _ _).alloc (Nat.le_refl _) _
  have hx2 := heap_alloc_new w1 (.cells #[.bool qb, .slice ob nb kb, .slice pb mb rb, .bool qbx, .slice obx nbx kbx, .slice pbx mbx rbx] 26)
  obtain ⟨g2, hg2⟩ : ∃ g, g = w1.heap.size := ⟨_, rfl⟩
  rw [← hw2, ← hg2] at hx2
  have lw2 : w.heap.size ≤ g2 := by rw [hg2]; exact HB1.out.size
  have ltBX12 : g1 < g2 := by rw [hg2]; exact below_lt BX1.out
  have hs2 : g2 = w.heap.size + 1 := by rw [hg2, HW1.out]; simp
  have HS2 := Lib.hid hs2; clear hs2
  have HW2 := Lib.hid hw2; have HG2 := Lib.hid hg2; clear hw2 hg2
  have HB2 := Lib.hid (HB1.out.step hb2)
  have BX1 := Lib.hid (heap_below BX1.out hb2)
  have BX2 := Lib.hid hx2; clear hb2 hx2
  obtain ⟨w3, hw3⟩ : ∃ w3, w3 = w2.alloc (.cells #[.bool qx, .slice ox nx kx, .slice px mx rx] 24) := ⟨_, rfl⟩
  have hb3 : Below w2.heap.size w2 w3 := by rw [hw3]; exact (Below.refl _ _).alloc (Nat.le_refl _) _
  have hx3 := heap_alloc_new w2 (.cells #[.bool qx, .slice ox nx kx, .slice px mx rx] 24)
  obtain ⟨g3, hg3⟩ : ∃ g, g = w2.heap.size := ⟨_, rfl⟩
  rw [← hw3, ← hg3] at hx3
  have lw3 : w.heap.size ≤ g3 := by rw [hg3]; exact HB2.out.size
  have ltBX13 : g1 < g3 := by rw [hg3]; exact below_lt BX1.out
  have ltBX23 : g2 < g3 := by rw [hg3]; exact below_lt BX2.out
  have hs3 : g3 = w.heap.size + 2 := by rw [hg3, HW2.out, HW1.out]; simp
  have HS3 := Lib.hid hs3; clear hs3
  have HW3 := Lib.hid hw3; have HG3 := Lib.hid hg3; clear hw3 hg3
  have HB3 := Lib.hid (HB2.out.step hb3)
  have BX1 := Lib.hid (heap_below BX1.out hb3)
  have BX2 := Lib.hid (heap_below BX2.out hb3)
  have BX3 := Lib.hid hx3; clear hb3 hx3
  go_enter Tryz.func6, Tryz.ntmps6
  have hs := awake03 w3
  have HS := Lib.hid hs; clear hs
  go_wp2_with (with_reducible first | refine pauseCall ?_ | refine pauseLoop ?_ | refine pauseDraw ?_ | refine pauseBody ?_ | refine pauseRounds ?_)
  try rw [← HW1.out]
  try rw [← HW2.out]
  try rw [← HW3.out]
  try rw [← HS3.out]
  try rw [← HS2.out]
  try rw [← HG1.out]
  try rw [← HG2.out]
  try rw [← HG3.out]
  refine Pause.mk ?_
  (with_reducible refine HS.out.mono ?_); rintro e w4 ⟨rfl, hb4⟩
  clear HS
  have HB4 := Lib.hid (HB3.out.step hb4)
  have BX1 := Lib.hid (heap_below BX1.out hb4)
  have BX2 := Lib.hid (heap_below BX2.out hb4)
  have BX3 := Lib.hid (heap_below BX3.out hb4)
  clear hb4
  obtain ⟨x1_0, x1_1, x1_2, x1_3, x1_4, x1_5⟩ := row6 BX1.out
  obtain ⟨x2_0, x2_1, x2_2, x2_3, x2_4, x2_5⟩ := row6 BX2.out
  obtain ⟨w5, hw5⟩ : ∃ w5, w5 = w4.alloc (.cells #[.bool qa, .slice oa na ka, .slice pa ma ra, .bool qax, .slice oax nax kax, .slice pax max rax, .bool qb, .slice ob nb kb, .slice pb mb rb, .bool qbx, .slice obx nbx kbx, .slice pbx mbx rbx] 26) := ⟨_, rfl⟩
  have hb5 : Below w4.heap.size w4 w5 := by rw [hw5]; exact (Below.refl _ _).alloc (Nat.le_refl _) _
  have hx5 := heap_alloc_new w4 (.cells #[.bool qa, .slice oa na ka, .slice pa ma ra, .bool qax, .slice oax nax kax, .slice pax max rax, .bool qb, .slice ob nb kb, .slice pb mb rb, .bool qbx, .slice obx nbx kbx, .slice pbx mbx rbx] 26)
  obtain ⟨g5, hg5⟩ : ∃ g, g = w4.heap.size := ⟨_, rfl⟩
  rw [← hw5, ← hg5] at hx5
  have lw5 : w.heap.size ≤ g5 := by rw [hg5]; exact HB4.out.size
  have ltBX15 : g1 < g5 := by rw [hg5]; exact below_lt BX1.out
  have ltBX25 : g2 < g5 := by rw [hg5]; exact below_lt BX2.out
  have ltBX35 : g3 < g5 := by rw [hg5]; exact below_lt BX3.out
  have HW5 := Lib.hid hw5; have HG5 := Lib.hid hg5; clear hw5 hg5
  have HB5 := Lib.hid (HB4.out.step hb5)
  have BX1 := Lib.hid (heap_below BX1.out hb5)
  have BX2 := Lib.hid (heap_below BX2.out hb5)
  have BX3 := Lib.hid (heap_below BX3.out hb5)
  have BX5 := Lib.hid hx5; clear hb5 hx5
  have hs := slarge2b BX5.out Za Zb HBIG.out
  have HS := Lib.hid hs; clear hs
  try rw [HG5.out] at x1_0
  try rw [HG5.out] at x1_1
  try rw [HG5.out] at x1_2
  try rw [HG5.out] at x1_3
  try rw [HG5.out] at x1_4
  try rw [HG5.out] at x1_5
  try rw [HG5.out] at x2_0
  try rw [HG5.out] at x2_1
  try rw [HG5.out] at x2_2
  try rw [HG5.out] at x2_3
  try rw [HG5.out] at x2_4
  try rw [HG5.out] at x2_5
  go_wp2_with (with_reducible first | refine pauseCall ?_ | refine pauseLoop ?_ | refine pauseDraw ?_ | refine pauseBody ?_ | refine pauseRounds ?_)
  try rw [← HW5.out]
  try rw [← HG5.out]
  clear x1_0 x1_1 x1_2 x1_3 x1_4 x1_5 x2_0 x2_1 x2_2 x2_3 x2_4 x2_5
  refine Pause.mk ?_
  (with_reducible refine HS.out.mono ?_); rintro e w6 ⟨rfl, hb6⟩
  clear HS
  have HB6 := Lib.hid (HB5.out.step hb6)
  have BX1 := Lib.hid (heap_below BX1.out hb6)
  have BX2 := Lib.hid (heap_below BX2.out hb6)
  have BX3 := Lib.hid (heap_below BX3.out hb6)
  have BX5 := Lib.hid (heap_below BX5.out hb6)
  clear BX5
  clear hb6
  have hs := awake03 w6
  have HS := Lib.hid hs; clear hs
  go_wp2_with (with_reducible first | refine pauseCall ?_ | refine pauseLoop ?_ | refine pauseDraw ?_ | refine pauseBody ?_ | refine pauseRounds ?_)
  refine Pause.mk ?_
  (with_reducible refine HS.out.mono ?_); rintro e w7 ⟨rfl, hb7⟩
  clear HS
  have HB7 := Lib.hid (HB6.out.step hb7)
  have BX1 := Lib.hid (heap_below BX1.out hb7)
  have BX2 := Lib.hid (heap_below BX2.out hb7)
  have BX3 := Lib.hid (heap_below BX3.out hb7)
  clear hb7
  go_wp2_with (with_reducible first | refine pauseCall ?_ | refine pauseLoop ?_ | refine pauseDraw ?_ | refine pauseBody ?_ | refine pauseRounds ?_)
  refine Pause.mk ?_
  go_ret
  exact ⟨by first | rfl | (simp; done), HB7.out⟩
set_option maxRecDepth 100000 in
set_option maxHeartbeats 3200000 in
theorem spansets_xn (va : Value) (na ma nax max : Nat) (vb : Value) (nb mb nbx mbx : Nat) (vx : Value) (nx mx : Nat) (w : World) (ha : SpSz va na ma nax max) (hb : SpSz vb nb mb nbx mbx) (hx : RatSzq vx nx mx) (za : na ≤ 6 ∧ ma ≤ 6 ∧ nax ≤ 6 ∧ max ≤ 6) (zb : nb ≤ 6 ∧ mb ≤ 6 ∧ nbx ≤ 6 ∧ mbx ≤ 6) (hx1 : 6 < nx) :
    Calls Tryz.prog 6 #[va, vb, vx] w (RetV w (.bool true)) := by
  have HBW := Lib.hid (Below.refl w.heap.size w)
  have kz0 : rl 0 ≤ 1 := by rw [rl_zero]; exact Nat.le_refl _
  obtain ⟨qa, oa, ka, pa, ra, qax, oax, kax, pax, rax, rfl, Za⟩ := ha
  obtain ⟨qb, ob, kb, pb, rb, qbx, obx, kbx, pbx, rbx, rfl, Zb⟩ := hb
  obtain ⟨qx, ox, kx, px, rx, rfl, Zx⟩ := hx
  have fx1 : decide ((6 : Int) < (nx : Int)) = true := decide_eq_true (by omega)
  obtain ⟨w1, hw1⟩ : ∃ w1, w1 = w.alloc (.cells #[.bool qa, .slice oa na ka, .slice pa ma ra, .bool qax, .slice oax nax kax, .slice pax max rax] 26) := ⟨_, rfl⟩
  have hb1 : Below w.heap.size w w1 := by rw [hw1]; exact (Below.refl _ _).alloc (Nat.le_refl _) _
  have hx1 := heap_alloc_new w (.cells #[.bool qa, .slice oa na ka, .slice pa ma ra, .bool qax, .slice oax nax kax, .slice pax max rax] 26)
  obtain ⟨g1, hg1⟩ : ∃ g, g = w.heap.size := ⟨_, rfl⟩
  rw [← hw1, ← hg1] at hx1
  have lw1 : w.heap.size ≤ g1 := by rw [hg1]; exact HBW.out.size
  have HW1 := Lib.hid hw1; have HG1 := Lib.hid hg1; clear hw1 hg1
  have HB1 := Lib.hid (HBW.out.step hb1)
  have BX1 := Lib.hid hx1; clear hb1 hx1
  obtain ⟨w2, hw2⟩ : ∃ w2, w2 = w1.alloc (.cells #[.bool qb, .slice ob nb kb, .slice pb mb rb, .bool qbx, .slice obx nbx kbx, .slice pbx mbx rbx] 26) := ⟨_, rfl⟩
  have hb2 : Below w1.heap.size w1 w2 := by rw [hw2]; exact (Below.refl _ _).alloc (Nat.le_refl _) _
  have hx2 := heap_alloc_new w1 (.cells #[.bool qb, .slice ob nb kb, .slice pb mb rb, .bool qbx, .slice obx nbx kbx, .slice pbx mbx rbx] 26)
  obtain ⟨g2, hg2⟩ : ∃ g, g = w1.heap.size := ⟨_, rfl⟩
  rw [← hw2, ← hg2] at hx2
  have lw2 : w.heap.size ≤ g2 := by rw [hg2]; exact HB1.out.size
  have ltBX12 : g1 < g2 := by rw [hg2]; exact below_lt BX1.out
  have hs2 : g2 = w.heap.size + 1 := by rw [hg2, HW1.out]; simp
  have HS2 := Lib.hid hs2; clear hs2
  have HW2 := Lib.hid hw2; have HG2 := Lib.hid hg2; clear hw2 hg2
  have HB2 := Lib.hid (HB1.out.step hb2)
  have BX1 := Lib.hid (heap_below BX1.out hb2)
  have BX2 := Lib.hid hx2; clear hb2 hx2
  obtain ⟨w3, hw3⟩ : ∃ w3, w3 = w2.alloc (.cells #[.bool qx, .slice ox nx kx, .slice px mx rx] 24) := ⟨_, rfl⟩
  have hb3 : Below w2.heap.size w2 w3 := by rw [hw3]; exact (Below.refl _ _).alloc (Nat.le_refl _) _
  have hx3 := heap_alloc_new w2 (.cells #[.bool qx, .slice ox nx kx, .slice px mx rx] 24)
  obtain ⟨g3, hg3⟩ : ∃ g, g = w2.heap.size := ⟨_, rfl⟩
  rw [← hw3, ← hg3] at hx3
  have lw3 : w.heap.size ≤ g3 := by rw [hg3]; exact HB2.out.size
  have ltBX13 : g1 < g3 := by rw [hg3]; exact below_lt BX1.out
  have ltBX23 : g2 < g3 := by rw [hg3]; exact below_lt BX2.out
  have hs3 : g3 = w.heap.size + 2 := by rw [hg3, HW2.out, HW1.out]; simp
  have HS3 := Lib.hid hs3; clear hs3
  have HW3 := Lib.hid hw3; have HG3 := Lib.hid hg3; clear hw3 hg3
  have HB3 := Lib.hid (HB2.out.step hb3)
  have BX1 := Lib.hid (heap_below BX1.out hb3)
  have BX2 := Lib.hid (heap_below BX2.out hb3)
  have BX3 := Lib.hid hx3; clear hb3 hx3
  go_enter Tryz.func6, Tryz.ntmps6
  have hs := awake03 w3
  have HS := Lib.hid hs; clear hs
  go_wp2_with (with_reducible first | refine pauseCall ?_ | refine pauseLoop ?_ | refine pauseDraw ?_ | refine pauseBody ?_ | refine pauseRounds ?_)
  try rw [← HW1.out]
  try rw [← HW2.out]
  try rw [← HW3.out]
  try rw [← HS3.out]
  try rw [← HS2.out]
  try rw [← HG1.out]
  try rw [← HG2.out]
  try rw [← HG3.out]
  refine Pause.mk ?_
  (with_reducible refine HS.out.mono ?_); rintro e w4 ⟨rfl, hb4⟩
  clear HS
  have HB4 := Lib.hid (HB3.out.step hb4)
  have BX1 := Lib.hid (heap_below BX1.out hb4)
  have BX2 := Lib.hid (heap_below BX2.out hb4)
  have BX3 := Lib.hid (heap_below BX3.out hb4)
  clear hb4
  obtain ⟨x1_0, x1_1, x1_2, x1_3, x1_4, x1_5⟩ := row6 BX1.out
  obtain ⟨x2_0, x2_1, x2_2, x2_3, x2_4, x2_5⟩ := row6 BX2.out
  obtain ⟨w5, hw5⟩ : ∃ w5, w5 = w4.alloc (.cells #[.bool qa, .slice oa na ka, .slice pa ma ra, .bool qax, .slice oax nax kax, .slice pax max rax, .bool qb, .slice ob nb kb, .slice pb mb rb, .bool qbx, .slice obx nbx kbx, .slice pbx mbx rbx] 26) := ⟨_, rfl⟩
  have hb5 : Below w4.heap.size w4 w5 := by rw [hw5]; exact (Below.refl _ _).alloc (Nat.le_refl _) _
  have hx5 := heap_alloc_new w4 (.cells #[.bool qa, .slice oa na ka, .slice pa ma ra, .bool qax, .slice oax nax kax, .slice pax max rax, .bool qb, .slice ob nb kb, .slice pb mb rb, .bool qbx, .slice obx nbx kbx, .slice pbx mbx rbx] 26)
  obtain ⟨g5, hg5⟩ : ∃ g, g = w4.heap.size := ⟨_, rfl⟩
  rw [← hw5, ← hg5] at hx5
  have lw5 : w.heap.size ≤ g5 := by rw [hg5]; exact HB4.out.size
  have ltBX15 : g1 < g5 := by rw [hg5]; exact below_lt BX1.out
  have ltBX25 : g2 < g5 := by rw [hg5]; exact below_lt BX2.out
  have ltBX35 : g3 < g5 := by rw [hg5]; exact below_lt BX3.out
  have HW5 := Lib.hid hw5; have HG5 := Lib.hid hg5; clear hw5 hg5
  have HB5 := Lib.hid (HB4.out.step hb5)
  have BX1 := Lib.hid (heap_below BX1.out hb5)
  have BX2 := Lib.hid (heap_below BX2.out hb5)
  have BX3 := Lib.hid (heap_below BX3.out hb5)
  have BX5 := Lib.hid hx5; clear hb5 hx5
  have hs := slarge2s BX5.out za zb
  have HS := Lib.hid hs; clear hs
  try rw [HG5.out] at x1_0
  try rw [HG5.out] at x1_1
  try rw [HG5.out] at x1_2
  try rw [HG5.out] at x1_3
  try rw [HG5.out] at x1_4
  try rw [HG5.out] at x1_5
  try rw [HG5.out] at x2_0
  try rw [HG5.out] at x2_1
  try rw [HG5.out] at x2_2
  try rw [HG5.out] at x2_3
  try rw [HG5.out] at x2_4
  try rw [HG5.out] at x2_5
  go_wp2_with (with_reducible first | refine pauseCall ?_ | refine pauseLoop ?_ | refine pauseDraw ?_ | refine pauseBody ?_ | refine pauseRounds ?_)
  try rw [← HW5.out]
  try rw [← HG5.out]
  clear x1_0 x1_1 x1_2 x1_3 x1_4 x1_5 x2_0 x2_1 x2_2 x2_3 x2_4 x2_5
  refine Pause.mk ?_
  (with_reducible refine HS.out.mono ?_); rintro e w6 ⟨rfl, hb6⟩
  clear HS
  have HB6 := Lib.hid (HB5.out.step hb6)
  have BX1 := Lib.hid (heap_below BX1.out hb6)
  have BX2 := Lib.hid (heap_below BX2.out hb6)
  have BX3 := Lib.hid (heap_below BX3.out hb6)
  have BX5 := Lib.hid (heap_below BX5.out hb6)
  clear BX5
  clear hb6
  obtain ⟨x3_0, x3_1, x3_2⟩ := row3 BX3.out
  have hs := awake03 w6
  have HS := Lib.hid hs; clear hs
  go_wp2_with (with_reducible first | refine pauseCall ?_ | refine pauseLoop ?_ | refine pauseDraw ?_ | refine pauseBody ?_ | refine pauseRounds ?_)
  clear x3_0 x3_1 x3_2
  refine Pause.mk ?_
  (with_reducible refine HS.out.mono ?_); rintro e w7 ⟨rfl, hb7⟩
  clear HS
  have HB7 := Lib.hid (HB6.out.step hb7)
  have BX1 := Lib.hid (heap_below BX1.out hb7)
  have BX2 := Lib.hid (heap_below BX2.out hb7)
  have BX3 := Lib.hid (heap_below BX3.out hb7)
  clear hb7
  go_wp2_with (with_reducible first | refine pauseCall ?_ | refine pauseLoop ?_ | refine pauseDraw ?_ | refine pauseBody ?_ | refine pauseRounds ?_)
  refine Pause.mk ?_
  go_ret
  exact ⟨by first | rfl | (simp; done), HB7.out⟩
set_option maxRecDepth 100000 in
set_option maxHeartbeats 3200000 in
theorem spansets_xm (va : Value) (na ma nax max : Nat) (vb : Value) (nb mb nbx mbx : Nat) (vx : Value) (nx mx : Nat) (w : World) (ha : SpSz va na ma nax max) (hb : SpSz vb nb mb nbx mbx) (hx : RatSzq vx nx mx) (za : na ≤ 6 ∧ ma ≤ 6 ∧ nax ≤ 6 ∧ max ≤ 6) (zb : nb ≤ 6 ∧ mb ≤ 6 ∧ nbx ≤ 6 ∧ mbx ≤ 6) (hx1 : ¬ 6 < nx) (hx2 : 6 < mx) :
    Calls Tryz.prog 6 #[va, vb, vx] w (RetV w (.bool true)) := by
  have HBW := Lib.hid (Below.refl w.heap.size w)
  have kz0 : rl 0 ≤ 1 := by rw [rl_zero]; exact Nat.le_refl _
  obtain ⟨qa, oa, ka, pa, ra, qax, oax, kax, pax, rax, rfl, Za⟩ := ha
  obtain ⟨qb, ob, kb, pb, rb, qbx, obx, kbx, pbx, rbx, rfl, Zb⟩ := hb
  obtain ⟨qx, ox, kx, px, rx, rfl, Zx⟩ := hx
  have fx1 : decide ((6 : Int) < (nx : Int)) = false := decide_eq_false (by omega)
  have fx2 : decide ((6 : Int) < (mx : Int)) = true := decide_eq_true (by omega)
  obtain ⟨w1, hw1⟩ : ∃ w1, w1 = w.alloc (.cells #[.bool qa, .slice oa na ka, .slice pa ma ra, .bool qax, .slice oax nax kax, .slice pax max rax] 26) := ⟨_, rfl⟩
  have hb1 : Below w.heap.size w w1 := by rw [hw1]; exact (Below.refl _ _).alloc (Nat.le_refl _) _
  have hx1 := heap_alloc_new w (.cells #[.bool qa, .slice oa na ka, .slice pa ma ra, .bool qax, .slice oax nax kax, .slice pax max rax] 26)
  obtain ⟨g1, hg1⟩ : ∃ g, g = w.heap.size := ⟨_, rfl⟩
  rw [← hw1, ← hg1] at hx1
  have lw1 : w.heap.size ≤ g1 := by rw [hg1]; exact HBW.out.size
  have HW1 := Lib.hid hw1; have HG1 := Lib.hid hg1; clear hw1 hg1
  have HB1 := Lib.hid (HBW.out.step hb1)
  have BX1 := Lib.hid hx1; clear hb1 hx1
  obtain ⟨w2, hw2⟩ : ∃ w2, w2 = w1.alloc (.cells #[.bool qb, .slice ob nb kb, .slice pb mb rb, .bool qbx, .slice obx nbx kbx, .slice pbx mbx rbx] 26) := ⟨_, rfl⟩
  have hb2 : Below w1.heap.size w1 w2 := by rw [hw2]; exact (Below.refl _ _).alloc (Nat.le_refl _) _
  have hx2 := heap_alloc_new w1 (.cells #[.bool qb, .slice ob nb kb, .slice pb mb rb, .bool qbx, .slice obx nbx kbx, .slice pbx mbx rbx] 26)
  obtain ⟨g2, hg2⟩ : ∃ g, g = w1.heap.size := ⟨_, rfl⟩
  rw [← hw2, ← hg2] at hx2
  have lw2 : w.heap.size ≤ g2 := by rw [hg2]; exact HB1.out.size
  have ltBX12 : g1 < g2 := by rw [hg2]; exact below_lt BX1.out
  have hs2 : g2 = w.heap.size + 1 := by rw [hg2, HW1.out]; simp
  have HS2 := Lib.hid hs2; clear hs2
  have HW2 := Lib.hid hw2; have HG2 := Lib.hid hg2; clear hw2 hg2
  have HB2 := Lib.hid (HB1.out.step hb2)
  have BX1 := Lib.hid (heap_below BX1.out hb2)
  have BX2 := Lib.hid hx2; clear hb2 hx2
  obtain ⟨w3, hw3⟩ : ∃ w3, w3 = w2.alloc (.cells #[.bool qx, .slice ox nx kx, .slice px mx rx] 24) := ⟨_, rfl⟩
  have hb3 : Below w2.heap.size w2 w3 := by rw [hw3]; exact (Below.refl _ _).alloc (Nat.le_refl _) _
  have hx3 := heap_alloc_new w2 (.cells #[.bool qx, .slice ox nx kx, .slice px mx rx] 24)
  obtain ⟨g3, hg3⟩ : ∃ g, g = w2.heap.size := ⟨_, rfl⟩
  rw [← hw3, ← hg3] at hx3
  have lw3 : w.heap.size ≤ g3 := by rw [hg3]; exact HB2.out.size
  have ltBX13 : g1 < g3 := by rw [hg3]; exact below_lt BX1.out
  have ltBX23 : g2 < g3 := by rw [hg3]; exact below_lt BX2.out
  have hs3 : g3 = w.heap.size + 2 := by rw [hg3, HW2.out, HW1.out]; simp
  have HS3 := Lib.hid hs3; clear hs3
  have HW3 := Lib.hid hw3; have HG3 := Lib.hid hg3; clear hw3 hg3
  have HB3 := Lib.hid (HB2.out.step hb3)
  have BX1 := Lib.hid (heap_below BX1.out hb3)
  have BX2 := Lib.hid (heap_below BX2.out hb3)
  have BX3 := Lib.hid hx3; clear hb3 hx3
  go_enter Tryz.func6, Tryz.ntmps6
  have hs := awake03 w3
  have HS := Lib.hid hs; clear hs
  go_wp2_with (with_reducible first | refine pauseCall ?_ | refine pauseLoop ?_ | refine pauseDraw ?_ | refine pauseBody ?_ | refine pauseRounds ?_)
  try rw [← HW1.out]
  try rw [← HW2.out]
  try rw [← HW3.out]
  try rw [← HS3.out]
  try rw [← HS2.out]
  try rw [← HG1.out]
  try rw [← HG2.out]
  try rw [← HG3.out]
  refine Pause.mk ?_
  (with_reducible refine HS.out.mono ?_); rintro e w4 ⟨rfl, hb4⟩
  clear HS
  have HB4 := Lib.hid (HB3.out.step hb4)
  have BX1 := Lib.hid (heap_below BX1.out hb4)
  have BX2 := Lib.hid (heap_below BX2.out hb4)
  have BX3 := Lib.hid (heap_below BX3.out hb4)
  clear hb4
  obtain ⟨x1_0, x1_1, x1_2, x1_3, x1_4, x1_5⟩ := row6 BX1.out
  obtain ⟨x2_0, x2_1, x2_2, x2_3, x2_4, x2_5⟩ := row6 BX2.out
  obtain ⟨w5, hw5⟩ : ∃ w5, w5 = w4.alloc (.cells #[.bool qa, .slice oa na ka, .slice pa ma ra, .bool qax, .slice oax nax kax, .slice pax max rax, .bool qb, .slice ob nb kb, .slice pb mb rb, .bool qbx, .slice obx nbx kbx, .slice pbx mbx rbx] 26) := ⟨_, rfl⟩
  have hb5 : Below w4.heap.size w4 w5 := by rw [hw5]; exact (Below.refl _ _).alloc (Nat.le_refl _) _
  have hx5 := heap_alloc_new w4 (.cells #[.bool qa, .slice oa na ka, .slice pa ma ra, .bool qax, .slice oax nax kax, .slice pax max rax, .bool qb, .slice ob nb kb, .slice pb mb rb, .bool qbx, .slice obx nbx kbx, .slice pbx mbx rbx] 26)
  obtain ⟨g5, hg5⟩ : ∃ g, g = w4.heap.size := ⟨_, rfl⟩
  rw [← hw5, ← hg5] at hx5
  have lw5 : w.heap.size ≤ g5 := by rw [hg5]; exact HB4.out.size
  have ltBX15 : g1 < g5 := by rw [hg5]; exact below_lt BX1.out
  have ltBX25 : g2 < g5 := by rw [hg5]; exact below_lt BX2.out
  have ltBX35 : g3 < g5 := by rw [hg5]; exact below_lt BX3.out
  have HW5 := Lib.hid hw5; have HG5 := Lib.hid hg5; clear hw5 hg5
  have HB5 := Lib.hid (HB4.out.step hb5)
  have BX1 := Lib.hid (heap_below BX1.out hb5)
  have BX2 := Lib.hid (heap_below BX2.out hb5)
  have BX3 := Lib.hid (heap_below BX3.out hb5)
  have BX5 := Lib.hid hx5; clear hb5 hx5
  have hs := slarge2s BX5.out za zb
  have HS := Lib.hid hs; clear hs
  try rw [HG5.out] at x1_0
  try rw [HG5.out] at x1_1
  try rw [HG5.out] at x1_2
  try rw [HG5.out] at x1_3
  try rw [HG5.out] at x1_4
  try rw [HG5.out] at x1_5
  try rw [HG5.out] at x2_0
  try rw [HG5.out] at x2_1
  try rw [HG5.out] at x2_2
  try rw [HG5.out] at x2_3
  try rw [HG5.out] at x2_4
  try rw [HG5.out] at x2_5
  go_wp2_with (with_reducible first | refine pauseCall ?_ | refine pauseLoop ?_ | refine pauseDraw ?_ | refine pauseBody ?_ | refine pauseRounds ?_)
  try rw [← HW5.out]
  try rw [← HG5.out]
  clear x1_0 x1_1 x1_2 x1_3 x1_4 x1_5 x2_0 x2_1 x2_2 x2_3 x2_4 x2_5
  refine Pause.mk ?_
  (with_reducible refine HS.out.mono ?_); rintro e w6 ⟨rfl, hb6⟩
  clear HS
  have HB6 := Lib.hid (HB5.out.step hb6)
  have BX1 := Lib.hid (heap_below BX1.out hb6)
  have BX2 := Lib.hid (heap_below BX2.out hb6)
  have BX3 := Lib.hid (heap_below BX3.out hb6)
  have BX5 := Lib.hid (heap_below BX5.out hb6)
  clear BX5
  clear hb6
  obtain ⟨x3_0, x3_1, x3_2⟩ := row3 BX3.out
  obtain ⟨x4_0, x4_1, x4_2⟩ := row3 BX3.out
  have hs := awake03 w6
  have HS := Lib.hid hs; clear hs
  go_wp2_with (with_reducible first | refine pauseCall ?_ | refine pauseLoop ?_ | refine pauseDraw ?_ | refine pauseBody ?_ | refine pauseRounds ?_)
  clear x3_0 x3_1 x3_2 x4_0 x4_1 x4_2
  refine Pause.mk ?_
  (with_reducible refine HS.out.mono ?_); rintro e w7 ⟨rfl, hb7⟩
  clear HS
  have HB7 := Lib.hid (HB6.out.step hb7)
  have BX1 := Lib.hid (heap_below BX1.out hb7)
  have BX2 := Lib.hid (heap_below BX2.out hb7)
  have BX3 := Lib.hid (heap_below BX3.out hb7)
  clear hb7
  go_wp2_with (with_reducible first | refine pauseCall ?_ | refine pauseLoop ?_ | refine pauseDraw ?_ | refine pauseBody ?_ | refine pauseRounds ?_)
  refine Pause.mk ?_
  go_ret
  exact ⟨by first | rfl | (simp; done), HB7.out⟩
set_option maxRecDepth 100000 in
set_option maxHeartbeats 12800000 in
theorem spansets_ok (va : Value) (sa : Bool) (aa ba : List Nat) (ta : Bool) (ca da : List Nat) (vb : Value) (sb : Bool) (ab bb : List Nat) (tb : Bool) (cb db : List Nat) (vx : Value) (sx : Bool) (ax bx : List Nat) (w : World) (ha : SpV w va sa aa ba ta ca da) (la1 : aa.length ≤ 6) (la2 : ba.length ≤ 6) (la3 : ca.length ≤ 6) (la4 : da.length ≤ 6) (hb : SpV w vb sb ab bb tb cb db) (lb1 : ab.length ≤ 6) (lb2 : bb.length ≤ 6) (lb3 : cb.length ≤ 6) (lb4 : db.length ≤ 6) (hx : RatV w vx sx ax bx) (lx1 : ax.length ≤ 6) (lx2 : bx.length ≤ 6)  :
    Calls Tryz.prog 6 #[va, vb, vx] w (RetV w (.bool true)) := by
  have HBW := Lib.hid (Below.refl w.heap.size w)
  have kz0 : rl 0 ≤ 1 := by rw [rl_zero]; exact Nat.le_refl _
  have za := ha.sz.2
  obtain ⟨qa, oa, na, ka, pa, ma, ra, qax, oax, nax, kax, pax, max, rax, rfl⟩ := ha.shape
  have Za : na ≤ 6 ∧ ma ≤ 6 ∧ nax ≤ 6 ∧ max ≤ 6 := by have e1 : na = _ := congrArg (·.1) za; have e2 : ma = _ := congrArg (·.2.1) za; have e3 : nax = _ := congrArg (·.2.2.1) za; have e4 : max = _ := congrArg (·.2.2.2) za; rw [e1, e2, e3, e4]; exact ⟨la1, la2, la3, la4⟩
  clear za
  have hla1 : rl (rq sa aa ba) ≤ 6 := rl_rq ha.lt.1.1 ha.lt.1.2 la1 la2 (by decide); have hla2 : rl (rq ta ca da) ≤ 6 := rl_rq ha.lt.2.1 ha.lt.2.2 la3 la4 (by decide)
  obtain ⟨S_a, hSa⟩ : ∃ S, S = sq sa aa ba ta ca da := ⟨_, rfl⟩
  have hsa : rl S_a.1 ≤ 6 ∧ rl S_a.2 ≤ 6 := by rw [hSa]; exact rl_sq ha.lt.1.1 ha.lt.1.2 ha.lt.2.1 ha.lt.2.2 la1 la2 la3 la4 (by decide)
  obtain ⟨hsa1, hsa2⟩ := hsa
  have Fa := Lib.hid (show SpIs w _ S_a from ⟨_, _, _, _, _, _, ha, hSa.symm, by omega, by omega, by omega, by omega⟩); clear hSa
  have HOa := Lib.hid Fa.out.ok
  obtain ⟨p_a, hpa⟩ : ∃ p, p = rq sa aa ba := ⟨_, rfl⟩; obtain ⟨r_a, hra⟩ : ∃ r, r = rq ta ca da := ⟨_, rfl⟩
  have Fal := Lib.hid (show RatIs w _ p_a from hpa ▸ (spV_ends ha).1.is (by omega) (by omega)); have Fah := Lib.hid (show RatIs w _ r_a from hra ▸ (spV_ends ha).2.is (by omega) (by omega))
  have hla1 : rl p_a ≤ 6 := by rw [hpa]; exact hla1
  have hla2 : rl r_a ≤ 6 := by rw [hra]; exact hla2
  have FaV := Lib.hid ha; clear ha hpa hra
  have zb := hb.sz.2
  obtain ⟨qb, ob, nb, kb, pb, mb, rb, qbx, obx, nbx, kbx, pbx, mbx, rbx, rfl⟩ := hb.shape
  have Zb : nb ≤ 6 ∧ mb ≤ 6 ∧ nbx ≤ 6 ∧ mbx ≤ 6 := by have e1 : nb = _ := congrArg (·.1) zb; have e2 : mb = _ := congrArg (·.2.1) zb; have e3 : nbx = _ := congrArg (·.2.2.1) zb; have e4 : mbx = _ := congrArg (·.2.2.2) zb; rw [e1, e2, e3, e4]; exact ⟨lb1, lb2, lb3, lb4⟩
  clear zb
  have hlb1 : rl (rq sb ab bb) ≤ 6 := rl_rq hb.lt.1.1 hb.lt.1.2 lb1 lb2 (by decide); have hlb2 : rl (rq tb cb db) ≤ 6 := rl_rq hb.lt.2.1 hb.lt.2.2 lb3 lb4 (by decide)
  obtain ⟨S_b, hSb⟩ : ∃ S, S = sq sb ab bb tb cb db := ⟨_, rfl⟩
  have hsb : rl S_b.1 ≤ 6 ∧ rl S_b.2 ≤ 6 := by rw [hSb]; exact rl_sq hb.lt.1.1 hb.lt.1.2 hb.lt.2.1 hb.lt.2.2 lb1 lb2 lb3 lb4 (by decide)
  obtain ⟨hsb1, hsb2⟩ := hsb
  have Fb := Lib.hid (show SpIs w _ S_b from ⟨_, _, _, _, _, _, hb, hSb.symm, by omega, by omega, by omega, by omega⟩); clear hSb
  have HOb := Lib.hid Fb.out.ok
  obtain ⟨p_b, hpb⟩ : ∃ p, p = rq sb ab bb := ⟨_, rfl⟩; obtain ⟨r_b, hrb⟩ : ∃ r, r = rq tb cb db := ⟨_, rfl⟩
  have Fbl := Lib.hid (show RatIs w _ p_b from hpb ▸ (spV_ends hb).1.is (by omega) (by omega)); have Fbh := Lib.hid (show RatIs w _ r_b from hrb ▸ (spV_ends hb).2.is (by omega) (by omega))
  have hlb1 : rl p_b ≤ 6 := by rw [hpb]; exact hlb1
  have hlb2 : rl r_b ≤ 6 := by rw [hrb]; exact hlb2
  have FbV := Lib.hid hb; clear hb hpb hrb
  have zx := hx.szq.2
  obtain ⟨s_x, ox, nx, kx, px, mx, rx, rfl⟩ := hx.shapeq
  have Zx : nx ≤ 6 ∧ mx ≤ 6 := by have e1 : nx = _ := congrArg (·.1) zx; have e2 : mx = _ := congrArg (·.2) zx; rw [e1, e2]; exact ⟨lx1, lx2⟩
  clear zx
  obtain ⟨p_x, hpx⟩ : ∃ p, p = rq sx ax bx := ⟨_, rfl⟩
  have hlx : rl p_x ≤ 6 := by rw [hpx]; exact rl_rq hx.lt.1 hx.lt.2 lx1 lx2 (by decide)
  have Fx := Lib.hid (show RatIs w _ p_x from hpx ▸ hx.is (by omega) (by omega)); clear hx hpx
  obtain ⟨E, hE⟩ : ∃ m, m = stC (S_a) (S_b) := ⟨_, rfl⟩
  have smallE : E < 1000 := by rw [hE]; unfold stC; split <;> decide
  have HE := Lib.hid hE.symm; clear hE
  have fx1 : decide ((6 : Int) < (nx : Int)) = false := decide_eq_false (by omega)
  have fx2 : decide ((6 : Int) < (mx : Int)) = false := decide_eq_false (by omega)
  obtain ⟨w1, hw1⟩ : ∃ w1, w1 = w.alloc (.cells #[.bool qa, .slice oa na ka, .slice pa ma ra, .bool qax, .slice oax nax kax, .slice pax max rax] 26) := ⟨_, rfl⟩
  have hb1 : Below w.heap.size w w1 := by rw [hw1]; exact (Below.refl _ _).alloc (Nat.le_refl _) _
  have hx1 := heap_alloc_new w (.cells #[.bool qa, .slice oa na ka, .slice pa ma ra, .bool qax, .slice oax nax kax, .slice pax max rax] 26)
  obtain ⟨g1, hg1⟩ : ∃ g, g = w.heap.size := ⟨_, rfl⟩
  rw [← hw1, ← hg1] at hx1
  have lw1 : w.heap.size ≤ g1 := by rw [hg1]; exact HBW.out.size
  have HW1 := Lib.hid hw1; have HG1 := Lib.hid hg1; clear hw1 hg1
  have HB1 := Lib.hid (HBW.out.step hb1)
  have Fa := Lib.hid (Fa.out.below hb1)
  have Fal := Lib.hid (Fal.out.below hb1)
  have Fah := Lib.hid (Fah.out.below hb1)
  have FaV := Lib.hid (FaV.out.below hb1)
  have Fb := Lib.hid (Fb.out.below hb1)
  have Fbl := Lib.hid (Fbl.out.below hb1)
  have Fbh := Lib.hid (Fbh.out.below hb1)
  have FbV := Lib.hid (FbV.out.below hb1)
  have Fx := Lib.hid (Fx.out.below hb1)
  have BX1 := Lib.hid hx1; clear hb1 hx1
  obtain ⟨w2, hw2⟩ : ∃ w2, w2 = w1.alloc (.cells #[.bool qb, .slice ob nb kb, .slice pb mb rb, .bool qbx, .slice obx nbx kbx, .slice pbx mbx rbx] 26) := ⟨_, rfl⟩
  have hb2 : Below w1.heap.size w1 w2 := by rw [hw2]; exact (Below.refl _ _).alloc (Nat.le_refl _) _
  have hx2 := heap_alloc_new w1 (.cells #[.bool qb, .slice ob nb kb, .slice pb mb rb, .bool qbx, .slice obx nbx kbx, .slice pbx mbx rbx] 26)
  obtain ⟨g2, hg2⟩ : ∃ g, g = w1.heap.size := ⟨_, rfl⟩
  rw [← hw2, ← hg2] at hx2
  have lw2 : w.heap.size ≤ g2 := by rw [hg2]; exact HB1.out.size
  have ltBX12 : g1 < g2 := by rw [hg2]; exact below_lt BX1.out
  have hs2 : g2 = w.heap.size + 1 := by rw [hg2, HW1.out]; simp
  have HS2 := Lib.hid hs2; clear hs2
  have HW2 := Lib.hid hw2; have HG2 := Lib.hid hg2; clear hw2 hg2
  have HB2 := Lib.hid (HB1.out.step hb2)
  have Fa := Lib.hid (Fa.out.below hb2)
  have Fal := Lib.hid (Fal.out.below hb2)
  have Fah := Lib.hid (Fah.out.below hb2)
  have FaV := Lib.hid (FaV.out.below hb2)
  have Fb := Lib.hid (Fb.out.below hb2)
  have Fbl := Lib.hid (Fbl.out.below hb2)
  have Fbh := Lib.hid (Fbh.out.below hb2)
  have FbV := Lib.hid (FbV.out.below hb2)
  have Fx := Lib.hid (Fx.out.below hb2)
  have BX1 := Lib.hid (heap_below BX1.out hb2)
  have BX2 := Lib.hid hx2; clear hb2 hx2
  obtain ⟨w3, hw3⟩ : ∃ w3, w3 = w2.alloc (.cells #[.bool s_x, .slice ox nx kx, .slice px mx rx] 24) := ⟨_, rfl⟩
  have hb3 : Below w2.heap.size w2 w3 := by rw [hw3]; exact (Below.refl _ _).alloc (Nat.le_refl _) _
  have hx3 := heap_alloc_new w2 (.cells #[.bool s_x, .slice ox nx kx, .slice px mx rx] 24)
  obtain ⟨g3, hg3⟩ : ∃ g, g = w2.heap.size := ⟨_, rfl⟩
  rw [← hw3, ← hg3] at hx3
  have lw3 : w.heap.size ≤ g3 := by rw [hg3]; exact HB2.out.size
  have ltBX13 : g1 < g3 := by rw [hg3]; exact below_lt BX1.out
  have ltBX23 : g2 < g3 := by rw [hg3]; exact below_lt BX2.out
  have hs3 : g3 = w.heap.size + 2 := by rw [hg3, HW2.out, HW1.out]; simp
  have HS3 := Lib.hid hs3; clear hs3
  have HW3 := Lib.hid hw3; have HG3 := Lib.hid hg3; clear hw3 hg3
  have HB3 := Lib.hid (HB2.out.step hb3)
  have Fa := Lib.hid (Fa.out.below hb3)
  have Fal := Lib.hid (Fal.out.below hb3)
  have Fah := Lib.hid (Fah.out.below hb3)
  have FaV := Lib.hid (FaV.out.below hb3)
  have Fb := Lib.hid (Fb.out.below hb3)
  have Fbl := Lib.hid (Fbl.out.below hb3)
  have Fbh := Lib.hid (Fbh.out.below hb3)
  have FbV := Lib.hid (FbV.out.below hb3)
  have Fx := Lib.hid (Fx.out.below hb3)
  have BX1 := Lib.hid (heap_below BX1.out hb3)
  have BX2 := Lib.hid (heap_below BX2.out hb3)
  have BX3 := Lib.hid hx3; clear hb3 hx3
  go_enter Tryz.func6, Tryz.ntmps6
  have hs := awake03 w3
  have HS := Lib.hid hs; clear hs
  go_wp2_with (with_reducible first | refine pauseCall ?_ | refine pauseLoop ?_ | refine pauseDraw ?_ | refine pauseBody ?_ | refine pauseRounds ?_)
  try rw [← HW1.out]
  try rw [← HW2.out]
  try rw [← HW3.out]
  try rw [← HS3.out]
  try rw [← HS2.out]
  try rw [← HG1.out]
  try rw [← HG2.out]
  try rw [← HG3.out]
  refine Pause.mk ?_
  (with_reducible refine HS.out.mono ?_); rintro e w4 ⟨rfl, hb4⟩
  clear HS
  have HB4 := Lib.hid (HB3.out.step hb4)
  have Fa := Lib.hid (Fa.out.below hb4)
  have Fal := Lib.hid (Fal.out.below hb4)
  have Fah := Lib.hid (Fah.out.below hb4)
  have FaV := Lib.hid (FaV.out.below hb4)
  have Fb := Lib.hid (Fb.out.below hb4)
  have Fbl := Lib.hid (Fbl.out.below hb4)
  have Fbh := Lib.hid (Fbh.out.below hb4)
  have FbV := Lib.hid (FbV.out.below hb4)
  have Fx := Lib.hid (Fx.out.below hb4)
  have BX1 := Lib.hid (heap_below BX1.out hb4)
  have BX2 := Lib.hid (heap_below BX2.out hb4)
  have BX3 := Lib.hid (heap_below BX3.out hb4)
  clear hb4
  obtain ⟨x1_0, x1_1, x1_2, x1_3, x1_4, x1_5⟩ := row6 BX1.out
  obtain ⟨x2_0, x2_1, x2_2, x2_3, x2_4, x2_5⟩ := row6 BX2.out
  obtain ⟨w5, hw5⟩ : ∃ w5, w5 = w4.alloc (.cells #[.bool qa, .slice oa na ka, .slice pa ma ra, .bool qax, .slice oax nax kax, .slice pax max rax, .bool qb, .slice ob nb kb, .slice pb mb rb, .bool qbx, .slice obx nbx kbx, .slice pbx mbx rbx] 26) := ⟨_, rfl⟩
  have hb5 : Below w4.heap.size w4 w5 := by rw [hw5]; exact (Below.refl _ _).alloc (Nat.le_refl _) _
  have hx5 := heap_alloc_new w4 (.cells #[.bool qa, .slice oa na ka, .slice pa ma ra, .bool qax, .slice oax nax kax, .slice pax max rax, .bool qb, .slice ob nb kb, .slice pb mb rb, .bool qbx, .slice obx nbx kbx, .slice pbx mbx rbx] 26)
  obtain ⟨g5, hg5⟩ : ∃ g, g = w4.heap.size := ⟨_, rfl⟩
  rw [← hw5, ← hg5] at hx5
  have lw5 : w.heap.size ≤ g5 := by rw [hg5]; exact HB4.out.size
  have ltBX15 : g1 < g5 := by rw [hg5]; exact below_lt BX1.out
  have ltBX25 : g2 < g5 := by rw [hg5]; exact below_lt BX2.out
  have ltBX35 : g3 < g5 := by rw [hg5]; exact below_lt BX3.out
  have HW5 := Lib.hid hw5; have HG5 := Lib.hid hg5; clear hw5 hg5
  have HB5 := Lib.hid (HB4.out.step hb5)
  have Fa := Lib.hid (Fa.out.below hb5)
  have Fal := Lib.hid (Fal.out.below hb5)
  have Fah := Lib.hid (Fah.out.below hb5)
  have FaV := Lib.hid (FaV.out.below hb5)
  have Fb := Lib.hid (Fb.out.below hb5)
  have Fbl := Lib.hid (Fbl.out.below hb5)
  have Fbh := Lib.hid (Fbh.out.below hb5)
  have FbV := Lib.hid (FbV.out.below hb5)
  have Fx := Lib.hid (Fx.out.below hb5)
  have BX1 := Lib.hid (heap_below BX1.out hb5)
  have BX2 := Lib.hid (heap_below BX2.out hb5)
  have BX3 := Lib.hid (heap_below BX3.out hb5)
  have BX5 := Lib.hid hx5; clear hb5 hx5
  have hs := slarge2s BX5.out Za Zb
  have HS := Lib.hid hs; clear hs
  try rw [HG5.out] at x1_0
  try rw [HG5.out] at x1_1
  try rw [HG5.out] at x1_2
  try rw [HG5.out] at x1_3
  try rw [HG5.out] at x1_4
  try rw [HG5.out] at x1_5
  try rw [HG5.out] at x2_0
  try rw [HG5.out] at x2_1
  try rw [HG5.out] at x2_2
  try rw [HG5.out] at x2_3
  try rw [HG5.out] at x2_4
  try rw [HG5.out] at x2_5
  go_wp2_with (with_reducible first | refine pauseCall ?_ | refine pauseLoop ?_ | refine pauseDraw ?_ | refine pauseBody ?_ | refine pauseRounds ?_)
  try rw [← HW5.out]
  try rw [← HG5.out]
  clear x1_0 x1_1 x1_2 x1_3 x1_4 x1_5 x2_0 x2_1 x2_2 x2_3 x2_4 x2_5
  refine Pause.mk ?_
  (with_reducible refine HS.out.mono ?_); rintro e w6 ⟨rfl, hb6⟩
  clear HS
  have HB6 := Lib.hid (HB5.out.step hb6)
  have Fa := Lib.hid (Fa.out.below hb6)
  have Fal := Lib.hid (Fal.out.below hb6)
  have Fah := Lib.hid (Fah.out.below hb6)
  have FaV := Lib.hid (FaV.out.below hb6)
  have Fb := Lib.hid (Fb.out.below hb6)
  have Fbl := Lib.hid (Fbl.out.below hb6)
  have Fbh := Lib.hid (Fbh.out.below hb6)
  have FbV := Lib.hid (FbV.out.below hb6)
  have Fx := Lib.hid (Fx.out.below hb6)
  have BX1 := Lib.hid (heap_below BX1.out hb6)
  have BX2 := Lib.hid (heap_below BX2.out hb6)
  have BX3 := Lib.hid (heap_below BX3.out hb6)
  have BX5 := Lib.hid (heap_below BX5.out hb6)
  clear BX5
  clear hb6
  obtain ⟨x3_0, x3_1, x3_2⟩ := row3 BX3.out
  obtain ⟨x4_0, x4_1, x4_2⟩ := row3 BX3.out
  obtain ⟨x5_0, x5_1, x5_2, x5_3, x5_4, x5_5⟩ := row6 BX1.out
  obtain ⟨x6_0, x6_1, x6_2, x6_3, x6_4, x6_5⟩ := row6 BX2.out
  obtain ⟨k7, k8⟩ := rl_stV (S_a) (S_b)
  have hs := smeet_any _ (S_a) _ (S_b) w6 Fa.out Fb.out (by omega) (by omega) (by omega) (by omega)
  rw [HE.out] at hs
  have HS := Lib.hid hs; clear hs
  go_wp2_with (with_reducible first | refine pauseCall ?_ | refine pauseLoop ?_ | refine pauseDraw ?_ | refine pauseBody ?_ | refine pauseRounds ?_)
  clear x3_0 x3_1 x3_2 x4_0 x4_1 x4_2 x5_0 x5_1 x5_2 x5_3 x5_4 x5_5 x6_0 x6_1 x6_2 x6_3 x6_4 x6_5
  refine Pause.mk ?_
  (with_reducible refine HS.out.mono ?_); rintro e w7 ⟨v7, rfl, hb7, hn7⟩
  clear HS
  have HB7 := Lib.hid (HB6.out.step hb7)
  have Fa := Lib.hid (Fa.out.below hb7)
  have Fal := Lib.hid (Fal.out.below hb7)
  have Fah := Lib.hid (Fah.out.below hb7)
  have FaV := Lib.hid (FaV.out.below hb7)
  have Fb := Lib.hid (Fb.out.below hb7)
  have Fbl := Lib.hid (Fbl.out.below hb7)
  have Fbh := Lib.hid (Fbh.out.below hb7)
  have FbV := Lib.hid (FbV.out.below hb7)
  have Fx := Lib.hid (Fx.out.below hb7)
  have BX1 := Lib.hid (heap_below BX1.out hb7)
  have BX2 := Lib.hid (heap_below BX2.out hb7)
  have BX3 := Lib.hid (heap_below BX3.out hb7)
  have N7 := Lib.hid hn7; clear hn7
  obtain ⟨s9, o9, n9, c9, a9, m9, d9, s9x, o9x, n9x, c9x, a9x, m9x, d9x, rfl⟩ := N7.out.shape
  have N7l := Lib.hid (isSp_ends N7.out).1; have N7h := Lib.hid (isSp_ends N7.out).2
  clear hb7
  obtain ⟨w8, hw8⟩ : ∃ w8, w8 = w7.alloc (.cells #[.bool s9, .slice o9 n9 c9, .slice a9 m9 d9, .bool s9x, .slice o9x n9x c9x, .slice a9x m9x d9x] 26) := ⟨_, rfl⟩
  have hb8 : Below w7.heap.size w7 w8 := by rw [hw8]; exact (Below.refl _ _).alloc (Nat.le_refl _) _
  have hx8 := heap_alloc_new w7 (.cells #[.bool s9, .slice o9 n9 c9, .slice a9 m9 d9, .bool s9x, .slice o9x n9x c9x, .slice a9x m9x d9x] 26)
  obtain ⟨g8, hg8⟩ : ∃ g, g = w7.heap.size := ⟨_, rfl⟩
  rw [← hw8, ← hg8] at hx8
  have lw8 : w.heap.size ≤ g8 := by rw [hg8]; exact HB7.out.size
  have ltBX18 : g1 < g8 := by rw [hg8]; exact below_lt BX1.out
  have ltBX28 : g2 < g8 := by rw [hg8]; exact below_lt BX2.out
  have ltBX38 : g3 < g8 := by rw [hg8]; exact below_lt BX3.out
  have HW8 := Lib.hid hw8; have HG8 := Lib.hid hg8; clear hw8 hg8
  have HB8 := Lib.hid (HB7.out.step hb8)
  have Fa := Lib.hid (Fa.out.below hb8)
  have Fal := Lib.hid (Fal.out.below hb8)
  have Fah := Lib.hid (Fah.out.below hb8)
  have FaV := Lib.hid (FaV.out.below hb8)
  have Fb := Lib.hid (Fb.out.below hb8)
  have Fbl := Lib.hid (Fbl.out.below hb8)
  have Fbh := Lib.hid (Fbh.out.below hb8)
  have FbV := Lib.hid (FbV.out.below hb8)
  have Fx := Lib.hid (Fx.out.below hb8)
  have N7 := Lib.hid (N7.out.below hb8)
  have N7l := Lib.hid (N7l.out.below hb8)
  have N7h := Lib.hid (N7h.out.below hb8)
  have BX1 := Lib.hid (heap_below BX1.out hb8)
  have BX2 := Lib.hid (heap_below BX2.out hb8)
  have BX3 := Lib.hid (heap_below BX3.out hb8)
  have BX8 := Lib.hid hx8; clear hb8 hx8
  obtain ⟨x10_0, x10_1, x10_2, x10_3, x10_4, x10_5⟩ := row6 BX1.out
  obtain ⟨x11_0, x11_1, x11_2, x11_3, x11_4, x11_5⟩ := row6 BX2.out
  obtain ⟨k12, k13⟩ := rl_stV (S_a) (S_b)
  have hs := rsmeet_any _ (S_a) _ (S_b) w8 Fa.out Fb.out (by omega) (by omega) (by omega) (by omega)
  rw [HE.out] at hs
  have HS := Lib.hid hs; clear hs
  try rw [HW8.out] at x10_0
  try rw [HG8.out] at x10_0
  try rw [HW8.out] at x10_1
  try rw [HG8.out] at x10_1
  try rw [HW8.out] at x10_2
  try rw [HG8.out] at x10_2
  try rw [HW8.out] at x10_3
  try rw [HG8.out] at x10_3
  try rw [HW8.out] at x10_4
  try rw [HG8.out] at x10_4
  try rw [HW8.out] at x10_5
  try rw [HG8.out] at x10_5
  try rw [HW8.out] at x11_0
  try rw [HG8.out] at x11_0
  try rw [HW8.out] at x11_1
  try rw [HG8.out] at x11_1
  try rw [HW8.out] at x11_2
  try rw [HG8.out] at x11_2
  try rw [HW8.out] at x11_3
  try rw [HG8.out] at x11_3
  try rw [HW8.out] at x11_4
  try rw [HG8.out] at x11_4
  try rw [HW8.out] at x11_5
  try rw [HG8.out] at x11_5
  go_wp2_with (with_reducible first | refine pauseCall ?_ | refine pauseLoop ?_ | refine pauseDraw ?_ | refine pauseBody ?_ | refine pauseRounds ?_)
  try rw [← HW8.out]
  try rw [← HG8.out]
  clear x10_0 x10_1 x10_2 x10_3 x10_4 x10_5 x11_0 x11_1 x11_2 x11_3 x11_4 x11_5
  refine Pause.mk ?_
  (with_reducible refine HS.out.mono ?_); rintro e w9 ⟨v9, rfl, hb9, hn9⟩
  clear HS
  have HB9 := Lib.hid (HB8.out.step hb9)
  have Fa := Lib.hid (Fa.out.below hb9)
  have Fal := Lib.hid (Fal.out.below hb9)
  have Fah := Lib.hid (Fah.out.below hb9)
  have FaV := Lib.hid (FaV.out.below hb9)
  have Fb := Lib.hid (Fb.out.below hb9)
  have Fbl := Lib.hid (Fbl.out.below hb9)
  have Fbh := Lib.hid (Fbh.out.below hb9)
  have FbV := Lib.hid (FbV.out.below hb9)
  have Fx := Lib.hid (Fx.out.below hb9)
  have N7 := Lib.hid (N7.out.below hb9)
  have N7l := Lib.hid (N7l.out.below hb9)
  have N7h := Lib.hid (N7h.out.below hb9)
  have BX1 := Lib.hid (heap_below BX1.out hb9)
  have BX2 := Lib.hid (heap_below BX2.out hb9)
  have BX3 := Lib.hid (heap_below BX3.out hb9)
  have BX8 := Lib.hid (heap_below BX8.out hb9)
  have N9 := Lib.hid hn9; clear hn9
  obtain ⟨s14, o14, n14, c14, a14, m14, d14, s14x, o14x, n14x, c14x, a14x, m14x, d14x, rfl⟩ := N9.out.shape
  have N9l := Lib.hid (isSp_ends N9.out).1; have N9h := Lib.hid (isSp_ends N9.out).2
  clear hb9
  obtain ⟨w10, hw10⟩ : ∃ w10, w10 = w9.alloc (.cells #[.bool s14, .slice o14 n14 c14, .slice a14 m14 d14, .bool s14x, .slice o14x n14x c14x, .slice a14x m14x d14x] 26) := ⟨_, rfl⟩
  have hb10 : Below w9.heap.size w9 w10 := by rw [hw10]; exact (Below.refl _ _).alloc (Nat.le_refl _) _
  have hx10 := heap_alloc_new w9 (.cells #[.bool s14, .slice o14 n14 c14, .slice a14 m14 d14, .bool s14x, .slice o14x n14x c14x, .slice a14x m14x d14x] 26)
  obtain ⟨g10, hg10⟩ : ∃ g, g = w9.heap.size := ⟨_, rfl⟩
  rw [← hw10, ← hg10] at hx10
  have lw10 : w.heap.size ≤ g10 := by rw [hg10]; exact HB9.out.size
  have ltBX110 : g1 < g10 := by rw [hg10]; exact below_lt BX1.out
  have ltBX210 : g2 < g10 := by rw [hg10]; exact below_lt BX2.out
  have ltBX310 : g3 < g10 := by rw [hg10]; exact below_lt BX3.out
  have ltBX810 : g8 < g10 := by rw [hg10]; exact below_lt BX8.out
  have HW10 := Lib.hid hw10; have HG10 := Lib.hid hg10; clear hw10 hg10
  have HB10 := Lib.hid (HB9.out.step hb10)
  have Fa := Lib.hid (Fa.out.below hb10)
  have Fal := Lib.hid (Fal.out.below hb10)
  have Fah := Lib.hid (Fah.out.below hb10)
  have FaV := Lib.hid (FaV.out.below hb10)
  have Fb := Lib.hid (Fb.out.below hb10)
  have Fbl := Lib.hid (Fbl.out.below hb10)
  have Fbh := Lib.hid (Fbh.out.below hb10)
  have FbV := Lib.hid (FbV.out.below hb10)
  have Fx := Lib.hid (Fx.out.below hb10)
  have N7 := Lib.hid (N7.out.below hb10)
  have N7l := Lib.hid (N7l.out.below hb10)
  have N7h := Lib.hid (N7h.out.below hb10)
  have N9 := Lib.hid (N9.out.below hb10)
  have N9l := Lib.hid (N9l.out.below hb10)
  have N9h := Lib.hid (N9h.out.below hb10)
  have BX1 := Lib.hid (heap_below BX1.out hb10)
  have BX2 := Lib.hid (heap_below BX2.out hb10)
  have BX3 := Lib.hid (heap_below BX3.out hb10)
  have BX8 := Lib.hid (heap_below BX8.out hb10)
  have BX10 := Lib.hid hx10; clear hb10 hx10
  go_wp2_with (with_reducible first | refine pauseCall ?_ | refine pauseLoop ?_ | refine pauseDraw ?_ | refine pauseBody ?_ | refine pauseRounds ?_)
  try rw [← HW10.out]
  try rw [← HG10.out]
  refine Pause.mk ?_
  obtain ⟨k15, k16⟩ := rl_sHull (S_a) (S_b)
  obtain ⟨k17, k18⟩ := rl_sHull (S_a) (S_b)
  refine wp_region_facts (A := ?aa19) (w := w10) 33 [] (by kernel_rfl) (Fl [KEq (.agg #[.bool qa, .slice oa na ka, .slice pa ma ra, .bool qax, .slice oax nax kax, .slice pax max rax]), KEq (.agg #[.bool qb, .slice ob nb kb, .slice pb mb rb, .bool qbx, .slice obx nbx kbx, .slice pbx mbx rbx]), KSp (sHull (S_a) (S_b)), KEq (.agg #[.bool qa, .slice oa na ka, .slice pa ma ra, .bool qax, .slice oax nax kax, .slice pax max rax]), KEq (.agg #[.bool qb, .slice ob nb kb, .slice pb mb rb, .bool qbx, .slice obx nbx kbx, .slice pbx mbx rbx]), KSp (sHull (S_a) (S_b)), KEq (.bool true), KEq (.bool true), KEq (.agg #[.bool s9, .slice o9 n9 c9, .slice a9 m9 d9, .bool s9x, .slice o9x n9x c9x, .slice a9x m9x d9x]), KEq (.agg #[.bool s14, .slice o14 n14 c14, .slice a14 m14 d14, .bool s14x, .slice o14x n14x c14x, .slice a14x m14x d14x]), KEq (.bool true), KEq (.bool true), KEq (.bool true), KEq ((errV E)), KEq (.int .i64 (E : Nat)), KEq (.int .i64 (E : Nat)), KEq (.bool true), KEq (.bool true), KEq (.bool true), KEq (.agg #[.bool qa, .slice oa na ka, .slice pa ma ra, .bool qax, .slice oax nax kax, .slice pax max rax]), KEq (.agg #[.bool s_x, .slice ox nx kx, .slice px mx rx]), KEq (.bool (decide (inS (S_a) (p_x)))), KEq (.agg #[.bool qa, .slice oa na ka, .slice pa ma ra, .bool qax, .slice oax nax kax, .slice pax max rax]), KEq (.agg #[.bool s_x, .slice ox nx kx, .slice px mx rx]), KEq (.bool (decide (inS (S_a) (p_x)))), KEq (.bool true), KEq (.bool true), KEq (.bool true), KEq (.agg #[.bool qa, .slice oa na ka, .slice pa ma ra, .bool qax, .slice oax nax kax, .slice pax max rax]), KEq (.agg #[.bool qb, .slice ob nb kb, .slice pb mb rb, .bool qbx, .slice obx nbx kbx, .slice pbx mbx rbx]), KEq (.bool (decide (subS (S_a) (S_b)))), KEq (.agg #[.bool qa, .slice oa na ka, .slice pa ma ra, .bool qax, .slice oax nax kax, .slice pax max rax]), KEq (.agg #[.bool qb, .slice ob nb kb, .slice pb mb rb, .bool qbx, .slice obx nbx kbx, .slice pbx mbx rbx])]) (fun i => false) (by kernel_rfl) ?hq19 (monoL (monoC (kEq _) (monoC (kEq _) (monoC (kSp _) (monoC (kEq _) (monoC (kEq _) (monoC (kSp _) (monoC (kEq _) (monoC (kEq _) (monoC (kEq _) (monoC (kEq _) (monoC (kEq _) (monoC (kEq _) (monoC (kEq _) (monoC (kEq _) (monoC (kEq _) (monoC (kEq _) (monoC (kEq _) (monoC (kEq _) (monoC (kEq _) (monoC (kEq _) (monoC (kEq _) (monoC (kEq _) (monoC (kEq _) (monoC (kEq _) (monoC (kEq _) (monoC (kEq _) (monoC (kEq _) (monoC (kEq _) (monoC (kEq _) (monoC (kEq _) (monoC (kEq _) (monoC (kEq _) (monoC (kEq _) monoN)))))))))))))))))))))))))))))))))) ?ha19 ?st19 ?tl19
  case hq19 =>
    intro c a d v w h
    first | (simp only [Exit.then] at h ⊢; exact h) | (simp only [Exit.inBlock, Exit.then] at h ⊢; exact h) | exact h
  case ha19 =>
    intro vals
    simp only [putsTo, dstOf, if_true, Act.put, List.setIfInBounds_toArray, List.set_cons_zero, List.set_cons_succ, List.getElem?_toArray, List.getElem?_cons_zero, List.getElem?_cons_succ, Option.bind_some]
    exact rfl
  case st19 =>
    simp only [List.take_succ_cons, List.take_zero]
    refine stepsOK_cons rfl rfl ?_ (stepsOK_cons rfl rfl ?_ (stepsOK_cons rfl rfl ?_ (stepsOK_cons rfl rfl ?_ (stepsOK_cons rfl rfl ?_ (stepsOK_cons rfl rfl ?_ (stepsOK_cons rfl rfl ?_ (stepsOK_cons rfl rfl ?_ (stepsOK_guard rfl ?_ (stepsOK_guard rfl ?_ (stepsOK_guard rfl ?_ (stepsOK_cons rfl rfl ?_ (stepsOK_cons rfl rfl ?_ (stepsOK_guard rfl ?_ (stepsOK_guard rfl ?_ (stepsOK_guard rfl ?_ (stepsOK_guard rfl ?_ (stepsOK_cons rfl rfl ?_ (stepsOK_cons rfl rfl ?_ (stepsOK_guard rfl ?_ (stepsOK_guard rfl ?_ (stepsOK_guard rfl ?_ (stepsOK_guard rfl ?_ (stepsOK_guard rfl ?_ (stepsOK_guard rfl ?_ (stepsOK_guard rfl ?_ (stepsOK_cons rfl rfl ?_ (stepsOK_cons rfl rfl ?_ (stepsOK_guard rfl ?_ (stepsOK_guard rfl ?_ (stepsOK_guard rfl ?_ (stepsOK_guard rfl ?_ (stepsOK_guard rfl ?_ (stepsOK_nil)))))))))))))))))))))))))))))))))
    · intro vals w1 hb hd
      obtain ⟨e0, e1, e2, e3, e4, e5⟩ := row6 (heap_below BX1.out hb)
      refine stepOK_value (v := .agg #[.bool qa, .slice oa na ka, .slice pa ma ra, .bool qax, .slice oax nax kax, .slice pax max rax]) (w' := w1) (by go_simp) (leaves_mk (Below.refl _ _) rfl (fun h => by cases h))
    · intro vals w1 hb hd
      obtain ⟨e0, e1, e2, e3, e4, e5⟩ := row6 (heap_below BX2.out hb)
      refine stepOK_value (v := .agg #[.bool qb, .slice ob nb kb, .slice pb mb rb, .bool qbx, .slice obx nbx kbx, .slice pbx mbx rbx]) (w' := w1) (by go_simp) (leaves_mk (Below.refl _ _) rfl (fun h => by cases h))
    · intro vals w1 hb hd
      have d0 : KEq (.agg #[.bool qa, .slice oa na ka, .slice pa ma ra, .bool qax, .slice oax nax kax, .slice pax max rax]) (vals 0) w1 := hd 0 (by kernel_rfl)
      have d1 : KEq (.agg #[.bool qb, .slice ob nb kb, .slice pb mb rb, .bool qbx, .slice obx nbx kbx, .slice pbx mbx rbx]) (vals 1) w1 := hd 1 (by kernel_rfl)
      have z0 : vals 0 = _ := d0
      have z1 : vals 1 = _ := d1
      have hs := shull_any _ (S_a) _ (S_b) w1 (Fa.out.below hb) (Fb.out.below hb) (by omega) (by omega) (by omega) (by omega)
      have HS := Lib.hid hs; clear hs
      rw [z0]; clear z0
      rw [z1]; clear z1
      clear d0 d1 hd
      refine stepOK_call (by go_simp; first | done | exact ⟨⟨rfl, rfl⟩, rfl⟩) ?_
      (with_reducible refine HS.out.mono ?_); rintro e w2 ⟨v, rfl, hb2, hn⟩
      exact ⟨v, rfl, leaves_mk hb2 hn (fun h => by cases h)⟩
    · intro vals w1 hb hd
      obtain ⟨e0, e1, e2, e3, e4, e5⟩ := row6 (heap_below BX1.out hb)
      refine stepOK_value (v := .agg #[.bool qa, .slice oa na ka, .slice pa ma ra, .bool qax, .slice oax nax kax, .slice pax max rax]) (w' := w1) (by go_simp) (leaves_mk (Below.refl _ _) rfl (fun h => by cases h))
    · intro vals w1 hb hd
      obtain ⟨e0, e1, e2, e3, e4, e5⟩ := row6 (heap_below BX2.out hb)
      refine stepOK_value (v := .agg #[.bool qb, .slice ob nb kb, .slice pb mb rb, .bool qbx, .slice obx nbx kbx, .slice pbx mbx rbx]) (w' := w1) (by go_simp) (leaves_mk (Below.refl _ _) rfl (fun h => by cases h))
    · intro vals w1 hb hd
      have d3 : KEq (.agg #[.bool qa, .slice oa na ka, .slice pa ma ra, .bool qax, .slice oax nax kax, .slice pax max rax]) (vals 3) w1 := hd 3 (by kernel_rfl)
      have d4 : KEq (.agg #[.bool qb, .slice ob nb kb, .slice pb mb rb, .bool qbx, .slice obx nbx kbx, .slice pbx mbx rbx]) (vals 4) w1 := hd 4 (by kernel_rfl)
      have z3 : vals 3 = _ := d3
      have z4 : vals 4 = _ := d4
      have hs := rshull_any _ (S_a) _ (S_b) w1 (Fa.out.below hb) (Fb.out.below hb) (by omega) (by omega) (by omega) (by omega)
      have HS := Lib.hid hs; clear hs
      rw [z3]; clear z3
      rw [z4]; clear z4
      clear d3 d4 hd
      refine stepOK_call (by go_simp; first | done | exact ⟨⟨rfl, rfl⟩, rfl⟩) ?_
      (with_reducible refine HS.out.mono ?_); rintro e w2 ⟨v, rfl, hb2, hn⟩
      exact ⟨v, rfl, leaves_mk hb2 hn (fun h => by cases h)⟩
    · intro vals w1 hb hd
      have d2 : KSp (sHull (S_a) (S_b)) (vals 2) w1 := hd 2 (by kernel_rfl)
      have R2 : Hid (IsSp w1 (vals 2) (sHull (S_a) (S_b))) := Lib.hid d2
      have d5 : KSp (sHull (S_a) (S_b)) (vals 5) w1 := hd 5 (by kernel_rfl)
      have R5 : Hid (IsSp w1 (vals 5) (sHull (S_a) (S_b))) := Lib.hid d5
      have hs := spsame_any _ (sHull (S_a) (S_b)) _ w1 R2.out R5.out (by omega) (by omega)
      have HS := Lib.hid hs; clear hs
      clear d2 d5 hd
      refine stepOK_call (by go_simp; first | done | exact ⟨⟨rfl, rfl⟩, rfl⟩) ?_
      (with_reducible refine HS.out.mono ?_); rintro e w2 ⟨rfl, hb2⟩
      exact ⟨_, rfl, leaves_mk hb2 rfl (fun h => by cases h)⟩
    · intro vals w1 hb hd
      have d6 : KEq (.bool true) (vals 6) w1 := hd 6 (by kernel_rfl)
      rw [show vals 6 = _ from d6]
      refine stepOK_value (v := (.bool true)) (w' := w1) (by go_simp) (leaves_mk (Below.refl _ _) rfl (fun h => by cases h))
    · intro vals w1 hb hd
      have dg : KEq (.bool true) (vals 7) w1 := hd 7 (by kernel_rfl)
      refine stepG_yes (wanted_of rfl rfl (congrArg some dg) rfl) ?_
      clear dg
      obtain ⟨e0, e1, e2, e3, e4, e5⟩ := row6 (heap_below BX8.out hb)
      refine stepOK_value (v := .agg #[.bool s9, .slice o9 n9 c9, .slice a9 m9 d9, .bool s9x, .slice o9x n9x c9x, .slice a9x m9x d9x]) (w' := w1) (by go_simp) (leaves_mk (Below.refl _ _) rfl (fun h => by cases h))
    · intro vals w1 hb hd
      have dg : KEq (.bool true) (vals 7) w1 := hd 7 (by kernel_rfl)
      refine stepG_yes (wanted_of rfl rfl (congrArg some dg) rfl) ?_
      clear dg
      obtain ⟨e0, e1, e2, e3, e4, e5⟩ := row6 (heap_below BX10.out hb)
      refine stepOK_value (v := .agg #[.bool s14, .slice o14 n14 c14, .slice a14 m14 d14, .bool s14x, .slice o14x n14x c14x, .slice a14x m14x d14x]) (w' := w1) (by go_simp) (leaves_mk (Below.refl _ _) rfl (fun h => by cases h))
    · intro vals w1 hb hd
      have dg : KEq (.bool true) (vals 7) w1 := hd 7 (by kernel_rfl)
      refine stepG_yes (wanted_of rfl rfl (congrArg some dg) rfl) ?_
      clear dg
      have d8 : KEq (.agg #[.bool s9, .slice o9 n9 c9, .slice a9 m9 d9, .bool s9x, .slice o9x n9x c9x, .slice a9x m9x d9x]) (vals 8) w1 := hd 8 (by kernel_rfl)
      have d9 : KEq (.agg #[.bool s14, .slice o14 n14 c14, .slice a14 m14 d14, .bool s14x, .slice o14x n14x c14x, .slice a14x m14x d14x]) (vals 9) w1 := hd 9 (by kernel_rfl)
      have z8 : vals 8 = _ := d8
      have z9 : vals 9 = _ := d9
      have hs := spsame_any _ (stV (S_a) (S_b)) _ w1 (N7.out.below hb) (N9.out.below hb) (by omega) (by omega)
      have HS := Lib.hid hs; clear hs
      rw [z8]; clear z8
      rw [z9]; clear z9
      clear d8 d9 hd
      refine stepOK_call (by go_simp; first | done | exact ⟨⟨rfl, rfl⟩, rfl⟩) ?_
      (with_reducible refine HS.out.mono ?_); rintro e w2 ⟨rfl, hb2⟩
      exact ⟨_, rfl, leaves_mk hb2 rfl (fun h => by cases h)⟩
    · intro vals w1 hb hd
      have d7 : KEq (.bool true) (vals 7) w1 := hd 7 (by kernel_rfl)
      have d10 : KEq (.bool true) (vals 10) w1 := hd 10 (by kernel_rfl)
      rw [show vals 7 = _ from d7]
      rw [show vals 10 = _ from d10]
      refine stepOK_value (v := (.bool true)) (w' := w1) (by go_simp) (leaves_mk (Below.refl _ _) rfl (fun h => by cases h))
    · intro vals w1 hb hd
      have d11 : KEq (.bool true) (vals 11) w1 := hd 11 (by kernel_rfl)
      rw [show vals 11 = _ from d11]
      refine stepOK_value (v := (.bool true)) (w' := w1) (by go_simp) (leaves_mk (Below.refl _ _) rfl (fun h => by cases h))
    · intro vals w1 hb hd
      have dg : KEq (.bool true) (vals 12) w1 := hd 12 (by kernel_rfl)
      refine stepG_yes (wanted_of rfl rfl (congrArg some dg) rfl) ?_
      clear dg
      refine stepOK_value (v := ((errV E))) (w' := w1) (by go_simp) (leaves_mk (Below.refl _ _) rfl (fun h => by cases h))
    · intro vals w1 hb hd
      have dg : KEq (.bool true) (vals 12) w1 := hd 12 (by kernel_rfl)
      refine stepG_yes (wanted_of rfl rfl (congrArg some dg) rfl) ?_
      clear dg
      have d13 : KEq ((errV E)) (vals 13) w1 := hd 13 (by kernel_rfl)
      have z13 : vals 13 = _ := d13
      have hs := num_any E w1 smallE
      have HS := Lib.hid hs; clear hs
      rw [z13]; clear z13
      clear d13 hd
      refine stepOK_call (by go_simp; first | done | exact ⟨⟨rfl, rfl⟩, rfl⟩) ?_
      (with_reducible refine HS.out.mono ?_); rintro e w2 ⟨rfl, rfl⟩
      exact ⟨_, rfl, leaves_mk (Below.refl _ _) rfl (fun h => by cases h)⟩
    · intro vals w1 hb hd
      have dg : KEq (.bool true) (vals 12) w1 := hd 12 (by kernel_rfl)
      refine stepG_yes (wanted_of rfl rfl (congrArg some dg) rfl) ?_
      clear dg
      refine stepOK_value (v := (.int .i64 (E : Nat))) (w' := w1) (by go_simp) (leaves_mk (Below.refl _ _) rfl (fun h => by cases h))
    · intro vals w1 hb hd
      have dg : KEq (.bool true) (vals 12) w1 := hd 12 (by kernel_rfl)
      refine stepG_yes (wanted_of rfl rfl (congrArg some dg) rfl) ?_
      clear dg
      have d14 : KEq (.int .i64 (E : Nat)) (vals 14) w1 := hd 14 (by kernel_rfl)
      have d15 : KEq (.int .i64 (E : Nat)) (vals 15) w1 := hd 15 (by kernel_rfl)
      rw [show vals 14 = _ from d14]
      rw [show vals 15 = _ from d15]
      refine stepOK_value (v := (.bool true)) (w' := w1) (by go_simp) (leaves_mk (Below.refl _ _) rfl (fun h => by cases h))
    · intro vals w1 hb hd
      have d12 : KEq (.bool true) (vals 12) w1 := hd 12 (by kernel_rfl)
      have d16 : KEq (.bool true) (vals 16) w1 := hd 16 (by kernel_rfl)
      rw [show vals 12 = _ from d12]
      rw [show vals 16 = _ from d16]
      refine stepOK_value (v := (.bool true)) (w' := w1) (by go_simp) (leaves_mk (Below.refl _ _) rfl (fun h => by cases h))
    · intro vals w1 hb hd
      have d17 : KEq (.bool true) (vals 17) w1 := hd 17 (by kernel_rfl)
      rw [show vals 17 = _ from d17]
      refine stepOK_value (v := (.bool true)) (w' := w1) (by go_simp) (leaves_mk (Below.refl _ _) rfl (fun h => by cases h))
    · intro vals w1 hb hd
      have dg : KEq (.bool true) (vals 18) w1 := hd 18 (by kernel_rfl)
      refine stepG_yes (wanted_of rfl rfl (congrArg some dg) rfl) ?_
      clear dg
      obtain ⟨e0, e1, e2, e3, e4, e5⟩ := row6 (heap_below BX1.out hb)
      refine stepOK_value (v := .agg #[.bool qa, .slice oa na ka, .slice pa ma ra, .bool qax, .slice oax nax kax, .slice pax max rax]) (w' := w1) (by go_simp) (leaves_mk (Below.refl _ _) rfl (fun h => by cases h))
    · intro vals w1 hb hd
      have dg : KEq (.bool true) (vals 18) w1 := hd 18 (by kernel_rfl)
      refine stepG_yes (wanted_of rfl rfl (congrArg some dg) rfl) ?_
      clear dg
      obtain ⟨e0, e1, e2⟩ := row3 (heap_below BX3.out hb)
      refine stepOK_value (v := .agg #[.bool s_x, .slice ox nx kx, .slice px mx rx]) (w' := w1) (by go_simp) (leaves_mk (Below.refl _ _) rfl (fun h => by cases h))
    · intro vals w1 hb hd
      have dg : KEq (.bool true) (vals 18) w1 := hd 18 (by kernel_rfl)
      refine stepG_yes (wanted_of rfl rfl (congrArg some dg) rfl) ?_
      clear dg
      have d19 : KEq (.agg #[.bool qa, .slice oa na ka, .slice pa ma ra, .bool qax, .slice oax nax kax, .slice pax max rax]) (vals 19) w1 := hd 19 (by kernel_rfl)
      have d20 : KEq (.agg #[.bool s_x, .slice ox nx kx, .slice px mx rx]) (vals 20) w1 := hd 20 (by kernel_rfl)
      have z19 : vals 19 = _ := d19
      have z20 : vals 20 = _ := d20
      have hs := contains_any _ (S_a) _ (p_x) w1 (Fa.out.below hb) (Fx.out.below hb) (by omega) (by omega) (by omega)
      have HS := Lib.hid hs; clear hs
      rw [z19]; clear z19
      rw [z20]; clear z20
      clear d19 d20 hd
      refine stepOK_call (by go_simp; first | done | exact ⟨⟨rfl, rfl⟩, rfl⟩) ?_
      (with_reducible refine HS.out.mono ?_); rintro e w2 ⟨rfl, hb2⟩
      exact ⟨_, rfl, leaves_mk hb2 rfl (fun h => by cases h)⟩
    · intro vals w1 hb hd
      have dg : KEq (.bool true) (vals 18) w1 := hd 18 (by kernel_rfl)
      refine stepG_yes (wanted_of rfl rfl (congrArg some dg) rfl) ?_
      clear dg
      obtain ⟨e0, e1, e2, e3, e4, e5⟩ := row6 (heap_below BX1.out hb)
      refine stepOK_value (v := .agg #[.bool qa, .slice oa na ka, .slice pa ma ra, .bool qax, .slice oax nax kax, .slice pax max rax]) (w' := w1) (by go_simp) (leaves_mk (Below.refl _ _) rfl (fun h => by cases h))
    · intro vals w1 hb hd
      have dg : KEq (.bool true) (vals 18) w1 := hd 18 (by kernel_rfl)
      refine stepG_yes (wanted_of rfl rfl (congrArg some dg) rfl) ?_
      clear dg
      obtain ⟨e0, e1, e2⟩ := row3 (heap_below BX3.out hb)
      refine stepOK_value (v := .agg #[.bool s_x, .slice ox nx kx, .slice px mx rx]) (w' := w1) (by go_simp) (leaves_mk (Below.refl _ _) rfl (fun h => by cases h))
    · intro vals w1 hb hd
      have dg : KEq (.bool true) (vals 18) w1 := hd 18 (by kernel_rfl)
      refine stepG_yes (wanted_of rfl rfl (congrArg some dg) rfl) ?_
      clear dg
      have d22 : KEq (.agg #[.bool qa, .slice oa na ka, .slice pa ma ra, .bool qax, .slice oax nax kax, .slice pax max rax]) (vals 22) w1 := hd 22 (by kernel_rfl)
      have d23 : KEq (.agg #[.bool s_x, .slice ox nx kx, .slice px mx rx]) (vals 23) w1 := hd 23 (by kernel_rfl)
      have z22 : vals 22 = _ := d22
      have z23 : vals 23 = _ := d23
      have hs := rcontains_any _ (S_a) _ (p_x) w1 (Fa.out.below hb) (Fx.out.below hb) (by omega) (by omega) (by omega)
      have HS := Lib.hid hs; clear hs
      rw [z22]; clear z22
      rw [z23]; clear z23
      clear d22 d23 hd
      refine stepOK_call (by go_simp; first | done | exact ⟨⟨rfl, rfl⟩, rfl⟩) ?_
      (with_reducible refine HS.out.mono ?_); rintro e w2 ⟨rfl, hb2⟩
      exact ⟨_, rfl, leaves_mk hb2 rfl (fun h => by cases h)⟩
    · intro vals w1 hb hd
      have dg : KEq (.bool true) (vals 18) w1 := hd 18 (by kernel_rfl)
      refine stepG_yes (wanted_of rfl rfl (congrArg some dg) rfl) ?_
      clear dg
      have d21 : KEq (.bool (decide (inS (S_a) (p_x)))) (vals 21) w1 := hd 21 (by kernel_rfl)
      have d24 : KEq (.bool (decide (inS (S_a) (p_x)))) (vals 24) w1 := hd 24 (by kernel_rfl)
      rw [show vals 21 = _ from d21]
      rw [show vals 24 = _ from d24]
      refine stepOK_value (v := (.bool true)) (w' := w1) (by go_simp) (leaves_mk (Below.refl _ _) rfl (fun h => by cases h))
    · intro vals w1 hb hd
      have d18 : KEq (.bool true) (vals 18) w1 := hd 18 (by kernel_rfl)
      have d25 : KEq (.bool true) (vals 25) w1 := hd 25 (by kernel_rfl)
      rw [show vals 18 = _ from d18]
      rw [show vals 25 = _ from d25]
      refine stepOK_value (v := (.bool true)) (w' := w1) (by go_simp) (leaves_mk (Below.refl _ _) rfl (fun h => by cases h))
    · intro vals w1 hb hd
      have d26 : KEq (.bool true) (vals 26) w1 := hd 26 (by kernel_rfl)
      rw [show vals 26 = _ from d26]
      refine stepOK_value (v := (.bool true)) (w' := w1) (by go_simp) (leaves_mk (Below.refl _ _) rfl (fun h => by cases h))
    · intro vals w1 hb hd
      have dg : KEq (.bool true) (vals 27) w1 := hd 27 (by kernel_rfl)
      refine stepG_yes (wanted_of rfl rfl (congrArg some dg) rfl) ?_
      clear dg
      obtain ⟨e0, e1, e2, e3, e4, e5⟩ := row6 (heap_below BX1.out hb)
      refine stepOK_value (v := .agg #[.bool qa, .slice oa na ka, .slice pa ma ra, .bool qax, .slice oax nax kax, .slice pax max rax]) (w' := w1) (by go_simp) (leaves_mk (Below.refl _ _) rfl (fun h => by cases h))
    · intro vals w1 hb hd
      have dg : KEq (.bool true) (vals 27) w1 := hd 27 (by kernel_rfl)
      refine stepG_yes (wanted_of rfl rfl (congrArg some dg) rfl) ?_
      clear dg
      obtain ⟨e0, e1, e2, e3, e4, e5⟩ := row6 (heap_below BX2.out hb)
      refine stepOK_value (v := .agg #[.bool qb, .slice ob nb kb, .slice pb mb rb, .bool qbx, .slice obx nbx kbx, .slice pbx mbx rbx]) (w' := w1) (by go_simp) (leaves_mk (Below.refl _ _) rfl (fun h => by cases h))
    · intro vals w1 hb hd
      have dg : KEq (.bool true) (vals 27) w1 := hd 27 (by kernel_rfl)
      refine stepG_yes (wanted_of rfl rfl (congrArg some dg) rfl) ?_
      clear dg
      have d28 : KEq (.agg #[.bool qa, .slice oa na ka, .slice pa ma ra, .bool qax, .slice oax nax kax, .slice pax max rax]) (vals 28) w1 := hd 28 (by kernel_rfl)
      have d29 : KEq (.agg #[.bool qb, .slice ob nb kb, .slice pb mb rb, .bool qbx, .slice obx nbx kbx, .slice pbx mbx rbx]) (vals 29) w1 := hd 29 (by kernel_rfl)
      have z28 : vals 28 = _ := d28
      have z29 : vals 29 = _ := d29
      have hs := inside_any _ (S_a) _ (S_b) w1 (Fa.out.below hb) (Fb.out.below hb) (by omega) (by omega) (by omega) (by omega)
      have HS := Lib.hid hs; clear hs
      rw [z28]; clear z28
      rw [z29]; clear z29
      clear d28 d29 hd
      refine stepOK_call (by go_simp; first | done | exact ⟨⟨rfl, rfl⟩, rfl⟩) ?_
      (with_reducible refine HS.out.mono ?_); rintro e w2 ⟨rfl, hb2⟩
      exact ⟨_, rfl, leaves_mk hb2 rfl (fun h => by cases h)⟩
    · intro vals w1 hb hd
      have dg : KEq (.bool true) (vals 27) w1 := hd 27 (by kernel_rfl)
      refine stepG_yes (wanted_of rfl rfl (congrArg some dg) rfl) ?_
      clear dg
      obtain ⟨e0, e1, e2, e3, e4, e5⟩ := row6 (heap_below BX1.out hb)
      refine stepOK_value (v := .agg #[.bool qa, .slice oa na ka, .slice pa ma ra, .bool qax, .slice oax nax kax, .slice pax max rax]) (w' := w1) (by go_simp) (leaves_mk (Below.refl _ _) rfl (fun h => by cases h))
    · intro vals w1 hb hd
      have dg : KEq (.bool true) (vals 27) w1 := hd 27 (by kernel_rfl)
      refine stepG_yes (wanted_of rfl rfl (congrArg some dg) rfl) ?_
      clear dg
      obtain ⟨e0, e1, e2, e3, e4, e5⟩ := row6 (heap_below BX2.out hb)
      refine stepOK_value (v := .agg #[.bool qb, .slice ob nb kb, .slice pb mb rb, .bool qbx, .slice obx nbx kbx, .slice pbx mbx rbx]) (w' := w1) (by go_simp) (leaves_mk (Below.refl _ _) rfl (fun h => by cases h))
  case tl19 =>
    intro vals w11 hb11 hf hdis
    simp only [List.drop_succ_cons, List.drop_zero]
    have z27 : vals 27 = _ := hf 27 (by decide)
    try rw [z27]
    clear z27
    have z30 : vals 30 = _ := hf 30 (by decide)
    try rw [z30]
    clear z30
    have z31 : vals 31 = _ := hf 31 (by decide)
    try rw [z31]
    clear z31
    have z32 : vals 32 = _ := hf 32 (by decide)
    try rw [z32]
    clear z32
    clear hf hdis
    have HB11 := Lib.hid (HB10.out.step hb11)
    have Fa := Lib.hid (Fa.out.below hb11)
    have Fal := Lib.hid (Fal.out.below hb11)
    have Fah := Lib.hid (Fah.out.below hb11)
    have FaV := Lib.hid (FaV.out.below hb11)
    have Fb := Lib.hid (Fb.out.below hb11)
    have Fbl := Lib.hid (Fbl.out.below hb11)
    have Fbh := Lib.hid (Fbh.out.below hb11)
    have FbV := Lib.hid (FbV.out.below hb11)
    have Fx := Lib.hid (Fx.out.below hb11)
    have N7 := Lib.hid (N7.out.below hb11)
    have N7l := Lib.hid (N7l.out.below hb11)
    have N7h := Lib.hid (N7h.out.below hb11)
    have N9 := Lib.hid (N9.out.below hb11)
    have N9l := Lib.hid (N9l.out.below hb11)
    have N9h := Lib.hid (N9h.out.below hb11)
    have BX1 := Lib.hid (heap_below BX1.out hb11)
    have BX2 := Lib.hid (heap_below BX2.out hb11)
    have BX3 := Lib.hid (heap_below BX3.out hb11)
    have BX8 := Lib.hid (heap_below BX8.out hb11)
    have BX10 := Lib.hid (heap_below BX10.out hb11)
    clear hb11
    skip
    have hs := rinside_any _ (S_a) _ (S_b) w11 Fa.out Fb.out (by omega) (by omega) (by omega) (by omega)
    have HS := Lib.hid hs; clear hs
    go_wp2_with (with_reducible first | refine pauseCall ?_ | refine pauseLoop ?_ | refine pauseDraw ?_ | refine pauseBody ?_ | refine pauseRounds ?_)
    refine Pause.mk ?_
    (with_reducible refine HS.out.mono ?_); rintro e w12 ⟨rfl, hb12⟩
    clear HS
    have HB12 := Lib.hid (HB11.out.step hb12)
    have Fa := Lib.hid (Fa.out.below hb12)
    have Fal := Lib.hid (Fal.out.below hb12)
    have Fah := Lib.hid (Fah.out.below hb12)
    have FaV := Lib.hid (FaV.out.below hb12)
    have Fb := Lib.hid (Fb.out.below hb12)
    have Fbl := Lib.hid (Fbl.out.below hb12)
    have Fbh := Lib.hid (Fbh.out.below hb12)
    have FbV := Lib.hid (FbV.out.below hb12)
    have Fx := Lib.hid (Fx.out.below hb12)
    have N7 := Lib.hid (N7.out.below hb12)
    have N7l := Lib.hid (N7l.out.below hb12)
    have N7h := Lib.hid (N7h.out.below hb12)
    have N9 := Lib.hid (N9.out.below hb12)
    have N9l := Lib.hid (N9l.out.below hb12)
    have N9h := Lib.hid (N9h.out.below hb12)
    have BX1 := Lib.hid (heap_below BX1.out hb12)
    have BX2 := Lib.hid (heap_below BX2.out hb12)
    have BX3 := Lib.hid (heap_below BX3.out hb12)
    have BX8 := Lib.hid (heap_below BX8.out hb12)
    have BX10 := Lib.hid (heap_below BX10.out hb12)
    clear hb12
    go_wp2_with (with_reducible first | refine pauseCall ?_ | refine pauseLoop ?_ | refine pauseDraw ?_ | refine pauseBody ?_ | refine pauseRounds ?_)
    refine Pause.mk ?_
    go_ret
    exact ⟨by first | rfl | (simp; done), HB12.out⟩
theorem spansets_any (va : Value) (sa : Bool) (aa ba : List Nat) (ta : Bool) (ca da : List Nat) (vb : Value) (sb : Bool) (ab bb : List Nat) (tb : Bool) (cb db : List Nat) (vx : Value) (sx : Bool) (ax bx : List Nat) (w : World) (ha : SpV w va sa aa ba ta ca da) (hb : SpV w vb sb ab bb tb cb db) (hx : RatV w vx sx ax bx) :
    Calls Tryz.prog 6 #[va, vb, vx] w (RetV w (.bool true)) := by
  by_cases hbig : 6 < aa.length ∨ 6 < ba.length ∨ 6 < ca.length ∨ 6 < da.length ∨ 6 < ab.length ∨ 6 < bb.length ∨ 6 < cb.length ∨ 6 < db.length
  · exact spansets_big va aa.length ba.length ca.length da.length vb ab.length bb.length cb.length db.length vx ax.length bx.length w ha.sz.1 hb.sz.1 hx.szq.1 hbig
  by_cases hx1 : 6 < ax.length
  · exact spansets_xn va aa.length ba.length ca.length da.length vb ab.length bb.length cb.length db.length vx ax.length bx.length w ha.sz.1 hb.sz.1 hx.szq.1 ⟨by omega, by omega, by omega, by omega⟩ ⟨by omega, by omega, by omega, by omega⟩ hx1
  by_cases hx2 : 6 < bx.length
  · exact spansets_xm va aa.length ba.length ca.length da.length vb ab.length bb.length cb.length db.length vx ax.length bx.length w ha.sz.1 hb.sz.1 hx.szq.1 ⟨by omega, by omega, by omega, by omega⟩ ⟨by omega, by omega, by omega, by omega⟩ hx1 hx2
  exact spansets_ok va sa aa ba ta ca da vb sb ab bb tb cb db vx sx ax bx w ha (by omega) (by omega) (by omega) (by omega) hb (by omega) (by omega) (by omega) (by omega) hx (by omega) (by omega)
end Go.Proofs.YtaefimegiobkmaaGreatDoor
