/-
  The texts Span3, NatMath13, NatLaw0, Rat13, SpanLaw0, SpanLaw1, Span8, one behind the other (what the law leans on).
  Conditions: each theorem's own.
-/
import Derived.Test.YtaefimegiobkmaaGreatDoorMA4
/-
  span.norm, Point, Make and the reference's Arg, Point, Make.
  Conditions: each theorem's own.
-/
namespace Go.Proofs.YtaefimegiobkmaaGreatDoor
open Go.RowKit Go.ChangeShapes Go.WideShapes

theorem spV_isSp {w : World} {v : Value} {s t : Bool} {a b c d : List Nat} (h : SpV w v s a b t c d) (hv : Vld s a b) (hu : Vld t c d) : IsSp w v (rq s a b, rq t c d) := by
  obtain ⟨⟨u1, u2⟩, u3, u4⟩ := h.lt
  obtain ⟨e1, e2, e3⟩ := vld_fields u1 u2 hv
  obtain ⟨f1, f2, f3⟩ := vld_fields u3 u4 hu
  obtain ⟨x0, x1, x2, x3, x4, x5, e, h1, h2⟩ := h
  refine ⟨x0, x1, x2, x3, x4, x5, e, ?_, ?_⟩
  · unfold IsR; rw [← e1, ← e2, ← e3]; exact h1
  · unfold IsR; rw [← f1, ← f2, ← f3]; exact h2
set_option maxRecDepth 100000 in
set_option maxHeartbeats 3200000 in
theorem norm_1 (va : Value) (sa : Bool) (aa ba : List Nat) (ta : Bool) (ca da : List Nat) (w : World) (ha : SpV w va sa aa ba ta ca da) (la : aa.length ≤ 40000) (lb : ba.length ≤ 40000) (lc : ca.length ≤ 40000) (ld : da.length ≤ 40000) (hv : ¬ (Vld sa aa ba ∧ Vld ta ca da ∧ rq sa aa ba ≤ rq ta ca da)) :
    Calls Tryz.prog 45 #[va] w (RetSp w (0, 0)) := by
  have HBW := Lib.hid (Below.refl w.heap.size w)
  have kz0 : rl 0 ≤ 1 := by rw [rl_zero]; exact Nat.le_refl _
  obtain ⟨qa, oa, na, ka, pa, ma, ra, qax, oax, nax, kax, pax, max, rax, rfl⟩ := ha.shape
  have HV := Lib.hid (decide_eq_false hv); clear hv
  have Fa := Lib.hid ha; clear ha
  have Fal := Lib.hid (spV_ends Fa.out).1; have Fah := Lib.hid (spV_ends Fa.out).2
  obtain ⟨w1, hw1⟩ : ∃ w1, w1 = w.alloc (.cells #[.bool qa, .slice oa na ka, .slice pa ma ra, .bool qax, .slice oax nax kax, .slice pax max rax] 26) := ⟨_, rfl⟩
  have hb1 : Below w.heap.size w w1 := by rw [hw1]; exact (Below.refl _ _).alloc (Nat.le_refl _) _
  have hx1 := heap_alloc_new w (.cells #[.bool qa, .slice oa na ka, .slice pa ma ra, .bool qax, .slice oax nax kax, .slice pax max rax] 26)
  obtain ⟨g1, hg1⟩ : ∃ g, g = w.heap.size := ⟨_, rfl⟩
  rw [← hw1, ← hg1] at hx1
  have lw1 : w.heap.size ≤ g1 := by rw [hg1]; exact HBW.out.size
  have HW1 := Lib.hid hw1; have HG1 := Lib.hid hg1; clear hw1 hg1
  have HB1 := Lib.hid (HBW.out.step hb1)
  have Fa := Lib.hid (Fa.out.below hb1)
  have Fal := Lib.hid (Fal.out.below hb1)
  have Fah := Lib.hid (Fah.out.below hb1)
  have BX1 := Lib.hid hx1; clear hb1 hx1
  obtain ⟨w2, hw2⟩ : ∃ w2, w2 = w1.alloc (.cells #[.bool false, .slice none 0 0, .slice none 0 0, .bool false, .slice none 0 0, .slice none 0 0] 26) := ⟨_, rfl⟩
  have hb2 : Below w1.heap.size w1 w2 := by rw [hw2]; exact (Below.refl _ _).alloc (Nat.le_refl _) _
  have hx2 := heap_alloc_new w1 (.cells #[.bool false, .slice none 0 0, .slice none 0 0, .bool false, .slice none 0 0, .slice none 0 0] 26)
  obtain ⟨g2, hg2⟩ : ∃ g, g = w1.heap.size := ⟨_, rfl⟩
  rw [← hw2, ← hg2] at hx2
  have lw2 : w.heap.size ≤ g2 := by rw [hg2]; exact HB1.out.size
  have ltBX12 : g1 < g2 := by rw [hg2]; exact below_lt BX1.out
  have hs2 : g2 = w.heap.size + 1 := by rw [hg2, HW1.out]; simp
  have HS2 := Lib.hid hs2; clear hs2
  have HW2 := Lib.hid hw2; have HG2 := Lib.hid hg2; clear hw2 hg2
  have HB2 := Lib.hid (HB1.out.step hb2)
  have Fa := Lib.hid (Fa.out.below hb2)
  have Fal := Lib.hid (Fal.out.below hb2)
  have Fah := Lib.hid (Fah.out.below hb2)
  have BX1 := Lib.hid (heap_below BX1.out hb2)
  have BX2 := Lib.hid hx2; clear hb2 hx2
  go_enter Tryz.func45, Tryz.ntmps45
  obtain ⟨x1_0, x1_1, x1_2, x1_3, x1_4, x1_5⟩ := row6 BX1.out
  have hs := svalid_any _ sa aa ba ta ca da w2 Fa.out (by omega) (by omega) (by omega) (by omega)
  rw [HV.out] at hs
  have HS := Lib.hid hs; clear hs
  try rw [HW2.out] at x1_0
  try rw [HG2.out] at x1_0
  try rw [HW1.out] at x1_0
  try rw [HG1.out] at x1_0
  try rw [HW2.out] at x1_1
  try rw [HG2.out] at x1_1
  try rw [HW1.out] at x1_1
  try rw [HG1.out] at x1_1
  try rw [HW2.out] at x1_2
  try rw [HG2.out] at x1_2
  try rw [HW1.out] at x1_2
  try rw [HG1.out] at x1_2
  try rw [HW2.out] at x1_3
  try rw [HG2.out] at x1_3
  try rw [HW1.out] at x1_3
  try rw [HG1.out] at x1_3
  try rw [HW2.out] at x1_4
  try rw [HG2.out] at x1_4
  try rw [HW1.out] at x1_4
  try rw [HG1.out] at x1_4
  try rw [HW2.out] at x1_5
  try rw [HG2.out] at x1_5
  try rw [HW1.out] at x1_5
  try rw [HG1.out] at x1_5
  go_wp2_with (with_reducible first | refine pauseCall ?_ | refine pauseLoop ?_ | refine pauseDraw ?_ | refine pauseBody ?_ | refine pauseRounds ?_)
  try rw [← HW1.out]
  try rw [← HW2.out]
  try rw [← HS2.out]
  try rw [← HG1.out]
  try rw [← HG2.out]
  clear x1_0 x1_1 x1_2 x1_3 x1_4 x1_5
  refine Pause.mk ?_
  (with_reducible refine HS.out.mono ?_); rintro e w3 ⟨rfl, hb3⟩
  clear HS
  have HB3 := Lib.hid (HB2.out.step hb3)
  have Fa := Lib.hid (Fa.out.below hb3)
  have Fal := Lib.hid (Fal.out.below hb3)
  have Fah := Lib.hid (Fah.out.below hb3)
  have BX1 := Lib.hid (heap_below BX1.out hb3)
  have BX2 := Lib.hid (heap_below BX2.out hb3)
  clear hb3
  go_wp2_with (with_reducible refine wpList_pauseS ?_)
  refine wpList_stL g2 0 [.bool false, .slice none 0 0, .slice none 0 0, .bool false, .slice none 0 0, .slice none 0 0] BX2.out rfl rfl (Nat.le_of_ble_eq_true rfl) (by kernel_rfl) rfl ?_
  intro w4 hp4
  have Fa := Lib.hid (putL_SV hp4 Fa.out BX2.out noW6)
  have Fal := Lib.hid (putL_V hp4 Fal.out BX2.out noW6)
  have Fah := Lib.hid (putL_V hp4 Fah.out BX2.out noW6)
  have BX1 := Lib.hid (putLx hp4 BX1.out (by omega))
  have nx4 : w4.heap[g2]? = some (.cells #[.bool false, .slice none 0 0, .slice none 0 0, .bool false, .slice none 0 0, .slice none 0 0] 26) := by rw [hp4]; exact putL_6 BX2.out
  have BX2 := Lib.hid nx4; clear nx4
  have HB4 := Lib.hid (putLb hp4 HB3.out (by omega))
  clear hp4
  obtain ⟨x2_0, x2_1, x2_2, x2_3, x2_4, x2_5⟩ := row6 BX2.out
  go_wp2_with (with_reducible first | refine pauseCall ?_ | refine pauseLoop ?_ | refine pauseDraw ?_ | refine pauseBody ?_ | refine pauseRounds ?_)
  clear x2_0 x2_1 x2_2 x2_3 x2_4 x2_5
  refine Pause.mk ?_
  refine ret_span rfl g2 _ _ _ _ _ _ (by first | rfl | exact rfl) BX2.out rfl ?_
  exact ⟨_, rfl, HB4.out, (isSp_zero _)⟩
set_option maxRecDepth 100000 in
set_option maxHeartbeats 3200000 in
theorem norm_2 (va : Value) (sa : Bool) (aa ba : List Nat) (ta : Bool) (ca da : List Nat) (w : World) (ha : SpV w va sa aa ba ta ca da) (la : aa.length ≤ 40000) (lb : ba.length ≤ 40000) (lc : ca.length ≤ 40000) (ld : da.length ≤ 40000) (hv : Vld sa aa ba ∧ Vld ta ca da ∧ rq sa aa ba ≤ rq ta ca da) :
    Calls Tryz.prog 45 #[va] w (RetSp w (rq sa aa ba, rq ta ca da)) := by
  have HBW := Lib.hid (Below.refl w.heap.size w)
  have kz0 : rl 0 ≤ 1 := by rw [rl_zero]; exact Nat.le_refl _
  obtain ⟨qa, oa, na, ka, pa, ma, ra, qax, oax, nax, kax, pax, max, rax, rfl⟩ := ha.shape
  have k1 : rl (rq sa aa ba) ≤ 40000 := rl_rq ha.lt.1.1 ha.lt.1.2 la lb (by decide); have k2 : rl (rq ta ca da) ≤ 40000 := rl_rq ha.lt.2.1 ha.lt.2.2 lc ld (by decide)
  have HV := Lib.hid (decide_eq_true hv); have HV1 := Lib.hid hv.1; have HV2 := Lib.hid hv.2.1; have HV3 := Lib.hid (around2_le hv.2.2); clear hv
  have Fa := Lib.hid ha; clear ha
  have Fal := Lib.hid (spV_ends Fa.out).1; have Fah := Lib.hid (spV_ends Fa.out).2
  obtain ⟨w1, hw1⟩ : ∃ w1, w1 = w.alloc (.cells #[.bool qa, .slice oa na ka, .slice pa ma ra, .bool qax, .slice oax nax kax, .slice pax max rax] 26) := ⟨_, rfl⟩
  have hb1 : Below w.heap.size w w1 := by rw [hw1]; exact (Below.refl _ _).alloc (Nat.le_refl _) _
  have hx1 := heap_alloc_new w (.cells #[.bool qa, .slice oa na ka, .slice pa ma ra, .bool qax, .slice oax nax kax, .slice pax max rax] 26)
  obtain ⟨g1, hg1⟩ : ∃ g, g = w.heap.size := ⟨_, rfl⟩
  rw [← hw1, ← hg1] at hx1
  have lw1 : w.heap.size ≤ g1 := by rw [hg1]; exact HBW.out.size
  have HW1 := Lib.hid hw1; have HG1 := Lib.hid hg1; clear hw1 hg1
  have HB1 := Lib.hid (HBW.out.step hb1)
  have Fa := Lib.hid (Fa.out.below hb1)
  have Fal := Lib.hid (Fal.out.below hb1)
  have Fah := Lib.hid (Fah.out.below hb1)
  have BX1 := Lib.hid hx1; clear hb1 hx1
  obtain ⟨w2, hw2⟩ : ∃ w2, w2 = w1.alloc (.cells #[.bool false, .slice none 0 0, .slice none 0 0, .bool false, .slice none 0 0, .slice none 0 0] 26) := ⟨_, rfl⟩
  have hb2 : Below w1.heap.size w1 w2 := by rw [hw2]; exact (Below.refl _ _).alloc (Nat.le_refl _) _
  have hx2 := heap_alloc_new w1 (.cells #[.bool false, .slice none 0 0, .slice none 0 0, .bool false, .slice none 0 0, .slice none 0 0] 26)
  obtain ⟨g2, hg2⟩ : ∃ g, g = w1.heap.size := ⟨_, rfl⟩
  rw [← hw2, ← hg2] at hx2
  have lw2 : w.heap.size ≤ g2 := by rw [hg2]; exact HB1.out.size
  have ltBX12 : g1 < g2 := by rw [hg2]; exact below_lt BX1.out
  have hs2 : g2 = w.heap.size + 1 := by rw [hg2, HW1.out]; simp
  have HS2 := Lib.hid hs2; clear hs2
  have HW2 := Lib.hid hw2; have HG2 := Lib.hid hg2; clear hw2 hg2
  have HB2 := Lib.hid (HB1.out.step hb2)
  have Fa := Lib.hid (Fa.out.below hb2)
  have Fal := Lib.hid (Fal.out.below hb2)
  have Fah := Lib.hid (Fah.out.below hb2)
  have BX1 := Lib.hid (heap_below BX1.out hb2)
  have BX2 := Lib.hid hx2; clear hb2 hx2
  go_enter Tryz.func45, Tryz.ntmps45
  obtain ⟨x1_0, x1_1, x1_2, x1_3, x1_4, x1_5⟩ := row6 BX1.out
  have hs := svalid_any _ sa aa ba ta ca da w2 Fa.out (by omega) (by omega) (by omega) (by omega)
  rw [HV.out] at hs
  have HS := Lib.hid hs; clear hs
  try rw [HW2.out] at x1_0
  try rw [HG2.out] at x1_0
  try rw [HW1.out] at x1_0
  try rw [HG1.out] at x1_0
  try rw [HW2.out] at x1_1
  try rw [HG2.out] at x1_1
  try rw [HW1.out] at x1_1
  try rw [HG1.out] at x1_1
  try rw [HW2.out] at x1_2
  try rw [HG2.out] at x1_2
  try rw [HW1.out] at x1_2
  try rw [HG1.out] at x1_2
  try rw [HW2.out] at x1_3
  try rw [HG2.out] at x1_3
  try rw [HW1.out] at x1_3
  try rw [HG1.out] at x1_3
  try rw [HW2.out] at x1_4
  try rw [HG2.out] at x1_4
  try rw [HW1.out] at x1_4
  try rw [HG1.out] at x1_4
  try rw [HW2.out] at x1_5
  try rw [HG2.out] at x1_5
  try rw [HW1.out] at x1_5
  try rw [HG1.out] at x1_5
  go_wp2_with (with_reducible first | refine pauseCall ?_ | refine pauseLoop ?_ | refine pauseDraw ?_ | refine pauseBody ?_ | refine pauseRounds ?_)
  try rw [← HW1.out]
  try rw [← HW2.out]
  try rw [← HS2.out]
  try rw [← HG1.out]
  try rw [← HG2.out]
  clear x1_0 x1_1 x1_2 x1_3 x1_4 x1_5
  refine Pause.mk ?_
  (with_reducible refine HS.out.mono ?_); rintro e w3 ⟨rfl, hb3⟩
  clear HS
  have HB3 := Lib.hid (HB2.out.step hb3)
  have Fa := Lib.hid (Fa.out.below hb3)
  have Fal := Lib.hid (Fal.out.below hb3)
  have Fah := Lib.hid (Fah.out.below hb3)
  have BX1 := Lib.hid (heap_below BX1.out hb3)
  have BX2 := Lib.hid (heap_below BX2.out hb3)
  clear hb3
  obtain ⟨x2_0, x2_1, x2_2, x2_3, x2_4, x2_5⟩ := row6 BX1.out
  obtain ⟨x3_0, x3_1, x3_2, x3_3, x3_4, x3_5⟩ := row6 BX1.out
  obtain ⟨w4, hw4⟩ : ∃ w4, w4 = w3.alloc (.cells #[.bool qa, .slice oa na ka, .slice pa ma ra, .bool qax, .slice oax nax kax, .slice pax max rax] 24) := ⟨_, rfl⟩
  have hb4 : Below w3.heap.size w3 w4 := by rw [hw4]; exact (Below.refl _ _).alloc (Nat.le_refl _) _
  have hx4 := heap_alloc_new w3 (.cells #[.bool qa, .slice oa na ka, .slice pa ma ra, .bool qax, .slice oax nax kax, .slice pax max rax] 24)
  obtain ⟨g4, hg4⟩ : ∃ g, g = w3.heap.size := ⟨_, rfl⟩
  rw [← hw4, ← hg4] at hx4
  have lw4 : w.heap.size ≤ g4 := by rw [hg4]; exact HB3.out.size
  have ltBX14 : g1 < g4 := by rw [hg4]; exact below_lt BX1.out
  have ltBX24 : g2 < g4 := by rw [hg4]; exact below_lt BX2.out
  have HW4 := Lib.hid hw4; have HG4 := Lib.hid hg4; clear hw4 hg4
  have HB4 := Lib.hid (HB3.out.step hb4)
  have Fa := Lib.hid (Fa.out.below hb4)
  have Fal := Lib.hid (Fal.out.below hb4)
  have Fah := Lib.hid (Fah.out.below hb4)
  have BX1 := Lib.hid (heap_below BX1.out hb4)
  have BX2 := Lib.hid (heap_below BX2.out hb4)
  have BX4 := Lib.hid hx4; clear hb4 hx4
  obtain ⟨k4, k5⟩ := rl_around2 (rq sa aa ba) (rq ta ca da)
  have hs := of2 w4 BX4.out (Fal.out.is (by omega) (by omega)) (by omega) (Fah.out.is (by omega) (by omega)) (by omega)
  have HS := Lib.hid hs; clear hs
  try rw [HG4.out] at x2_0
  try rw [HG4.out] at x2_1
  try rw [HG4.out] at x2_2
  try rw [HG4.out] at x2_3
  try rw [HG4.out] at x2_4
  try rw [HG4.out] at x2_5
  try rw [HG4.out] at x3_0
  try rw [HG4.out] at x3_1
  try rw [HG4.out] at x3_2
  try rw [HG4.out] at x3_3
  try rw [HG4.out] at x3_4
  try rw [HG4.out] at x3_5
  go_wp2_with (with_reducible first | refine pauseCall ?_ | refine pauseLoop ?_ | refine pauseDraw ?_ | refine pauseBody ?_ | refine pauseRounds ?_)
  try rw [← HW4.out]
  try rw [← HG4.out]
  clear x2_0 x2_1 x2_2 x2_3 x2_4 x2_5 x3_0 x3_1 x3_2 x3_3 x3_4 x3_5
  refine Pause.mk ?_
  (with_reducible refine HS.out.mono ?_); rintro e w5 ⟨v5, rfl, hb5, hn5⟩
  clear HS
  have HB5 := Lib.hid (HB4.out.step hb5)
  have Fa := Lib.hid (Fa.out.below hb5)
  have Fal := Lib.hid (Fal.out.below hb5)
  have Fah := Lib.hid (Fah.out.below hb5)
  have BX1 := Lib.hid (heap_below BX1.out hb5)
  have BX2 := Lib.hid (heap_below BX2.out hb5)
  have BX4 := Lib.hid (heap_below BX4.out hb5)
  clear BX4
  rw [HV3.out] at hn5
  have N5 := Lib.hid hn5; clear hn5
  obtain ⟨s6, o6, n6, c6, a6, m6, d6, s6x, o6x, n6x, c6x, a6x, m6x, d6x, rfl⟩ := N5.out.shape
  have N5l := Lib.hid (show IsR _ _ (rq sa aa ba) from (isSp_ends N5.out).1); have N5h := Lib.hid (show IsR _ _ (rq ta ca da) from (isSp_ends N5.out).2)
  clear hb5
  go_wp2_with (with_reducible refine wpList_pauseS ?_)
  refine wpList_stL g2 0 [.bool s6, .slice o6 n6 c6, .slice a6 m6 d6, .bool s6x, .slice o6x n6x c6x, .slice a6x m6x d6x] BX2.out rfl rfl (Nat.le_of_ble_eq_true rfl) (by kernel_rfl) rfl ?_
  intro w6 hp6
  have Fa := Lib.hid (putL_SV hp6 Fa.out BX2.out noW6)
  have Fal := Lib.hid (putL_V hp6 Fal.out BX2.out noW6)
  have Fah := Lib.hid (putL_V hp6 Fah.out BX2.out noW6)
  have N5 := Lib.hid (putL_SI hp6 N5.out BX2.out noW6)
  have N5l := Lib.hid (putL_I hp6 N5l.out BX2.out noW6)
  have N5h := Lib.hid (putL_I hp6 N5h.out BX2.out noW6)
  have BX1 := Lib.hid (putLx hp6 BX1.out (by omega))
  have nx6 : w6.heap[g2]? = some (.cells #[.bool s6, .slice o6 n6 c6, .slice a6 m6 d6, .bool s6x, .slice o6x n6x c6x, .slice a6x m6x d6x] 26) := by rw [hp6]; exact putL_6 BX2.out
  have BX2 := Lib.hid nx6; clear nx6
  have HB6 := Lib.hid (putLb hp6 HB5.out (by omega))
  clear hp6
  obtain ⟨x7_0, x7_1, x7_2, x7_3, x7_4, x7_5⟩ := row6 BX2.out
  go_wp2_with (with_reducible first | refine pauseCall ?_ | refine pauseLoop ?_ | refine pauseDraw ?_ | refine pauseBody ?_ | refine pauseRounds ?_)
  clear x7_0 x7_1 x7_2 x7_3 x7_4 x7_5
  refine Pause.mk ?_
  refine ret_span rfl g2 _ _ _ _ _ _ (by first | rfl | exact rfl) BX2.out rfl ?_
  exact ⟨_, rfl, HB6.out, N5.out⟩
theorem norm_any (va : Value) (a : Rat × Rat) (w : World) (ha : SpIs w va a) : Calls Tryz.prog 45 #[va] w (RetSp w a) := by
  obtain ⟨s, aa, ba, t, ca, da, h0, rfl, l1, l2, l3, l4⟩ := ha
  by_cases hv : Vld s aa ba ∧ Vld t ca da ∧ rq s aa ba ≤ rq t ca da
  · have h := norm_2 va s aa ba t ca da w h0 l1 l2 l3 l4 hv
    unfold sq; rw [if_pos hv]; exact h
  · unfold sq; rw [if_neg hv]; exact norm_1 va s aa ba t ca da w h0 l1 l2 l3 l4 hv
set_option maxRecDepth 100000 in
set_option maxHeartbeats 3200000 in
theorem arg_1 (va : Value) (sa : Bool) (aa ba : List Nat) (ta : Bool) (ca da : List Nat) (w : World) (ha : SpV w va sa aa ba ta ca da) (la : aa.length ≤ 40000) (lb : ba.length ≤ 40000) (lc : ca.length ≤ 40000) (ld : da.length ≤ 40000) (hv : ¬ (Vld sa aa ba ∧ Vld ta ca da ∧ rq sa aa ba ≤ rq ta ca da)) :
    Calls Tryz.prog 52 #[va] w (RetSp w (0, 0)) := by
  have HBW := Lib.hid (Below.refl w.heap.size w)
  have kz0 : rl 0 ≤ 1 := by rw [rl_zero]; exact Nat.le_refl _
  obtain ⟨qa, oa, na, ka, pa, ma, ra, qax, oax, nax, kax, pax, max, rax, rfl⟩ := ha.shape
  have HV := Lib.hid (decide_eq_false hv); clear hv
  have Fa := Lib.hid ha; clear ha
  have Fal := Lib.hid (spV_ends Fa.out).1; have Fah := Lib.hid (spV_ends Fa.out).2
  obtain ⟨w1, hw1⟩ : ∃ w1, w1 = w.alloc (.cells #[.bool qa, .slice oa na ka, .slice pa ma ra, .bool qax, .slice oax nax kax, .slice pax max rax] 26) := ⟨_, rfl⟩
  have hb1 : Below w.heap.size w w1 := by rw [hw1]; exact (Below.refl _ _).alloc (Nat.le_refl _) _
  have hx1 := heap_alloc_new w (.cells #[.bool qa, .slice oa na ka, .slice pa ma ra, .bool qax, .slice oax nax kax, .slice pax max rax] 26)
  obtain ⟨g1, hg1⟩ : ∃ g, g = w.heap.size := ⟨_, rfl⟩
  rw [← hw1, ← hg1] at hx1
  have lw1 : w.heap.size ≤ g1 := by rw [hg1]; exact HBW.out.size
  have HW1 := Lib.hid hw1; have HG1 := Lib.hid hg1; clear hw1 hg1
  have HB1 := Lib.hid (HBW.out.step hb1)
  have Fa := Lib.hid (Fa.out.below hb1)
  have Fal := Lib.hid (Fal.out.below hb1)
  have Fah := Lib.hid (Fah.out.below hb1)
  have BX1 := Lib.hid hx1; clear hb1 hx1
  obtain ⟨w2, hw2⟩ : ∃ w2, w2 = w1.alloc (.cells #[.bool false, .slice none 0 0, .slice none 0 0, .bool false, .slice none 0 0, .slice none 0 0] 26) := ⟨_, rfl⟩
  have hb2 : Below w1.heap.size w1 w2 := by rw [hw2]; exact (Below.refl _ _).alloc (Nat.le_refl _) _
  have hx2 := heap_alloc_new w1 (.cells #[.bool false, .slice none 0 0, .slice none 0 0, .bool false, .slice none 0 0, .slice none 0 0] 26)
  obtain ⟨g2, hg2⟩ : ∃ g, g = w1.heap.size := ⟨_, rfl⟩
  rw [← hw2, ← hg2] at hx2
  have lw2 : w.heap.size ≤ g2 := by rw [hg2]; exact HB1.out.size
  have ltBX12 : g1 < g2 := by rw [hg2]; exact below_lt BX1.out
  have hs2 : g2 = w.heap.size + 1 := by rw [hg2, HW1.out]; simp
  have HS2 := Lib.hid hs2; clear hs2
  have HW2 := Lib.hid hw2; have HG2 := Lib.hid hg2; clear hw2 hg2
  have HB2 := Lib.hid (HB1.out.step hb2)
  have Fa := Lib.hid (Fa.out.below hb2)
  have Fal := Lib.hid (Fal.out.below hb2)
  have Fah := Lib.hid (Fah.out.below hb2)
  have BX1 := Lib.hid (heap_below BX1.out hb2)
  have BX2 := Lib.hid hx2; clear hb2 hx2
  go_enter Tryz.func52, Tryz.ntmps52
  obtain ⟨x1_0, x1_1, x1_2, x1_3, x1_4, x1_5⟩ := row6 BX1.out
  have hs := rsvalid_any _ sa aa ba ta ca da w2 Fa.out (by omega) (by omega) (by omega) (by omega)
  rw [HV.out] at hs
  have HS := Lib.hid hs; clear hs
  try rw [HW2.out] at x1_0
  try rw [HG2.out] at x1_0
  try rw [HW1.out] at x1_0
  try rw [HG1.out] at x1_0
  try rw [HW2.out] at x1_1
  try rw [HG2.out] at x1_1
  try rw [HW1.out] at x1_1
  try rw [HG1.out] at x1_1
  try rw [HW2.out] at x1_2
  try rw [HG2.out] at x1_2
  try rw [HW1.out] at x1_2
  try rw [HG1.out] at x1_2
  try rw [HW2.out] at x1_3
  try rw [HG2.out] at x1_3
  try rw [HW1.out] at x1_3
  try rw [HG1.out] at x1_3
  try rw [HW2.out] at x1_4
  try rw [HG2.out] at x1_4
  try rw [HW1.out] at x1_4
  try rw [HG1.out] at x1_4
  try rw [HW2.out] at x1_5
  try rw [HG2.out] at x1_5
  try rw [HW1.out] at x1_5
  try rw [HG1.out] at x1_5
  go_wp2_with (with_reducible first | refine pauseCall ?_ | refine pauseLoop ?_ | refine pauseDraw ?_ | refine pauseBody ?_ | refine pauseRounds ?_)
  try rw [← HW1.out]
  try rw [← HW2.out]
  try rw [← HS2.out]
  try rw [← HG1.out]
  try rw [← HG2.out]
  clear x1_0 x1_1 x1_2 x1_3 x1_4 x1_5
  refine Pause.mk ?_
  (with_reducible refine HS.out.mono ?_); rintro e w3 ⟨rfl, hb3⟩
  clear HS
  have HB3 := Lib.hid (HB2.out.step hb3)
  have Fa := Lib.hid (Fa.out.below hb3)
  have Fal := Lib.hid (Fal.out.below hb3)
  have Fah := Lib.hid (Fah.out.below hb3)
  have BX1 := Lib.hid (heap_below BX1.out hb3)
  have BX2 := Lib.hid (heap_below BX2.out hb3)
  clear hb3
  go_wp2_with (with_reducible refine wpList_pauseS ?_)
  refine wpList_stL g2 0 [.bool false, .slice none 0 0, .slice none 0 0, .bool false, .slice none 0 0, .slice none 0 0] BX2.out rfl rfl (Nat.le_of_ble_eq_true rfl) (by kernel_rfl) rfl ?_
  intro w4 hp4
  have Fa := Lib.hid (putL_SV hp4 Fa.out BX2.out noW6)
  have Fal := Lib.hid (putL_V hp4 Fal.out BX2.out noW6)
  have Fah := Lib.hid (putL_V hp4 Fah.out BX2.out noW6)
  have BX1 := Lib.hid (putLx hp4 BX1.out (by omega))
  have nx4 : w4.heap[g2]? = some (.cells #[.bool false, .slice none 0 0, .slice none 0 0, .bool false, .slice none 0 0, .slice none 0 0] 26) := by rw [hp4]; exact putL_6 BX2.out
  have BX2 := Lib.hid nx4; clear nx4
  have HB4 := Lib.hid (putLb hp4 HB3.out (by omega))
  clear hp4
  obtain ⟨x2_0, x2_1, x2_2, x2_3, x2_4, x2_5⟩ := row6 BX2.out
  go_wp2_with (with_reducible first | refine pauseCall ?_ | refine pauseLoop ?_ | refine pauseDraw ?_ | refine pauseBody ?_ | refine pauseRounds ?_)
  clear x2_0 x2_1 x2_2 x2_3 x2_4 x2_5
  refine Pause.mk ?_
  refine ret_span rfl g2 _ _ _ _ _ _ (by first | rfl | exact rfl) BX2.out rfl ?_
  exact ⟨_, rfl, HB4.out, (isSp_zero _)⟩
set_option maxRecDepth 100000 in
set_option maxHeartbeats 3200000 in
theorem arg_2 (va : Value) (sa : Bool) (aa ba : List Nat) (ta : Bool) (ca da : List Nat) (w : World) (ha : SpV w va sa aa ba ta ca da) (la : aa.length ≤ 40000) (lb : ba.length ≤ 40000) (lc : ca.length ≤ 40000) (ld : da.length ≤ 40000) (hv : Vld sa aa ba ∧ Vld ta ca da ∧ rq sa aa ba ≤ rq ta ca da) :
    Calls Tryz.prog 52 #[va] w (RetSp w (rq sa aa ba, rq ta ca da)) := by
  have HBW := Lib.hid (Below.refl w.heap.size w)
  have kz0 : rl 0 ≤ 1 := by rw [rl_zero]; exact Nat.le_refl _
  obtain ⟨qa, oa, na, ka, pa, ma, ra, qax, oax, nax, kax, pax, max, rax, rfl⟩ := ha.shape
  have k1 : rl (rq sa aa ba) ≤ 40000 := rl_rq ha.lt.1.1 ha.lt.1.2 la lb (by decide); have k2 : rl (rq ta ca da) ≤ 40000 := rl_rq ha.lt.2.1 ha.lt.2.2 lc ld (by decide)
  have HV := Lib.hid (decide_eq_true hv); have HV1 := Lib.hid hv.1; have HV2 := Lib.hid hv.2.1; have HV3 := Lib.hid (around2_le hv.2.2); clear hv
  have Fa := Lib.hid ha; clear ha
  have Fal := Lib.hid (spV_ends Fa.out).1; have Fah := Lib.hid (spV_ends Fa.out).2
  obtain ⟨w1, hw1⟩ : ∃ w1, w1 = w.alloc (.cells #[.bool qa, .slice oa na ka, .slice pa ma ra, .bool qax, .slice oax nax kax, .slice pax max rax] 26) := ⟨_, rfl⟩
  have hb1 : Below w.heap.size w w1 := by rw [hw1]; exact (Below.refl _ _).alloc (Nat.le_refl _) _
  have hx1 := heap_alloc_new w (.cells #[.bool qa, .slice oa na ka, .slice pa ma ra, .bool qax, .slice oax nax kax, .slice pax max rax] 26)
  obtain ⟨g1, hg1⟩ : ∃ g, g = w.heap.size := ⟨_, rfl⟩
  rw [← hw1, ← hg1] at hx1
  have lw1 : w.heap.size ≤ g1 := by rw [hg1]; exact HBW.out.size
  have HW1 := Lib.hid hw1; have HG1 := Lib.hid hg1; clear hw1 hg1
  have HB1 := Lib.hid (HBW.out.step hb1)
  have Fa := Lib.hid (Fa.out.below hb1)
  have Fal := Lib.hid (Fal.out.below hb1)
  have Fah := Lib.hid (Fah.out.below hb1)
  have BX1 := Lib.hid hx1; clear hb1 hx1
  obtain ⟨w2, hw2⟩ : ∃ w2, w2 = w1.alloc (.cells #[.bool false, .slice none 0 0, .slice none 0 0, .bool false, .slice none 0 0, .slice none 0 0] 26) := ⟨_, rfl⟩
  have hb2 : Below w1.heap.size w1 w2 := by rw [hw2]; exact (Below.refl _ _).alloc (Nat.le_refl _) _
  have hx2 := heap_alloc_new w1 (.cells #[.bool false, .slice none 0 0, .slice none 0 0, .bool false, .slice none 0 0, .slice none 0 0] 26)
  obtain ⟨g2, hg2⟩ : ∃ g, g = w1.heap.size := ⟨_, rfl⟩
  rw [← hw2, ← hg2] at hx2
  have lw2 : w.heap.size ≤ g2 := by rw [hg2]; exact HB1.out.size
  have ltBX12 : g1 < g2 := by rw [hg2]; exact below_lt BX1.out
  have hs2 : g2 = w.heap.size + 1 := by rw [hg2, HW1.out]; simp
  have HS2 := Lib.hid hs2; clear hs2
  have HW2 := Lib.hid hw2; have HG2 := Lib.hid hg2; clear hw2 hg2
  have HB2 := Lib.hid (HB1.out.step hb2)
  have Fa := Lib.hid (Fa.out.below hb2)
  have Fal := Lib.hid (Fal.out.below hb2)
  have Fah := Lib.hid (Fah.out.below hb2)
  have BX1 := Lib.hid (heap_below BX1.out hb2)
  have BX2 := Lib.hid hx2; clear hb2 hx2
  go_enter Tryz.func52, Tryz.ntmps52
  obtain ⟨x1_0, x1_1, x1_2, x1_3, x1_4, x1_5⟩ := row6 BX1.out
  have hs := rsvalid_any _ sa aa ba ta ca da w2 Fa.out (by omega) (by omega) (by omega) (by omega)
  rw [HV.out] at hs
  have HS := Lib.hid hs; clear hs
  try rw [HW2.out] at x1_0
  try rw [HG2.out] at x1_0
  try rw [HW1.out] at x1_0
  try rw [HG1.out] at x1_0
  try rw [HW2.out] at x1_1
  try rw [HG2.out] at x1_1
  try rw [HW1.out] at x1_1
  try rw [HG1.out] at x1_1
  try rw [HW2.out] at x1_2
  try rw [HG2.out] at x1_2
  try rw [HW1.out] at x1_2
  try rw [HG1.out] at x1_2
  try rw [HW2.out] at x1_3
  try rw [HG2.out] at x1_3
  try rw [HW1.out] at x1_3
  try rw [HG1.out] at x1_3
  try rw [HW2.out] at x1_4
  try rw [HG2.out] at x1_4
  try rw [HW1.out] at x1_4
  try rw [HG1.out] at x1_4
  try rw [HW2.out] at x1_5
  try rw [HG2.out] at x1_5
  try rw [HW1.out] at x1_5
  try rw [HG1.out] at x1_5
  go_wp2_with (with_reducible first | refine pauseCall ?_ | refine pauseLoop ?_ | refine pauseDraw ?_ | refine pauseBody ?_ | refine pauseRounds ?_)
  try rw [← HW1.out]
  try rw [← HW2.out]
  try rw [← HS2.out]
  try rw [← HG1.out]
  try rw [← HG2.out]
  clear x1_0 x1_1 x1_2 x1_3 x1_4 x1_5
  refine Pause.mk ?_
  (with_reducible refine HS.out.mono ?_); rintro e w3 ⟨rfl, hb3⟩
  clear HS
  have HB3 := Lib.hid (HB2.out.step hb3)
  have Fa := Lib.hid (Fa.out.below hb3)
  have Fal := Lib.hid (Fal.out.below hb3)
  have Fah := Lib.hid (Fah.out.below hb3)
  have BX1 := Lib.hid (heap_below BX1.out hb3)
  have BX2 := Lib.hid (heap_below BX2.out hb3)
  clear hb3
  obtain ⟨x2_0, x2_1, x2_2, x2_3, x2_4, x2_5⟩ := row6 BX1.out
  go_wp2_with (with_reducible refine wpList_pauseS ?_)
  clear x2_0 x2_1 x2_2 x2_3 x2_4 x2_5
  refine wpList_stL g2 0 [.bool qa, .slice oa na ka, .slice pa ma ra, .bool qax, .slice oax nax kax, .slice pax max rax] BX2.out rfl rfl (Nat.le_of_ble_eq_true rfl) (by kernel_rfl) rfl ?_
  intro w4 hp4
  have Fa := Lib.hid (putL_SV hp4 Fa.out BX2.out noW6)
  have Fal := Lib.hid (putL_V hp4 Fal.out BX2.out noW6)
  have Fah := Lib.hid (putL_V hp4 Fah.out BX2.out noW6)
  have BX1 := Lib.hid (putLx hp4 BX1.out (by omega))
  have nx4 : w4.heap[g2]? = some (.cells #[.bool qa, .slice oa na ka, .slice pa ma ra, .bool qax, .slice oax nax kax, .slice pax max rax] 26) := by rw [hp4]; exact putL_6 BX2.out
  have BX2 := Lib.hid nx4; clear nx4
  have HB4 := Lib.hid (putLb hp4 HB3.out (by omega))
  clear hp4
  obtain ⟨x3_0, x3_1, x3_2, x3_3, x3_4, x3_5⟩ := row6 BX2.out
  go_wp2_with (with_reducible first | refine pauseCall ?_ | refine pauseLoop ?_ | refine pauseDraw ?_ | refine pauseBody ?_ | refine pauseRounds ?_)
  clear x3_0 x3_1 x3_2 x3_3 x3_4 x3_5
  refine Pause.mk ?_
  refine ret_span rfl g2 _ _ _ _ _ _ (by first | rfl | exact rfl) BX2.out rfl ?_
  exact ⟨_, rfl, HB4.out, spV_isSp Fa.out HV1.out HV2.out⟩
theorem arg_any (va : Value) (a : Rat × Rat) (w : World) (ha : SpIs w va a) : Calls Tryz.prog 52 #[va] w (RetSp w a) := by
  obtain ⟨s, aa, ba, t, ca, da, h0, rfl, l1, l2, l3, l4⟩ := ha
  by_cases hv : Vld s aa ba ∧ Vld t ca da ∧ rq s aa ba ≤ rq t ca da
  · have h := arg_2 va s aa ba t ca da w h0 l1 l2 l3 l4 hv
    unfold sq; rw [if_pos hv]; exact h
  · unfold sq; rw [if_neg hv]; exact arg_1 va s aa ba t ca da w h0 l1 l2 l3 l4 hv
set_option maxRecDepth 100000 in
set_option maxHeartbeats 3200000 in
theorem point_raw (vx : Value) (x : Rat) (w : World) (hx : RatIs w vx x) (lx : rl x ≤ 40000) :
    Calls Tryz.prog 19 #[vx] w (RetSp w (x, x)) := by
  have HBW := Lib.hid (Below.refl w.heap.size w)
  have kz0 : rl 0 ≤ 1 := by rw [rl_zero]; exact Nat.le_refl _
  obtain ⟨sx, ox, nx, cx, ax, mx, dx, rfl⟩ := hx.shape
  have hlx := hx.rl
  have Fx := Lib.hid hx; clear hx
  obtain ⟨w1, hw1⟩ : ∃ w1, w1 = w.alloc (.cells #[.bool sx, .slice ox nx cx, .slice ax mx dx] 24) := ⟨_, rfl⟩
  have hb1 : Below w.heap.size w w1 := by rw [hw1]; exact (Below.refl _ _).alloc (Nat.le_refl _) _
  have hx1 := heap_alloc_new w (.cells #[.bool sx, .slice ox nx cx, .slice ax mx dx] 24)
  obtain ⟨g1, hg1⟩ : ∃ g, g = w.heap.size := ⟨_, rfl⟩
  rw [← hw1, ← hg1] at hx1
  have lw1 : w.heap.size ≤ g1 := by rw [hg1]; exact HBW.out.size
  have HW1 := Lib.hid hw1; have HG1 := Lib.hid hg1; clear hw1 hg1
  have HB1 := Lib.hid (HBW.out.step hb1)
  have Fx := Lib.hid (Fx.out.below hb1)
  have BX1 := Lib.hid hx1; clear hb1 hx1
  obtain ⟨w2, hw2⟩ : ∃ w2, w2 = w1.alloc (.cells #[.bool false, .slice none 0 0, .slice none 0 0, .bool false, .slice none 0 0, .slice none 0 0] 26) := ⟨_, rfl⟩
  have hb2 : Below w1.heap.size w1 w2 := by rw [hw2]; exact (Below.refl _ _).alloc (Nat.le_refl _) _
  have hx2 := heap_alloc_new w1 (.cells #[.bool false, .slice none 0 0, .slice none 0 0, .bool false, .slice none 0 0, .slice none 0 0] 26)
  obtain ⟨g2, hg2⟩ : ∃ g, g = w1.heap.size := ⟨_, rfl⟩
  rw [← hw2, ← hg2] at hx2
  have lw2 : w.heap.size ≤ g2 := by rw [hg2]; exact HB1.out.size
  have ltBX12 : g1 < g2 := by rw [hg2]; exact below_lt BX1.out
  have hs2 : g2 = w.heap.size + 1 := by rw [hg2, HW1.out]; simp
  have HS2 := Lib.hid hs2; clear hs2
  have HW2 := Lib.hid hw2; have HG2 := Lib.hid hg2; clear hw2 hg2
  have HB2 := Lib.hid (HB1.out.step hb2)
  have Fx := Lib.hid (Fx.out.below hb2)
  have BX1 := Lib.hid (heap_below BX1.out hb2)
  have BX2 := Lib.hid hx2; clear hb2 hx2
  go_enter Tryz.func19, Tryz.ntmps19
  obtain ⟨x1_0, x1_1, x1_2⟩ := row3 BX1.out
  obtain ⟨w3, hw3⟩ : ∃ w3, w3 = w2.alloc (.cells #[.bool sx, .slice ox nx cx, .slice ax mx dx] 24) := ⟨_, rfl⟩
  have hb3 : Below w2.heap.size w2 w3 := by rw [hw3]; exact (Below.refl _ _).alloc (Nat.le_refl _) _
  have hx3 := heap_alloc_new w2 (.cells #[.bool sx, .slice ox nx cx, .slice ax mx dx] 24)
  obtain ⟨g3, hg3⟩ : ∃ g, g = w2.heap.size := ⟨_, rfl⟩
  rw [← hw3, ← hg3] at hx3
  have lw3 : w.heap.size ≤ g3 := by rw [hg3]; exact HB2.out.size
  have ltBX13 : g1 < g3 := by rw [hg3]; exact below_lt BX1.out
  have ltBX23 : g2 < g3 := by rw [hg3]; exact below_lt BX2.out
  have hs3 : g3 = w.heap.size + 2 := by rw [hg3, HW2.out, HW1.out]; simp
  have HS3 := Lib.hid hs3; clear hs3
  have HW3 := Lib.hid hw3; have HG3 := Lib.hid hg3; clear hw3 hg3
  have HB3 := Lib.hid (HB2.out.step hb3)
  have Fx := Lib.hid (Fx.out.below hb3)
  have BX1 := Lib.hid (heap_below BX1.out hb3)
  have BX2 := Lib.hid (heap_below BX2.out hb3)
  have BX3 := Lib.hid hx3; clear hb3 hx3
  have hs := of1 w3 BX3.out Fx.out (by omega)
  have HS := Lib.hid hs; clear hs
  try rw [HG3.out] at x1_0
  try rw [HW2.out] at x1_0
  try rw [HG2.out] at x1_0
  try rw [HW1.out] at x1_0
  try rw [HG1.out] at x1_0
  try rw [HG3.out] at x1_1
  try rw [HW2.out] at x1_1
  try rw [HG2.out] at x1_1
  try rw [HW1.out] at x1_1
  try rw [HG1.out] at x1_1
  try rw [HG3.out] at x1_2
  try rw [HW2.out] at x1_2
  try rw [HG2.out] at x1_2
  try rw [HW1.out] at x1_2
  try rw [HG1.out] at x1_2
  go_wp2_with (with_reducible first | refine pauseCall ?_ | refine pauseLoop ?_ | refine pauseDraw ?_ | refine pauseBody ?_ | refine pauseRounds ?_)
  try rw [← HW1.out]
  try rw [← HW2.out]
  try rw [← HW3.out]
  try rw [← HS3.out]
  try rw [← HS2.out]
  try rw [← HG1.out]
  try rw [← HG2.out]
  try rw [← HG3.out]
  clear x1_0 x1_1 x1_2
  refine Pause.mk ?_
  (with_reducible refine HS.out.mono ?_); rintro e w4 ⟨v4, rfl, hb4, hn4⟩
  clear HS
  have HB4 := Lib.hid (HB3.out.step hb4)
  have Fx := Lib.hid (Fx.out.below hb4)
  have BX1 := Lib.hid (heap_below BX1.out hb4)
  have BX2 := Lib.hid (heap_below BX2.out hb4)
  have BX3 := Lib.hid (heap_below BX3.out hb4)
  clear BX3
  have N4 := Lib.hid hn4; clear hn4
  obtain ⟨s2, o2, n2, c2, a2, m2, d2, s2x, o2x, n2x, c2x, a2x, m2x, d2x, rfl⟩ := N4.out.shape
  have N4l := Lib.hid (show IsR _ _ (x) from (isSp_ends N4.out).1); have N4h := Lib.hid (show IsR _ _ (x) from (isSp_ends N4.out).2)
  clear hb4
  go_wp2_with (with_reducible refine wpList_pauseS ?_)
  refine wpList_stL g2 0 [.bool s2, .slice o2 n2 c2, .slice a2 m2 d2, .bool s2x, .slice o2x n2x c2x, .slice a2x m2x d2x] BX2.out rfl rfl (Nat.le_of_ble_eq_true rfl) (by kernel_rfl) rfl ?_
  intro w5 hp5
  have Fx := Lib.hid (putL_R hp5 Fx.out BX2.out noW6)
  have N4 := Lib.hid (putL_SI hp5 N4.out BX2.out noW6)
  have N4l := Lib.hid (putL_I hp5 N4l.out BX2.out noW6)
  have N4h := Lib.hid (putL_I hp5 N4h.out BX2.out noW6)
  have BX1 := Lib.hid (putLx hp5 BX1.out (by omega))
  have nx5 : w5.heap[g2]? = some (.cells #[.bool s2, .slice o2 n2 c2, .slice a2 m2 d2, .bool s2x, .slice o2x n2x c2x, .slice a2x m2x d2x] 26) := by rw [hp5]; exact putL_6 BX2.out
  have BX2 := Lib.hid nx5; clear nx5
  have HB5 := Lib.hid (putLb hp5 HB4.out (by omega))
  clear hp5
  obtain ⟨x3_0, x3_1, x3_2, x3_3, x3_4, x3_5⟩ := row6 BX2.out
  go_wp2_with (with_reducible first | refine pauseCall ?_ | refine pauseLoop ?_ | refine pauseDraw ?_ | refine pauseBody ?_ | refine pauseRounds ?_)
  clear x3_0 x3_1 x3_2 x3_3 x3_4 x3_5
  refine Pause.mk ?_
  refine ret_span rfl g2 _ _ _ _ _ _ (by first | rfl | exact rfl) BX2.out rfl ?_
  exact ⟨_, rfl, HB5.out, N4.out⟩
theorem point_any (vx : Value) (x : Rat) (w : World) (hx : RatIs w vx x) (lx : rl x ≤ 40000) : Calls Tryz.prog 19 #[vx] w (RetSp w (x, x)) := point_raw vx x w hx lx
set_option maxRecDepth 100000 in
set_option maxHeartbeats 3200000 in
theorem smake_1 (vp : Value) (p : Rat) (vu : Value) (u : Rat) (w : World) (hp : RatIs w vp p) (hu : RatIs w vu u) (lp : rl p ≤ 39000) (lu : rl u ≤ 39000) (h : u < p) :
    Calls Tryz.prog 15 #[vp, vu] w (RetSpE w (0, 0) (errV 3)) := by
  have HBW := Lib.hid (Below.refl w.heap.size w)
  have kz0 : rl 0 ≤ 1 := by rw [rl_zero]; exact Nat.le_refl _
  obtain ⟨sp, op, np, cp, ap, mp, dp, rfl⟩ := hp.shape
  have hlp := hp.rl
  obtain ⟨su, ou, nu, cu, au, mu, du, rfl⟩ := hu.shape
  have hlu := hu.rl
  rw [errV_pos (by decide)]
  obtain ⟨n, hn⟩ : ∃ n, n = cq (p) (u) := ⟨_, rfl⟩
  have f1 : decide (0 < n) = true := by rw [hn]; exact decide_eq_true ((cq_gt p u).2 h)
  have HN := Lib.hid hn; clear hn h
  have Fp := Lib.hid hp; clear hp
  have Fu := Lib.hid hu; clear hu
  obtain ⟨w1, hw1⟩ : ∃ w1, w1 = w.alloc (.cells #[.bool sp, .slice op np cp, .slice ap mp dp] 24) := ⟨_, rfl⟩
  have hb1 : Below w.heap.size w w1 := by rw [hw1]; exact (Below.refl _ _).alloc (Nat.le_refl _) _
  have hx1 := heap_alloc_new w (.cells #[.bool sp, .slice op np cp, .slice ap mp dp] 24)
  obtain ⟨g1, hg1⟩ : ∃ g, g = w.heap.size := ⟨_, rfl⟩
  rw [← hw1, ← hg1] at hx1
  have lw1 : w.heap.size ≤ g1 := by rw [hg1]; exact HBW.out.size
  have HW1 := Lib.hid hw1; have HG1 := Lib.hid hg1; clear hw1 hg1
  have HB1 := Lib.hid (HBW.out.step hb1)
  have Fp := Lib.hid (Fp.out.below hb1)
  have Fu := Lib.hid (Fu.out.below hb1)
  have BX1 := Lib.hid hx1; clear hb1 hx1
  obtain ⟨w2, hw2⟩ : ∃ w2, w2 = w1.alloc (.cells #[.bool su, .slice ou nu cu, .slice au mu du] 24) := ⟨_, rfl⟩
  have hb2 : Below w1.heap.size w1 w2 := by rw [hw2]; exact (Below.refl _ _).alloc (Nat.le_refl _) _
  have hx2 := heap_alloc_new w1 (.cells #[.bool su, .slice ou nu cu, .slice au mu du] 24)
  obtain ⟨g2, hg2⟩ : ∃ g, g = w1.heap.size := ⟨_, rfl⟩
  rw [← hw2, ← hg2] at hx2
  have lw2 : w.heap.size ≤ g2 := by rw [hg2]; exact HB1.out.size
  have ltBX12 : g1 < g2 := by rw [hg2]; exact below_lt BX1.out
  have hs2 : g2 = w.heap.size + 1 := by rw [hg2, HW1.out]; simp
  have HS2 := Lib.hid hs2; clear hs2
  have HW2 := Lib.hid hw2; have HG2 := Lib.hid hg2; clear hw2 hg2
  have HB2 := Lib.hid (HB1.out.step hb2)
  have Fp := Lib.hid (Fp.out.below hb2)
  have Fu := Lib.hid (Fu.out.below hb2)
  have BX1 := Lib.hid (heap_below BX1.out hb2)
  have BX2 := Lib.hid hx2; clear hb2 hx2
  obtain ⟨w3, hw3⟩ : ∃ w3, w3 = w2.alloc (.cells #[.bool false, .slice none 0 0, .slice none 0 0, .bool false, .slice none 0 0, .slice none 0 0] 26) := ⟨_, rfl⟩
  have hb3 : Below w2.heap.size w2 w3 := by rw [hw3]; exact (Below.refl _ _).alloc (Nat.le_refl _) _
  have hx3 := heap_alloc_new w2 (.cells #[.bool false, .slice none 0 0, .slice none 0 0, .bool false, .slice none 0 0, .slice none 0 0] 26)
  obtain ⟨g3, hg3⟩ : ∃ g, g = w2.heap.size := ⟨_, rfl⟩
  rw [← hw3, ← hg3] at hx3
  have lw3 : w.heap.size ≤ g3 := by rw [hg3]; exact HB2.out.size
  have ltBX13 : g1 < g3 := by rw [hg3]; exact below_lt BX1.out
  have ltBX23 : g2 < g3 := by rw [hg3]; exact below_lt BX2.out
  have hs3 : g3 = w.heap.size + 2 := by rw [hg3, HW2.out, HW1.out]; simp
  have HS3 := Lib.hid hs3; clear hs3
  have HW3 := Lib.hid hw3; have HG3 := Lib.hid hg3; clear hw3 hg3
  have HB3 := Lib.hid (HB2.out.step hb3)
  have Fp := Lib.hid (Fp.out.below hb3)
  have Fu := Lib.hid (Fu.out.below hb3)
  have BX1 := Lib.hid (heap_below BX1.out hb3)
  have BX2 := Lib.hid (heap_below BX2.out hb3)
  have BX3 := Lib.hid hx3; clear hb3 hx3
  go_enter Tryz.func15, Tryz.ntmps15
  obtain ⟨x1_0, x1_1, x1_2⟩ := row3 BX1.out
  obtain ⟨x2_0, x2_1, x2_2⟩ := row3 BX2.out
  have hs := cmpq_any _ (p) _ (u) w3 Fp.out Fu.out (by omega) (by omega)
  rw [← HN.out] at hs
  have HS := Lib.hid hs; clear hs
  try rw [HW3.out] at x1_0
  try rw [HG3.out] at x1_0
  try rw [HW2.out] at x1_0
  try rw [HG2.out] at x1_0
  try rw [HW1.out] at x1_0
  try rw [HG1.out] at x1_0
  try rw [HW3.out] at x1_1
  try rw [HG3.out] at x1_1
  try rw [HW2.out] at x1_1
  try rw [HG2.out] at x1_1
  try rw [HW1.out] at x1_1
  try rw [HG1.out] at x1_1
  try rw [HW3.out] at x1_2
  try rw [HG3.out] at x1_2
  try rw [HW2.out] at x1_2
  try rw [HG2.out] at x1_2
  try rw [HW1.out] at x1_2
  try rw [HG1.out] at x1_2
  try rw [HW3.out] at x2_0
  try rw [HG3.out] at x2_0
  try rw [HW2.out] at x2_0
  try rw [HG2.out] at x2_0
  try rw [HW1.out] at x2_0
  try rw [HG1.out] at x2_0
  try rw [HW3.out] at x2_1
  try rw [HG3.out] at x2_1
  try rw [HW2.out] at x2_1
  try rw [HG2.out] at x2_1
  try rw [HW1.out] at x2_1
  try rw [HG1.out] at x2_1
  try rw [HW3.out] at x2_2
  try rw [HG3.out] at x2_2
  try rw [HW2.out] at x2_2
  try rw [HG2.out] at x2_2
  try rw [HW1.out] at x2_2
  try rw [HG1.out] at x2_2
  go_wp2_with (with_reducible first | refine pauseCall ?_ | refine pauseLoop ?_ | refine pauseDraw ?_ | refine pauseBody ?_ | refine pauseRounds ?_)
  try rw [← HW1.out]
  try rw [← HW2.out]
  try rw [← HW3.out]
  try rw [← HS3.out]
  try rw [← HS2.out]
  try rw [← HG1.out]
  try rw [← HG2.out]
  try rw [← HG3.out]
  clear x1_0 x1_1 x1_2 x2_0 x2_1 x2_2
  refine Pause.mk ?_
  (with_reducible refine HS.out.mono ?_); rintro e w4 ⟨rfl, hb4⟩
  clear HS
  have HB4 := Lib.hid (HB3.out.step hb4)
  have Fp := Lib.hid (Fp.out.below hb4)
  have Fu := Lib.hid (Fu.out.below hb4)
  have BX1 := Lib.hid (heap_below BX1.out hb4)
  have BX2 := Lib.hid (heap_below BX2.out hb4)
  have BX3 := Lib.hid (heap_below BX3.out hb4)
  clear hb4
  go_wp2_with (with_reducible refine wpList_pauseS ?_)
  refine wpList_stL g3 0 [.bool false, .slice none 0 0, .slice none 0 0, .bool false, .slice none 0 0, .slice none 0 0] BX3.out rfl rfl (Nat.le_of_ble_eq_true rfl) (by kernel_rfl) rfl ?_
  intro w5 hp5
  have Fp := Lib.hid (putL_R hp5 Fp.out BX3.out noW6)
  have Fu := Lib.hid (putL_R hp5 Fu.out BX3.out noW6)
  have BX1 := Lib.hid (putLx hp5 BX1.out (by omega))
  have BX2 := Lib.hid (putLx hp5 BX2.out (by omega))
  have nx5 : w5.heap[g3]? = some (.cells #[.bool false, .slice none 0 0, .slice none 0 0, .bool false, .slice none 0 0, .slice none 0 0] 26) := by rw [hp5]; exact putL_6 BX3.out
  have BX3 := Lib.hid nx5; clear nx5
  have HB5 := Lib.hid (putLb hp5 HB4.out (by omega))
  clear hp5
  obtain ⟨x3_0, x3_1, x3_2, x3_3, x3_4, x3_5⟩ := row6 BX3.out
  go_wp2_with (with_reducible first | refine pauseCall ?_ | refine pauseLoop ?_ | refine pauseDraw ?_ | refine pauseBody ?_ | refine pauseRounds ?_)
  clear x3_0 x3_1 x3_2 x3_3 x3_4 x3_5
  refine Pause.mk ?_
  refine ret_span2 rfl g3 _ _ _ _ _ _ (by first | rfl | exact rfl) BX3.out rfl ?_
  exact ⟨_, rfl, HB5.out, (isSp_zero _)⟩
set_option maxRecDepth 100000 in
set_option maxHeartbeats 3200000 in
theorem smake_2 (vp : Value) (p : Rat) (vu : Value) (u : Rat) (w : World) (hp : RatIs w vp p) (hu : RatIs w vu u) (lp : rl p ≤ 39000) (lu : rl u ≤ 39000) (h : p ≤ u) :
    Calls Tryz.prog 15 #[vp, vu] w (RetSpE w (around2 (p) (u)) (errV 0)) := by
  have HBW := Lib.hid (Below.refl w.heap.size w)
  have kz0 : rl 0 ≤ 1 := by rw [rl_zero]; exact Nat.le_refl _
  obtain ⟨sp, op, np, cp, ap, mp, dp, rfl⟩ := hp.shape
  have hlp := hp.rl
  obtain ⟨su, ou, nu, cu, au, mu, du, rfl⟩ := hu.shape
  have hlu := hu.rl
  rw [errV_zero]
  obtain ⟨n, hn⟩ : ∃ n, n = cq (p) (u) := ⟨_, rfl⟩
  have f1 : decide (0 < n) = false := by rw [hn]; exact decide_eq_false (fun k => by have := (cq_gt p u).1 k; grind)
  have HN := Lib.hid hn; clear hn h
  have Fp := Lib.hid hp; clear hp
  have Fu := Lib.hid hu; clear hu
  obtain ⟨w1, hw1⟩ : ∃ w1, w1 = w.alloc (.cells #[.bool sp, .slice op np cp, .slice ap mp dp] 24) := ⟨_, rfl⟩
  have hb1 : Below w.heap.size w w1 := by rw [hw1]; exact (Below.refl _ _).alloc (Nat.le_refl _) _
  have hx1 := heap_alloc_new w (.cells #[.bool sp, .slice op np cp, .slice ap mp dp] 24)
  obtain ⟨g1, hg1⟩ : ∃ g, g = w.heap.size := ⟨_, rfl⟩
  rw [← hw1, ← hg1] at hx1
  have lw1 : w.heap.size ≤ g1 := by rw [hg1]; exact HBW.out.size
  have HW1 := Lib.hid hw1; have HG1 := Lib.hid hg1; clear hw1 hg1
  have HB1 := Lib.hid (HBW.out.step hb1)
  have Fp := Lib.hid (Fp.out.below hb1)
  have Fu := Lib.hid (Fu.out.below hb1)
  have BX1 := Lib.hid hx1; clear hb1 hx1
  obtain ⟨w2, hw2⟩ : ∃ w2, w2 = w1.alloc (.cells #[.bool su, .slice ou nu cu, .slice au mu du] 24) := ⟨_, rfl⟩
  have hb2 : Below w1.heap.size w1 w2 := by rw [hw2]; exact (Below.refl _ _).alloc (Nat.le_refl _) _
  have hx2 := heap_alloc_new w1 (.cells #[.bool su, .slice ou nu cu, .slice au mu du] 24)
  obtain ⟨g2, hg2⟩ : ∃ g, g = w1.heap.size := ⟨_, rfl⟩
  rw [← hw2, ← hg2] at hx2
  have lw2 : w.heap.size ≤ g2 := by rw [hg2]; exact HB1.out.size
  have ltBX12 : g1 < g2 := by rw [hg2]; exact below_lt BX1.out
  have hs2 : g2 = w.heap.size + 1 := by rw [hg2, HW1.out]; simp
  have HS2 := Lib.hid hs2; clear hs2
  have HW2 := Lib.hid hw2; have HG2 := Lib.hid hg2; clear hw2 hg2
  have HB2 := Lib.hid (HB1.out.step hb2)
  have Fp := Lib.hid (Fp.out.below hb2)
  have Fu := Lib.hid (Fu.out.below hb2)
  have BX1 := Lib.hid (heap_below BX1.out hb2)
  have BX2 := Lib.hid hx2; clear hb2 hx2
  obtain ⟨w3, hw3⟩ : ∃ w3, w3 = w2.alloc (.cells #[.bool false, .slice none 0 0, .slice none 0 0, .bool false, .slice none 0 0, .slice none 0 0] 26) := ⟨_, rfl⟩
  have hb3 : Below w2.heap.size w2 w3 := by rw [hw3]; exact (Below.refl _ _).alloc (Nat.le_refl _) _
  have hx3 := heap_alloc_new w2 (.cells #[.bool false, .slice none 0 0, .slice none 0 0, .bool false, .slice none 0 0, .slice none 0 0] 26)
  obtain ⟨g3, hg3⟩ : ∃ g, g = w2.heap.size := ⟨_, rfl⟩
  rw [← hw3, ← hg3] at hx3
  have lw3 : w.heap.size ≤ g3 := by rw [hg3]; exact HB2.out.size
  have ltBX13 : g1 < g3 := by rw [hg3]; exact below_lt BX1.out
  have ltBX23 : g2 < g3 := by rw [hg3]; exact below_lt BX2.out
  have hs3 : g3 = w.heap.size + 2 := by rw [hg3, HW2.out, HW1.out]; simp
  have HS3 := Lib.hid hs3; clear hs3
  have HW3 := Lib.hid hw3; have HG3 := Lib.hid hg3; clear hw3 hg3
  have HB3 := Lib.hid (HB2.out.step hb3)
  have Fp := Lib.hid (Fp.out.below hb3)
  have Fu := Lib.hid (Fu.out.below hb3)
  have BX1 := Lib.hid (heap_below BX1.out hb3)
  have BX2 := Lib.hid (heap_below BX2.out hb3)
  have BX3 := Lib.hid hx3; clear hb3 hx3
  go_enter Tryz.func15, Tryz.ntmps15
  obtain ⟨x1_0, x1_1, x1_2⟩ := row3 BX1.out
  obtain ⟨x2_0, x2_1, x2_2⟩ := row3 BX2.out
  have hs := cmpq_any _ (p) _ (u) w3 Fp.out Fu.out (by omega) (by omega)
  rw [← HN.out] at hs
  have HS := Lib.hid hs; clear hs
  try rw [HW3.out] at x1_0
  try rw [HG3.out] at x1_0
  try rw [HW2.out] at x1_0
  try rw [HG2.out] at x1_0
  try rw [HW1.out] at x1_0
  try rw [HG1.out] at x1_0
  try rw [HW3.out] at x1_1
  try rw [HG3.out] at x1_1
  try rw [HW2.out] at x1_1
  try rw [HG2.out] at x1_1
  try rw [HW1.out] at x1_1
  try rw [HG1.out] at x1_1
  try rw [HW3.out] at x1_2
  try rw [HG3.out] at x1_2
  try rw [HW2.out] at x1_2
  try rw [HG2.out] at x1_2
  try rw [HW1.out] at x1_2
  try rw [HG1.out] at x1_2
  try rw [HW3.out] at x2_0
  try rw [HG3.out] at x2_0
  try rw [HW2.out] at x2_0
  try rw [HG2.out] at x2_0
  try rw [HW1.out] at x2_0
  try rw [HG1.out] at x2_0
  try rw [HW3.out] at x2_1
  try rw [HG3.out] at x2_1
  try rw [HW2.out] at x2_1
  try rw [HG2.out] at x2_1
  try rw [HW1.out] at x2_1
  try rw [HG1.out] at x2_1
  try rw [HW3.out] at x2_2
  try rw [HG3.out] at x2_2
  try rw [HW2.out] at x2_2
  try rw [HG2.out] at x2_2
  try rw [HW1.out] at x2_2
  try rw [HG1.out] at x2_2
  go_wp2_with (with_reducible first | refine pauseCall ?_ | refine pauseLoop ?_ | refine pauseDraw ?_ | refine pauseBody ?_ | refine pauseRounds ?_)
  try rw [← HW1.out]
  try rw [← HW2.out]
  try rw [← HW3.out]
  try rw [← HS3.out]
  try rw [← HS2.out]
  try rw [← HG1.out]
  try rw [← HG2.out]
  try rw [← HG3.out]
  clear x1_0 x1_1 x1_2 x2_0 x2_1 x2_2
  refine Pause.mk ?_
  (with_reducible refine HS.out.mono ?_); rintro e w4 ⟨rfl, hb4⟩
  clear HS
  have HB4 := Lib.hid (HB3.out.step hb4)
  have Fp := Lib.hid (Fp.out.below hb4)
  have Fu := Lib.hid (Fu.out.below hb4)
  have BX1 := Lib.hid (heap_below BX1.out hb4)
  have BX2 := Lib.hid (heap_below BX2.out hb4)
  have BX3 := Lib.hid (heap_below BX3.out hb4)
  clear hb4
  obtain ⟨x3_0, x3_1, x3_2⟩ := row3 BX1.out
  obtain ⟨x4_0, x4_1, x4_2⟩ := row3 BX2.out
  obtain ⟨w5, hw5⟩ : ∃ w5, w5 = w4.alloc (.cells #[.bool sp, .slice op np cp, .slice ap mp dp, .bool su, .slice ou nu cu, .slice au mu du] 24) := ⟨_, rfl⟩
  have hb5 : Below w4.heap.size w4 w5 := by rw [hw5]; exact (Below.refl _ _).alloc (Nat.le_refl _) _
  have hx5 := heap_alloc_new w4 (.cells #[.bool sp, .slice op np cp, .slice ap mp dp, .bool su, .slice ou nu cu, .slice au mu du] 24)
  obtain ⟨g5, hg5⟩ : ∃ g, g = w4.heap.size := ⟨_, rfl⟩
  rw [← hw5, ← hg5] at hx5
  have lw5 : w.heap.size ≤ g5 := by rw [hg5]; exact HB4.out.size
  have ltBX15 : g1 < g5 := by rw [hg5]; exact below_lt BX1.out
  have ltBX25 : g2 < g5 := by rw [hg5]; exact below_lt BX2.out
  have ltBX35 : g3 < g5 := by rw [hg5]; exact below_lt BX3.out
  have HW5 := Lib.hid hw5; have HG5 := Lib.hid hg5; clear hw5 hg5
  have HB5 := Lib.hid (HB4.out.step hb5)
  have Fp := Lib.hid (Fp.out.below hb5)
  have Fu := Lib.hid (Fu.out.below hb5)
  have BX1 := Lib.hid (heap_below BX1.out hb5)
  have BX2 := Lib.hid (heap_below BX2.out hb5)
  have BX3 := Lib.hid (heap_below BX3.out hb5)
  have BX5 := Lib.hid hx5; clear hb5 hx5
  obtain ⟨k5, k6⟩ := rl_around2 (p) (u)
  have hs := of2 w5 BX5.out Fp.out (by omega) Fu.out (by omega)
  have HS := Lib.hid hs; clear hs
  try rw [HG5.out] at x3_0
  try rw [HG5.out] at x3_1
  try rw [HG5.out] at x3_2
  try rw [HG5.out] at x4_0
  try rw [HG5.out] at x4_1
  try rw [HG5.out] at x4_2
  go_wp2_with (with_reducible first | refine pauseCall ?_ | refine pauseLoop ?_ | refine pauseDraw ?_ | refine pauseBody ?_ | refine pauseRounds ?_)
  try rw [← HW5.out]
  try rw [← HG5.out]
  clear x3_0 x3_1 x3_2 x4_0 x4_1 x4_2
  refine Pause.mk ?_
  (with_reducible refine HS.out.mono ?_); rintro e w6 ⟨v6, rfl, hb6, hn6⟩
  clear HS
  have HB6 := Lib.hid (HB5.out.step hb6)
  have Fp := Lib.hid (Fp.out.below hb6)
  have Fu := Lib.hid (Fu.out.below hb6)
  have BX1 := Lib.hid (heap_below BX1.out hb6)
  have BX2 := Lib.hid (heap_below BX2.out hb6)
  have BX3 := Lib.hid (heap_below BX3.out hb6)
  have BX5 := Lib.hid (heap_below BX5.out hb6)
  clear BX5
  have N6 := Lib.hid hn6; clear hn6
  obtain ⟨s7, o7, n7, c7, a7, m7, d7, s7x, o7x, n7x, c7x, a7x, m7x, d7x, rfl⟩ := N6.out.shape
  have N6l := Lib.hid (isSp_ends N6.out).1; have N6h := Lib.hid (isSp_ends N6.out).2
  clear hb6
  go_wp2_with (with_reducible refine wpList_pauseS ?_)
  refine wpList_stL g3 0 [.bool s7, .slice o7 n7 c7, .slice a7 m7 d7, .bool s7x, .slice o7x n7x c7x, .slice a7x m7x d7x] BX3.out rfl rfl (Nat.le_of_ble_eq_true rfl) (by kernel_rfl) rfl ?_
  intro w7 hp7
  have Fp := Lib.hid (putL_R hp7 Fp.out BX3.out noW6)
  have Fu := Lib.hid (putL_R hp7 Fu.out BX3.out noW6)
  have N6 := Lib.hid (putL_SI hp7 N6.out BX3.out noW6)
  have N6l := Lib.hid (putL_I hp7 N6l.out BX3.out noW6)
  have N6h := Lib.hid (putL_I hp7 N6h.out BX3.out noW6)
  have BX1 := Lib.hid (putLx hp7 BX1.out (by omega))
  have BX2 := Lib.hid (putLx hp7 BX2.out (by omega))
  have nx7 : w7.heap[g3]? = some (.cells #[.bool s7, .slice o7 n7 c7, .slice a7 m7 d7, .bool s7x, .slice o7x n7x c7x, .slice a7x m7x d7x] 26) := by rw [hp7]; exact putL_6 BX3.out
  have BX3 := Lib.hid nx7; clear nx7
  have HB7 := Lib.hid (putLb hp7 HB6.out (by omega))
  clear hp7
  obtain ⟨x8_0, x8_1, x8_2, x8_3, x8_4, x8_5⟩ := row6 BX3.out
  go_wp2_with (with_reducible first | refine pauseCall ?_ | refine pauseLoop ?_ | refine pauseDraw ?_ | refine pauseBody ?_ | refine pauseRounds ?_)
  clear x8_0 x8_1 x8_2 x8_3 x8_4 x8_5
  refine Pause.mk ?_
  refine ret_span2 rfl g3 _ _ _ _ _ _ (by first | rfl | exact rfl) BX3.out rfl ?_
  exact ⟨_, rfl, HB7.out, N6.out⟩
theorem smake_any (vp : Value) (p : Rat) (vu : Value) (u : Rat) (w : World) (hp : RatIs w vp p) (hu : RatIs w vu u) (lp : rl p ≤ 39000) (lu : rl u ≤ 39000) :
    Calls Tryz.prog 15 #[vp, vu] w (RetSpE w (smV p u) (errV (smC p u))) := by
  unfold smV smC
  by_cases h : p ≤ u
  · rw [if_pos h, if_pos h]
    have k := smake_2 vp p vu u w hp hu lp lu h
    rw [around2_le h] at k; exact k
  · rw [if_neg h, if_neg h]; exact smake_1 vp p vu u w hp hu lp lu (by grind)
set_option maxRecDepth 100000 in
set_option maxHeartbeats 3200000 in
theorem rsmake_1 (vp : Value) (p : Rat) (vu : Value) (u : Rat) (w : World) (hp : RatIs w vp p) (hu : RatIs w vu u) (lp : rl p ≤ 39000) (lu : rl u ≤ 39000) (h : u < p) :
    Calls Tryz.prog 16 #[vp, vu] w (RetSpE w (0, 0) (.int .i64 3)) := by
  have HBW := Lib.hid (Below.refl w.heap.size w)
  have kz0 : rl 0 ≤ 1 := by rw [rl_zero]; exact Nat.le_refl _
  obtain ⟨sp, op, np, cp, ap, mp, dp, rfl⟩ := hp.shape
  have hlp := hp.rl
  obtain ⟨su, ou, nu, cu, au, mu, du, rfl⟩ := hu.shape
  have hlu := hu.rl
  obtain ⟨n, hn⟩ : ∃ n, n = cq (p) (u) := ⟨_, rfl⟩
  have f1 : decide (0 < n) = true := by rw [hn]; exact decide_eq_true ((cq_gt p u).2 h)
  have HN := Lib.hid hn; clear hn h
  have Fp := Lib.hid hp; clear hp
  have Fu := Lib.hid hu; clear hu
  obtain ⟨w1, hw1⟩ : ∃ w1, w1 = w.alloc (.cells #[.bool sp, .slice op np cp, .slice ap mp dp] 24) := ⟨_, rfl⟩
  have hb1 : Below w.heap.size w w1 := by rw [hw1]; exact (Below.refl _ _).alloc (Nat.le_refl _) _
  have hx1 := heap_alloc_new w (.cells #[.bool sp, .slice op np cp, .slice ap mp dp] 24)
  obtain ⟨g1, hg1⟩ : ∃ g, g = w.heap.size := ⟨_, rfl⟩
  rw [← hw1, ← hg1] at hx1
  have lw1 : w.heap.size ≤ g1 := by rw [hg1]; exact HBW.out.size
  have HW1 := Lib.hid hw1; have HG1 := Lib.hid hg1; clear hw1 hg1
  have HB1 := Lib.hid (HBW.out.step hb1)
  have Fp := Lib.hid (Fp.out.below hb1)
  have Fu := Lib.hid (Fu.out.below hb1)
  have BX1 := Lib.hid hx1; clear hb1 hx1
  obtain ⟨w2, hw2⟩ : ∃ w2, w2 = w1.alloc (.cells #[.bool su, .slice ou nu cu, .slice au mu du] 24) := ⟨_, rfl⟩
  have hb2 : Below w1.heap.size w1 w2 := by rw [hw2]; exact (Below.refl _ _).alloc (Nat.le_refl _) _
  have hx2 := heap_alloc_new w1 (.cells #[.bool su, .slice ou nu cu, .slice au mu du] 24)
  obtain ⟨g2, hg2⟩ : ∃ g, g = w1.heap.size := ⟨_, rfl⟩
  rw [← hw2, ← hg2] at hx2
  have lw2 : w.heap.size ≤ g2 := by rw [hg2]; exact HB1.out.size
  have ltBX12 : g1 < g2 := by rw [hg2]; exact below_lt BX1.out
  have hs2 : g2 = w.heap.size + 1 := by rw [hg2, HW1.out]; simp
  have HS2 := Lib.hid hs2; clear hs2
  have HW2 := Lib.hid hw2; have HG2 := Lib.hid hg2; clear hw2 hg2
  have HB2 := Lib.hid (HB1.out.step hb2)
  have Fp := Lib.hid (Fp.out.below hb2)
  have Fu := Lib.hid (Fu.out.below hb2)
  have BX1 := Lib.hid (heap_below BX1.out hb2)
  have BX2 := Lib.hid hx2; clear hb2 hx2
  obtain ⟨w3, hw3⟩ : ∃ w3, w3 = w2.alloc (.cells #[.bool false, .slice none 0 0, .slice none 0 0, .bool false, .slice none 0 0, .slice none 0 0] 26) := ⟨_, rfl⟩
  have hb3 : Below w2.heap.size w2 w3 := by rw [hw3]; exact (Below.refl _ _).alloc (Nat.le_refl _) _
  have hx3 := heap_alloc_new w2 (.cells #[.bool false, .slice none 0 0, .slice none 0 0, .bool false, .slice none 0 0, .slice none 0 0] 26)
  obtain ⟨g3, hg3⟩ : ∃ g, g = w2.heap.size := ⟨_, rfl⟩
  rw [← hw3, ← hg3] at hx3
  have lw3 : w.heap.size ≤ g3 := by rw [hg3]; exact HB2.out.size
  have ltBX13 : g1 < g3 := by rw [hg3]; exact below_lt BX1.out
  have ltBX23 : g2 < g3 := by rw [hg3]; exact below_lt BX2.out
  have hs3 : g3 = w.heap.size + 2 := by rw [hg3, HW2.out, HW1.out]; simp
  have HS3 := Lib.hid hs3; clear hs3
  have HW3 := Lib.hid hw3; have HG3 := Lib.hid hg3; clear hw3 hg3
  have HB3 := Lib.hid (HB2.out.step hb3)
  have Fp := Lib.hid (Fp.out.below hb3)
  have Fu := Lib.hid (Fu.out.below hb3)
  have BX1 := Lib.hid (heap_below BX1.out hb3)
  have BX2 := Lib.hid (heap_below BX2.out hb3)
  have BX3 := Lib.hid hx3; clear hb3 hx3
  go_enter Tryz.func16, Tryz.ntmps16
  obtain ⟨x1_0, x1_1, x1_2⟩ := row3 BX1.out
  obtain ⟨x2_0, x2_1, x2_2⟩ := row3 BX2.out
  have hs := rcmpq_any _ (p) _ (u) w3 Fp.out Fu.out (by omega) (by omega)
  rw [← HN.out] at hs
  have HS := Lib.hid hs; clear hs
  try rw [HW3.out] at x1_0
  try rw [HG3.out] at x1_0
  try rw [HW2.out] at x1_0
  try rw [HG2.out] at x1_0
  try rw [HW1.out] at x1_0
  try rw [HG1.out] at x1_0
  try rw [HW3.out] at x1_1
  try rw [HG3.out] at x1_1
  try rw [HW2.out] at x1_1
  try rw [HG2.out] at x1_1
  try rw [HW1.out] at x1_1
  try rw [HG1.out] at x1_1
  try rw [HW3.out] at x1_2
  try rw [HG3.out] at x1_2
  try rw [HW2.out] at x1_2
  try rw [HG2.out] at x1_2
  try rw [HW1.out] at x1_2
  try rw [HG1.out] at x1_2
  try rw [HW3.out] at x2_0
  try rw [HG3.out] at x2_0
  try rw [HW2.out] at x2_0
  try rw [HG2.out] at x2_0
  try rw [HW1.out] at x2_0
  try rw [HG1.out] at x2_0
  try rw [HW3.out] at x2_1
  try rw [HG3.out] at x2_1
  try rw [HW2.out] at x2_1
  try rw [HG2.out] at x2_1
  try rw [HW1.out] at x2_1
  try rw [HG1.out] at x2_1
  try rw [HW3.out] at x2_2
  try rw [HG3.out] at x2_2
  try rw [HW2.out] at x2_2
  try rw [HG2.out] at x2_2
  try rw [HW1.out] at x2_2
  try rw [HG1.out] at x2_2
  go_wp2_with (with_reducible first | refine pauseCall ?_ | refine pauseLoop ?_ | refine pauseDraw ?_ | refine pauseBody ?_ | refine pauseRounds ?_)
  try rw [← HW1.out]
  try rw [← HW2.out]
  try rw [← HW3.out]
  try rw [← HS3.out]
  try rw [← HS2.out]
  try rw [← HG1.out]
  try rw [← HG2.out]
  try rw [← HG3.out]
  clear x1_0 x1_1 x1_2 x2_0 x2_1 x2_2
  refine Pause.mk ?_
  (with_reducible refine HS.out.mono ?_); rintro e w4 ⟨rfl, hb4⟩
  clear HS
  have HB4 := Lib.hid (HB3.out.step hb4)
  have Fp := Lib.hid (Fp.out.below hb4)
  have Fu := Lib.hid (Fu.out.below hb4)
  have BX1 := Lib.hid (heap_below BX1.out hb4)
  have BX2 := Lib.hid (heap_below BX2.out hb4)
  have BX3 := Lib.hid (heap_below BX3.out hb4)
  clear hb4
  go_wp2_with (with_reducible refine wpList_pauseS ?_)
  refine wpList_stL g3 0 [.bool false, .slice none 0 0, .slice none 0 0, .bool false, .slice none 0 0, .slice none 0 0] BX3.out rfl rfl (Nat.le_of_ble_eq_true rfl) (by kernel_rfl) rfl ?_
  intro w5 hp5
  have Fp := Lib.hid (putL_R hp5 Fp.out BX3.out noW6)
  have Fu := Lib.hid (putL_R hp5 Fu.out BX3.out noW6)
  have BX1 := Lib.hid (putLx hp5 BX1.out (by omega))
  have BX2 := Lib.hid (putLx hp5 BX2.out (by omega))
  have nx5 : w5.heap[g3]? = some (.cells #[.bool false, .slice none 0 0, .slice none 0 0, .bool false, .slice none 0 0, .slice none 0 0] 26) := by rw [hp5]; exact putL_6 BX3.out
  have BX3 := Lib.hid nx5; clear nx5
  have HB5 := Lib.hid (putLb hp5 HB4.out (by omega))
  clear hp5
  obtain ⟨x3_0, x3_1, x3_2, x3_3, x3_4, x3_5⟩ := row6 BX3.out
  go_wp2_with (with_reducible first | refine pauseCall ?_ | refine pauseLoop ?_ | refine pauseDraw ?_ | refine pauseBody ?_ | refine pauseRounds ?_)
  clear x3_0 x3_1 x3_2 x3_3 x3_4 x3_5
  refine Pause.mk ?_
  refine ret_span2 rfl g3 _ _ _ _ _ _ (by first | rfl | exact rfl) BX3.out rfl ?_
  exact ⟨_, rfl, HB5.out, (isSp_zero _)⟩
set_option maxRecDepth 100000 in
set_option maxHeartbeats 3200000 in
theorem rsmake_2 (vp : Value) (p : Rat) (vu : Value) (u : Rat) (w : World) (hp : RatIs w vp p) (hu : RatIs w vu u) (lp : rl p ≤ 39000) (lu : rl u ≤ 39000) (h : p ≤ u) :
    Calls Tryz.prog 16 #[vp, vu] w (RetSpE w (around2 (p) (u)) (.int .i64 0)) := by
  have HBW := Lib.hid (Below.refl w.heap.size w)
  have kz0 : rl 0 ≤ 1 := by rw [rl_zero]; exact Nat.le_refl _
  obtain ⟨sp, op, np, cp, ap, mp, dp, rfl⟩ := hp.shape
  have hlp := hp.rl
  obtain ⟨su, ou, nu, cu, au, mu, du, rfl⟩ := hu.shape
  have hlu := hu.rl
  obtain ⟨n, hn⟩ : ∃ n, n = cq (p) (u) := ⟨_, rfl⟩
  have f1 : decide (0 < n) = false := by rw [hn]; exact decide_eq_false (fun k => by have := (cq_gt p u).1 k; grind)
  have HN := Lib.hid hn; clear hn h
  have Fp := Lib.hid hp; clear hp
  have Fu := Lib.hid hu; clear hu
  obtain ⟨w1, hw1⟩ : ∃ w1, w1 = w.alloc (.cells #[.bool sp, .slice op np cp, .slice ap mp dp] 24) := ⟨_, rfl⟩
  have hb1 : Below w.heap.size w w1 := by rw [hw1]; exact (Below.refl _ _).alloc (Nat.le_refl _) _
  have hx1 := heap_alloc_new w (.cells #[.bool sp, .slice op np cp, .slice ap mp dp] 24)
  obtain ⟨g1, hg1⟩ : ∃ g, g = w.heap.size := ⟨_, rfl⟩
  rw [← hw1, ← hg1] at hx1
  have lw1 : w.heap.size ≤ g1 := by rw [hg1]; exact HBW.out.size
  have HW1 := Lib.hid hw1; have HG1 := Lib.hid hg1; clear hw1 hg1
  have HB1 := Lib.hid (HBW.out.step hb1)
  have Fp := Lib.hid (Fp.out.below hb1)
  have Fu := Lib.hid (Fu.out.below hb1)
  have BX1 := Lib.hid hx1; clear hb1 hx1
  obtain ⟨w2, hw2⟩ : ∃ w2, w2 = w1.alloc (.cells #[.bool su, .slice ou nu cu, .slice au mu du] 24) := ⟨_, rfl⟩
  have hb2 : Below w1.heap.size w1 w2 := by rw [hw2]; exact (Below.refl _ _).alloc (Nat.le_refl _) _
  have hx2 := heap_alloc_new w1 (.cells #[.bool su, .slice ou nu cu, .slice au mu du] 24)
  obtain ⟨g2, hg2⟩ : ∃ g, g = w1.heap.size := ⟨_, rfl⟩
  rw [← hw2, ← hg2] at hx2
  have lw2 : w.heap.size ≤ g2 := by rw [hg2]; exact HB1.out.size
  have ltBX12 : g1 < g2 := by rw [hg2]; exact below_lt BX1.out
  have hs2 : g2 = w.heap.size + 1 := by rw [hg2, HW1.out]; simp
  have HS2 := Lib.hid hs2; clear hs2
  have HW2 := Lib.hid hw2; have HG2 := Lib.hid hg2; clear hw2 hg2
  have HB2 := Lib.hid (HB1.out.step hb2)
  have Fp := Lib.hid (Fp.out.below hb2)
  have Fu := Lib.hid (Fu.out.below hb2)
  have BX1 := Lib.hid (heap_below BX1.out hb2)
  have BX2 := Lib.hid hx2; clear hb2 hx2
  obtain ⟨w3, hw3⟩ : ∃ w3, w3 = w2.alloc (.cells #[.bool false, .slice none 0 0, .slice none 0 0, .bool false, .slice none 0 0, .slice none 0 0] 26) := ⟨_, rfl⟩
  have hb3 : Below w2.heap.size w2 w3 := by rw [hw3]; exact (Below.refl _ _).alloc (Nat.le_refl _) _
  have hx3 := heap_alloc_new w2 (.cells #[.bool false, .slice none 0 0, .slice none 0 0, .bool false, .slice none 0 0, .slice none 0 0] 26)
  obtain ⟨g3, hg3⟩ : ∃ g, g = w2.heap.size := ⟨_, rfl⟩
  rw [← hw3, ← hg3] at hx3
  have lw3 : w.heap.size ≤ g3 := by rw [hg3]; exact HB2.out.size
  have ltBX13 : g1 < g3 := by rw [hg3]; exact below_lt BX1.out
  have ltBX23 : g2 < g3 := by rw [hg3]; exact below_lt BX2.out
  have hs3 : g3 = w.heap.size + 2 := by rw [hg3, HW2.out, HW1.out]; simp
  have HS3 := Lib.hid hs3; clear hs3
  have HW3 := Lib.hid hw3; have HG3 := Lib.hid hg3; clear hw3 hg3
  have HB3 := Lib.hid (HB2.out.step hb3)
  have Fp := Lib.hid (Fp.out.below hb3)
  have Fu := Lib.hid (Fu.out.below hb3)
  have BX1 := Lib.hid (heap_below BX1.out hb3)
  have BX2 := Lib.hid (heap_below BX2.out hb3)
  have BX3 := Lib.hid hx3; clear hb3 hx3
  go_enter Tryz.func16, Tryz.ntmps16
  obtain ⟨x1_0, x1_1, x1_2⟩ := row3 BX1.out
  obtain ⟨x2_0, x2_1, x2_2⟩ := row3 BX2.out
  have hs := rcmpq_any _ (p) _ (u) w3 Fp.out Fu.out (by omega) (by omega)
  rw [← HN.out] at hs
  have HS := Lib.hid hs; clear hs
  try rw [HW3.out] at x1_0
  try rw [HG3.out] at x1_0
  try rw [HW2.out] at x1_0
  try rw [HG2.out] at x1_0
  try rw [HW1.out] at x1_0
  try rw [HG1.out] at x1_0
  try rw [HW3.out] at x1_1
  try rw [HG3.out] at x1_1
  try rw [HW2.out] at x1_1
  try rw [HG2.out] at x1_1
  try rw [HW1.out] at x1_1
  try rw [HG1.out] at x1_1
  try rw [HW3.out] at x1_2
  try rw [HG3.out] at x1_2
  try rw [HW2.out] at x1_2
  try rw [HG2.out] at x1_2
  try rw [HW1.out] at x1_2
  try rw [HG1.out] at x1_2
  try rw [HW3.out] at x2_0
  try rw [HG3.out] at x2_0
  try rw [HW2.out] at x2_0
  try rw [HG2.out] at x2_0
  try rw [HW1.out] at x2_0
  try rw [HG1.out] at x2_0
  try rw [HW3.out] at x2_1
  try rw [HG3.out] at x2_1
  try rw [HW2.out] at x2_1
  try rw [HG2.out] at x2_1
  try rw [HW1.out] at x2_1
  try rw [HG1.out] at x2_1
  try rw [HW3.out] at x2_2
  try rw [HG3.out] at x2_2
  try rw [HW2.out] at x2_2
  try rw [HG2.out] at x2_2
  try rw [HW1.out] at x2_2
  try rw [HG1.out] at x2_2
  go_wp2_with (with_reducible first | refine pauseCall ?_ | refine pauseLoop ?_ | refine pauseDraw ?_ | refine pauseBody ?_ | refine pauseRounds ?_)
  try rw [← HW1.out]
  try rw [← HW2.out]
  try rw [← HW3.out]
  try rw [← HS3.out]
  try rw [← HS2.out]
  try rw [← HG1.out]
  try rw [← HG2.out]
  try rw [← HG3.out]
  clear x1_0 x1_1 x1_2 x2_0 x2_1 x2_2
  refine Pause.mk ?_
  (with_reducible refine HS.out.mono ?_); rintro e w4 ⟨rfl, hb4⟩
  clear HS
  have HB4 := Lib.hid (HB3.out.step hb4)
  have Fp := Lib.hid (Fp.out.below hb4)
  have Fu := Lib.hid (Fu.out.below hb4)
  have BX1 := Lib.hid (heap_below BX1.out hb4)
  have BX2 := Lib.hid (heap_below BX2.out hb4)
  have BX3 := Lib.hid (heap_below BX3.out hb4)
  clear hb4
  obtain ⟨x3_0, x3_1, x3_2⟩ := row3 BX1.out
  obtain ⟨x4_0, x4_1, x4_2⟩ := row3 BX2.out
  obtain ⟨w5, hw5⟩ : ∃ w5, w5 = w4.alloc (.cells #[.bool sp, .slice op np cp, .slice ap mp dp, .bool su, .slice ou nu cu, .slice au mu du] 24) := ⟨_, rfl⟩
  have hb5 : Below w4.heap.size w4 w5 := by rw [hw5]; exact (Below.refl _ _).alloc (Nat.le_refl _) _
  have hx5 := heap_alloc_new w4 (.cells #[.bool sp, .slice op np cp, .slice ap mp dp, .bool su, .slice ou nu cu, .slice au mu du] 24)
  obtain ⟨g5, hg5⟩ : ∃ g, g = w4.heap.size := ⟨_, rfl⟩
  rw [← hw5, ← hg5] at hx5
  have lw5 : w.heap.size ≤ g5 := by rw [hg5]; exact HB4.out.size
  have ltBX15 : g1 < g5 := by rw [hg5]; exact below_lt BX1.out
  have ltBX25 : g2 < g5 := by rw [hg5]; exact below_lt BX2.out
  have ltBX35 : g3 < g5 := by rw [hg5]; exact below_lt BX3.out
  have HW5 := Lib.hid hw5; have HG5 := Lib.hid hg5; clear hw5 hg5
  have HB5 := Lib.hid (HB4.out.step hb5)
  have Fp := Lib.hid (Fp.out.below hb5)
  have Fu := Lib.hid (Fu.out.below hb5)
  have BX1 := Lib.hid (heap_below BX1.out hb5)
  have BX2 := Lib.hid (heap_below BX2.out hb5)
  have BX3 := Lib.hid (heap_below BX3.out hb5)
  have BX5 := Lib.hid hx5; clear hb5 hx5
  obtain ⟨k5, k6⟩ := rl_around2 (p) (u)
  have hs := raround2 w5 BX5.out Fp.out (by omega) Fu.out (by omega)
  have HS := Lib.hid hs; clear hs
  try rw [HG5.out] at x3_0
  try rw [HG5.out] at x3_1
  try rw [HG5.out] at x3_2
  try rw [HG5.out] at x4_0
  try rw [HG5.out] at x4_1
  try rw [HG5.out] at x4_2
  go_wp2_with (with_reducible first | refine pauseCall ?_ | refine pauseLoop ?_ | refine pauseDraw ?_ | refine pauseBody ?_ | refine pauseRounds ?_)
  try rw [← HW5.out]
  try rw [← HG5.out]
  clear x3_0 x3_1 x3_2 x4_0 x4_1 x4_2
  refine Pause.mk ?_
  (with_reducible refine HS.out.mono ?_); rintro e w6 ⟨v6, rfl, hb6, hn6⟩
  clear HS
  have HB6 := Lib.hid (HB5.out.step hb6)
  have Fp := Lib.hid (Fp.out.below hb6)
  have Fu := Lib.hid (Fu.out.below hb6)
  have BX1 := Lib.hid (heap_below BX1.out hb6)
  have BX2 := Lib.hid (heap_below BX2.out hb6)
  have BX3 := Lib.hid (heap_below BX3.out hb6)
  have BX5 := Lib.hid (heap_below BX5.out hb6)
  clear BX5
  have N6 := Lib.hid hn6; clear hn6
  obtain ⟨s7, o7, n7, c7, a7, m7, d7, s7x, o7x, n7x, c7x, a7x, m7x, d7x, rfl⟩ := N6.out.shape
  have N6l := Lib.hid (isSp_ends N6.out).1; have N6h := Lib.hid (isSp_ends N6.out).2
  clear hb6
  go_wp2_with (with_reducible refine wpList_pauseS ?_)
  refine wpList_stL g3 0 [.bool s7, .slice o7 n7 c7, .slice a7 m7 d7, .bool s7x, .slice o7x n7x c7x, .slice a7x m7x d7x] BX3.out rfl rfl (Nat.le_of_ble_eq_true rfl) (by kernel_rfl) rfl ?_
  intro w7 hp7
  have Fp := Lib.hid (putL_R hp7 Fp.out BX3.out noW6)
  have Fu := Lib.hid (putL_R hp7 Fu.out BX3.out noW6)
  have N6 := Lib.hid (putL_SI hp7 N6.out BX3.out noW6)
  have N6l := Lib.hid (putL_I hp7 N6l.out BX3.out noW6)
  have N6h := Lib.hid (putL_I hp7 N6h.out BX3.out noW6)
  have BX1 := Lib.hid (putLx hp7 BX1.out (by omega))
  have BX2 := Lib.hid (putLx hp7 BX2.out (by omega))
  have nx7 : w7.heap[g3]? = some (.cells #[.bool s7, .slice o7 n7 c7, .slice a7 m7 d7, .bool s7x, .slice o7x n7x c7x, .slice a7x m7x d7x] 26) := by rw [hp7]; exact putL_6 BX3.out
  have BX3 := Lib.hid nx7; clear nx7
  have HB7 := Lib.hid (putLb hp7 HB6.out (by omega))
  clear hp7
  obtain ⟨x8_0, x8_1, x8_2, x8_3, x8_4, x8_5⟩ := row6 BX3.out
  go_wp2_with (with_reducible first | refine pauseCall ?_ | refine pauseLoop ?_ | refine pauseDraw ?_ | refine pauseBody ?_ | refine pauseRounds ?_)
  clear x8_0 x8_1 x8_2 x8_3 x8_4 x8_5
  refine Pause.mk ?_
  refine ret_span2 rfl g3 _ _ _ _ _ _ (by first | rfl | exact rfl) BX3.out rfl ?_
  exact ⟨_, rfl, HB7.out, N6.out⟩
theorem rsmake_any (vp : Value) (p : Rat) (vu : Value) (u : Rat) (w : World) (hp : RatIs w vp p) (hu : RatIs w vu u) (lp : rl p ≤ 39000) (lu : rl u ≤ 39000) :
    Calls Tryz.prog 16 #[vp, vu] w (RetSpE w (smV p u) (.int .i64 (smC p u))) := by
  unfold smV smC
  by_cases h : p ≤ u
  · rw [if_pos h, if_pos h]
    have k := rsmake_2 vp p vu u w hp hu lp lu h
    rw [around2_le h] at k; exact k
  · rw [if_neg h, if_neg h]; exact rsmake_1 vp p vu u w hp hu lp lu (by grind)
end Go.Proofs.YtaefimegiobkmaaGreatDoor
/-
  Decimal texts there and back.
  Conditions: none.
-/
namespace Go.Proofs.YtaefimegiobkmaaGreatDoor

/-- the decimal text of a number, as a list -/
def decL (n : Nat) : List UInt8 := if n = 0 then [48] else (digD n).reverse
theorem decB_decL (n : Nat) : decB n = ⟨(decL n).toArray⟩ := by
  unfold decB decL; split <;> rfl
theorem decL_len {n k : Nat} (h : n < 10 ^ k) (hk : 0 < k) : (decL n).length ≤ k := by
  unfold decL; split
  · exact hk
  · rw [List.length_reverse]; exact digD_len h
/-- the length of the text of a number of few words -/
theorem decL_words {n k : Nat} (h : (wd n).length ≤ k) (hk : 0 < k) : (decL n).length ≤ 10 * k := by
  refine decL_len (Nat.lt_of_lt_of_le (m := 4294967296 ^ k) ?_ (pow_ten k)) (by omega)
  have h1 := val_lt (u32_wd n)
  rw [val_wd] at h1
  exact Nat.lt_of_lt_of_le h1 (Nat.pow_le_pow_right (by decide) h)
end Go.Proofs.YtaefimegiobkmaaGreatDoor
/-
  Small functions of the statements: words that are equal, numbers that are too long, errors by their numbers, the document's examples.
  Conditions: each theorem's own.
-/
namespace Go.Proofs.YtaefimegiobkmaaGreatDoor
open Go.RowKit Go.ChangeShapes Go.WideShapes

theorem assert_yes (c : Int) (w : World) : (Instr.typeAssert (.iface 50 (.int .i64 c)) 30 50 true).run Tryz.prog w = .ok (.tuple #[.int .i64 c, .bool true]) w := by kernel_rfl
set_option maxRecDepth 100000 in
theorem num_any (c : Nat) (w : World) (hc : c < 1000) : Calls Tryz.prog 14 #[errV c] w (RetS w (.int .i64 c)) := by
  by_cases h0 : c = 0
  · subst h0
    rw [errV_zero]
    go_enter Tryz.func14, Tryz.ntmps14
    go_wp2
    go_ret
    exact ⟨rfl, rfl⟩
  · have ha := assert_yes c
    rw [errV_pos h0]
    go_enter Tryz.func14, Tryz.ntmps14
    go_wp2
    go_ret
    exact ⟨rfl, rfl⟩
set_option maxRecDepth 100000 in
set_option maxHeartbeats 1600000 in
theorem words_any (va vb : Value) (a b : List Nat) (w : World) (ha : Num w va a) (hb : Num w vb b) (hla : a.length ≤ 1000000) :
    Calls Tryz.prog 59 #[va, vb] w (RetV w (.bool (decide (a = b)))) := by
  obtain ⟨ao, ca, rfl, hca, hca2, _⟩ := ha.shape
  obtain ⟨bo, cb, rfl, hcb, hcb2, _⟩ := hb.shape
  by_cases hlen : a.length = b.length
  · obtain ⟨n, hn⟩ : ∃ n, n = a.length := ⟨_, rfl⟩
    have hnb : n = b.length := by omega
    rw [← hn] at hca hla ⊢
    rw [← hnb] at hcb ⊢
    rw [← hn] at ha
    rw [← hnb] at hb
    have HA := Lib.hid ha; have HB := Lib.hid hb; have HN := Lib.hid hn; have HNB := Lib.hid hnb
    clear ha hb hn hnb hlen
    obtain ⟨r, hr⟩ : ∃ r, r = decide (a = b) := ⟨_, rfl⟩
    rw [← hr]
    have HR := Lib.hid hr; clear hr
    go_enter Tryz.func59, Tryz.ntmps59
    go_wp2_with fail
    go_loopw [13] (fun iv wr => ∃ k : Nat, k ≤ n ∧ iv = .int .i64 k ∧ Hid (∀ j, j < k → gd a j = gd b j) ∧ Below w.heap.size w wr) (fun iv _ => n - (intOf iv).toNat)
    case atStart => exact ⟨0, Nat.zero_le _, rfl, Lib.hid (fun j hj => by omega), Below.refl _ _⟩
    case round =>
      obtain ⟨k, hk, rfl, hsame, hBr⟩ := hrel
      by_cases hkn : k < n
      · obtain ⟨b1, o1, rfl, _, hc1⟩ := (HA.out.below hBr).at (by omega)
        obtain ⟨b2, o2, rfl, _, hc2⟩ := (HB.out.below hBr).at (by omega)
        have hx1 := hc1 k (by omega)
        have hx2 := hc2 k (by omega)
        obtain ⟨x, hx⟩ : ∃ x, x = gd a k := ⟨_, rfl⟩
        obtain ⟨y, hy⟩ : ∃ y, y = gd b k := ⟨_, rfl⟩
        rw [← hx] at hx1
        rw [← hy] at hx2
        have HX := Lib.hid hx; have HY := Lib.hid hy
        clear hc1 hc2 hx hy
        by_cases hxy : x = y
        · subst hxy
          have hs2 : ∀ j, j < k + 1 → gd a j = gd b j := fun j hj => by
            by_cases hjk : j = k
            · rw [hjk, ← HX.out, ← HY.out]
            · exact hsame.out j (by omega)
          have HS2 := Lib.hid hs2; clear hs2
          go_wp2_with fail
          go_quiet (fail)
          go_wp2_with fail
          go_roundw
          case rel => exact ⟨k + 1, by omega, by go_num, HS2, below_drewN hBr _⟩
          case measure => simp [intOf]; omega
        · have hne : (bne (x : Int) (y : Int)) = true := by simp; omega
          have hv : r = false := by
            rw [HR.out]
            apply decide_eq_false
            intro h
            apply hxy
            rw [HX.out, HY.out, h]
          have HV := Lib.hid hv; clear hv hxy
          go_wp2_with fail
          go_quiet (fail)
          go_wp2_with fail
          go_ret
          exact ⟨by rw [HV.out]; rfl, below_drewN hBr _⟩
      · obtain rfl : k = n := by omega
        have hv : r = true := by
          rw [HR.out]
          apply decide_eq_true
          exact gd_ext (by rw [← HN.out, ← HNB.out]) (fun j hj => hsame.out j (by rw [HN.out]; exact hj))
        have HV := Lib.hid hv; clear hv
        go_wp2_with fail
        go_ret
        exact ⟨by rw [HV.out]; rfl, hBr⟩
  · have hne : (bne (a.length : Int) (b.length : Int)) = true := by simp; omega
    have hv : decide (a = b) = false := decide_eq_false fun h => hlen (by rw [h])
    rw [hv]
    clear hv hlen ha hb
    go_enter Tryz.func59, Tryz.ntmps59
    go_wp2_with fail
    go_ret
    exact ⟨rfl, Below.refl _ _⟩
end Go.Proofs.YtaefimegiobkmaaGreatDoor
/-
  Text of a fraction; whether two fractions have the same fields.
  Conditions: each theorem's own.
-/
namespace Go.Proofs.YtaefimegiobkmaaGreatDoor
open Go.RowKit Go.ChangeShapes Go.WideShapes

/-- the text of a number -/
def rtx (p : Rat) : List UInt8 := (if ng p then [45] else []) ++ decL (nn p) ++ (if p.den = 1 then [] else 47 :: decL p.den)
theorem decB_size {n : Nat} (h : (wd n).length ≤ 100000) : (decB n).size ≤ 1000000 := by
  rw [decB_decL]
  have := decL_words h (by decide)
  simp [ByteArray.size]; omega
theorem cmpN_zero {m n : Nat} (h : cmpN m n = 0) : m = n := by
  unfold cmpN at h; split at h
  · cases h
  · split at h
    · cases h
    · omega
set_option maxRecDepth 100000 in
set_option maxHeartbeats 3200000 in
theorem text_f1 (vp : Value) (p : Rat) (w : World) (hp : RatIs w vp p) (hs : ng p = false) (hd : p.den = 1) :
    Calls Tryz.prog 62 #[vp] w (RetV w (.string ⟨(rtx p).toArray⟩)) := by
  obtain ⟨sp, op, np, cp, ap, mp, dp, rfl⟩ := hp.shape
  have hlp := hp.rl
  have hb0 := ((Below.refl w.heap.size w).alloc (by first | (simp; done) | (simp; omega)) (.cells #[.bool sp, .slice op np cp, .slice ap mp dp] 24))
  have hxp := nest1_0 w (.cells #[.bool sp, .slice op np cp, .slice ap mp dp] 24)
  have hpp := hp.below hb0
  obtain ⟨w0, hw0⟩ : ∃ w0, w0 = (w.alloc (.cells #[.bool sp, .slice op np cp, .slice ap mp dp] 24)) := ⟨_, rfl⟩
  rw [← hw0] at hb0 hxp hpp
  have HB0 := Lib.hid hb0; have HW0 := Lib.hid hw0
  have BXp := Lib.hid hxp
  have Fp := Lib.hid hpp
  clear hb0 hw0 hxp hpp hp
  have l1 := rl_n p; have l2 := rl_d p
  have hz1 := decB_size (n := nn p) (by omega); have hz2 := decB_size (n := p.den) (by omega)
  have heq : (⟨(rtx p).toArray⟩ : ByteArray) = decB (nn p) := by
    unfold rtx; rw [hs, if_pos hd, decB_decL]; apply ByteArray.ext; simp
  rw [heq]
  have hlo : (wd 1).length ≤ 1 := by rw [wd_one_len]; exact Nat.le_refl _
  obtain ⟨c, hc⟩ : ∃ c, c = cmpN p.den 1 := ⟨_, rfl⟩
  have hc0 : c = 0 := by rw [hc]; exact cmpN_eq hd
  have hcb : (c == 0) = true := by rw [hc0]; rfl
  have HC := Lib.hid hc; have HS := Lib.hid hs; have HSP := Lib.hid hs; clear hc hs heq hd hc0
  have ht1 := fun v wx (h : Num wx v (wd (nn p))) => text_any v _ wx h (by omega)
  rw [val_wd] at ht1
  obtain ⟨B, hB⟩ : ∃ B, B = decB (nn p) := ⟨_, rfl⟩; obtain ⟨D, hD⟩ : ∃ D, D = decB p.den := ⟨_, rfl⟩
  rw [← hB] at ht1 hz1 ⊢
  rw [← hD] at hz2
  have HT1 := Lib.hid ht1; clear ht1 hB hD
  go_enter Tryz.func62, Tryz.ntmps62
  have hs := parts_any _ p w0 Fp.out
  have HS := Lib.hid hs; clear hs
  go_wp2_with fail
  rw [← HW0.out]
  (with_reducible refine HS.out.mono ?_); rintro e w1 ⟨v1, u1, rfl, hb1, hn1, hm1⟩
  clear HS
  rw [HSP.out]
  have HB1 := Lib.hid (HB0.out.step hb1)
  have Fp := Lib.hid (Fp.out.below hb1)
  have BXp := Lib.hid (heap_below BXp.out hb1)
  have N := Lib.hid hn1
  have D0 := Lib.hid hm1
  clear hn1 hm1
  clear hb1
  have hs := HT1.out _ w1 N.out
  have HS := Lib.hid hs; clear hs
  go_wp2_with fail
  (with_reducible refine HS.out.mono ?_); rintro e w2 ⟨rfl, hb2⟩
  clear HS
  have HB2 := Lib.hid (HB1.out.step hb2)
  have Fp := Lib.hid (Fp.out.below hb2)
  have N := Lib.hid (N.out.below hb2)
  have D0 := Lib.hid (D0.out.below hb2)
  have BXp := Lib.hid (heap_below BXp.out hb2)
  clear hb2
  have hs := one_any w2
  have HS := Lib.hid hs; clear hs
  go_wp2_with fail
  (with_reducible refine HS.out.mono ?_); rintro e w3 ⟨v3, rfl, hb3, hn3⟩
  clear HS
  have HB3 := Lib.hid (HB2.out.step hb3)
  have Fp := Lib.hid (Fp.out.below hb3)
  have N := Lib.hid (N.out.below hb3)
  have D0 := Lib.hid (D0.out.below hb3)
  have BXp := Lib.hid (heap_below BXp.out hb3)
  have ONE := Lib.hid hn3; clear hn3
  clear hb3
  have hs := cmpN_ D0.out ONE.out (by omega) (by omega)
  rw [← HC.out] at hs
  have HS := Lib.hid hs; clear hs
  go_wp2_with fail
  (with_reducible refine HS.out.mono ?_); rintro e w4 ⟨rfl, hb4⟩
  clear HS
  have HB4 := Lib.hid (HB3.out.step hb4)
  have Fp := Lib.hid (Fp.out.below hb4)
  have N := Lib.hid (N.out.below hb4)
  have D0 := Lib.hid (D0.out.below hb4)
  have ONE := Lib.hid (ONE.out.below hb4)
  have BXp := Lib.hid (heap_below BXp.out hb4)
  clear hb4
  go_wp2_with fail
  all_goals first | (go_ret; exact ⟨by first | rfl | (simp; done), HB4.out⟩) | (rename_i h; exact absurd h (by simp; omega))
set_option maxRecDepth 100000 in
set_option maxHeartbeats 3200000 in
theorem text_f0 (vp : Value) (p : Rat) (w : World) (hp : RatIs w vp p) (hs : ng p = false) (hd : p.den ≠ 1) :
    Calls Tryz.prog 62 #[vp] w (RetV w (.string ⟨(rtx p).toArray⟩)) := by
  obtain ⟨sp, op, np, cp, ap, mp, dp, rfl⟩ := hp.shape
  have hlp := hp.rl
  have hb0 := ((Below.refl w.heap.size w).alloc (by first | (simp; done) | (simp; omega)) (.cells #[.bool sp, .slice op np cp, .slice ap mp dp] 24))
  have hxp := nest1_0 w (.cells #[.bool sp, .slice op np cp, .slice ap mp dp] 24)
  have hpp := hp.below hb0
  obtain ⟨w0, hw0⟩ : ∃ w0, w0 = (w.alloc (.cells #[.bool sp, .slice op np cp, .slice ap mp dp] 24)) := ⟨_, rfl⟩
  rw [← hw0] at hb0 hxp hpp
  have HB0 := Lib.hid hb0; have HW0 := Lib.hid hw0
  have BXp := Lib.hid hxp
  have Fp := Lib.hid hpp
  clear hb0 hw0 hxp hpp hp
  have l1 := rl_n p; have l2 := rl_d p
  have hz1 := decB_size (n := nn p) (by omega); have hz2 := decB_size (n := p.den) (by omega)
  have heq : (⟨(rtx p).toArray⟩ : ByteArray) = decB (nn p) ++ (⟨#[47]⟩ ++ decB p.den) := by
    unfold rtx; rw [hs, if_neg hd, decB_decL, decB_decL]; apply ByteArray.ext; simp
  rw [heq]
  have hlo : (wd 1).length ≤ 1 := by rw [wd_one_len]; exact Nat.le_refl _
  obtain ⟨c, hc⟩ : ∃ c, c = cmpN p.den 1 := ⟨_, rfl⟩
  have hcb : (c == 0) = false := by rw [hc, beq_eq_false_iff_ne]; exact fun e => hd (cmpN_zero e)
  have HC := Lib.hid hc; have HS := Lib.hid hs; have HSP := Lib.hid hs; clear hc hs heq hd
  have ht1 := fun v wx (h : Num wx v (wd (nn p))) => text_any v _ wx h (by omega)
  rw [val_wd] at ht1
  obtain ⟨B, hB⟩ : ∃ B, B = decB (nn p) := ⟨_, rfl⟩; obtain ⟨D, hD⟩ : ∃ D, D = decB p.den := ⟨_, rfl⟩
  rw [← hB] at ht1 hz1 ⊢
  rw [← hD] at hz2 ⊢
  have ht2 := fun v wx (h : Num wx v (wd p.den)) => text_any v _ wx h (by omega)
  rw [val_wd, ← hD] at ht2
  have HT2 := Lib.hid ht2; clear ht2
  have HT1 := Lib.hid ht1; clear ht1 hB hD
  go_enter Tryz.func62, Tryz.ntmps62
  have hs := parts_any _ p w0 Fp.out
  have HS := Lib.hid hs; clear hs
  go_wp2_with fail
  rw [← HW0.out]
  (with_reducible refine HS.out.mono ?_); rintro e w1 ⟨v1, u1, rfl, hb1, hn1, hm1⟩
  clear HS
  rw [HSP.out]
  have HB1 := Lib.hid (HB0.out.step hb1)
  have Fp := Lib.hid (Fp.out.below hb1)
  have BXp := Lib.hid (heap_below BXp.out hb1)
  have N := Lib.hid hn1
  have D0 := Lib.hid hm1
  clear hn1 hm1
  clear hb1
  have hs := HT1.out _ w1 N.out
  have HS := Lib.hid hs; clear hs
  go_wp2_with fail
  (with_reducible refine HS.out.mono ?_); rintro e w2 ⟨rfl, hb2⟩
  clear HS
  have HB2 := Lib.hid (HB1.out.step hb2)
  have Fp := Lib.hid (Fp.out.below hb2)
  have N := Lib.hid (N.out.below hb2)
  have D0 := Lib.hid (D0.out.below hb2)
  have BXp := Lib.hid (heap_below BXp.out hb2)
  clear hb2
  have hs := one_any w2
  have HS := Lib.hid hs; clear hs
  go_wp2_with fail
  (with_reducible refine HS.out.mono ?_); rintro e w3 ⟨v3, rfl, hb3, hn3⟩
  clear HS
  have HB3 := Lib.hid (HB2.out.step hb3)
  have Fp := Lib.hid (Fp.out.below hb3)
  have N := Lib.hid (N.out.below hb3)
  have D0 := Lib.hid (D0.out.below hb3)
  have BXp := Lib.hid (heap_below BXp.out hb3)
  have ONE := Lib.hid hn3; clear hn3
  clear hb3
  have hs := cmpN_ D0.out ONE.out (by omega) (by omega)
  rw [← HC.out] at hs
  have HS := Lib.hid hs; clear hs
  go_wp2_with fail
  (with_reducible refine HS.out.mono ?_); rintro e w4 ⟨rfl, hb4⟩
  clear HS
  have HB4 := Lib.hid (HB3.out.step hb4)
  have Fp := Lib.hid (Fp.out.below hb4)
  have N := Lib.hid (N.out.below hb4)
  have D0 := Lib.hid (D0.out.below hb4)
  have ONE := Lib.hid (ONE.out.below hb4)
  have BXp := Lib.hid (heap_below BXp.out hb4)
  clear hb4
  have hs := HT2.out _ w4 D0.out
  have HS := Lib.hid hs; clear hs
  go_wp2_with fail
  (with_reducible refine HS.out.mono ?_); rintro e w5 ⟨rfl, hb5⟩
  clear HS
  have HB5 := Lib.hid (HB4.out.step hb5)
  have Fp := Lib.hid (Fp.out.below hb5)
  have N := Lib.hid (N.out.below hb5)
  have D0 := Lib.hid (D0.out.below hb5)
  have ONE := Lib.hid (ONE.out.below hb5)
  have BXp := Lib.hid (heap_below BXp.out hb5)
  clear hb5
  go_wp2_with fail
  all_goals first | (go_ret; exact ⟨by first | rfl | (simp; done), HB5.out⟩) | (rename_i h; exact absurd h (by simp; omega))
set_option maxRecDepth 100000 in
set_option maxHeartbeats 3200000 in
theorem text_t1 (vp : Value) (p : Rat) (w : World) (hp : RatIs w vp p) (hs : ng p = true) (hd : p.den = 1) :
    Calls Tryz.prog 62 #[vp] w (RetV w (.string ⟨(rtx p).toArray⟩)) := by
  obtain ⟨sp, op, np, cp, ap, mp, dp, rfl⟩ := hp.shape
  have hlp := hp.rl
  have hb0 := ((Below.refl w.heap.size w).alloc (by first | (simp; done) | (simp; omega)) (.cells #[.bool sp, .slice op np cp, .slice ap mp dp] 24))
  have hxp := nest1_0 w (.cells #[.bool sp, .slice op np cp, .slice ap mp dp] 24)
  have hpp := hp.below hb0
  obtain ⟨w0, hw0⟩ : ∃ w0, w0 = (w.alloc (.cells #[.bool sp, .slice op np cp, .slice ap mp dp] 24)) := ⟨_, rfl⟩
  rw [← hw0] at hb0 hxp hpp
  have HB0 := Lib.hid hb0; have HW0 := Lib.hid hw0
  have BXp := Lib.hid hxp
  have Fp := Lib.hid hpp
  clear hb0 hw0 hxp hpp hp
  have l1 := rl_n p; have l2 := rl_d p
  have hz1 := decB_size (n := nn p) (by omega); have hz2 := decB_size (n := p.den) (by omega)
  have heq : (⟨(rtx p).toArray⟩ : ByteArray) = ⟨#[45]⟩ ++ decB (nn p) := by
    unfold rtx; rw [hs, if_pos hd, decB_decL]; apply ByteArray.ext; simp
  rw [heq]
  have hlo : (wd 1).length ≤ 1 := by rw [wd_one_len]; exact Nat.le_refl _
  obtain ⟨c, hc⟩ : ∃ c, c = cmpN p.den 1 := ⟨_, rfl⟩
  have hc0 : c = 0 := by rw [hc]; exact cmpN_eq hd
  have hcb : (c == 0) = true := by rw [hc0]; rfl
  have HC := Lib.hid hc; have HS := Lib.hid hs; have HSP := Lib.hid hs; clear hc hs heq hd hc0
  have ht1 := fun v wx (h : Num wx v (wd (nn p))) => text_any v _ wx h (by omega)
  rw [val_wd] at ht1
  obtain ⟨B, hB⟩ : ∃ B, B = decB (nn p) := ⟨_, rfl⟩; obtain ⟨D, hD⟩ : ∃ D, D = decB p.den := ⟨_, rfl⟩
  rw [← hB] at ht1 hz1 ⊢
  rw [← hD] at hz2
  have HT1 := Lib.hid ht1; clear ht1 hB hD
  go_enter Tryz.func62, Tryz.ntmps62
  have hs := parts_any _ p w0 Fp.out
  have HS := Lib.hid hs; clear hs
  go_wp2_with fail
  rw [← HW0.out]
  (with_reducible refine HS.out.mono ?_); rintro e w1 ⟨v1, u1, rfl, hb1, hn1, hm1⟩
  clear HS
  rw [HSP.out]
  have HB1 := Lib.hid (HB0.out.step hb1)
  have Fp := Lib.hid (Fp.out.below hb1)
  have BXp := Lib.hid (heap_below BXp.out hb1)
  have N := Lib.hid hn1
  have D0 := Lib.hid hm1
  clear hn1 hm1
  clear hb1
  have hs := HT1.out _ w1 N.out
  have HS := Lib.hid hs; clear hs
  go_wp2_with fail
  (with_reducible refine HS.out.mono ?_); rintro e w2 ⟨rfl, hb2⟩
  clear HS
  have HB2 := Lib.hid (HB1.out.step hb2)
  have Fp := Lib.hid (Fp.out.below hb2)
  have N := Lib.hid (N.out.below hb2)
  have D0 := Lib.hid (D0.out.below hb2)
  have BXp := Lib.hid (heap_below BXp.out hb2)
  clear hb2
  have hs := one_any w2
  have HS := Lib.hid hs; clear hs
  go_wp2_with fail
  (with_reducible refine HS.out.mono ?_); rintro e w3 ⟨v3, rfl, hb3, hn3⟩
  clear HS
  have HB3 := Lib.hid (HB2.out.step hb3)
  have Fp := Lib.hid (Fp.out.below hb3)
  have N := Lib.hid (N.out.below hb3)
  have D0 := Lib.hid (D0.out.below hb3)
  have BXp := Lib.hid (heap_below BXp.out hb3)
  have ONE := Lib.hid hn3; clear hn3
  clear hb3
  have hs := cmpN_ D0.out ONE.out (by omega) (by omega)
  rw [← HC.out] at hs
  have HS := Lib.hid hs; clear hs
  go_wp2_with fail
  (with_reducible refine HS.out.mono ?_); rintro e w4 ⟨rfl, hb4⟩
  clear HS
  have HB4 := Lib.hid (HB3.out.step hb4)
  have Fp := Lib.hid (Fp.out.below hb4)
  have N := Lib.hid (N.out.below hb4)
  have D0 := Lib.hid (D0.out.below hb4)
  have ONE := Lib.hid (ONE.out.below hb4)
  have BXp := Lib.hid (heap_below BXp.out hb4)
  clear hb4
  go_wp2_with fail
  all_goals first | (go_ret; exact ⟨by first | rfl | (simp; done), HB4.out⟩) | (rename_i h; exact absurd h (by simp; omega))
set_option maxRecDepth 100000 in
set_option maxHeartbeats 3200000 in
theorem text_t0 (vp : Value) (p : Rat) (w : World) (hp : RatIs w vp p) (hs : ng p = true) (hd : p.den ≠ 1) :
    Calls Tryz.prog 62 #[vp] w (RetV w (.string ⟨(rtx p).toArray⟩)) := by
  obtain ⟨sp, op, np, cp, ap, mp, dp, rfl⟩ := hp.shape
  have hlp := hp.rl
  have hb0 := ((Below.refl w.heap.size w).alloc (by first | (simp; done) | (simp; omega)) (.cells #[.bool sp, .slice op np cp, .slice ap mp dp] 24))
  have hxp := nest1_0 w (.cells #[.bool sp, .slice op np cp, .slice ap mp dp] 24)
  have hpp := hp.below hb0
  obtain ⟨w0, hw0⟩ : ∃ w0, w0 = (w.alloc (.cells #[.bool sp, .slice op np cp, .slice ap mp dp] 24)) := ⟨_, rfl⟩
  rw [← hw0] at hb0 hxp hpp
  have HB0 := Lib.hid hb0; have HW0 := Lib.hid hw0
  have BXp := Lib.hid hxp
  have Fp := Lib.hid hpp
  clear hb0 hw0 hxp hpp hp
  have l1 := rl_n p; have l2 := rl_d p
  have hz1 := decB_size (n := nn p) (by omega); have hz2 := decB_size (n := p.den) (by omega)
  have heq : (⟨(rtx p).toArray⟩ : ByteArray) = ⟨#[45]⟩ ++ decB (nn p) ++ (⟨#[47]⟩ ++ decB p.den) := by
    unfold rtx; rw [hs, if_neg hd, decB_decL, decB_decL]; apply ByteArray.ext; simp
  rw [heq]
  have hlo : (wd 1).length ≤ 1 := by rw [wd_one_len]; exact Nat.le_refl _
  obtain ⟨c, hc⟩ : ∃ c, c = cmpN p.den 1 := ⟨_, rfl⟩
  have hcb : (c == 0) = false := by rw [hc, beq_eq_false_iff_ne]; exact fun e => hd (cmpN_zero e)
  have HC := Lib.hid hc; have HS := Lib.hid hs; have HSP := Lib.hid hs; clear hc hs heq hd
  have ht1 := fun v wx (h : Num wx v (wd (nn p))) => text_any v _ wx h (by omega)
  rw [val_wd] at ht1
  obtain ⟨B, hB⟩ : ∃ B, B = decB (nn p) := ⟨_, rfl⟩; obtain ⟨D, hD⟩ : ∃ D, D = decB p.den := ⟨_, rfl⟩
  rw [← hB] at ht1 hz1 ⊢
  rw [← hD] at hz2 ⊢
  have ht2 := fun v wx (h : Num wx v (wd p.den)) => text_any v _ wx h (by omega)
  rw [val_wd, ← hD] at ht2
  have HT2 := Lib.hid ht2; clear ht2
  have HT1 := Lib.hid ht1; clear ht1 hB hD
  go_enter Tryz.func62, Tryz.ntmps62
  have hs := parts_any _ p w0 Fp.out
  have HS := Lib.hid hs; clear hs
  go_wp2_with fail
  rw [← HW0.out]
  (with_reducible refine HS.out.mono ?_); rintro e w1 ⟨v1, u1, rfl, hb1, hn1, hm1⟩
  clear HS
  rw [HSP.out]
  have HB1 := Lib.hid (HB0.out.step hb1)
  have Fp := Lib.hid (Fp.out.below hb1)
  have BXp := Lib.hid (heap_below BXp.out hb1)
  have N := Lib.hid hn1
  have D0 := Lib.hid hm1
  clear hn1 hm1
  clear hb1
  have hs := HT1.out _ w1 N.out
  have HS := Lib.hid hs; clear hs
  go_wp2_with fail
  (with_reducible refine HS.out.mono ?_); rintro e w2 ⟨rfl, hb2⟩
  clear HS
  have HB2 := Lib.hid (HB1.out.step hb2)
  have Fp := Lib.hid (Fp.out.below hb2)
  have N := Lib.hid (N.out.below hb2)
  have D0 := Lib.hid (D0.out.below hb2)
  have BXp := Lib.hid (heap_below BXp.out hb2)
  clear hb2
  have hs := one_any w2
  have HS := Lib.hid hs; clear hs
  go_wp2_with fail
  (with_reducible refine HS.out.mono ?_); rintro e w3 ⟨v3, rfl, hb3, hn3⟩
  clear HS
  have HB3 := Lib.hid (HB2.out.step hb3)
  have Fp := Lib.hid (Fp.out.below hb3)
  have N := Lib.hid (N.out.below hb3)
  have D0 := Lib.hid (D0.out.below hb3)
  have BXp := Lib.hid (heap_below BXp.out hb3)
  have ONE := Lib.hid hn3; clear hn3
  clear hb3
  have hs := cmpN_ D0.out ONE.out (by omega) (by omega)
  rw [← HC.out] at hs
  have HS := Lib.hid hs; clear hs
  go_wp2_with fail
  (with_reducible refine HS.out.mono ?_); rintro e w4 ⟨rfl, hb4⟩
  clear HS
  have HB4 := Lib.hid (HB3.out.step hb4)
  have Fp := Lib.hid (Fp.out.below hb4)
  have N := Lib.hid (N.out.below hb4)
  have D0 := Lib.hid (D0.out.below hb4)
  have ONE := Lib.hid (ONE.out.below hb4)
  have BXp := Lib.hid (heap_below BXp.out hb4)
  clear hb4
  have hs := HT2.out _ w4 D0.out
  have HS := Lib.hid hs; clear hs
  go_wp2_with fail
  (with_reducible refine HS.out.mono ?_); rintro e w5 ⟨rfl, hb5⟩
  clear HS
  have HB5 := Lib.hid (HB4.out.step hb5)
  have Fp := Lib.hid (Fp.out.below hb5)
  have N := Lib.hid (N.out.below hb5)
  have D0 := Lib.hid (D0.out.below hb5)
  have ONE := Lib.hid (ONE.out.below hb5)
  have BXp := Lib.hid (heap_below BXp.out hb5)
  clear hb5
  go_wp2_with fail
  all_goals first | (go_ret; exact ⟨by first | rfl | (simp; done), HB5.out⟩) | (rename_i h; exact absurd h (by simp; omega))
theorem textq_any (vp : Value) (p : Rat) (w : World) (hp : RatIs w vp p) : Calls Tryz.prog 62 #[vp] w (RetV w (.string ⟨(rtx p).toArray⟩)) := by
  by_cases h : ng p = true
  · by_cases h2 : p.den = 1
    · exact text_t1 vp p w hp h h2
    · exact text_t0 vp p w hp h h2
  · have h := Bool.eq_false_iff.2 h
    by_cases h2 : p.den = 1
    · exact text_f1 vp p w hp h h2
    · exact text_f0 vp p w hp h h2
set_option maxRecDepth 100000 in
set_option maxHeartbeats 3200000 in
theorem rtext_f1 (vp : Value) (p : Rat) (w : World) (hp : RatIs w vp p) (hs : ng p = false) (hd : p.den = 1) :
    Calls Tryz.prog 63 #[vp] w (RetV w (.string ⟨(rtx p).toArray⟩)) := by
  obtain ⟨sp, op, np, cp, ap, mp, dp, rfl⟩ := hp.shape
  have hlp := hp.rl
  have hb0 := ((Below.refl w.heap.size w).alloc (by first | (simp; done) | (simp; omega)) (.cells #[.bool sp, .slice op np cp, .slice ap mp dp] 24))
  have hxp := nest1_0 w (.cells #[.bool sp, .slice op np cp, .slice ap mp dp] 24)
  have hpp := hp.below hb0
  obtain ⟨w0, hw0⟩ : ∃ w0, w0 = (w.alloc (.cells #[.bool sp, .slice op np cp, .slice ap mp dp] 24)) := ⟨_, rfl⟩
  rw [← hw0] at hb0 hxp hpp
  have HB0 := Lib.hid hb0; have HW0 := Lib.hid hw0
  have BXp := Lib.hid hxp
  have Fp := Lib.hid hpp
  clear hb0 hw0 hxp hpp hp
  have l1 := rl_n p; have l2 := rl_d p
  have hz1 := decB_size (n := nn p) (by omega); have hz2 := decB_size (n := p.den) (by omega)
  have heq : (⟨(rtx p).toArray⟩ : ByteArray) = decB (nn p) := by
    unfold rtx; rw [hs, if_pos hd, decB_decL]; apply ByteArray.ext; simp
  rw [heq]
  have hlo : (wd 1).length ≤ 1 := by rw [wd_one_len]; exact Nat.le_refl _
  obtain ⟨c, hc⟩ : ∃ c, c = cmpN p.den 1 := ⟨_, rfl⟩
  have hc0 : c = 0 := by rw [hc]; exact cmpN_eq hd
  have hcb : (c == 0) = true := by rw [hc0]; rfl
  have HC := Lib.hid hc; have HS := Lib.hid hs; have HSP := Lib.hid hs; clear hc hs heq hd hc0
  have ht1 := fun v wx (h : Num wx v (wd (nn p))) => rtext_any v _ wx h (by omega)
  rw [val_wd] at ht1
  obtain ⟨B, hB⟩ : ∃ B, B = decB (nn p) := ⟨_, rfl⟩; obtain ⟨D, hD⟩ : ∃ D, D = decB p.den := ⟨_, rfl⟩
  rw [← hB] at ht1 hz1 ⊢
  rw [← hD] at hz2
  have HT1 := Lib.hid ht1; clear ht1 hB hD
  go_enter Tryz.func63, Tryz.ntmps63
  have hs := rparts_any _ p w0 Fp.out
  have HS := Lib.hid hs; clear hs
  go_wp2_with fail
  rw [← HW0.out]
  (with_reducible refine HS.out.mono ?_); rintro e w1 ⟨v1, u1, rfl, hb1, hn1, hm1⟩
  clear HS
  rw [HSP.out]
  have HB1 := Lib.hid (HB0.out.step hb1)
  have Fp := Lib.hid (Fp.out.below hb1)
  have BXp := Lib.hid (heap_below BXp.out hb1)
  have N := Lib.hid hn1
  have D0 := Lib.hid hm1
  clear hn1 hm1
  clear hb1
  have hs := HT1.out _ w1 N.out
  have HS := Lib.hid hs; clear hs
  go_wp2_with fail
  (with_reducible refine HS.out.mono ?_); rintro e w2 ⟨rfl, hb2⟩
  clear HS
  have HB2 := Lib.hid (HB1.out.step hb2)
  have Fp := Lib.hid (Fp.out.below hb2)
  have N := Lib.hid (N.out.below hb2)
  have D0 := Lib.hid (D0.out.below hb2)
  have BXp := Lib.hid (heap_below BXp.out hb2)
  clear hb2
  have hb90 : Below w2.heap.size w2 (w2.alloc (.cells #[.int .u32 1] 76)) := (Below.refl _ _).alloc (Nat.le_refl _) _
  have hs := rcmpN_ (D0.out.below hb90) (num_one1 w2) (by omega) (by omega)
  rw [← HC.out] at hs
  have HS := Lib.hid hs; clear hs
  go_wp2_with fail
  (with_reducible refine HS.out.mono ?_); rintro e wx ⟨rfl, rfl⟩
  clear HS
  obtain ⟨w90, hw90⟩ : ∃ w90, w90 = w2.alloc (.cells #[.int .u32 1] 76) := ⟨_, rfl⟩
  rw [← hw90] at hb90 ⊢
  have HB90 := Lib.hid (HB2.out.step hb90)
  have Fp := Lib.hid (Fp.out.below hb90)
  have N := Lib.hid (N.out.below hb90)
  have D0 := Lib.hid (D0.out.below hb90)
  have BXp := Lib.hid (heap_below BXp.out hb90)
  clear hw90 hb90
  go_wp2_with fail
  all_goals first | (go_ret; exact ⟨by first | rfl | (simp; done), HB90.out⟩) | (rename_i h; exact absurd h (by simp; omega))
set_option maxRecDepth 100000 in
set_option maxHeartbeats 3200000 in
theorem rtext_f0 (vp : Value) (p : Rat) (w : World) (hp : RatIs w vp p) (hs : ng p = false) (hd : p.den ≠ 1) :
    Calls Tryz.prog 63 #[vp] w (RetV w (.string ⟨(rtx p).toArray⟩)) := by
  obtain ⟨sp, op, np, cp, ap, mp, dp, rfl⟩ := hp.shape
  have hlp := hp.rl
  have hb0 := ((Below.refl w.heap.size w).alloc (by first | (simp; done) | (simp; omega)) (.cells #[.bool sp, .slice op np cp, .slice ap mp dp] 24))
  have hxp := nest1_0 w (.cells #[.bool sp, .slice op np cp, .slice ap mp dp] 24)
  have hpp := hp.below hb0
  obtain ⟨w0, hw0⟩ : ∃ w0, w0 = (w.alloc (.cells #[.bool sp, .slice op np cp, .slice ap mp dp] 24)) := ⟨_, rfl⟩
  rw [← hw0] at hb0 hxp hpp
  have HB0 := Lib.hid hb0; have HW0 := Lib.hid hw0
  have BXp := Lib.hid hxp
  have Fp := Lib.hid hpp
  clear hb0 hw0 hxp hpp hp
  have l1 := rl_n p; have l2 := rl_d p
  have hz1 := decB_size (n := nn p) (by omega); have hz2 := decB_size (n := p.den) (by omega)
  have heq : (⟨(rtx p).toArray⟩ : ByteArray) = decB (nn p) ++ (⟨#[47]⟩ ++ decB p.den) := by
    unfold rtx; rw [hs, if_neg hd, decB_decL, decB_decL]; apply ByteArray.ext; simp
  rw [heq]
  have hlo : (wd 1).length ≤ 1 := by rw [wd_one_len]; exact Nat.le_refl _
  obtain ⟨c, hc⟩ : ∃ c, c = cmpN p.den 1 := ⟨_, rfl⟩
  have hcb : (c == 0) = false := by rw [hc, beq_eq_false_iff_ne]; exact fun e => hd (cmpN_zero e)
  have HC := Lib.hid hc; have HS := Lib.hid hs; have HSP := Lib.hid hs; clear hc hs heq hd
  have ht1 := fun v wx (h : Num wx v (wd (nn p))) => rtext_any v _ wx h (by omega)
  rw [val_wd] at ht1
  obtain ⟨B, hB⟩ : ∃ B, B = decB (nn p) := ⟨_, rfl⟩; obtain ⟨D, hD⟩ : ∃ D, D = decB p.den := ⟨_, rfl⟩
  rw [← hB] at ht1 hz1 ⊢
  rw [← hD] at hz2 ⊢
  have ht2 := fun v wx (h : Num wx v (wd p.den)) => rtext_any v _ wx h (by omega)
  rw [val_wd, ← hD] at ht2
  have HT2 := Lib.hid ht2; clear ht2
  have HT1 := Lib.hid ht1; clear ht1 hB hD
  go_enter Tryz.func63, Tryz.ntmps63
  have hs := rparts_any _ p w0 Fp.out
  have HS := Lib.hid hs; clear hs
  go_wp2_with fail
  rw [← HW0.out]
  (with_reducible refine HS.out.mono ?_); rintro e w1 ⟨v1, u1, rfl, hb1, hn1, hm1⟩
  clear HS
  rw [HSP.out]
  have HB1 := Lib.hid (HB0.out.step hb1)
  have Fp := Lib.hid (Fp.out.below hb1)
  have BXp := Lib.hid (heap_below BXp.out hb1)
  have N := Lib.hid hn1
  have D0 := Lib.hid hm1
  clear hn1 hm1
  clear hb1
  have hs := HT1.out _ w1 N.out
  have HS := Lib.hid hs; clear hs
  go_wp2_with fail
  (with_reducible refine HS.out.mono ?_); rintro e w2 ⟨rfl, hb2⟩
  clear HS
  have HB2 := Lib.hid (HB1.out.step hb2)
  have Fp := Lib.hid (Fp.out.below hb2)
  have N := Lib.hid (N.out.below hb2)
  have D0 := Lib.hid (D0.out.below hb2)
  have BXp := Lib.hid (heap_below BXp.out hb2)
  clear hb2
  have hb90 : Below w2.heap.size w2 (w2.alloc (.cells #[.int .u32 1] 76)) := (Below.refl _ _).alloc (Nat.le_refl _) _
  have hs := rcmpN_ (D0.out.below hb90) (num_one1 w2) (by omega) (by omega)
  rw [← HC.out] at hs
  have HS := Lib.hid hs; clear hs
  go_wp2_with fail
  (with_reducible refine HS.out.mono ?_); rintro e wx ⟨rfl, rfl⟩
  clear HS
  obtain ⟨w90, hw90⟩ : ∃ w90, w90 = w2.alloc (.cells #[.int .u32 1] 76) := ⟨_, rfl⟩
  rw [← hw90] at hb90 ⊢
  have HB90 := Lib.hid (HB2.out.step hb90)
  have Fp := Lib.hid (Fp.out.below hb90)
  have N := Lib.hid (N.out.below hb90)
  have D0 := Lib.hid (D0.out.below hb90)
  have BXp := Lib.hid (heap_below BXp.out hb90)
  clear hw90 hb90
  have hs := HT2.out _ w90 D0.out
  have HS := Lib.hid hs; clear hs
  go_wp2_with fail
  (with_reducible refine HS.out.mono ?_); rintro e w4 ⟨rfl, hb4⟩
  clear HS
  have HB4 := Lib.hid (HB90.out.step hb4)
  have Fp := Lib.hid (Fp.out.below hb4)
  have N := Lib.hid (N.out.below hb4)
  have D0 := Lib.hid (D0.out.below hb4)
  have BXp := Lib.hid (heap_below BXp.out hb4)
  clear hb4
  go_wp2_with fail
  all_goals first | (go_ret; exact ⟨by first | rfl | (simp; done), HB4.out⟩) | (rename_i h; exact absurd h (by simp; omega))
set_option maxRecDepth 100000 in
set_option maxHeartbeats 3200000 in
theorem rtext_t1 (vp : Value) (p : Rat) (w : World) (hp : RatIs w vp p) (hs : ng p = true) (hd : p.den = 1) :
    Calls Tryz.prog 63 #[vp] w (RetV w (.string ⟨(rtx p).toArray⟩)) := by
  obtain ⟨sp, op, np, cp, ap, mp, dp, rfl⟩ := hp.shape
  have hlp := hp.rl
  have hb0 := ((Below.refl w.heap.size w).alloc (by first | (simp; done) | (simp; omega)) (.cells #[.bool sp, .slice op np cp, .slice ap mp dp] 24))
  have hxp := nest1_0 w (.cells #[.bool sp, .slice op np cp, .slice ap mp dp] 24)
  have hpp := hp.below hb0
  obtain ⟨w0, hw0⟩ : ∃ w0, w0 = (w.alloc (.cells #[.bool sp, .slice op np cp, .slice ap mp dp] 24)) := ⟨_, rfl⟩
  rw [← hw0] at hb0 hxp hpp
  have HB0 := Lib.hid hb0; have HW0 := Lib.hid hw0
  have BXp := Lib.hid hxp
  have Fp := Lib.hid hpp
  clear hb0 hw0 hxp hpp hp
  have l1 := rl_n p; have l2 := rl_d p
  have hz1 := decB_size (n := nn p) (by omega); have hz2 := decB_size (n := p.den) (by omega)
  have heq : (⟨(rtx p).toArray⟩ : ByteArray) = ⟨#[45]⟩ ++ decB (nn p) := by
    unfold rtx; rw [hs, if_pos hd, decB_decL]; apply ByteArray.ext; simp
  rw [heq]
  have hlo : (wd 1).length ≤ 1 := by rw [wd_one_len]; exact Nat.le_refl _
  obtain ⟨c, hc⟩ : ∃ c, c = cmpN p.den 1 := ⟨_, rfl⟩
  have hc0 : c = 0 := by rw [hc]; exact cmpN_eq hd
  have hcb : (c == 0) = true := by rw [hc0]; rfl
  have HC := Lib.hid hc; have HS := Lib.hid hs; have HSP := Lib.hid hs; clear hc hs heq hd hc0
  have ht1 := fun v wx (h : Num wx v (wd (nn p))) => rtext_any v _ wx h (by omega)
  rw [val_wd] at ht1
  obtain ⟨B, hB⟩ : ∃ B, B = decB (nn p) := ⟨_, rfl⟩; obtain ⟨D, hD⟩ : ∃ D, D = decB p.den := ⟨_, rfl⟩
  rw [← hB] at ht1 hz1 ⊢
  rw [← hD] at hz2
  have HT1 := Lib.hid ht1; clear ht1 hB hD
  go_enter Tryz.func63, Tryz.ntmps63
  have hs := rparts_any _ p w0 Fp.out
  have HS := Lib.hid hs; clear hs
  go_wp2_with fail
  rw [← HW0.out]
  (with_reducible refine HS.out.mono ?_); rintro e w1 ⟨v1, u1, rfl, hb1, hn1, hm1⟩
  clear HS
  rw [HSP.out]
  have HB1 := Lib.hid (HB0.out.step hb1)
  have Fp := Lib.hid (Fp.out.below hb1)
  have BXp := Lib.hid (heap_below BXp.out hb1)
  have N := Lib.hid hn1
  have D0 := Lib.hid hm1
  clear hn1 hm1
  clear hb1
  have hs := HT1.out _ w1 N.out
  have HS := Lib.hid hs; clear hs
  go_wp2_with fail
  (with_reducible refine HS.out.mono ?_); rintro e w2 ⟨rfl, hb2⟩
  clear HS
  have HB2 := Lib.hid (HB1.out.step hb2)
  have Fp := Lib.hid (Fp.out.below hb2)
  have N := Lib.hid (N.out.below hb2)
  have D0 := Lib.hid (D0.out.below hb2)
  have BXp := Lib.hid (heap_below BXp.out hb2)
  clear hb2
  have hb90 : Below w2.heap.size w2 (w2.alloc (.cells #[.int .u32 1] 76)) := (Below.refl _ _).alloc (Nat.le_refl _) _
  have hs := rcmpN_ (D0.out.below hb90) (num_one1 w2) (by omega) (by omega)
  rw [← HC.out] at hs
  have HS := Lib.hid hs; clear hs
  go_wp2_with fail
  (with_reducible refine HS.out.mono ?_); rintro e wx ⟨rfl, rfl⟩
  clear HS
  obtain ⟨w90, hw90⟩ : ∃ w90, w90 = w2.alloc (.cells #[.int .u32 1] 76) := ⟨_, rfl⟩
  rw [← hw90] at hb90 ⊢
  have HB90 := Lib.hid (HB2.out.step hb90)
  have Fp := Lib.hid (Fp.out.below hb90)
  have N := Lib.hid (N.out.below hb90)
  have D0 := Lib.hid (D0.out.below hb90)
  have BXp := Lib.hid (heap_below BXp.out hb90)
  clear hw90 hb90
  go_wp2_with fail
  all_goals first | (go_ret; exact ⟨by first | rfl | (simp; done), HB90.out⟩) | (rename_i h; exact absurd h (by simp; omega))
set_option maxRecDepth 100000 in
set_option maxHeartbeats 3200000 in
theorem rtext_t0 (vp : Value) (p : Rat) (w : World) (hp : RatIs w vp p) (hs : ng p = true) (hd : p.den ≠ 1) :
    Calls Tryz.prog 63 #[vp] w (RetV w (.string ⟨(rtx p).toArray⟩)) := by
  obtain ⟨sp, op, np, cp, ap, mp, dp, rfl⟩ := hp.shape
  have hlp := hp.rl
  have hb0 := ((Below.refl w.heap.size w).alloc (by first | (simp; done) | (simp; omega)) (.cells #[.bool sp, .slice op np cp, .slice ap mp dp] 24))
  have hxp := nest1_0 w (.cells #[.bool sp, .slice op np cp, .slice ap mp dp] 24)
  have hpp := hp.below hb0
  obtain ⟨w0, hw0⟩ : ∃ w0, w0 = (w.alloc (.cells #[.bool sp, .slice op np cp, .slice ap mp dp] 24)) := ⟨_, rfl⟩
  rw [← hw0] at hb0 hxp hpp
  have HB0 := Lib.hid hb0; have HW0 := Lib.hid hw0
  have BXp := Lib.hid hxp
  have Fp := Lib.hid hpp
  clear hb0 hw0 hxp hpp hp
  have l1 := rl_n p; have l2 := rl_d p
  have hz1 := decB_size (n := nn p) (by omega); have hz2 := decB_size (n := p.den) (by omega)
  have heq : (⟨(rtx p).toArray⟩ : ByteArray) = ⟨#[45]⟩ ++ decB (nn p) ++ (⟨#[47]⟩ ++ decB p.den) := by
    unfold rtx; rw [hs, if_neg hd, decB_decL, decB_decL]; apply ByteArray.ext; simp
  rw [heq]
  have hlo : (wd 1).length ≤ 1 := by rw [wd_one_len]; exact Nat.le_refl _
  obtain ⟨c, hc⟩ : ∃ c, c = cmpN p.den 1 := ⟨_, rfl⟩
  have hcb : (c == 0) = false := by rw [hc, beq_eq_false_iff_ne]; exact fun e => hd (cmpN_zero e)
  have HC := Lib.hid hc; have HS := Lib.hid hs; have HSP := Lib.hid hs; clear hc hs heq hd
  have ht1 := fun v wx (h : Num wx v (wd (nn p))) => rtext_any v _ wx h (by omega)
  rw [val_wd] at ht1
  obtain ⟨B, hB⟩ : ∃ B, B = decB (nn p) := ⟨_, rfl⟩; obtain ⟨D, hD⟩ : ∃ D, D = decB p.den := ⟨_, rfl⟩
  rw [← hB] at ht1 hz1 ⊢
  rw [← hD] at hz2 ⊢
  have ht2 := fun v wx (h : Num wx v (wd p.den)) => rtext_any v _ wx h (by omega)
  rw [val_wd, ← hD] at ht2
  have HT2 := Lib.hid ht2; clear ht2
  have HT1 := Lib.hid ht1; clear ht1 hB hD
  go_enter Tryz.func63, Tryz.ntmps63
  have hs := rparts_any _ p w0 Fp.out
  have HS := Lib.hid hs; clear hs
  go_wp2_with fail
  rw [← HW0.out]
  (with_reducible refine HS.out.mono ?_); rintro e w1 ⟨v1, u1, rfl, hb1, hn1, hm1⟩
  clear HS
  rw [HSP.out]
  have HB1 := Lib.hid (HB0.out.step hb1)
  have Fp := Lib.hid (Fp.out.below hb1)
  have BXp := Lib.hid (heap_below BXp.out hb1)
  have N := Lib.hid hn1
  have D0 := Lib.hid hm1
  clear hn1 hm1
  clear hb1
  have hs := HT1.out _ w1 N.out
  have HS := Lib.hid hs; clear hs
  go_wp2_with fail
  (with_reducible refine HS.out.mono ?_); rintro e w2 ⟨rfl, hb2⟩
  clear HS
  have HB2 := Lib.hid (HB1.out.step hb2)
  have Fp := Lib.hid (Fp.out.below hb2)
  have N := Lib.hid (N.out.below hb2)
  have D0 := Lib.hid (D0.out.below hb2)
  have BXp := Lib.hid (heap_below BXp.out hb2)
  clear hb2
  have hb90 : Below w2.heap.size w2 (w2.alloc (.cells #[.int .u32 1] 76)) := (Below.refl _ _).alloc (Nat.le_refl _) _
  have hs := rcmpN_ (D0.out.below hb90) (num_one1 w2) (by omega) (by omega)
  rw [← HC.out] at hs
  have HS := Lib.hid hs; clear hs
  go_wp2_with fail
  (with_reducible refine HS.out.mono ?_); rintro e wx ⟨rfl, rfl⟩
  clear HS
  obtain ⟨w90, hw90⟩ : ∃ w90, w90 = w2.alloc (.cells #[.int .u32 1] 76) := ⟨_, rfl⟩
  rw [← hw90] at hb90 ⊢
  have HB90 := Lib.hid (HB2.out.step hb90)
  have Fp := Lib.hid (Fp.out.below hb90)
  have N := Lib.hid (N.out.below hb90)
  have D0 := Lib.hid (D0.out.below hb90)
  have BXp := Lib.hid (heap_below BXp.out hb90)
  clear hw90 hb90
  have hs := HT2.out _ w90 D0.out
  have HS := Lib.hid hs; clear hs
  go_wp2_with fail
  (with_reducible refine HS.out.mono ?_); rintro e w4 ⟨rfl, hb4⟩
  clear HS
  have HB4 := Lib.hid (HB90.out.step hb4)
  have Fp := Lib.hid (Fp.out.below hb4)
  have N := Lib.hid (N.out.below hb4)
  have D0 := Lib.hid (D0.out.below hb4)
  have BXp := Lib.hid (heap_below BXp.out hb4)
  clear hb4
  go_wp2_with fail
  all_goals first | (go_ret; exact ⟨by first | rfl | (simp; done), HB4.out⟩) | (rename_i h; exact absurd h (by simp; omega))
theorem rtextq_any (vp : Value) (p : Rat) (w : World) (hp : RatIs w vp p) : Calls Tryz.prog 63 #[vp] w (RetV w (.string ⟨(rtx p).toArray⟩)) := by
  by_cases h : ng p = true
  · by_cases h2 : p.den = 1
    · exact rtext_t1 vp p w hp h h2
    · exact rtext_t0 vp p w hp h h2
  · have h := Bool.eq_false_iff.2 h
    by_cases h2 : p.den = 1
    · exact rtext_f1 vp p w hp h h2
    · exact rtext_f0 vp p w hp h h2
theorem IsR.fields {w : World} {s : Bool} {x y : Value} {q : Rat} (h : IsR w (.agg #[.bool s, x, y]) q) : s = ng q ∧ Num w x (wd (nn q)) ∧ Num w y (wd (dn q)) := by
  obtain ⟨va, vb, e, h1, h2⟩ := h
  cases e
  exact ⟨rfl, h1, h2⟩
theorem wd_inj {m n : Nat} (h : wd m = wd n) : m = n := by
  have := congrArg val h
  rwa [val_wd, val_wd] at this
set_option maxRecDepth 100000 in
set_option maxHeartbeats 3200000 in
theorem same_rat0 (vp : Value) (p : Rat) (vq : Value) (q : Rat) (w : World) (hp : RatIs w vp p) (hq : RatIs w vq q) (gp : IsR w vp p) (gq : IsR w vq q) (hs : ng p ≠ ng q) :
    Calls Tryz.prog 21 #[vp, vq] w (RetV w (.bool (decide (p = q)))) := by
  obtain ⟨sp, op, np, cp, ap, mp, dp, rfl⟩ := hp.shape
  have hlp := hp.rl
  obtain ⟨sq, oq, nq, cq, aq, mq, dq, rfl⟩ := hq.shape
  have hlq := hq.rl
  obtain ⟨e1, g1, g2⟩ := gp.fields
  obtain ⟨e2, g3, g4⟩ := gq.fields
  have hb0 := (((Below.refl w.heap.size w).alloc (by first | (simp; done) | (simp; omega)) (.cells #[.bool sp, .slice op np cp, .slice ap mp dp] 24)).alloc (by first | (simp; done) | (simp; omega)) (.cells #[.bool sq, .slice oq nq cq, .slice aq mq dq] 24))
  have hxp := nest2_0 w (.cells #[.bool sp, .slice op np cp, .slice ap mp dp] 24) (.cells #[.bool sq, .slice oq nq cq, .slice aq mq dq] 24)
  have hxq := nest2_1 w (.cells #[.bool sp, .slice op np cp, .slice ap mp dp] 24) (.cells #[.bool sq, .slice oq nq cq, .slice aq mq dq] 24)
  have hpp := hp.below hb0
  have hpq := hq.below hb0
  obtain ⟨w0, hw0⟩ : ∃ w0, w0 = ((w.alloc (.cells #[.bool sp, .slice op np cp, .slice ap mp dp] 24)).alloc (.cells #[.bool sq, .slice oq nq cq, .slice aq mq dq] 24)) := ⟨_, rfl⟩
  rw [← hw0] at hb0 hxp hxq hpp hpq
  have HB0 := Lib.hid hb0; have HW0 := Lib.hid hw0
  have BXp := Lib.hid hxp
  have BXq := Lib.hid hxq
  have Fp := Lib.hid hpp
  have Fq := Lib.hid hpq
  clear hb0 hw0 hxp hxq hpp hp hpq hq
  have N := Lib.hid (g1.below HB0.out)
  have D := Lib.hid (g2.below HB0.out)
  have M := Lib.hid (g3.below HB0.out)
  have E := Lib.hid (g4.below HB0.out)
  have l1 := rl_n p; have l2 := dn_len p
  have hd : decide (p = q) = false := decide_eq_false fun e => hs (by rw [e])
  rw [hd]
  have f1 : (sp == sq) = false := by rw [e1, e2, beq_eq_false_iff_ne]; exact hs
  clear hs e1 e2 hd gp gq g1 g2 g3 g4
  go_enter Tryz.func21, Tryz.ntmps21
  go_wp2_with fail
  rw [← HW0.out]
  go_ret
  exact ⟨by first | rfl | (simp; done), HB0.out⟩
set_option maxRecDepth 100000 in
set_option maxHeartbeats 3200000 in
theorem same_rat1 (vp : Value) (p : Rat) (vq : Value) (q : Rat) (w : World) (hp : RatIs w vp p) (hq : RatIs w vq q) (gp : IsR w vp p) (gq : IsR w vq q) (hs : ng p = ng q) (hn : nn p ≠ nn q) :
    Calls Tryz.prog 21 #[vp, vq] w (RetV w (.bool (decide (p = q)))) := by
  obtain ⟨sp, op, np, cp, ap, mp, dp, rfl⟩ := hp.shape
  have hlp := hp.rl
  obtain ⟨sq, oq, nq, cq, aq, mq, dq, rfl⟩ := hq.shape
  have hlq := hq.rl
  obtain ⟨e1, g1, g2⟩ := gp.fields
  obtain ⟨e2, g3, g4⟩ := gq.fields
  have hb0 := (((Below.refl w.heap.size w).alloc (by first | (simp; done) | (simp; omega)) (.cells #[.bool sp, .slice op np cp, .slice ap mp dp] 24)).alloc (by first | (simp; done) | (simp; omega)) (.cells #[.bool sq, .slice oq nq cq, .slice aq mq dq] 24))
  have hxp := nest2_0 w (.cells #[.bool sp, .slice op np cp, .slice ap mp dp] 24) (.cells #[.bool sq, .slice oq nq cq, .slice aq mq dq] 24)
  have hxq := nest2_1 w (.cells #[.bool sp, .slice op np cp, .slice ap mp dp] 24) (.cells #[.bool sq, .slice oq nq cq, .slice aq mq dq] 24)
  have hpp := hp.below hb0
  have hpq := hq.below hb0
  obtain ⟨w0, hw0⟩ : ∃ w0, w0 = ((w.alloc (.cells #[.bool sp, .slice op np cp, .slice ap mp dp] 24)).alloc (.cells #[.bool sq, .slice oq nq cq, .slice aq mq dq] 24)) := ⟨_, rfl⟩
  rw [← hw0] at hb0 hxp hxq hpp hpq
  have HB0 := Lib.hid hb0; have HW0 := Lib.hid hw0
  have BXp := Lib.hid hxp
  have BXq := Lib.hid hxq
  have Fp := Lib.hid hpp
  have Fq := Lib.hid hpq
  clear hb0 hw0 hxp hxq hpp hp hpq hq
  have N := Lib.hid (g1.below HB0.out)
  have D := Lib.hid (g2.below HB0.out)
  have M := Lib.hid (g3.below HB0.out)
  have E := Lib.hid (g4.below HB0.out)
  have l1 := rl_n p; have l2 := dn_len p
  have f1 : (sp == sq) = true := by rw [e1, e2, beq_iff_eq]; exact hs
  have hd : decide (p = q) = false := decide_eq_false fun e => hn (by rw [e])
  rw [hd]
  have hw : decide (wd (nn p) = wd (nn q)) = false := decide_eq_false fun e => hn (wd_inj e)
  have HW := Lib.hid hw; clear hw
  clear hs e1 e2 hd gp gq g1 g2 g3 g4 hn
  go_enter Tryz.func21, Tryz.ntmps21
  have hs := words_any _ _ _ _ w0 N.out M.out (by omega)
  rw [HW.out] at hs
  have HS := Lib.hid hs; clear hs
  go_wp2_with fail
  rw [← HW0.out]
  (with_reducible refine HS.out.mono ?_); rintro e w1 ⟨rfl, hb1⟩
  clear HS
  have HB1 := Lib.hid (HB0.out.step hb1)
  have Fp := Lib.hid (Fp.out.below hb1)
  have Fq := Lib.hid (Fq.out.below hb1)
  have N := Lib.hid (N.out.below hb1)
  have D := Lib.hid (D.out.below hb1)
  have M := Lib.hid (M.out.below hb1)
  have E := Lib.hid (E.out.below hb1)
  have BXp := Lib.hid (heap_below BXp.out hb1)
  have BXq := Lib.hid (heap_below BXq.out hb1)
  clear hb1
  go_wp2_with fail
  go_ret
  exact ⟨by first | rfl | (simp; done), HB1.out⟩
set_option maxRecDepth 100000 in
set_option maxHeartbeats 3200000 in
theorem same_rat2 (vp : Value) (p : Rat) (vq : Value) (q : Rat) (w : World) (hp : RatIs w vp p) (hq : RatIs w vq q) (gp : IsR w vp p) (gq : IsR w vq q) (hs : ng p = ng q) (hn : nn p = nn q) :
    Calls Tryz.prog 21 #[vp, vq] w (RetV w (.bool (decide (p = q)))) := by
  obtain ⟨sp, op, np, cp, ap, mp, dp, rfl⟩ := hp.shape
  have hlp := hp.rl
  obtain ⟨sq, oq, nq, cq, aq, mq, dq, rfl⟩ := hq.shape
  have hlq := hq.rl
  obtain ⟨e1, g1, g2⟩ := gp.fields
  obtain ⟨e2, g3, g4⟩ := gq.fields
  have hb0 := (((Below.refl w.heap.size w).alloc (by first | (simp; done) | (simp; omega)) (.cells #[.bool sp, .slice op np cp, .slice ap mp dp] 24)).alloc (by first | (simp; done) | (simp; omega)) (.cells #[.bool sq, .slice oq nq cq, .slice aq mq dq] 24))
  have hxp := nest2_0 w (.cells #[.bool sp, .slice op np cp, .slice ap mp dp] 24) (.cells #[.bool sq, .slice oq nq cq, .slice aq mq dq] 24)
  have hxq := nest2_1 w (.cells #[.bool sp, .slice op np cp, .slice ap mp dp] 24) (.cells #[.bool sq, .slice oq nq cq, .slice aq mq dq] 24)
  have hpp := hp.below hb0
  have hpq := hq.below hb0
  obtain ⟨w0, hw0⟩ : ∃ w0, w0 = ((w.alloc (.cells #[.bool sp, .slice op np cp, .slice ap mp dp] 24)).alloc (.cells #[.bool sq, .slice oq nq cq, .slice aq mq dq] 24)) := ⟨_, rfl⟩
  rw [← hw0] at hb0 hxp hxq hpp hpq
  have HB0 := Lib.hid hb0; have HW0 := Lib.hid hw0
  have BXp := Lib.hid hxp
  have BXq := Lib.hid hxq
  have Fp := Lib.hid hpp
  have Fq := Lib.hid hpq
  clear hb0 hw0 hxp hxq hpp hp hpq hq
  have N := Lib.hid (g1.below HB0.out)
  have D := Lib.hid (g2.below HB0.out)
  have M := Lib.hid (g3.below HB0.out)
  have E := Lib.hid (g4.below HB0.out)
  have l1 := rl_n p; have l2 := dn_len p
  have f1 : (sp == sq) = true := by rw [e1, e2, beq_iff_eq]; exact hs
  have hw : decide (wd (nn p) = wd (nn q)) = true := decide_eq_true (by rw [hn])
  have HW := Lib.hid hw; clear hw
  have hd : decide (p = q) = decide (wd (dn p) = wd (dn q)) := by rw [decide_eq_decide]; exact ⟨fun e => by rw [e], fun e => ext_fields hs hn (wd_inj e)⟩
  rw [hd]
  obtain ⟨r, hr⟩ : ∃ r, r = decide (wd (dn p) = wd (dn q)) := ⟨_, rfl⟩
  rw [← hr]
  have HR := Lib.hid hr; clear hr
  clear hs e1 e2 hd gp gq g1 g2 g3 g4 hn
  go_enter Tryz.func21, Tryz.ntmps21
  have hs := words_any _ _ _ _ w0 N.out M.out (by omega)
  rw [HW.out] at hs
  have HS := Lib.hid hs; clear hs
  go_wp2_with fail
  rw [← HW0.out]
  (with_reducible refine HS.out.mono ?_); rintro e w1 ⟨rfl, hb1⟩
  clear HS
  have HB1 := Lib.hid (HB0.out.step hb1)
  have Fp := Lib.hid (Fp.out.below hb1)
  have Fq := Lib.hid (Fq.out.below hb1)
  have N := Lib.hid (N.out.below hb1)
  have D := Lib.hid (D.out.below hb1)
  have M := Lib.hid (M.out.below hb1)
  have E := Lib.hid (E.out.below hb1)
  have BXp := Lib.hid (heap_below BXp.out hb1)
  have BXq := Lib.hid (heap_below BXq.out hb1)
  clear hb1
  have hs := words_any _ _ _ _ w1 D.out E.out (by omega)
  rw [← HR.out] at hs
  have HS := Lib.hid hs; clear hs
  obtain ⟨ep0, ep1, ep2⟩ := row3 BXp.out
  obtain ⟨eq0, eq1, eq2⟩ := row3 BXq.out
  go_wp2_with fail
  (with_reducible refine HS.out.mono ?_); rintro e w2 ⟨rfl, hb2⟩
  clear HS
  have HB2 := Lib.hid (HB1.out.step hb2)
  have Fp := Lib.hid (Fp.out.below hb2)
  have Fq := Lib.hid (Fq.out.below hb2)
  have N := Lib.hid (N.out.below hb2)
  have D := Lib.hid (D.out.below hb2)
  have M := Lib.hid (M.out.below hb2)
  have E := Lib.hid (E.out.below hb2)
  have BXp := Lib.hid (heap_below BXp.out hb2)
  have BXq := Lib.hid (heap_below BXq.out hb2)
  clear hb2
  go_wp2_with fail
  go_ret
  exact ⟨by first | rfl | (simp; done), HB2.out⟩
theorem rat_any (vp : Value) (p : Rat) (vq : Value) (q : Rat) (w : World) (hp : IsR w vp p) (hq : IsR w vq q) (lp : rl p ≤ 100000) (lq : rl q ≤ 100000) :
    Calls Tryz.prog 21 #[vp, vq] w (RetV w (.bool (decide (p = q)))) := by
  by_cases h : ng p = ng q
  · by_cases h2 : nn p = nn q
    · exact same_rat2 vp p vq q w (hp.is lp) (hq.is lq) hp hq h h2
    · exact same_rat1 vp p vq q w (hp.is lp) (hq.is lq) hp hq h h2
  · exact same_rat0 vp p vq q w (hp.is lp) (hq.is lq) hp hq h
theorem rat_same (vp : Value) (vq : Value) (q : Rat) (w : World) (hp : IsR w vp q) (hq : IsR w vq q) (lq : rl q ≤ 100000) :
    Calls Tryz.prog 21 #[vp, vq] w (RetV w (.bool true)) := by
  have h := rat_any vp q vq q w hp hq lq lq
  rw [decide_eq_true rfl] at h; exact h
end Go.Proofs.YtaefimegiobkmaaGreatDoor
/-
  faultlinelaw03.large: whether one of some intervals has too many words; faultlinelaw03.same.
  Conditions: each theorem's own.
-/
namespace Go.Proofs.YtaefimegiobkmaaGreatDoor
open Go.RowKit Go.ChangeShapes Go.WideShapes

/-- one of the first n intervals has an end with more than 6 words -/
def bigS (l1 l2 l3 l4 : Nat → Nat) : Nat → Bool
  | 0 => false
  | n + 1 => bigS l1 l2 l3 l4 n || (decide (6 < l1 n) || decide (6 < l2 n) || decide (6 < l3 n) || decide (6 < l4 n))
theorem bigS_mono {l1 l2 l3 l4 : Nat → Nat} {k n : Nat} (h : bigS l1 l2 l3 l4 k = true) (hkn : k ≤ n) : bigS l1 l2 l3 l4 n = true := by
  obtain ⟨d, rfl⟩ : ∃ d, n = k + d := ⟨n - k, by omega⟩
  clear hkn
  induction d with
  | zero => exact h
  | succ d ih => rw [← Nat.add_assoc]; simp only [bigS]; rw [ih, Bool.true_or]
set_option maxRecDepth 100000 in
set_option maxHeartbeats 3200000 in
theorem slarge_any (g n : Nat) (l1 l2 l3 l4 : Nat → Nat) (w : World) (hn : n ≤ 1000000) (hg : g < w.heap.size) (hl : ∀ j, l1 j ≤ 9223372036854775807 ∧ l2 j ≤ 9223372036854775807 ∧ l3 j ≤ 9223372036854775807 ∧ l4 j ≤ 9223372036854775807)
    (hV : ∀ j, j < n → ∃ s a1 c1 a2 c2 t a3 c3 a4 c4, w.cell? ⟨g, j * 6, none⟩ = some (.bool s) ∧ w.cell? ⟨g, j * 6 + 1, none⟩ = some (.slice a1 (l1 j) c1) ∧ w.cell? ⟨g, j * 6 + 2, none⟩ = some (.slice a2 (l2 j) c2) ∧
      w.cell? ⟨g, j * 6 + 3, none⟩ = some (.bool t) ∧ w.cell? ⟨g, j * 6 + 4, none⟩ = some (.slice a3 (l3 j) c3) ∧ w.cell? ⟨g, j * 6 + 5, none⟩ = some (.slice a4 (l4 j) c4)) :
    Calls Tryz.prog 8 #[.slice (some ⟨g, 0, none⟩) n n] w (RetV w (.bool (bigS l1 l2 l3 l4 n))) := by
  have HV := Lib.hid hV; have HL := Lib.hid hl; clear hV hl
  obtain ⟨r, hr⟩ : ∃ r, r = bigS l1 l2 l3 l4 n := ⟨_, rfl⟩
  rw [← hr]
  have HR := Lib.hid hr; clear hr
  go_enter Tryz.func8, Tryz.ntmps8
  go_wp2_with fail
  go_loopw [7] (fun iv wr => ∃ k : Nat, k ≤ n ∧ iv = .int .i64 k ∧ Hid (bigS l1 l2 l3 l4 k = false) ∧ Below w.heap.size w wr) (fun iv _ => n - (intOf iv).toNat)
  case atStart => exact ⟨0, Nat.zero_le _, rfl, Lib.hid rfl, Below.refl _ _⟩
  case round =>
    obtain ⟨k, hk, rfl, hno, hBr⟩ := hrel
    have HBR := Lib.hid hBr; clear hBr
    by_cases hkn : k < n
    · obtain ⟨s, a1, c1, a2, c2, t, a3, c3, a4, c4, h0, h1, h2, h3, h4, h5⟩ := HV.out k hkn
      have hc0 := (HBR.out.cell (p := ⟨g, k * 6, none⟩) hg).trans h0
      have hc1 := (HBR.out.cell (p := ⟨g, k * 6 + 1, none⟩) hg).trans h1
      have hc2 := (HBR.out.cell (p := ⟨g, k * 6 + 2, none⟩) hg).trans h2
      have hc3 := (HBR.out.cell (p := ⟨g, k * 6 + 3, none⟩) hg).trans h3
      have hc4 := (HBR.out.cell (p := ⟨g, k * 6 + 4, none⟩) hg).trans h4
      have hc5 := (HBR.out.cell (p := ⟨g, k * 6 + 5, none⟩) hg).trans h5
      obtain ⟨b1, b2, b3, b4⟩ := HL.out k
      obtain ⟨m1, hm1⟩ : ∃ m, m = l1 k := ⟨_, rfl⟩
      obtain ⟨m2, hm2⟩ : ∃ m, m = l2 k := ⟨_, rfl⟩
      obtain ⟨m3, hm3⟩ : ∃ m, m = l3 k := ⟨_, rfl⟩
      obtain ⟨m4, hm4⟩ : ∃ m, m = l4 k := ⟨_, rfl⟩
      rw [← hm1] at hc1 b1
      rw [← hm2] at hc2 b2
      rw [← hm3] at hc4 b3
      rw [← hm4] at hc5 b4
      clear h0 h1 h2 h3 h4 h5
      have HM1 := Lib.hid hm1; have HM2 := Lib.hid hm2; have HM3 := Lib.hid hm3; have HM4 := Lib.hid hm4; clear hm1 hm2 hm3 hm4
      have hal : Below w.heap.size w (wr.alloc (.cells #[.bool s, .slice a1 m1 c1, .slice a2 m2 c2, .bool t, .slice a3 m3 c3, .slice a4 m4 c4] 26)) := HBR.out.alloc HBR.out.size _
      have HAL := Lib.hid hal; clear hal
      by_cases hb : 6 < m1 ∨ 6 < m2 ∨ 6 < m3 ∨ 6 < m4
      · have hv : r = true := by
          rw [HR.out]
          refine bigS_mono (k := k + 1) ?_ hkn
          simp only [bigS]; rw [← HM1.out, ← HM2.out, ← HM3.out, ← HM4.out]
          rcases hb with h | h | h | h <;> simp [h]
        have HVV := Lib.hid hv; clear hv
        by_cases h1 : 6 < m1
        · have f1 : decide ((6 : Int) < (m1 : Int)) = true := decide_eq_true (by omega)
          clear hb h1
          go_wp2_with fail
          go_ret
          exact ⟨by rw [HVV.out]; rfl, HAL.out⟩
        by_cases h2 : 6 < m2
        · have f1 : decide ((6 : Int) < (m1 : Int)) = false := decide_eq_false (by omega)
          have f2 : decide ((6 : Int) < (m2 : Int)) = true := decide_eq_true (by omega)
          clear hb h1 h2
          go_wp2_with fail
          go_ret
          exact ⟨by rw [HVV.out]; rfl, HAL.out⟩
        by_cases h3 : 6 < m3
        · have f1 : decide ((6 : Int) < (m1 : Int)) = false := decide_eq_false (by omega)
          have f2 : decide ((6 : Int) < (m2 : Int)) = false := decide_eq_false (by omega)
          have f3 : decide ((6 : Int) < (m3 : Int)) = true := decide_eq_true (by omega)
          clear hb h1 h2 h3
          go_wp2_with fail
          go_ret
          exact ⟨by rw [HVV.out]; rfl, HAL.out⟩
        have h4 : 6 < m4 := by omega
        have f1 : decide ((6 : Int) < (m1 : Int)) = false := decide_eq_false (by omega)
        have f2 : decide ((6 : Int) < (m2 : Int)) = false := decide_eq_false (by omega)
        have f3 : decide ((6 : Int) < (m3 : Int)) = false := decide_eq_false (by omega)
        have f4 : decide ((6 : Int) < (m4 : Int)) = true := decide_eq_true (by omega)
        clear hb h1 h2 h3 h4
        go_wp2_with fail
        go_ret
        exact ⟨by rw [HVV.out]; rfl, HAL.out⟩
      · have f1 : decide ((6 : Int) < (m1 : Int)) = false := decide_eq_false (by omega)
        have f2 : decide ((6 : Int) < (m2 : Int)) = false := decide_eq_false (by omega)
        have f3 : decide ((6 : Int) < (m3 : Int)) = false := decide_eq_false (by omega)
        have f4 : decide ((6 : Int) < (m4 : Int)) = false := decide_eq_false (by omega)
        have hno2 : bigS l1 l2 l3 l4 (k + 1) = false := by
          simp only [bigS]; rw [hno.out, ← HM1.out, ← HM2.out, ← HM3.out, ← HM4.out, decide_eq_false (by omega), decide_eq_false (by omega), decide_eq_false (by omega), decide_eq_false (by omega)]; rfl
        have HNO := Lib.hid hno2; clear hno2 hb
        go_wp2_with fail
        go_roundw
        case rel => exact ⟨k + 1, by omega, by go_num, HNO, HAL.out⟩
        case measure => simp [intOf]; omega
    · obtain rfl : k = n := by omega
      have hv : r = false := by rw [HR.out]; exact hno.out
      have HVV := Lib.hid hv; clear hv
      go_wp2_with fail
      go_ret
      exact ⟨by rw [HVV.out]; rfl, HBR.out⟩
/-- an interval's shape -/
def SpSz (v : Value) (n1 n2 n3 n4 : Nat) : Prop := ∃ s o1 c1 o2 c2 t o3 c3 o4 c4, v = .agg #[.bool s, .slice o1 n1 c1, .slice o2 n2 c2, .bool t, .slice o3 n3 c3, .slice o4 n4 c4] ∧ n1 ≤ 9223372036854775807 ∧ n2 ≤ 9223372036854775807 ∧ n3 ≤ 9223372036854775807 ∧ n4 ≤ 9223372036854775807
def szS : Value → Nat × Nat × Nat × Nat
  | .agg #[_, .slice _ n1 _, .slice _ n2 _, _, .slice _ n3 _, .slice _ n4 _] => (n1, n2, n3, n4)
  | _ => (0, 0, 0, 0)
theorem SpV.sz {w : World} {v : Value} {s t : Bool} {a b c d : List Nat} (h : SpV w v s a b t c d) : SpSz v a.length b.length c.length d.length ∧ szS v = (a.length, b.length, c.length, d.length) := by
  obtain ⟨x0, x1, x2, x3, x4, x5, rfl, ⟨va, vb, e1, h1, h2⟩, ⟨vc, vd, e2, h3, h4⟩⟩ := h
  have e1' : x0 = .bool s ∧ x1 = va ∧ x2 = vb := by simpa using e1
  have e2' : x3 = .bool t ∧ x4 = vc ∧ x5 = vd := by simpa using e2
  obtain ⟨rfl, rfl, rfl⟩ := e1'
  obtain ⟨rfl, rfl, rfl⟩ := e2'
  obtain ⟨o1, c1, rfl, k1, l1, _⟩ := h1.shape
  obtain ⟨o2, c2, rfl, k2, l2, _⟩ := h2.shape
  obtain ⟨o3, c3, rfl, k3, l3, _⟩ := h3.shape
  obtain ⟨o4, c4, rfl, k4, l4, _⟩ := h4.shape
  exact ⟨⟨s, o1, c1, o2, c2, t, o3, c3, o4, c4, rfl, by omega, by omega, by omega, by omega⟩, rfl⟩
/-- a fraction's shape -/
def RatSzq (v : Value) (n m : Nat) : Prop := ∃ s o c a d, v = .agg #[.bool s, .slice o n c, .slice a m d] ∧ n ≤ 9223372036854775807 ∧ m ≤ 9223372036854775807
def szq : Value → Nat × Nat
  | .agg #[_, .slice _ n _, .slice _ m _] => (n, m)
  | _ => (0, 0)
theorem RatV.szq {w : World} {v : Value} {s : Bool} {a b : List Nat} (h : RatV w v s a b) : RatSzq v a.length b.length ∧ Go.Proofs.YtaefimegiobkmaaGreatDoor.szq v = (a.length, b.length) := by
  obtain ⟨va, vb, rfl, h1, h2⟩ := h
  obtain ⟨ao, c, rfl, k1, k2, _⟩ := h1.shape
  obtain ⟨bo, d, rfl, k3, k4, _⟩ := h2.shape
  exact ⟨⟨s, ao, c, bo, d, rfl, by omega, by omega⟩, rfl⟩
theorem RatV.shapeq {w : World} {v : Value} {s₀ : Bool} {a₀ b₀ : List Nat} (h : RatV w v s₀ a₀ b₀) : ∃ s ao n c bo m d, v = .agg #[.bool s, .slice ao n c, .slice bo m d] := by
  obtain ⟨va, vb, rfl, h1, h2⟩ := h
  obtain ⟨ao, c, rfl, k1, k2, _⟩ := h1.shape
  obtain ⟨bo, d, rfl, k3, k4, _⟩ := h2.shape
  exact ⟨_, _, _, _, _, _, _, rfl⟩
theorem slarge1s {s0 t0 : Bool} {o0 a0 o0x a0x : Option Addr} {n0 c0 m0 d0 n0x c0x m0x d0x : Nat} {g : Nat} {w : World} {T : TypeId} (h : w.heap[g]? = some (.cells #[.bool s0, .slice o0 n0 c0, .slice a0 m0 d0, .bool t0, .slice o0x n0x c0x, .slice a0x m0x d0x] T)) (k0 : n0 ≤ 6 ∧ m0 ≤ 6 ∧ n0x ≤ 6 ∧ m0x ≤ 6) :
    Calls Tryz.prog 8 #[.slice (some ⟨g, 0, none⟩) 1 1] w (RetV w (.bool false)) := by
  have hk := slarge_any g 1 (fun j => n0) (fun j => m0) (fun j => n0x) (fun j => m0x) w (by decide) (Array.getElem?_eq_some_iff.1 h).1 (fun j => by (repeat' split) <;> omega) (fun j hj => by
    rw [cell_of_row w g _ _ T (0, 0) h, cell_of_row w g _ _ T (0, 0) h, cell_of_row w g _ _ T (0, 0) h, cell_of_row w g _ _ T (0, 0) h, cell_of_row w g _ _ T (0, 0) h, cell_of_row w g _ _ T (0, 0) h]
    match j, hj with
    | 0, _ => exact ⟨_, _, _, _, _, _, _, _, _, _, rfl, rfl, rfl, rfl, rfl, rfl⟩)
  have hr : bigS (fun j => n0) (fun j => m0) (fun j => n0x) (fun j => m0x) 1 = false := by
    simp [bigS]; omega
  rw [hr] at hk; exact hk
theorem slarge1b {s0 t0 : Bool} {o0 a0 o0x a0x : Option Addr} {n0 c0 m0 d0 n0x c0x m0x d0x : Nat} {g : Nat} {w : World} {T : TypeId} (h : w.heap[g]? = some (.cells #[.bool s0, .slice o0 n0 c0, .slice a0 m0 d0, .bool t0, .slice o0x n0x c0x, .slice a0x m0x d0x] T)) (k0 : n0 ≤ 9223372036854775807 ∧ m0 ≤ 9223372036854775807 ∧ n0x ≤ 9223372036854775807 ∧ m0x ≤ 9223372036854775807) (hb : 6 < n0 ∨ 6 < m0 ∨ 6 < n0x ∨ 6 < m0x) :
    Calls Tryz.prog 8 #[.slice (some ⟨g, 0, none⟩) 1 1] w (RetV w (.bool true)) := by
  have hk := slarge_any g 1 (fun j => n0) (fun j => m0) (fun j => n0x) (fun j => m0x) w (by decide) (Array.getElem?_eq_some_iff.1 h).1 (fun j => by (repeat' split) <;> omega) (fun j hj => by
    rw [cell_of_row w g _ _ T (0, 0) h, cell_of_row w g _ _ T (0, 0) h, cell_of_row w g _ _ T (0, 0) h, cell_of_row w g _ _ T (0, 0) h, cell_of_row w g _ _ T (0, 0) h, cell_of_row w g _ _ T (0, 0) h]
    match j, hj with
    | 0, _ => exact ⟨_, _, _, _, _, _, _, _, _, _, rfl, rfl, rfl, rfl, rfl, rfl⟩)
  have hr : bigS (fun j => n0) (fun j => m0) (fun j => n0x) (fun j => m0x) 1 = true := by
    simp [bigS]; omega
  rw [hr] at hk; exact hk
theorem slarge2s {s0 t0 : Bool} {o0 a0 o0x a0x : Option Addr} {n0 c0 m0 d0 n0x c0x m0x d0x : Nat} {s1 t1 : Bool} {o1 a1 o1x a1x : Option Addr} {n1 c1 m1 d1 n1x c1x m1x d1x : Nat} {g : Nat} {w : World} {T : TypeId} (h : w.heap[g]? = some (.cells #[.bool s0, .slice o0 n0 c0, .slice a0 m0 d0, .bool t0, .slice o0x n0x c0x, .slice a0x m0x d0x, .bool s1, .slice o1 n1 c1, .slice a1 m1 d1, .bool t1, .slice o1x n1x c1x, .slice a1x m1x d1x] T)) (k0 : n0 ≤ 6 ∧ m0 ≤ 6 ∧ n0x ≤ 6 ∧ m0x ≤ 6) (k1 : n1 ≤ 6 ∧ m1 ≤ 6 ∧ n1x ≤ 6 ∧ m1x ≤ 6) :
    Calls Tryz.prog 8 #[.slice (some ⟨g, 0, none⟩) 2 2] w (RetV w (.bool false)) := by
  have hk := slarge_any g 2 (fun j => if j = 0 then n0 else n1) (fun j => if j = 0 then m0 else m1) (fun j => if j = 0 then n0x else n1x) (fun j => if j = 0 then m0x else m1x) w (by decide) (Array.getElem?_eq_some_iff.1 h).1 (fun j => by show (if j = 0 then _ else _) ≤ _ ∧ (if j = 0 then _ else _) ≤ _ ∧ (if j = 0 then _ else _) ≤ _ ∧ (if j = 0 then _ else _) ≤ _; (repeat' split) <;> omega) (fun j hj => by
    rw [cell_of_row w g _ _ T (0, 0) h, cell_of_row w g _ _ T (0, 0) h, cell_of_row w g _ _ T (0, 0) h, cell_of_row w g _ _ T (0, 0) h, cell_of_row w g _ _ T (0, 0) h, cell_of_row w g _ _ T (0, 0) h]
    match j, hj with
    | 0, _ => exact ⟨_, _, _, _, _, _, _, _, _, _, rfl, rfl, rfl, rfl, rfl, rfl⟩
    | 1, _ => exact ⟨_, _, _, _, _, _, _, _, _, _, rfl, rfl, rfl, rfl, rfl, rfl⟩)
  have hr : bigS (fun j => if j = 0 then n0 else n1) (fun j => if j = 0 then m0 else m1) (fun j => if j = 0 then n0x else n1x) (fun j => if j = 0 then m0x else m1x) 2 = false := by
    simp [bigS]; omega
  rw [hr] at hk; exact hk
theorem slarge2b {s0 t0 : Bool} {o0 a0 o0x a0x : Option Addr} {n0 c0 m0 d0 n0x c0x m0x d0x : Nat} {s1 t1 : Bool} {o1 a1 o1x a1x : Option Addr} {n1 c1 m1 d1 n1x c1x m1x d1x : Nat} {g : Nat} {w : World} {T : TypeId} (h : w.heap[g]? = some (.cells #[.bool s0, .slice o0 n0 c0, .slice a0 m0 d0, .bool t0, .slice o0x n0x c0x, .slice a0x m0x d0x, .bool s1, .slice o1 n1 c1, .slice a1 m1 d1, .bool t1, .slice o1x n1x c1x, .slice a1x m1x d1x] T)) (k0 : n0 ≤ 9223372036854775807 ∧ m0 ≤ 9223372036854775807 ∧ n0x ≤ 9223372036854775807 ∧ m0x ≤ 9223372036854775807) (k1 : n1 ≤ 9223372036854775807 ∧ m1 ≤ 9223372036854775807 ∧ n1x ≤ 9223372036854775807 ∧ m1x ≤ 9223372036854775807) (hb : 6 < n0 ∨ 6 < m0 ∨ 6 < n0x ∨ 6 < m0x ∨ 6 < n1 ∨ 6 < m1 ∨ 6 < n1x ∨ 6 < m1x) :
    Calls Tryz.prog 8 #[.slice (some ⟨g, 0, none⟩) 2 2] w (RetV w (.bool true)) := by
  have hk := slarge_any g 2 (fun j => if j = 0 then n0 else n1) (fun j => if j = 0 then m0 else m1) (fun j => if j = 0 then n0x else n1x) (fun j => if j = 0 then m0x else m1x) w (by decide) (Array.getElem?_eq_some_iff.1 h).1 (fun j => by show (if j = 0 then _ else _) ≤ _ ∧ (if j = 0 then _ else _) ≤ _ ∧ (if j = 0 then _ else _) ≤ _ ∧ (if j = 0 then _ else _) ≤ _; (repeat' split) <;> omega) (fun j hj => by
    rw [cell_of_row w g _ _ T (0, 0) h, cell_of_row w g _ _ T (0, 0) h, cell_of_row w g _ _ T (0, 0) h, cell_of_row w g _ _ T (0, 0) h, cell_of_row w g _ _ T (0, 0) h, cell_of_row w g _ _ T (0, 0) h]
    match j, hj with
    | 0, _ => exact ⟨_, _, _, _, _, _, _, _, _, _, rfl, rfl, rfl, rfl, rfl, rfl⟩
    | 1, _ => exact ⟨_, _, _, _, _, _, _, _, _, _, rfl, rfl, rfl, rfl, rfl, rfl⟩)
  have hr : bigS (fun j => if j = 0 then n0 else n1) (fun j => if j = 0 then m0 else m1) (fun j => if j = 0 then n0x else n1x) (fun j => if j = 0 then m0x else m1x) 2 = true := by
    simp [bigS]; omega
  rw [hr] at hk; exact hk
end Go.Proofs.YtaefimegiobkmaaGreatDoor
/-
  faultlinelaw03.same: intervals with the same ends have the same fields.
  Conditions: each theorem's own.
-/
namespace Go.Proofs.YtaefimegiobkmaaGreatDoor
open Go.RowKit Go.ChangeShapes Go.WideShapes

set_option maxRecDepth 100000 in
set_option maxHeartbeats 3200000 in
theorem spsame_any (va : Value) (a : Rat × Rat) (vb : Value) (w : World) (ha : IsSp w va a) (hb : IsSp w vb a) (la1 : rl a.1 ≤ 39000) (la2 : rl a.2 ≤ 39000) :
    Calls Tryz.prog 11 #[va, vb] w (RetV w (.bool true)) := by
  have HBW := Lib.hid (Below.refl w.heap.size w)
  have kz0 : rl 0 ≤ 1 := by rw [rl_zero]; exact Nat.le_refl _
  obtain ⟨qa, oa, na, ka, pa, ma, ra, qax, oax, nax, kax, pax, max, rax, rfl⟩ := ha.shape
  obtain ⟨qb, ob, nb, kb, pb, mb, rb, qbx, obx, nbx, kbx, pbx, mbx, rbx, rfl⟩ := hb.shape
  have Fa := Lib.hid ha; clear ha
  have Fal := Lib.hid (isSp_ends Fa.out).1; have Fah := Lib.hid (isSp_ends Fa.out).2
  have Fb := Lib.hid hb; clear hb
  have Fbl := Lib.hid (isSp_ends Fb.out).1; have Fbh := Lib.hid (isSp_ends Fb.out).2
  obtain ⟨w1, hw1⟩ : ∃ w1, w1 = w.alloc (.cells #[.bool qa, .slice oa na ka, .slice pa ma ra, .bool qax, .slice oax nax kax, .slice pax max rax] 26) := ⟨_, rfl⟩
  have hb1 : Below w.heap.size w w1 := by rw [hw1]; exact (Below.refl _ _).alloc (Nat.le_refl _) _
  have hx1 := heap_alloc_new w (.cells #[.bool qa, .slice oa na ka, .slice pa ma ra, .bool qax, .slice oax nax kax, .slice pax max rax] 26)
  obtain ⟨g1, hg1⟩ : ∃ g, g = w.heap.size := ⟨_, rfl⟩
  rw [← hw1, ← hg1] at hx1
  have lw1 : w.heap.size ≤ g1 := by rw [hg1]; exact HBW.out.size
  have HW1 := Lib.hid hw1; have HG1 := Lib.hid hg1; clear hw1 hg1
  have HB1 := Lib.hid (HBW.out.step hb1)
  have Fa := Lib.hid (Fa.out.below hb1)
  have Fal := Lib.hid (Fal.out.below hb1)
  have Fah := Lib.hid (Fah.out.below hb1)
  have Fb := Lib.hid (Fb.out.below hb1)
  have Fbl := Lib.hid (Fbl.out.below hb1)
  have Fbh := Lib.hid (Fbh.out.below hb1)
  have BX1 := Lib.hid hx1; clear hb1 hx1
  obtain ⟨w2, hw2⟩ : ∃ w2, w2 = w1.alloc (.cells #[.bool qb, .slice ob nb kb, .slice pb mb rb, .bool qbx, .slice obx nbx kbx, .slice pbx mbx rbx] 26) := ⟨_, rfl⟩
  have hb2 : Below w1.heap.size w1 w2 := by rw [hw2]; exact (Below.refl _ _).alloc (Nat.le_refl _) _
  have hx2 := heap_alloc_new w1 (.cells #[.bool qb, .slice ob nb kb, .slice pb mb rb, .bool qbx, .slice obx nbx kbx, .slice pbx mbx rbx] 26)
  obtain ⟨g2, hg2⟩ : ∃ g, g = w1.heap.size := ⟨_, rfl⟩
  rw [← hw2, ← hg2] at hx2
  have lw2 : w.heap.size ≤ g2 := by rw [hg2]; exact HB1.out.size
  have ltBX12 : g1 < g2 := by rw [hg2]; exact below_lt BX1.out
  have hs2 : g2 = w.heap.size + 1 := by rw [hg2, HW1.out]; simp
  have HS2 := Lib.hid hs2; clear hs2
  have HW2 := Lib.hid hw2; have HG2 := Lib.hid hg2; clear hw2 hg2
  have HB2 := Lib.hid (HB1.out.step hb2)
  have Fa := Lib.hid (Fa.out.below hb2)
  have Fal := Lib.hid (Fal.out.below hb2)
  have Fah := Lib.hid (Fah.out.below hb2)
  have Fb := Lib.hid (Fb.out.below hb2)
  have Fbl := Lib.hid (Fbl.out.below hb2)
  have Fbh := Lib.hid (Fbh.out.below hb2)
  have BX1 := Lib.hid (heap_below BX1.out hb2)
  have BX2 := Lib.hid hx2; clear hb2 hx2
  go_enter Tryz.func11, Tryz.ntmps11
  obtain ⟨x1_0, x1_1, x1_2, x1_3, x1_4, x1_5⟩ := row6 BX1.out
  obtain ⟨x2_0, x2_1, x2_2, x2_3, x2_4, x2_5⟩ := row6 BX2.out
  have hs := rat_same _ _ (a.1) w2 Fal.out Fbl.out (by omega)
  have HS := Lib.hid hs; clear hs
  try rw [HW2.out] at x1_0
  try rw [HG2.out] at x1_0
  try rw [HW1.out] at x1_0
  try rw [HG1.out] at x1_0
  try rw [HW2.out] at x1_1
  try rw [HG2.out] at x1_1
  try rw [HW1.out] at x1_1
  try rw [HG1.out] at x1_1
  try rw [HW2.out] at x1_2
  try rw [HG2.out] at x1_2
  try rw [HW1.out] at x1_2
  try rw [HG1.out] at x1_2
  try rw [HW2.out] at x1_3
  try rw [HG2.out] at x1_3
  try rw [HW1.out] at x1_3
  try rw [HG1.out] at x1_3
  try rw [HW2.out] at x1_4
  try rw [HG2.out] at x1_4
  try rw [HW1.out] at x1_4
  try rw [HG1.out] at x1_4
  try rw [HW2.out] at x1_5
  try rw [HG2.out] at x1_5
  try rw [HW1.out] at x1_5
  try rw [HG1.out] at x1_5
  try rw [HW2.out] at x2_0
  try rw [HG2.out] at x2_0
  try rw [HW1.out] at x2_0
  try rw [HG1.out] at x2_0
  try rw [HW2.out] at x2_1
  try rw [HG2.out] at x2_1
  try rw [HW1.out] at x2_1
  try rw [HG1.out] at x2_1
  try rw [HW2.out] at x2_2
  try rw [HG2.out] at x2_2
  try rw [HW1.out] at x2_2
  try rw [HG1.out] at x2_2
  try rw [HW2.out] at x2_3
  try rw [HG2.out] at x2_3
  try rw [HW1.out] at x2_3
  try rw [HG1.out] at x2_3
  try rw [HW2.out] at x2_4
  try rw [HG2.out] at x2_4
  try rw [HW1.out] at x2_4
  try rw [HG1.out] at x2_4
  try rw [HW2.out] at x2_5
  try rw [HG2.out] at x2_5
  try rw [HW1.out] at x2_5
  try rw [HG1.out] at x2_5
  go_wp2_with (with_reducible first | refine pauseCall ?_ | refine pauseLoop ?_ | refine pauseDraw ?_ | refine pauseBody ?_ | refine pauseRounds ?_)
  try rw [← HW1.out]
  try rw [← HW2.out]
  try rw [← HS2.out]
  try rw [← HG1.out]
  try rw [← HG2.out]
  clear x1_0 x1_1 x1_2 x1_3 x1_4 x1_5 x2_0 x2_1 x2_2 x2_3 x2_4 x2_5
  refine Pause.mk ?_
  (with_reducible refine HS.out.mono ?_); rintro e w3 ⟨rfl, hb3⟩
  clear HS
  have HB3 := Lib.hid (HB2.out.step hb3)
  have Fa := Lib.hid (Fa.out.below hb3)
  have Fal := Lib.hid (Fal.out.below hb3)
  have Fah := Lib.hid (Fah.out.below hb3)
  have Fb := Lib.hid (Fb.out.below hb3)
  have Fbl := Lib.hid (Fbl.out.below hb3)
  have Fbh := Lib.hid (Fbh.out.below hb3)
  have BX1 := Lib.hid (heap_below BX1.out hb3)
  have BX2 := Lib.hid (heap_below BX2.out hb3)
  clear hb3
  obtain ⟨x3_0, x3_1, x3_2, x3_3, x3_4, x3_5⟩ := row6 BX1.out
  obtain ⟨x4_0, x4_1, x4_2, x4_3, x4_4, x4_5⟩ := row6 BX2.out
  have hs := rat_same _ _ (a.2) w3 Fah.out Fbh.out (by omega)
  have HS := Lib.hid hs; clear hs
  go_wp2_with (with_reducible first | refine pauseCall ?_ | refine pauseLoop ?_ | refine pauseDraw ?_ | refine pauseBody ?_ | refine pauseRounds ?_)
  clear x3_0 x3_1 x3_2 x3_3 x3_4 x3_5 x4_0 x4_1 x4_2 x4_3 x4_4 x4_5
  refine Pause.mk ?_
  (with_reducible refine HS.out.mono ?_); rintro e w4 ⟨rfl, hb4⟩
  clear HS
  have HB4 := Lib.hid (HB3.out.step hb4)
  have Fa := Lib.hid (Fa.out.below hb4)
  have Fal := Lib.hid (Fal.out.below hb4)
  have Fah := Lib.hid (Fah.out.below hb4)
  have Fb := Lib.hid (Fb.out.below hb4)
  have Fbl := Lib.hid (Fbl.out.below hb4)
  have Fbh := Lib.hid (Fbh.out.below hb4)
  have BX1 := Lib.hid (heap_below BX1.out hb4)
  have BX2 := Lib.hid (heap_below BX2.out hb4)
  clear hb4
  go_wp2_with (with_reducible first | refine pauseCall ?_ | refine pauseLoop ?_ | refine pauseDraw ?_ | refine pauseBody ?_ | refine pauseRounds ?_)
  refine Pause.mk ?_
  go_ret
  exact ⟨by first | rfl | (simp; done), HB4.out⟩
end Go.Proofs.YtaefimegiobkmaaGreatDoor
/-
  The texts of intervals.
  Conditions: each theorem's own.
-/
namespace Go.Proofs.YtaefimegiobkmaaGreatDoor
open Go.RowKit Go.ChangeShapes Go.WideShapes

/-- the text of an interval -/
def stx (a : Rat × Rat) : List UInt8 := rtx a.1 ++ [46, 46] ++ rtx a.2
theorem rtx_len2 {q : Rat} {k : Nat} (h : rl q ≤ k) (hk : 0 < k) : (rtx q).length ≤ 20 * k + 2 := by
  unfold rtx
  have h1 := decL_words (Nat.le_trans (rl_n q) h) hk
  have h2 := decL_words (Nat.le_trans (rl_d q) h) hk
  rw [List.length_append, List.length_append]
  have e1 : (if ng q = true then [(45 : UInt8)] else []).length ≤ 1 := by split <;> simp
  have e2 : (if q.den = 1 then [] else (47 : UInt8) :: decL q.den).length ≤ 1 + (decL q.den).length := by split <;> simp; omega
  omega
set_option maxRecDepth 100000 in
set_option maxHeartbeats 3200000 in
theorem stext_any (va : Value) (a : Rat × Rat) (w : World) (ha : SpIs w va a) (la1 : rl a.1 ≤ 39000) (la2 : rl a.2 ≤ 39000) :
    Calls Tryz.prog 24 #[va] w (RetV w (.string ⟨(stx a).toArray⟩)) := by
  have HBW := Lib.hid (Below.refl w.heap.size w)
  have kz0 : rl 0 ≤ 1 := by rw [rl_zero]; exact Nat.le_refl _
  obtain ⟨qa, oa, na, ka, pa, ma, ra, qax, oax, nax, kax, pax, max, rax, rfl⟩ := ha.shape
  have hla := ha.rl; have hoa := ha.ok; obtain ⟨hlaa, hlab⟩ := hla
  have hoa := Lib.hid hoa
  obtain ⟨B1, hB1⟩ : ∃ B, B = (⟨(rtx ((a).1)).toArray⟩ : ByteArray) := ⟨_, rfl⟩
  obtain ⟨B2, hB2⟩ : ∃ B, B = (⟨(rtx ((a).2)).toArray⟩ : ByteArray) := ⟨_, rfl⟩
  have z1 : B1.size ≤ 1000000 := by rw [hB1]; have := rtx_len2 la1 (by decide); simp [ByteArray.size]; omega
  have z2 : B2.size ≤ 1000000 := by rw [hB2]; have := rtx_len2 la2 (by decide); simp [ByteArray.size]; omega
  rw [show (⟨(stx a).toArray⟩ : ByteArray) = B1 ++ ⟨#[46, 46]⟩ ++ B2 from by rw [hB1, hB2]; unfold stx; apply ByteArray.ext; simp]
  have z3 : (B1 ++ ⟨#[46, 46]⟩).size ≤ 1000002 := by rw [ByteArray.size_append]; exact Nat.add_le_add z1 (Nat.le_refl 2)
  have z4 : (⟨#[46, 46]⟩ : ByteArray).size = 2 := rfl
  have HT1 := Lib.hid hB1; have HT2 := Lib.hid hB2; clear hB1 hB2
  have Fa := Lib.hid ha; clear ha
  obtain ⟨w1, hw1⟩ : ∃ w1, w1 = w.alloc (.cells #[.bool qa, .slice oa na ka, .slice pa ma ra, .bool qax, .slice oax nax kax, .slice pax max rax] 26) := ⟨_, rfl⟩
  have hb1 : Below w.heap.size w w1 := by rw [hw1]; exact (Below.refl _ _).alloc (Nat.le_refl _) _
  have hx1 := heap_alloc_new w (.cells #[.bool qa, .slice oa na ka, .slice pa ma ra, .bool qax, .slice oax nax kax, .slice pax max rax] 26)
  obtain ⟨g1, hg1⟩ : ∃ g, g = w.heap.size := ⟨_, rfl⟩
  rw [← hw1, ← hg1] at hx1
  have lw1 : w.heap.size ≤ g1 := by rw [hg1]; exact HBW.out.size
  have HW1 := Lib.hid hw1; have HG1 := Lib.hid hg1; clear hw1 hg1
  have HB1 := Lib.hid (HBW.out.step hb1)
  have Fa := Lib.hid (Fa.out.below hb1)
  have BX1 := Lib.hid hx1; clear hb1 hx1
  go_enter Tryz.func24, Tryz.ntmps24
  obtain ⟨x1_0, x1_1, x1_2, x1_3, x1_4, x1_5⟩ := row6 BX1.out
  have hs := norm_any _ (a) w1 Fa.out
  have HS := Lib.hid hs; clear hs
  try rw [HW1.out] at x1_0
  try rw [HG1.out] at x1_0
  try rw [HW1.out] at x1_1
  try rw [HG1.out] at x1_1
  try rw [HW1.out] at x1_2
  try rw [HG1.out] at x1_2
  try rw [HW1.out] at x1_3
  try rw [HG1.out] at x1_3
  try rw [HW1.out] at x1_4
  try rw [HG1.out] at x1_4
  try rw [HW1.out] at x1_5
  try rw [HG1.out] at x1_5
  go_wp2_with (with_reducible first | refine pauseCall ?_ | refine pauseLoop ?_ | refine pauseDraw ?_ | refine pauseBody ?_ | refine pauseRounds ?_)
  try rw [← HW1.out]
  try rw [← HG1.out]
  clear x1_0 x1_1 x1_2 x1_3 x1_4 x1_5
  refine Pause.mk ?_
  (with_reducible refine HS.out.mono ?_); rintro e w2 ⟨v2, rfl, hb2, hn2⟩
  clear HS
  have HB2 := Lib.hid (HB1.out.step hb2)
  have Fa := Lib.hid (Fa.out.below hb2)
  have BX1 := Lib.hid (heap_below BX1.out hb2)
  have N2 := Lib.hid hn2; clear hn2
  obtain ⟨s2, o2, n2, c2, a2, m2, d2, s2x, o2x, n2x, c2x, a2x, m2x, d2x, rfl⟩ := N2.out.shape
  have N2l := Lib.hid (isSp_ends N2.out).1; have N2h := Lib.hid (isSp_ends N2.out).2
  clear hb2
  go_wp2_with (with_reducible refine wpList_pauseS ?_)
  refine wpList_stL g1 0 [.bool s2, .slice o2 n2 c2, .slice a2 m2 d2, .bool s2x, .slice o2x n2x c2x, .slice a2x m2x d2x] BX1.out rfl rfl (Nat.le_of_ble_eq_true rfl) (by kernel_rfl) rfl ?_
  intro w3 hp3
  have Fa := Lib.hid (putL_SS hp3 Fa.out BX1.out noW6)
  have N2 := Lib.hid (putL_SI hp3 N2.out BX1.out noW6)
  have N2l := Lib.hid (putL_I hp3 N2l.out BX1.out noW6)
  have N2h := Lib.hid (putL_I hp3 N2h.out BX1.out noW6)
  have nx3 : w3.heap[g1]? = some (.cells #[.bool s2, .slice o2 n2 c2, .slice a2 m2 d2, .bool s2x, .slice o2x n2x c2x, .slice a2x m2x d2x] 26) := by rw [hp3]; exact putL_6 BX1.out
  have BX1 := Lib.hid nx3; clear nx3
  have HB3 := Lib.hid (putLb hp3 HB2.out (by omega))
  clear hp3
  go_wp2_with (with_reducible first | refine pauseCall ?_ | refine pauseLoop ?_ | refine pauseDraw ?_ | refine pauseBody ?_ | refine pauseRounds ?_)
  refine Pause.mk ?_
  refine wp_region_facts (A := ?aa3) (w := w3) 6 [3] (by kernel_rfl) (Fl [KEq (.pointer (some ⟨g1, 0, none⟩)), KEq (.agg #[.bool s2, .slice o2 n2 c2, .slice a2 m2 d2]), KEq (.string B1), KEq (.string ((B1 : ByteArray) ++ (⟨#[46, 46]⟩ : ByteArray))), KEq (.pointer (some ⟨g1, 3, none⟩)), KEq (.agg #[.bool s2x, .slice o2x n2x c2x, .slice a2x m2x d2x])]) (fun i => false) (by kernel_rfl) ?hq3 (monoL (monoC (kEq _) (monoC (kEq _) (monoC (kEq _) (monoC (kEq _) (monoC (kEq _) (monoC (kEq _) monoN))))))) ?ha3 ?st3 ?tl3
  case hq3 =>
    intro c a d v w h
    first | (simp only [Exit.then] at h ⊢; exact h) | (simp only [Exit.inBlock, Exit.then] at h ⊢; exact h) | exact h
  case ha3 =>
    intro vals
    simp only [putsTo, dstOf, if_true, Act.put, List.setIfInBounds_toArray, List.set_cons_zero, List.set_cons_succ, List.getElem?_toArray, List.getElem?_cons_zero, List.getElem?_cons_succ, Option.bind_some]
    exact rfl
  case st3 =>
    simp only [List.take_succ_cons, List.take_zero]
    refine stepsOK_cons rfl rfl ?_ (stepsOK_cons rfl rfl ?_ (stepsOK_cons rfl rfl ?_ (stepsOK_pure rfl ?_ (stepsOK_cons rfl rfl ?_ (stepsOK_cons rfl rfl ?_ (stepsOK_nil))))))
    · intro vals w1 hb hd
      refine stepOK_value (v := (.pointer (some ⟨g1, 0, none⟩))) (w' := w1) (by go_simp) (leaves_mk (Below.refl _ _) rfl (fun h => by cases h))
    · intro vals w1 hb hd
      have d0 : KEq (.pointer (some ⟨g1, 0, none⟩)) (vals 0) w1 := hd 0 (by kernel_rfl)
      rw [show vals 0 = _ from d0]
      obtain ⟨e0, e1, e2, e3, e4, e5⟩ := row6 (heap_below BX1.out hb)
      refine stepOK_value (v := .agg #[.bool s2, .slice o2 n2 c2, .slice a2 m2 d2]) (w' := w1) (by go_simp) (leaves_mk (Below.refl _ _) rfl (fun h => by cases h))
    · intro vals w1 hb hd
      have d1 : KEq (.agg #[.bool s2, .slice o2 n2 c2, .slice a2 m2 d2]) (vals 1) w1 := hd 1 (by kernel_rfl)
      have z1 : vals 1 = _ := d1
      have hs := textq_any _ ((a).1) w1 ((N2l.out.below hb).is (by omega))
      rw [← HT1.out] at hs
      have HS := Lib.hid hs; clear hs
      rw [z1]; clear z1
      clear d1 hd
      refine stepOK_call (by go_simp; first | done | exact ⟨⟨rfl, rfl⟩, rfl⟩) ?_
      (with_reducible refine HS.out.mono ?_); rintro e w2 ⟨rfl, hb2⟩
      exact ⟨_, rfl, leaves_mk hb2 rfl (fun h => by cases h)⟩
    · intro vals w1 hb hd
      have d2 : KEq (.string B1) (vals 2) w1 := hd 2 (by kernel_rfl)
      rw [show vals 2 = _ from d2]
      refine stepPure_value (v := (.string ((B1 : ByteArray) ++ (⟨#[46, 46]⟩ : ByteArray)))) (fun w => by first | (go_simp; done) | (go_simp; rw [if_neg (by omega)]) | (go_simp; rw [if_neg (by simp; omega)]) | (go_simp; omega) | (go_simp; split <;> first | rfl | (exfalso; omega))) (leaves_mk (Below.refl _ _) rfl (fun h => by cases h))
    · intro vals w1 hb hd
      refine stepOK_value (v := (.pointer (some ⟨g1, 3, none⟩))) (w' := w1) (by go_simp) (leaves_mk (Below.refl _ _) rfl (fun h => by cases h))
    · intro vals w1 hb hd
      have d4 : KEq (.pointer (some ⟨g1, 3, none⟩)) (vals 4) w1 := hd 4 (by kernel_rfl)
      rw [show vals 4 = _ from d4]
      obtain ⟨e0, e1, e2, e3, e4, e5⟩ := row6 (heap_below BX1.out hb)
      refine stepOK_value (v := .agg #[.bool s2x, .slice o2x n2x c2x, .slice a2x m2x d2x]) (w' := w1) (by go_simp) (leaves_mk (Below.refl _ _) rfl (fun h => by cases h))
  case tl3 =>
    intro vals w4 hb4 hf hdis
    simp only [List.drop_succ_cons, List.drop_zero]
    have z3 : vals 3 = _ := hf 3 (by decide)
    try rw [z3]
    clear z3
    have z5 : vals 5 = _ := hf 5 (by decide)
    try rw [z5]
    clear z5
    clear hf hdis
    have HB4 := Lib.hid (HB3.out.step hb4)
    have Fa := Lib.hid (Fa.out.below hb4)
    have N2 := Lib.hid (N2.out.below hb4)
    have N2l := Lib.hid (N2l.out.below hb4)
    have N2h := Lib.hid (N2h.out.below hb4)
    have BX1 := Lib.hid (heap_below BX1.out hb4)
    clear hb4
    skip
    have hs := textq_any _ ((a).2) w4 (N2h.out.is (by omega))
    rw [← HT2.out] at hs
    have HS := Lib.hid hs; clear hs
    go_wp2_with (with_reducible first | refine pauseCall ?_ | refine pauseLoop ?_ | refine pauseDraw ?_ | refine pauseBody ?_ | refine pauseRounds ?_)
    refine Pause.mk ?_
    (with_reducible refine HS.out.mono ?_); rintro e w5 ⟨rfl, hb5⟩
    clear HS
    have HB5 := Lib.hid (HB4.out.step hb5)
    have Fa := Lib.hid (Fa.out.below hb5)
    have N2 := Lib.hid (N2.out.below hb5)
    have N2l := Lib.hid (N2l.out.below hb5)
    have N2h := Lib.hid (N2h.out.below hb5)
    have BX1 := Lib.hid (heap_below BX1.out hb5)
    clear hb5
    go_wp2_with (with_reducible first | refine pauseCall ?_ | refine pauseLoop ?_ | refine pauseDraw ?_ | refine pauseBody ?_ | refine pauseRounds ?_)
    refine Pause.mk ?_
    go_ret
    exact ⟨by first | rfl | (simp; done), HB5.out⟩
set_option maxRecDepth 100000 in
set_option maxHeartbeats 3200000 in
theorem rstext_any (va : Value) (a : Rat × Rat) (w : World) (ha : SpIs w va a) (la1 : rl a.1 ≤ 39000) (la2 : rl a.2 ≤ 39000) :
    Calls Tryz.prog 25 #[va] w (RetV w (.string ⟨(stx a).toArray⟩)) := by
  have HBW := Lib.hid (Below.refl w.heap.size w)
  have kz0 : rl 0 ≤ 1 := by rw [rl_zero]; exact Nat.le_refl _
  obtain ⟨qa, oa, na, ka, pa, ma, ra, qax, oax, nax, kax, pax, max, rax, rfl⟩ := ha.shape
  have hla := ha.rl; have hoa := ha.ok; obtain ⟨hlaa, hlab⟩ := hla
  have hoa := Lib.hid hoa
  obtain ⟨B1, hB1⟩ : ∃ B, B = (⟨(rtx ((a).1)).toArray⟩ : ByteArray) := ⟨_, rfl⟩
  obtain ⟨B2, hB2⟩ : ∃ B, B = (⟨(rtx ((a).2)).toArray⟩ : ByteArray) := ⟨_, rfl⟩
  have z1 : B1.size ≤ 1000000 := by rw [hB1]; have := rtx_len2 la1 (by decide); simp [ByteArray.size]; omega
  have z2 : B2.size ≤ 1000000 := by rw [hB2]; have := rtx_len2 la2 (by decide); simp [ByteArray.size]; omega
  rw [show (⟨(stx a).toArray⟩ : ByteArray) = B1 ++ ⟨#[46, 46]⟩ ++ B2 from by rw [hB1, hB2]; unfold stx; apply ByteArray.ext; simp]
  have z3 : (B1 ++ ⟨#[46, 46]⟩).size ≤ 1000002 := by rw [ByteArray.size_append]; exact Nat.add_le_add z1 (Nat.le_refl 2)
  have z4 : (⟨#[46, 46]⟩ : ByteArray).size = 2 := rfl
  have HT1 := Lib.hid hB1; have HT2 := Lib.hid hB2; clear hB1 hB2
  have Fa := Lib.hid ha; clear ha
  obtain ⟨w1, hw1⟩ : ∃ w1, w1 = w.alloc (.cells #[.bool qa, .slice oa na ka, .slice pa ma ra, .bool qax, .slice oax nax kax, .slice pax max rax] 26) := ⟨_, rfl⟩
  have hb1 : Below w.heap.size w w1 := by rw [hw1]; exact (Below.refl _ _).alloc (Nat.le_refl _) _
  have hx1 := heap_alloc_new w (.cells #[.bool qa, .slice oa na ka, .slice pa ma ra, .bool qax, .slice oax nax kax, .slice pax max rax] 26)
  obtain ⟨g1, hg1⟩ : ∃ g, g = w.heap.size := ⟨_, rfl⟩
  rw [← hw1, ← hg1] at hx1
  have lw1 : w.heap.size ≤ g1 := by rw [hg1]; exact HBW.out.size
  have HW1 := Lib.hid hw1; have HG1 := Lib.hid hg1; clear hw1 hg1
  have HB1 := Lib.hid (HBW.out.step hb1)
  have Fa := Lib.hid (Fa.out.below hb1)
  have BX1 := Lib.hid hx1; clear hb1 hx1
  go_enter Tryz.func25, Tryz.ntmps25
  obtain ⟨x1_0, x1_1, x1_2, x1_3, x1_4, x1_5⟩ := row6 BX1.out
  have hs := arg_any _ (a) w1 Fa.out
  have HS := Lib.hid hs; clear hs
  try rw [HW1.out] at x1_0
  try rw [HG1.out] at x1_0
  try rw [HW1.out] at x1_1
  try rw [HG1.out] at x1_1
  try rw [HW1.out] at x1_2
  try rw [HG1.out] at x1_2
  try rw [HW1.out] at x1_3
  try rw [HG1.out] at x1_3
  try rw [HW1.out] at x1_4
  try rw [HG1.out] at x1_4
  try rw [HW1.out] at x1_5
  try rw [HG1.out] at x1_5
  go_wp2_with (with_reducible first | refine pauseCall ?_ | refine pauseLoop ?_ | refine pauseDraw ?_ | refine pauseBody ?_ | refine pauseRounds ?_)
  try rw [← HW1.out]
  try rw [← HG1.out]
  clear x1_0 x1_1 x1_2 x1_3 x1_4 x1_5
  refine Pause.mk ?_
  (with_reducible refine HS.out.mono ?_); rintro e w2 ⟨v2, rfl, hb2, hn2⟩
  clear HS
  have HB2 := Lib.hid (HB1.out.step hb2)
  have Fa := Lib.hid (Fa.out.below hb2)
  have BX1 := Lib.hid (heap_below BX1.out hb2)
  have N2 := Lib.hid hn2; clear hn2
  obtain ⟨s2, o2, n2, c2, a2, m2, d2, s2x, o2x, n2x, c2x, a2x, m2x, d2x, rfl⟩ := N2.out.shape
  have N2l := Lib.hid (isSp_ends N2.out).1; have N2h := Lib.hid (isSp_ends N2.out).2
  clear hb2
  go_wp2_with (with_reducible refine wpList_pauseS ?_)
  refine wpList_stL g1 0 [.bool s2, .slice o2 n2 c2, .slice a2 m2 d2, .bool s2x, .slice o2x n2x c2x, .slice a2x m2x d2x] BX1.out rfl rfl (Nat.le_of_ble_eq_true rfl) (by kernel_rfl) rfl ?_
  intro w3 hp3
  have Fa := Lib.hid (putL_SS hp3 Fa.out BX1.out noW6)
  have N2 := Lib.hid (putL_SI hp3 N2.out BX1.out noW6)
  have N2l := Lib.hid (putL_I hp3 N2l.out BX1.out noW6)
  have N2h := Lib.hid (putL_I hp3 N2h.out BX1.out noW6)
  have nx3 : w3.heap[g1]? = some (.cells #[.bool s2, .slice o2 n2 c2, .slice a2 m2 d2, .bool s2x, .slice o2x n2x c2x, .slice a2x m2x d2x] 26) := by rw [hp3]; exact putL_6 BX1.out
  have BX1 := Lib.hid nx3; clear nx3
  have HB3 := Lib.hid (putLb hp3 HB2.out (by omega))
  clear hp3
  go_wp2_with (with_reducible first | refine pauseCall ?_ | refine pauseLoop ?_ | refine pauseDraw ?_ | refine pauseBody ?_ | refine pauseRounds ?_)
  refine Pause.mk ?_
  refine wp_region_facts (A := ?aa3) (w := w3) 6 [3] (by kernel_rfl) (Fl [KEq (.pointer (some ⟨g1, 0, none⟩)), KEq (.agg #[.bool s2, .slice o2 n2 c2, .slice a2 m2 d2]), KEq (.string B1), KEq (.string ((B1 : ByteArray) ++ (⟨#[46, 46]⟩ : ByteArray))), KEq (.pointer (some ⟨g1, 3, none⟩)), KEq (.agg #[.bool s2x, .slice o2x n2x c2x, .slice a2x m2x d2x])]) (fun i => false) (by kernel_rfl) ?hq3 (monoL (monoC (kEq _) (monoC (kEq _) (monoC (kEq _) (monoC (kEq _) (monoC (kEq _) (monoC (kEq _) monoN))))))) ?ha3 ?st3 ?tl3
  case hq3 =>
    intro c a d v w h
    first | (simp only [Exit.then] at h ⊢; exact h) | (simp only [Exit.inBlock, Exit.then] at h ⊢; exact h) | exact h
  case ha3 =>
    intro vals
    simp only [putsTo, dstOf, if_true, Act.put, List.setIfInBounds_toArray, List.set_cons_zero, List.set_cons_succ, List.getElem?_toArray, List.getElem?_cons_zero, List.getElem?_cons_succ, Option.bind_some]
    exact rfl
  case st3 =>
    simp only [List.take_succ_cons, List.take_zero]
    refine stepsOK_cons rfl rfl ?_ (stepsOK_cons rfl rfl ?_ (stepsOK_cons rfl rfl ?_ (stepsOK_pure rfl ?_ (stepsOK_cons rfl rfl ?_ (stepsOK_cons rfl rfl ?_ (stepsOK_nil))))))
    · intro vals w1 hb hd
      refine stepOK_value (v := (.pointer (some ⟨g1, 0, none⟩))) (w' := w1) (by go_simp) (leaves_mk (Below.refl _ _) rfl (fun h => by cases h))
    · intro vals w1 hb hd
      have d0 : KEq (.pointer (some ⟨g1, 0, none⟩)) (vals 0) w1 := hd 0 (by kernel_rfl)
      rw [show vals 0 = _ from d0]
      obtain ⟨e0, e1, e2, e3, e4, e5⟩ := row6 (heap_below BX1.out hb)
      refine stepOK_value (v := .agg #[.bool s2, .slice o2 n2 c2, .slice a2 m2 d2]) (w' := w1) (by go_simp) (leaves_mk (Below.refl _ _) rfl (fun h => by cases h))
    · intro vals w1 hb hd
      have d1 : KEq (.agg #[.bool s2, .slice o2 n2 c2, .slice a2 m2 d2]) (vals 1) w1 := hd 1 (by kernel_rfl)
      have z1 : vals 1 = _ := d1
      have hs := rtextq_any _ ((a).1) w1 ((N2l.out.below hb).is (by omega))
      rw [← HT1.out] at hs
      have HS := Lib.hid hs; clear hs
      rw [z1]; clear z1
      clear d1 hd
      refine stepOK_call (by go_simp; first | done | exact ⟨⟨rfl, rfl⟩, rfl⟩) ?_
      (with_reducible refine HS.out.mono ?_); rintro e w2 ⟨rfl, hb2⟩
      exact ⟨_, rfl, leaves_mk hb2 rfl (fun h => by cases h)⟩
    · intro vals w1 hb hd
      have d2 : KEq (.string B1) (vals 2) w1 := hd 2 (by kernel_rfl)
      rw [show vals 2 = _ from d2]
      refine stepPure_value (v := (.string ((B1 : ByteArray) ++ (⟨#[46, 46]⟩ : ByteArray)))) (fun w => by first | (go_simp; done) | (go_simp; rw [if_neg (by omega)]) | (go_simp; rw [if_neg (by simp; omega)]) | (go_simp; omega) | (go_simp; split <;> first | rfl | (exfalso; omega))) (leaves_mk (Below.refl _ _) rfl (fun h => by cases h))
    · intro vals w1 hb hd
      refine stepOK_value (v := (.pointer (some ⟨g1, 3, none⟩))) (w' := w1) (by go_simp) (leaves_mk (Below.refl _ _) rfl (fun h => by cases h))
    · intro vals w1 hb hd
      have d4 : KEq (.pointer (some ⟨g1, 3, none⟩)) (vals 4) w1 := hd 4 (by kernel_rfl)
      rw [show vals 4 = _ from d4]
      obtain ⟨e0, e1, e2, e3, e4, e5⟩ := row6 (heap_below BX1.out hb)
      refine stepOK_value (v := .agg #[.bool s2x, .slice o2x n2x c2x, .slice a2x m2x d2x]) (w' := w1) (by go_simp) (leaves_mk (Below.refl _ _) rfl (fun h => by cases h))
  case tl3 =>
    intro vals w4 hb4 hf hdis
    simp only [List.drop_succ_cons, List.drop_zero]
    have z3 : vals 3 = _ := hf 3 (by decide)
    try rw [z3]
    clear z3
    have z5 : vals 5 = _ := hf 5 (by decide)
    try rw [z5]
    clear z5
    clear hf hdis
    have HB4 := Lib.hid (HB3.out.step hb4)
    have Fa := Lib.hid (Fa.out.below hb4)
    have N2 := Lib.hid (N2.out.below hb4)
    have N2l := Lib.hid (N2l.out.below hb4)
    have N2h := Lib.hid (N2h.out.below hb4)
    have BX1 := Lib.hid (heap_below BX1.out hb4)
    clear hb4
    skip
    have hs := rtextq_any _ ((a).2) w4 (N2h.out.is (by omega))
    rw [← HT2.out] at hs
    have HS := Lib.hid hs; clear hs
    go_wp2_with (with_reducible first | refine pauseCall ?_ | refine pauseLoop ?_ | refine pauseDraw ?_ | refine pauseBody ?_ | refine pauseRounds ?_)
    refine Pause.mk ?_
    (with_reducible refine HS.out.mono ?_); rintro e w5 ⟨rfl, hb5⟩
    clear HS
    have HB5 := Lib.hid (HB4.out.step hb5)
    have Fa := Lib.hid (Fa.out.below hb5)
    have N2 := Lib.hid (N2.out.below hb5)
    have N2l := Lib.hid (N2l.out.below hb5)
    have N2h := Lib.hid (N2h.out.below hb5)
    have BX1 := Lib.hid (heap_below BX1.out hb5)
    clear hb5
    go_wp2_with (with_reducible first | refine pauseCall ?_ | refine pauseLoop ?_ | refine pauseDraw ?_ | refine pauseBody ?_ | refine pauseRounds ?_)
    refine Pause.mk ?_
    go_ret
    exact ⟨by first | rfl | (simp; done), HB5.out⟩
end Go.Proofs.YtaefimegiobkmaaGreatDoor
