/-
  SpanTurns: the walk of the statement.
  Conditions: each theorem's own.
-/
import Derived.Test.YtaefimegiobkmaaDoorMA6
namespace Go.Proofs.YtaefimegiobkmaaDoor
open Go.RowKit Go.ChangeShapes Go.WideShapes

set_option maxRecDepth 100000 in
set_option maxHeartbeats 3200000 in
theorem spanturns_big (va : Value) (na ma nax max : Nat) (vb : Value) (nb mb nbx mbx : Nat) (w : World) (ha : SpSz va na ma nax max) (hb : SpSz vb nb mb nbx mbx) (hbig : 6 < na ∨ 6 < ma ∨ 6 < nax ∨ 6 < max ∨ 6 < nb ∨ 6 < mb ∨ 6 < nbx ∨ 6 < mbx) :
    Calls Tryd.prog 3 #[va, vb] w (RetV w (.bool true)) := by
  have HBW := Lib.hid (Below.refl w.heap.size w)
  have kz0 : rl 0 ≤ 1 := by rw [rl_zero]; exact Nat.le_refl _
  obtain ⟨qa, oa, ka, pa, ra, qax, oax, kax, pax, rax, rfl, Za⟩ := ha
  obtain ⟨qb, ob, kb, pb, rb, qbx, obx, kbx, pbx, rbx, rfl, Zb⟩ := hb
  have HBIG := Lib.hid hbig; clear hbig
  obtain ⟨w1, hw1⟩ : ∃ w1, w1 = w.alloc (.cells #[.bool qa, .slice oa na ka, .slice pa ma ra, .bool qax, .slice oax nax kax, .slice pax max rax] 26) := ⟨_, rfl⟩
  have hb1 : Below w.heap.size w w1 := by rw [hw1]; exact (Below.refl _ _).alloc (Nat.le_refl _) _
  have hx1 := heap_alloc_new w (.cells #[.bool qa, .slice oa na ka, .slice pa ma ra, .bool qax, .slice oax nax kax, .slice pax max rax] 26)
  obtain ⟨g1, hg1⟩ : ∃ g, g = w.heap.size := ⟨_, rfl⟩
  rw [← hw1, ← hg1] at hx1
  have lw1 : w.heap.size ≤ g1 := by rw [hg1]; exact HBW.out.size
  have HW1 := Lib.hid hw1; have HG1 := Lib.hid hg1; clear hw1 hg1
  have HB1 := Lib.hid (HBW.out.step hb1)
  have BX1 := Lib.hid hx1; clear hb1 hx1
  obtain ⟨w2, hw2⟩ : ∃ w2, w2 = w1.alloc (.cells #[.bool qb, .slice ob nb kb, .slice pb mb rb, .bool qbx, .slice obx nbx kbx, .slice pbx mbx rbx] 26) := ⟨_, rfl⟩
  have hb2 : Below w1.heap.size w1 w2 := by rw [hw2]; exact (Below.refl _ _).alloc (Nat.le_refl _) _
  have hx2 := heap_alloc_new w1 (.cells #[.bool qb, .slice ob nb kb, .slice pb mb rb, .bool qbx, .slice obx nbx kbx, .slice pbx mbx rbx] 26)
  obtain ⟨g2, hg2⟩ : ∃ g, g = w1.heap.size := ⟨_, rfl⟩
  rw [← hw2, ← hg2] at hx2
  have lw2 : w.heap.size ≤ g2 := by rw [hg2]; exact HB1.out.size
  have ltBX12 : g1 < g2 := by rw [hg2]; exact below_lt BX1.out
  have hs2 : g2 = w.heap.size + 1 := by rw [hg2, HW1.out]; simp
  have HS2 := Lib.hid hs2; clear hs2
  have HW2 := Lib.hid hw2; have HG2 := Lib.hid hg2; clear hw2 hg2
  have HB2 := Lib.hid (HB1.out.step hb2)
  have BX1 := Lib.hid (heap_below BX1.out hb2)
  have BX2 := Lib.hid hx2; clear hb2 hx2
  go_enter Tryd.func3, Tryd.ntmps3
  have hs := awake03 w2
  have HS := Lib.hid hs; clear hs
  go_wp2_with (with_reducible first | refine pauseCall ?_ | refine pauseLoop ?_ | refine pauseDraw ?_ | refine pauseBody ?_ | refine pauseRounds ?_)
  try rw [← HW1.out]
  try rw [← HW2.out]
  try rw [← HS2.out]
  try rw [← HG1.out]
  try rw [← HG2.out]
  refine Pause.mk ?_
  (with_reducible refine HS.out.mono ?_); rintro e w3 ⟨rfl, hb3⟩
  clear HS
  have HB3 := Lib.hid (HB2.out.step hb3)
  have BX1 := Lib.hid (heap_below BX1.out hb3)
  have BX2 := Lib.hid (heap_below BX2.out hb3)
  clear hb3
  obtain ⟨x1_0, x1_1, x1_2, x1_3, x1_4, x1_5⟩ := row6 BX1.out
  obtain ⟨x2_0, x2_1, x2_2, x2_3, x2_4, x2_5⟩ := row6 BX2.out
  obtain ⟨w4, hw4⟩ : ∃ w4, w4 = w3.alloc (.cells #[.bool qa, .slice oa na ka, .slice pa ma ra, .bool qax, .slice oax nax kax, .slice pax max rax, .bool qb, .slice ob nb kb, .slice pb mb rb, .bool qbx, .slice obx nbx kbx, .slice pbx mbx rbx] 26) := ⟨_, rfl⟩
  have hb4 : Below w3.heap.size w3 w4 := by rw [hw4]; exact (Below.refl _ _).alloc (Nat.le_refl _) _
  have hx4 := heap_alloc_new w3 (.cells #[.bool qa, .slice oa na ka, .slice pa ma ra, .bool qax, .slice oax nax kax, .slice pax max rax, .bool qb, .slice ob nb kb, .slice pb mb rb, .bool qbx, .slice obx nbx kbx, .slice pbx mbx rbx] 26)
  obtain ⟨g4, hg4⟩ : ∃ g, g = w3.heap.size := ⟨_, rfl⟩
  rw [← hw4, ← hg4] at hx4
  have lw4 : w.heap.size ≤ g4 := by rw [hg4]; exact HB3.out.size
  have ltBX14 : g1 < g4 := by rw [hg4]; exact below_lt BX1.out
  have ltBX24 : g2 < g4 := by rw [hg4]; exact below_lt BX2.out
  have HW4 := Lib.hid hw4; have HG4 := Lib.hid hg4; clear hw4 hg4
  have HB4 := Lib.hid (HB3.out.step hb4)
  have BX1 := Lib.hid (heap_below BX1.out hb4)
  have BX2 := Lib.hid (heap_below BX2.out hb4)
  have BX4 := Lib.hid hx4; clear hb4 hx4
  have hs := slarge2b BX4.out Za Zb HBIG.out
  have HS := Lib.hid hs; clear hs
  try rw [HG4.out] at x1_0
  try rw [HG4.out] at x1_1
  try rw [HG4.out] at x1_2
  try rw [HG4.out] at x1_3
  try rw [HG4.out] at x1_4
  try rw [HG4.out] at x1_5
  try rw [HG4.out] at x2_0
  try rw [HG4.out] at x2_1
  try rw [HG4.out] at x2_2
  try rw [HG4.out] at x2_3
  try rw [HG4.out] at x2_4
  try rw [HG4.out] at x2_5
  go_wp2_with (with_reducible first | refine pauseCall ?_ | refine pauseLoop ?_ | refine pauseDraw ?_ | refine pauseBody ?_ | refine pauseRounds ?_)
  try rw [← HW4.out]
  try rw [← HG4.out]
  clear x1_0 x1_1 x1_2 x1_3 x1_4 x1_5 x2_0 x2_1 x2_2 x2_3 x2_4 x2_5
  refine Pause.mk ?_
  (with_reducible refine HS.out.mono ?_); rintro e w5 ⟨rfl, hb5⟩
  clear HS
  have HB5 := Lib.hid (HB4.out.step hb5)
  have BX1 := Lib.hid (heap_below BX1.out hb5)
  have BX2 := Lib.hid (heap_below BX2.out hb5)
  have BX4 := Lib.hid (heap_below BX4.out hb5)
  clear BX4
  clear hb5
  have hs := awake03 w5
  have HS := Lib.hid hs; clear hs
  go_wp2_with (with_reducible first | refine pauseCall ?_ | refine pauseLoop ?_ | refine pauseDraw ?_ | refine pauseBody ?_ | refine pauseRounds ?_)
  refine Pause.mk ?_
  (with_reducible refine HS.out.mono ?_); rintro e w6 ⟨rfl, hb6⟩
  clear HS
  have HB6 := Lib.hid (HB5.out.step hb6)
  have BX1 := Lib.hid (heap_below BX1.out hb6)
  have BX2 := Lib.hid (heap_below BX2.out hb6)
  clear hb6
  go_wp2_with (with_reducible first | refine pauseCall ?_ | refine pauseLoop ?_ | refine pauseDraw ?_ | refine pauseBody ?_ | refine pauseRounds ?_)
  refine Pause.mk ?_
  go_ret
  exact ⟨by first | rfl | (simp; done), HB6.out⟩
set_option maxRecDepth 100000 in
set_option maxHeartbeats 3200000 in
theorem spanturns_noa (va : Value) (sa : Bool) (aa ba : List Nat) (ta : Bool) (ca da : List Nat) (vb : Value) (sb : Bool) (ab bb : List Nat) (tb : Bool) (cb db : List Nat) (w : World) (ha : SpV w va sa aa ba ta ca da) (la1 : aa.length ≤ 6) (la2 : ba.length ≤ 6) (la3 : ca.length ≤ 6) (la4 : da.length ≤ 6) (hb : SpV w vb sb ab bb tb cb db) (lb1 : ab.length ≤ 6) (lb2 : bb.length ≤ 6) (lb3 : cb.length ≤ 6) (lb4 : db.length ≤ 6)  (hva : ¬ (Vld sa aa ba ∧ Vld ta ca da ∧ rq sa aa ba ≤ rq ta ca da)) :
    Calls Tryd.prog 3 #[va, vb] w (RetV w (.bool true)) := by
  have HBW := Lib.hid (Below.refl w.heap.size w)
  have kz0 : rl 0 ≤ 1 := by rw [rl_zero]; exact Nat.le_refl _
  have za := ha.sz.2
  obtain ⟨qa, oa, na, ka, pa, ma, ra, qax, oax, nax, kax, pax, max, rax, rfl⟩ := ha.shape
  have Za : na ≤ 6 ∧ ma ≤ 6 ∧ nax ≤ 6 ∧ max ≤ 6 := by have e1 : na = _ := congrArg (·.1) za; have e2 : ma = _ := congrArg (·.2.1) za; have e3 : nax = _ := congrArg (·.2.2.1) za; have e4 : max = _ := congrArg (·.2.2.2) za; rw [e1, e2, e3, e4]; exact ⟨la1, la2, la3, la4⟩
  clear za
  have hla1 : rl (rq sa aa ba) ≤ 6 := rl_rq ha.lt.1.1 ha.lt.1.2 la1 la2 (by decide); have hla2 : rl (rq ta ca da) ≤ 6 := rl_rq ha.lt.2.1 ha.lt.2.2 la3 la4 (by decide)
  obtain ⟨S_a, hSa⟩ : ∃ S, S = sq sa aa ba ta ca da := ⟨_, rfl⟩
  have hsa : rl S_a.1 ≤ 6 ∧ rl S_a.2 ≤ 6 := by rw [hSa]; exact rl_sq ha.lt.1.1 ha.lt.1.2 ha.lt.2.1 ha.lt.2.2 la1 la2 la3 la4 (by decide)
  obtain ⟨hsa1, hsa2⟩ := hsa
  have Fa := Lib.hid (show SpIs w _ S_a from ⟨_, _, _, _, _, _, ha, hSa.symm, by omega, by omega, by omega, by omega⟩); clear hSa
  have HOa := Lib.hid Fa.out.ok
  obtain ⟨p_a, hpa⟩ : ∃ p, p = rq sa aa ba := ⟨_, rfl⟩; obtain ⟨r_a, hra⟩ : ∃ r, r = rq ta ca da := ⟨_, rfl⟩
  have Fal := Lib.hid (show RatIs w _ p_a from hpa ▸ (spV_ends ha).1.is (by omega) (by omega)); have Fah := Lib.hid (show RatIs w _ r_a from hra ▸ (spV_ends ha).2.is (by omega) (by omega))
  have hla1 : rl p_a ≤ 6 := by rw [hpa]; exact hla1
  have hla2 : rl r_a ≤ 6 := by rw [hra]; exact hla2
  have FaV := Lib.hid ha; clear ha hpa hra
  have zb := hb.sz.2
  obtain ⟨qb, ob, nb, kb, pb, mb, rb, qbx, obx, nbx, kbx, pbx, mbx, rbx, rfl⟩ := hb.shape
  have Zb : nb ≤ 6 ∧ mb ≤ 6 ∧ nbx ≤ 6 ∧ mbx ≤ 6 := by have e1 : nb = _ := congrArg (·.1) zb; have e2 : mb = _ := congrArg (·.2.1) zb; have e3 : nbx = _ := congrArg (·.2.2.1) zb; have e4 : mbx = _ := congrArg (·.2.2.2) zb; rw [e1, e2, e3, e4]; exact ⟨lb1, lb2, lb3, lb4⟩
  clear zb
  have hlb1 : rl (rq sb ab bb) ≤ 6 := rl_rq hb.lt.1.1 hb.lt.1.2 lb1 lb2 (by decide); have hlb2 : rl (rq tb cb db) ≤ 6 := rl_rq hb.lt.2.1 hb.lt.2.2 lb3 lb4 (by decide)
  obtain ⟨S_b, hSb⟩ : ∃ S, S = sq sb ab bb tb cb db := ⟨_, rfl⟩
  have hsb : rl S_b.1 ≤ 6 ∧ rl S_b.2 ≤ 6 := by rw [hSb]; exact rl_sq hb.lt.1.1 hb.lt.1.2 hb.lt.2.1 hb.lt.2.2 lb1 lb2 lb3 lb4 (by decide)
  obtain ⟨hsb1, hsb2⟩ := hsb
  have Fb := Lib.hid (show SpIs w _ S_b from ⟨_, _, _, _, _, _, hb, hSb.symm, by omega, by omega, by omega, by omega⟩); clear hSb
  have HOb := Lib.hid Fb.out.ok
  obtain ⟨p_b, hpb⟩ : ∃ p, p = rq sb ab bb := ⟨_, rfl⟩; obtain ⟨r_b, hrb⟩ : ∃ r, r = rq tb cb db := ⟨_, rfl⟩
  have Fbl := Lib.hid (show RatIs w _ p_b from hpb ▸ (spV_ends hb).1.is (by omega) (by omega)); have Fbh := Lib.hid (show RatIs w _ r_b from hrb ▸ (spV_ends hb).2.is (by omega) (by omega))
  have hlb1 : rl p_b ≤ 6 := by rw [hpb]; exact hlb1
  have hlb2 : rl r_b ≤ 6 := by rw [hrb]; exact hlb2
  have FbV := Lib.hid hb; clear hb hpb hrb
  have HVa := Lib.hid (decide_eq_false hva); clear hva
  obtain ⟨w1, hw1⟩ : ∃ w1, w1 = w.alloc (.cells #[.bool qa, .slice oa na ka, .slice pa ma ra, .bool qax, .slice oax nax kax, .slice pax max rax] 26) := ⟨_, rfl⟩
  have hb1 : Below w.heap.size w w1 := by rw [hw1]; exact (Below.refl _ _).alloc (Nat.le_refl _) _
  have hx1 := heap_alloc_new w (.cells #[.bool qa, .slice oa na ka, .slice pa ma ra, .bool qax, .slice oax nax kax, .slice pax max rax] 26)
  obtain ⟨g1, hg1⟩ : ∃ g, g = w.heap.size := ⟨_, rfl⟩
  rw [← hw1, ← hg1] at hx1
  have lw1 : w.heap.size ≤ g1 := by rw [hg1]; exact HBW.out.size
  have HW1 := Lib.hid hw1; have HG1 := Lib.hid hg1; clear hw1 hg1
  have HB1 := Lib.hid (HBW.out.step hb1)
  have Fa := Lib.hid (Fa.out.below hb1)
  have Fal := Lib.hid (Fal.out.below hb1)
  have Fah := Lib.hid (Fah.out.below hb1)
  have FaV := Lib.hid (FaV.out.below hb1)
  have Fb := Lib.hid (Fb.out.below hb1)
  have Fbl := Lib.hid (Fbl.out.below hb1)
  have Fbh := Lib.hid (Fbh.out.below hb1)
  have FbV := Lib.hid (FbV.out.below hb1)
  have BX1 := Lib.hid hx1; clear hb1 hx1
  obtain ⟨w2, hw2⟩ : ∃ w2, w2 = w1.alloc (.cells #[.bool qb, .slice ob nb kb, .slice pb mb rb, .bool qbx, .slice obx nbx kbx, .slice pbx mbx rbx] 26) := ⟨_, rfl⟩
  have hb2 : Below w1.heap.size w1 w2 := by rw [hw2]; exact (Below.refl _ _).alloc (Nat.le_refl _) _
  have hx2 := heap_alloc_new w1 (.cells #[.bool qb, .slice ob nb kb, .slice pb mb rb, .bool qbx, .slice obx nbx kbx, .slice pbx mbx rbx] 26)
  obtain ⟨g2, hg2⟩ : ∃ g, g = w1.heap.size := ⟨_, rfl⟩
  rw [← hw2, ← hg2] at hx2
  have lw2 : w.heap.size ≤ g2 := by rw [hg2]; exact HB1.out.size
  have ltBX12 : g1 < g2 := by rw [hg2]; exact below_lt BX1.out
  have hs2 : g2 = w.heap.size + 1 := by rw [hg2, HW1.out]; simp
  have HS2 := Lib.hid hs2; clear hs2
  have HW2 := Lib.hid hw2; have HG2 := Lib.hid hg2; clear hw2 hg2
  have HB2 := Lib.hid (HB1.out.step hb2)
  have Fa := Lib.hid (Fa.out.below hb2)
  have Fal := Lib.hid (Fal.out.below hb2)
  have Fah := Lib.hid (Fah.out.below hb2)
  have FaV := Lib.hid (FaV.out.below hb2)
  have Fb := Lib.hid (Fb.out.below hb2)
  have Fbl := Lib.hid (Fbl.out.below hb2)
  have Fbh := Lib.hid (Fbh.out.below hb2)
  have FbV := Lib.hid (FbV.out.below hb2)
  have BX1 := Lib.hid (heap_below BX1.out hb2)
  have BX2 := Lib.hid hx2; clear hb2 hx2
  go_enter Tryd.func3, Tryd.ntmps3
  have hs := awake03 w2
  have HS := Lib.hid hs; clear hs
  go_wp2_with (with_reducible first | refine pauseCall ?_ | refine pauseLoop ?_ | refine pauseDraw ?_ | refine pauseBody ?_ | refine pauseRounds ?_)
  try rw [← HW1.out]
  try rw [← HW2.out]
  try rw [← HS2.out]
  try rw [← HG1.out]
  try rw [← HG2.out]
  refine Pause.mk ?_
  (with_reducible refine HS.out.mono ?_); rintro e w3 ⟨rfl, hb3⟩
  clear HS
  have HB3 := Lib.hid (HB2.out.step hb3)
  have Fa := Lib.hid (Fa.out.below hb3)
  have Fal := Lib.hid (Fal.out.below hb3)
  have Fah := Lib.hid (Fah.out.below hb3)
  have FaV := Lib.hid (FaV.out.below hb3)
  have Fb := Lib.hid (Fb.out.below hb3)
  have Fbl := Lib.hid (Fbl.out.below hb3)
  have Fbh := Lib.hid (Fbh.out.below hb3)
  have FbV := Lib.hid (FbV.out.below hb3)
  have BX1 := Lib.hid (heap_below BX1.out hb3)
  have BX2 := Lib.hid (heap_below BX2.out hb3)
  clear hb3
  obtain ⟨x1_0, x1_1, x1_2, x1_3, x1_4, x1_5⟩ := row6 BX1.out
  obtain ⟨x2_0, x2_1, x2_2, x2_3, x2_4, x2_5⟩ := row6 BX2.out
  obtain ⟨w4, hw4⟩ : ∃ w4, w4 = w3.alloc (.cells #[.bool qa, .slice oa na ka, .slice pa ma ra, .bool qax, .slice oax nax kax, .slice pax max rax, .bool qb, .slice ob nb kb, .slice pb mb rb, .bool qbx, .slice obx nbx kbx, .slice pbx mbx rbx] 26) := ⟨_, rfl⟩
  have hb4 : Below w3.heap.size w3 w4 := by rw [hw4]; exact (Below.refl _ _).alloc (Nat.le_refl _) _
  have hx4 := heap_alloc_new w3 (.cells #[.bool qa, .slice oa na ka, .slice pa ma ra, .bool qax, .slice oax nax kax, .slice pax max rax, .bool qb, .slice ob nb kb, .slice pb mb rb, .bool qbx, .slice obx nbx kbx, .slice pbx mbx rbx] 26)
  obtain ⟨g4, hg4⟩ : ∃ g, g = w3.heap.size := ⟨_, rfl⟩
  rw [← hw4, ← hg4] at hx4
  have lw4 : w.heap.size ≤ g4 := by rw [hg4]; exact HB3.out.size
  have ltBX14 : g1 < g4 := by rw [hg4]; exact below_lt BX1.out
  have ltBX24 : g2 < g4 := by rw [hg4]; exact below_lt BX2.out
  have HW4 := Lib.hid hw4; have HG4 := Lib.hid hg4; clear hw4 hg4
  have HB4 := Lib.hid (HB3.out.step hb4)
  have Fa := Lib.hid (Fa.out.below hb4)
  have Fal := Lib.hid (Fal.out.below hb4)
  have Fah := Lib.hid (Fah.out.below hb4)
  have FaV := Lib.hid (FaV.out.below hb4)
  have Fb := Lib.hid (Fb.out.below hb4)
  have Fbl := Lib.hid (Fbl.out.below hb4)
  have Fbh := Lib.hid (Fbh.out.below hb4)
  have FbV := Lib.hid (FbV.out.below hb4)
  have BX1 := Lib.hid (heap_below BX1.out hb4)
  have BX2 := Lib.hid (heap_below BX2.out hb4)
  have BX4 := Lib.hid hx4; clear hb4 hx4
  have hs := slarge2s BX4.out Za Zb
  have HS := Lib.hid hs; clear hs
  try rw [HG4.out] at x1_0
  try rw [HG4.out] at x1_1
  try rw [HG4.out] at x1_2
  try rw [HG4.out] at x1_3
  try rw [HG4.out] at x1_4
  try rw [HG4.out] at x1_5
  try rw [HG4.out] at x2_0
  try rw [HG4.out] at x2_1
  try rw [HG4.out] at x2_2
  try rw [HG4.out] at x2_3
  try rw [HG4.out] at x2_4
  try rw [HG4.out] at x2_5
  go_wp2_with (with_reducible first | refine pauseCall ?_ | refine pauseLoop ?_ | refine pauseDraw ?_ | refine pauseBody ?_ | refine pauseRounds ?_)
  try rw [← HW4.out]
  try rw [← HG4.out]
  clear x1_0 x1_1 x1_2 x1_3 x1_4 x1_5 x2_0 x2_1 x2_2 x2_3 x2_4 x2_5
  refine Pause.mk ?_
  (with_reducible refine HS.out.mono ?_); rintro e w5 ⟨rfl, hb5⟩
  clear HS
  have HB5 := Lib.hid (HB4.out.step hb5)
  have Fa := Lib.hid (Fa.out.below hb5)
  have Fal := Lib.hid (Fal.out.below hb5)
  have Fah := Lib.hid (Fah.out.below hb5)
  have FaV := Lib.hid (FaV.out.below hb5)
  have Fb := Lib.hid (Fb.out.below hb5)
  have Fbl := Lib.hid (Fbl.out.below hb5)
  have Fbh := Lib.hid (Fbh.out.below hb5)
  have FbV := Lib.hid (FbV.out.below hb5)
  have BX1 := Lib.hid (heap_below BX1.out hb5)
  have BX2 := Lib.hid (heap_below BX2.out hb5)
  have BX4 := Lib.hid (heap_below BX4.out hb5)
  clear BX4
  clear hb5
  obtain ⟨x3_0, x3_1, x3_2, x3_3, x3_4, x3_5⟩ := row6 BX1.out
  have hs := svalid_any _ sa aa ba ta ca da w5 FaV.out (by omega) (by omega) (by omega) (by omega)
  rw [HVa.out] at hs
  have HS := Lib.hid hs; clear hs
  go_wp2_with (with_reducible first | refine pauseCall ?_ | refine pauseLoop ?_ | refine pauseDraw ?_ | refine pauseBody ?_ | refine pauseRounds ?_)
  clear x3_0 x3_1 x3_2 x3_3 x3_4 x3_5
  refine Pause.mk ?_
  (with_reducible refine HS.out.mono ?_); rintro e w6 ⟨rfl, hb6⟩
  clear HS
  have HB6 := Lib.hid (HB5.out.step hb6)
  have Fa := Lib.hid (Fa.out.below hb6)
  have Fal := Lib.hid (Fal.out.below hb6)
  have Fah := Lib.hid (Fah.out.below hb6)
  have FaV := Lib.hid (FaV.out.below hb6)
  have Fb := Lib.hid (Fb.out.below hb6)
  have Fbl := Lib.hid (Fbl.out.below hb6)
  have Fbh := Lib.hid (Fbh.out.below hb6)
  have FbV := Lib.hid (FbV.out.below hb6)
  have BX1 := Lib.hid (heap_below BX1.out hb6)
  have BX2 := Lib.hid (heap_below BX2.out hb6)
  clear hb6
  have hs := awake03 w6
  have HS := Lib.hid hs; clear hs
  go_wp2_with (with_reducible first | refine pauseCall ?_ | refine pauseLoop ?_ | refine pauseDraw ?_ | refine pauseBody ?_ | refine pauseRounds ?_)
  refine Pause.mk ?_
  (with_reducible refine HS.out.mono ?_); rintro e w7 ⟨rfl, hb7⟩
  clear HS
  have HB7 := Lib.hid (HB6.out.step hb7)
  have Fa := Lib.hid (Fa.out.below hb7)
  have Fal := Lib.hid (Fal.out.below hb7)
  have Fah := Lib.hid (Fah.out.below hb7)
  have FaV := Lib.hid (FaV.out.below hb7)
  have Fb := Lib.hid (Fb.out.below hb7)
  have Fbl := Lib.hid (Fbl.out.below hb7)
  have Fbh := Lib.hid (Fbh.out.below hb7)
  have FbV := Lib.hid (FbV.out.below hb7)
  have BX1 := Lib.hid (heap_below BX1.out hb7)
  have BX2 := Lib.hid (heap_below BX2.out hb7)
  clear hb7
  go_wp2_with (with_reducible first | refine pauseCall ?_ | refine pauseLoop ?_ | refine pauseDraw ?_ | refine pauseBody ?_ | refine pauseRounds ?_)
  refine Pause.mk ?_
  go_ret
  exact ⟨by first | rfl | (simp; done), HB7.out⟩
set_option maxRecDepth 100000 in
set_option maxHeartbeats 3200000 in
theorem spanturns_nob (va : Value) (sa : Bool) (aa ba : List Nat) (ta : Bool) (ca da : List Nat) (vb : Value) (sb : Bool) (ab bb : List Nat) (tb : Bool) (cb db : List Nat) (w : World) (ha : SpV w va sa aa ba ta ca da) (la1 : aa.length ≤ 6) (la2 : ba.length ≤ 6) (la3 : ca.length ≤ 6) (la4 : da.length ≤ 6) (hb : SpV w vb sb ab bb tb cb db) (lb1 : ab.length ≤ 6) (lb2 : bb.length ≤ 6) (lb3 : cb.length ≤ 6) (lb4 : db.length ≤ 6) (hva : Vld sa aa ba ∧ Vld ta ca da ∧ rq sa aa ba ≤ rq ta ca da) (hvb : ¬ (Vld sb ab bb ∧ Vld tb cb db ∧ rq sb ab bb ≤ rq tb cb db)) :
    Calls Tryd.prog 3 #[va, vb] w (RetV w (.bool true)) := by
  have HBW := Lib.hid (Below.refl w.heap.size w)
  have kz0 : rl 0 ≤ 1 := by rw [rl_zero]; exact Nat.le_refl _
  have za := ha.sz.2
  obtain ⟨qa, oa, na, ka, pa, ma, ra, qax, oax, nax, kax, pax, max, rax, rfl⟩ := ha.shape
  have Za : na ≤ 6 ∧ ma ≤ 6 ∧ nax ≤ 6 ∧ max ≤ 6 := by have e1 : na = _ := congrArg (·.1) za; have e2 : ma = _ := congrArg (·.2.1) za; have e3 : nax = _ := congrArg (·.2.2.1) za; have e4 : max = _ := congrArg (·.2.2.2) za; rw [e1, e2, e3, e4]; exact ⟨la1, la2, la3, la4⟩
  clear za
  have hla1 : rl (rq sa aa ba) ≤ 6 := rl_rq ha.lt.1.1 ha.lt.1.2 la1 la2 (by decide); have hla2 : rl (rq ta ca da) ≤ 6 := rl_rq ha.lt.2.1 ha.lt.2.2 la3 la4 (by decide)
  obtain ⟨S_a, hSa⟩ : ∃ S, S = sq sa aa ba ta ca da := ⟨_, rfl⟩
  have hsa : rl S_a.1 ≤ 6 ∧ rl S_a.2 ≤ 6 := by rw [hSa]; exact rl_sq ha.lt.1.1 ha.lt.1.2 ha.lt.2.1 ha.lt.2.2 la1 la2 la3 la4 (by decide)
  obtain ⟨hsa1, hsa2⟩ := hsa
  have Fa := Lib.hid (show SpIs w _ S_a from ⟨_, _, _, _, _, _, ha, hSa.symm, by omega, by omega, by omega, by omega⟩); clear hSa
  have HOa := Lib.hid Fa.out.ok
  obtain ⟨p_a, hpa⟩ : ∃ p, p = rq sa aa ba := ⟨_, rfl⟩; obtain ⟨r_a, hra⟩ : ∃ r, r = rq ta ca da := ⟨_, rfl⟩
  have Fal := Lib.hid (show RatIs w _ p_a from hpa ▸ (spV_ends ha).1.is (by omega) (by omega)); have Fah := Lib.hid (show RatIs w _ r_a from hra ▸ (spV_ends ha).2.is (by omega) (by omega))
  have hla1 : rl p_a ≤ 6 := by rw [hpa]; exact hla1
  have hla2 : rl r_a ≤ 6 := by rw [hra]; exact hla2
  have FaV := Lib.hid ha; clear ha hpa hra
  have zb := hb.sz.2
  obtain ⟨qb, ob, nb, kb, pb, mb, rb, qbx, obx, nbx, kbx, pbx, mbx, rbx, rfl⟩ := hb.shape
  have Zb : nb ≤ 6 ∧ mb ≤ 6 ∧ nbx ≤ 6 ∧ mbx ≤ 6 := by have e1 : nb = _ := congrArg (·.1) zb; have e2 : mb = _ := congrArg (·.2.1) zb; have e3 : nbx = _ := congrArg (·.2.2.1) zb; have e4 : mbx = _ := congrArg (·.2.2.2) zb; rw [e1, e2, e3, e4]; exact ⟨lb1, lb2, lb3, lb4⟩
  clear zb
  have hlb1 : rl (rq sb ab bb) ≤ 6 := rl_rq hb.lt.1.1 hb.lt.1.2 lb1 lb2 (by decide); have hlb2 : rl (rq tb cb db) ≤ 6 := rl_rq hb.lt.2.1 hb.lt.2.2 lb3 lb4 (by decide)
  obtain ⟨S_b, hSb⟩ : ∃ S, S = sq sb ab bb tb cb db := ⟨_, rfl⟩
  have hsb : rl S_b.1 ≤ 6 ∧ rl S_b.2 ≤ 6 := by rw [hSb]; exact rl_sq hb.lt.1.1 hb.lt.1.2 hb.lt.2.1 hb.lt.2.2 lb1 lb2 lb3 lb4 (by decide)
  obtain ⟨hsb1, hsb2⟩ := hsb
  have Fb := Lib.hid (show SpIs w _ S_b from ⟨_, _, _, _, _, _, hb, hSb.symm, by omega, by omega, by omega, by omega⟩); clear hSb
  have HOb := Lib.hid Fb.out.ok
  obtain ⟨p_b, hpb⟩ : ∃ p, p = rq sb ab bb := ⟨_, rfl⟩; obtain ⟨r_b, hrb⟩ : ∃ r, r = rq tb cb db := ⟨_, rfl⟩
  have Fbl := Lib.hid (show RatIs w _ p_b from hpb ▸ (spV_ends hb).1.is (by omega) (by omega)); have Fbh := Lib.hid (show RatIs w _ r_b from hrb ▸ (spV_ends hb).2.is (by omega) (by omega))
  have hlb1 : rl p_b ≤ 6 := by rw [hpb]; exact hlb1
  have hlb2 : rl r_b ≤ 6 := by rw [hrb]; exact hlb2
  have FbV := Lib.hid hb; clear hb hpb hrb
  have HVa := Lib.hid (decide_eq_true hva); clear hva
  have HVb := Lib.hid (decide_eq_false hvb); clear hvb
  obtain ⟨w1, hw1⟩ : ∃ w1, w1 = w.alloc (.cells #[.bool qa, .slice oa na ka, .slice pa ma ra, .bool qax, .slice oax nax kax, .slice pax max rax] 26) := ⟨_, rfl⟩
  have hb1 : Below w.heap.size w w1 := by rw [hw1]; exact (Below.refl _ _).alloc (Nat.le_refl _) _
  have hx1 := heap_alloc_new w (.cells #[.bool qa, .slice oa na ka, .slice pa ma ra, .bool qax, .slice oax nax kax, .slice pax max rax] 26)
  obtain ⟨g1, hg1⟩ : ∃ g, g = w.heap.size := ⟨_, rfl⟩
  rw [← hw1, ← hg1] at hx1
  have lw1 : w.heap.size ≤ g1 := by rw [hg1]; exact HBW.out.size
  have HW1 := Lib.hid hw1; have HG1 := Lib.hid hg1; clear hw1 hg1
  have HB1 := Lib.hid (HBW.out.step hb1)
  have Fa := Lib.hid (Fa.out.below hb1)
  have Fal := Lib.hid (Fal.out.below hb1)
  have Fah := Lib.hid (Fah.out.below hb1)
  have FaV := Lib.hid (FaV.out.below hb1)
  have Fb := Lib.hid (Fb.out.below hb1)
  have Fbl := Lib.hid (Fbl.out.below hb1)
  have Fbh := Lib.hid (Fbh.out.below hb1)
  have FbV := Lib.hid (FbV.out.below hb1)
  have BX1 := Lib.hid hx1; clear hb1 hx1
  obtain ⟨w2, hw2⟩ : ∃ w2, w2 = w1.alloc (.cells #[.bool qb, .slice ob nb kb, .slice pb mb rb, .bool qbx, .slice obx nbx kbx, .slice pbx mbx rbx] 26) := ⟨_, rfl⟩
  have hb2 : Below w1.heap.size w1 w2 := by rw [hw2]; exact (Below.refl _ _).alloc (Nat.le_refl _) _
  have hx2 := heap_alloc_new w1 (.cells #[.bool qb, .slice ob nb kb, .slice pb mb rb, .bool qbx, .slice obx nbx kbx, .slice pbx mbx rbx] 26)
  obtain ⟨g2, hg2⟩ : ∃ g, g = w1.heap.size := ⟨_, rfl⟩
  rw [← hw2, ← hg2] at hx2
  have lw2 : w.heap.size ≤ g2 := by rw [hg2]; exact HB1.out.size
  have ltBX12 : g1 < g2 := by rw [hg2]; exact below_lt BX1.out
  have hs2 : g2 = w.heap.size + 1 := by rw [hg2, HW1.out]; simp
  have HS2 := Lib.hid hs2; clear hs2
  have HW2 := Lib.hid hw2; have HG2 := Lib.hid hg2; clear hw2 hg2
  have HB2 := Lib.hid (HB1.out.step hb2)
  have Fa := Lib.hid (Fa.out.below hb2)
  have Fal := Lib.hid (Fal.out.below hb2)
  have Fah := Lib.hid (Fah.out.below hb2)
  have FaV := Lib.hid (FaV.out.below hb2)
  have Fb := Lib.hid (Fb.out.below hb2)
  have Fbl := Lib.hid (Fbl.out.below hb2)
  have Fbh := Lib.hid (Fbh.out.below hb2)
  have FbV := Lib.hid (FbV.out.below hb2)
  have BX1 := Lib.hid (heap_below BX1.out hb2)
  have BX2 := Lib.hid hx2; clear hb2 hx2
  go_enter Tryd.func3, Tryd.ntmps3
  have hs := awake03 w2
  have HS := Lib.hid hs; clear hs
  go_wp2_with (with_reducible first | refine pauseCall ?_ | refine pauseLoop ?_ | refine pauseDraw ?_ | refine pauseBody ?_ | refine pauseRounds ?_)
  try rw [← HW1.out]
  try rw [← HW2.out]
  try rw [← HS2.out]
  try rw [← HG1.out]
  try rw [← HG2.out]
  refine Pause.mk ?_
  (with_reducible refine HS.out.mono ?_); rintro e w3 ⟨rfl, hb3⟩
  clear HS
  have HB3 := Lib.hid (HB2.out.step hb3)
  have Fa := Lib.hid (Fa.out.below hb3)
  have Fal := Lib.hid (Fal.out.below hb3)
  have Fah := Lib.hid (Fah.out.below hb3)
  have FaV := Lib.hid (FaV.out.below hb3)
  have Fb := Lib.hid (Fb.out.below hb3)
  have Fbl := Lib.hid (Fbl.out.below hb3)
  have Fbh := Lib.hid (Fbh.out.below hb3)
  have FbV := Lib.hid (FbV.out.below hb3)
  have BX1 := Lib.hid (heap_below BX1.out hb3)
  have BX2 := Lib.hid (heap_below BX2.out hb3)
  clear hb3
  obtain ⟨x1_0, x1_1, x1_2, x1_3, x1_4, x1_5⟩ := row6 BX1.out
  obtain ⟨x2_0, x2_1, x2_2, x2_3, x2_4, x2_5⟩ := row6 BX2.out
  obtain ⟨w4, hw4⟩ : ∃ w4, w4 = w3.alloc (.cells #[.bool qa, .slice oa na ka, .slice pa ma ra, .bool qax, .slice oax nax kax, .slice pax max rax, .bool qb, .slice ob nb kb, .slice pb mb rb, .bool qbx, .slice obx nbx kbx, .slice pbx mbx rbx] 26) := ⟨_, rfl⟩
  have hb4 : Below w3.heap.size w3 w4 := by rw [hw4]; exact (Below.refl _ _).alloc (Nat.le_refl _) _
  have hx4 := heap_alloc_new w3 (.cells #[.bool qa, .slice oa na ka, .slice pa ma ra, .bool qax, .slice oax nax kax, .slice pax max rax, .bool qb, .slice ob nb kb, .slice pb mb rb, .bool qbx, .slice obx nbx kbx, .slice pbx mbx rbx] 26)
  obtain ⟨g4, hg4⟩ : ∃ g, g = w3.heap.size := ⟨_, rfl⟩
  rw [← hw4, ← hg4] at hx4
  have lw4 : w.heap.size ≤ g4 := by rw [hg4]; exact HB3.out.size
  have ltBX14 : g1 < g4 := by rw [hg4]; exact below_lt BX1.out
  have ltBX24 : g2 < g4 := by rw [hg4]; exact below_lt BX2.out
  have HW4 := Lib.hid hw4; have HG4 := Lib.hid hg4; clear hw4 hg4
  have HB4 := Lib.hid (HB3.out.step hb4)
  have Fa := Lib.hid (Fa.out.below hb4)
  have Fal := Lib.hid (Fal.out.below hb4)
  have Fah := Lib.hid (Fah.out.below hb4)
  have FaV := Lib.hid (FaV.out.below hb4)
  have Fb := Lib.hid (Fb.out.below hb4)
  have Fbl := Lib.hid (Fbl.out.below hb4)
  have Fbh := Lib.hid (Fbh.out.below hb4)
  have FbV := Lib.hid (FbV.out.below hb4)
  have BX1 := Lib.hid (heap_below BX1.out hb4)
  have BX2 := Lib.hid (heap_below BX2.out hb4)
  have BX4 := Lib.hid hx4; clear hb4 hx4
  have hs := slarge2s BX4.out Za Zb
  have HS := Lib.hid hs; clear hs
  try rw [HG4.out] at x1_0
  try rw [HG4.out] at x1_1
  try rw [HG4.out] at x1_2
  try rw [HG4.out] at x1_3
  try rw [HG4.out] at x1_4
  try rw [HG4.out] at x1_5
  try rw [HG4.out] at x2_0
  try rw [HG4.out] at x2_1
  try rw [HG4.out] at x2_2
  try rw [HG4.out] at x2_3
  try rw [HG4.out] at x2_4
  try rw [HG4.out] at x2_5
  go_wp2_with (with_reducible first | refine pauseCall ?_ | refine pauseLoop ?_ | refine pauseDraw ?_ | refine pauseBody ?_ | refine pauseRounds ?_)
  try rw [← HW4.out]
  try rw [← HG4.out]
  clear x1_0 x1_1 x1_2 x1_3 x1_4 x1_5 x2_0 x2_1 x2_2 x2_3 x2_4 x2_5
  refine Pause.mk ?_
  (with_reducible refine HS.out.mono ?_); rintro e w5 ⟨rfl, hb5⟩
  clear HS
  have HB5 := Lib.hid (HB4.out.step hb5)
  have Fa := Lib.hid (Fa.out.below hb5)
  have Fal := Lib.hid (Fal.out.below hb5)
  have Fah := Lib.hid (Fah.out.below hb5)
  have FaV := Lib.hid (FaV.out.below hb5)
  have Fb := Lib.hid (Fb.out.below hb5)
  have Fbl := Lib.hid (Fbl.out.below hb5)
  have Fbh := Lib.hid (Fbh.out.below hb5)
  have FbV := Lib.hid (FbV.out.below hb5)
  have BX1 := Lib.hid (heap_below BX1.out hb5)
  have BX2 := Lib.hid (heap_below BX2.out hb5)
  have BX4 := Lib.hid (heap_below BX4.out hb5)
  clear BX4
  clear hb5
  obtain ⟨x3_0, x3_1, x3_2, x3_3, x3_4, x3_5⟩ := row6 BX1.out
  have hs := svalid_any _ sa aa ba ta ca da w5 FaV.out (by omega) (by omega) (by omega) (by omega)
  rw [HVa.out] at hs
  have HS := Lib.hid hs; clear hs
  go_wp2_with (with_reducible first | refine pauseCall ?_ | refine pauseLoop ?_ | refine pauseDraw ?_ | refine pauseBody ?_ | refine pauseRounds ?_)
  clear x3_0 x3_1 x3_2 x3_3 x3_4 x3_5
  refine Pause.mk ?_
  (with_reducible refine HS.out.mono ?_); rintro e w6 ⟨rfl, hb6⟩
  clear HS
  have HB6 := Lib.hid (HB5.out.step hb6)
  have Fa := Lib.hid (Fa.out.below hb6)
  have Fal := Lib.hid (Fal.out.below hb6)
  have Fah := Lib.hid (Fah.out.below hb6)
  have FaV := Lib.hid (FaV.out.below hb6)
  have Fb := Lib.hid (Fb.out.below hb6)
  have Fbl := Lib.hid (Fbl.out.below hb6)
  have Fbh := Lib.hid (Fbh.out.below hb6)
  have FbV := Lib.hid (FbV.out.below hb6)
  have BX1 := Lib.hid (heap_below BX1.out hb6)
  have BX2 := Lib.hid (heap_below BX2.out hb6)
  clear hb6
  obtain ⟨x4_0, x4_1, x4_2, x4_3, x4_4, x4_5⟩ := row6 BX2.out
  have hs := svalid_any _ sb ab bb tb cb db w6 FbV.out (by omega) (by omega) (by omega) (by omega)
  rw [HVb.out] at hs
  have HS := Lib.hid hs; clear hs
  go_wp2_with (with_reducible first | refine pauseCall ?_ | refine pauseLoop ?_ | refine pauseDraw ?_ | refine pauseBody ?_ | refine pauseRounds ?_)
  clear x4_0 x4_1 x4_2 x4_3 x4_4 x4_5
  refine Pause.mk ?_
  (with_reducible refine HS.out.mono ?_); rintro e w7 ⟨rfl, hb7⟩
  clear HS
  have HB7 := Lib.hid (HB6.out.step hb7)
  have Fa := Lib.hid (Fa.out.below hb7)
  have Fal := Lib.hid (Fal.out.below hb7)
  have Fah := Lib.hid (Fah.out.below hb7)
  have FaV := Lib.hid (FaV.out.below hb7)
  have Fb := Lib.hid (Fb.out.below hb7)
  have Fbl := Lib.hid (Fbl.out.below hb7)
  have Fbh := Lib.hid (Fbh.out.below hb7)
  have FbV := Lib.hid (FbV.out.below hb7)
  have BX1 := Lib.hid (heap_below BX1.out hb7)
  have BX2 := Lib.hid (heap_below BX2.out hb7)
  clear hb7
  have hs := awake03 w7
  have HS := Lib.hid hs; clear hs
  go_wp2_with (with_reducible first | refine pauseCall ?_ | refine pauseLoop ?_ | refine pauseDraw ?_ | refine pauseBody ?_ | refine pauseRounds ?_)
  refine Pause.mk ?_
  (with_reducible refine HS.out.mono ?_); rintro e w8 ⟨rfl, hb8⟩
  clear HS
  have HB8 := Lib.hid (HB7.out.step hb8)
  have Fa := Lib.hid (Fa.out.below hb8)
  have Fal := Lib.hid (Fal.out.below hb8)
  have Fah := Lib.hid (Fah.out.below hb8)
  have FaV := Lib.hid (FaV.out.below hb8)
  have Fb := Lib.hid (Fb.out.below hb8)
  have Fbl := Lib.hid (Fbl.out.below hb8)
  have Fbh := Lib.hid (Fbh.out.below hb8)
  have FbV := Lib.hid (FbV.out.below hb8)
  have BX1 := Lib.hid (heap_below BX1.out hb8)
  have BX2 := Lib.hid (heap_below BX2.out hb8)
  clear hb8
  go_wp2_with (with_reducible first | refine pauseCall ?_ | refine pauseLoop ?_ | refine pauseDraw ?_ | refine pauseBody ?_ | refine pauseRounds ?_)
  refine Pause.mk ?_
  go_ret
  exact ⟨by first | rfl | (simp; done), HB8.out⟩
set_option maxRecDepth 100000 in
set_option maxHeartbeats 12800000 in
theorem spanturns_ok (va : Value) (sa : Bool) (aa ba : List Nat) (ta : Bool) (ca da : List Nat) (vb : Value) (sb : Bool) (ab bb : List Nat) (tb : Bool) (cb db : List Nat) (w : World) (ha : SpV w va sa aa ba ta ca da) (la1 : aa.length ≤ 6) (la2 : ba.length ≤ 6) (la3 : ca.length ≤ 6) (la4 : da.length ≤ 6) (hva : Vld sa aa ba ∧ Vld ta ca da ∧ rq sa aa ba ≤ rq ta ca da) (hb : SpV w vb sb ab bb tb cb db) (lb1 : ab.length ≤ 6) (lb2 : bb.length ≤ 6) (lb3 : cb.length ≤ 6) (lb4 : db.length ≤ 6) (hvb : Vld sb ab bb ∧ Vld tb cb db ∧ rq sb ab bb ≤ rq tb cb db)  :
    Calls Tryd.prog 3 #[va, vb] w (RetV w (.bool true)) := by
  have HBW := Lib.hid (Below.refl w.heap.size w)
  have kz0 : rl 0 ≤ 1 := by rw [rl_zero]; exact Nat.le_refl _
  have za := ha.sz.2
  obtain ⟨qa, oa, na, ka, pa, ma, ra, qax, oax, nax, kax, pax, max, rax, rfl⟩ := ha.shape
  have Za : na ≤ 6 ∧ ma ≤ 6 ∧ nax ≤ 6 ∧ max ≤ 6 := by have e1 : na = _ := congrArg (·.1) za; have e2 : ma = _ := congrArg (·.2.1) za; have e3 : nax = _ := congrArg (·.2.2.1) za; have e4 : max = _ := congrArg (·.2.2.2) za; rw [e1, e2, e3, e4]; exact ⟨la1, la2, la3, la4⟩
  clear za
  have hla1 : rl (rq sa aa ba) ≤ 6 := rl_rq ha.lt.1.1 ha.lt.1.2 la1 la2 (by decide); have hla2 : rl (rq ta ca da) ≤ 6 := rl_rq ha.lt.2.1 ha.lt.2.2 la3 la4 (by decide)
  have FaI := spV_isSp ha hva.1 hva.2.1
  have hoa := hva.2.2
  have HVa := Lib.hid (decide_eq_true hva); clear hva
  have FaV := Lib.hid ha; clear ha
  obtain ⟨p_a, hpa⟩ : ∃ p, p = rq sa aa ba := ⟨_, rfl⟩; obtain ⟨r_a, hra⟩ : ∃ r, r = rq ta ca da := ⟨_, rfl⟩
  rw [← hpa, ← hra] at FaI; rw [← hpa] at hla1 hoa; rw [← hra] at hla2 hoa
  clear hpa hra
  have HOa := Lib.hid hoa; clear hoa
  have Fal := Lib.hid (show IsR _ _ p_a from (isSp_ends FaI).1); have Fah := Lib.hid (show IsR _ _ r_a from (isSp_ends FaI).2); have Fa := Lib.hid FaI; clear FaI
  have zb := hb.sz.2
  obtain ⟨qb, ob, nb, kb, pb, mb, rb, qbx, obx, nbx, kbx, pbx, mbx, rbx, rfl⟩ := hb.shape
  have Zb : nb ≤ 6 ∧ mb ≤ 6 ∧ nbx ≤ 6 ∧ mbx ≤ 6 := by have e1 : nb = _ := congrArg (·.1) zb; have e2 : mb = _ := congrArg (·.2.1) zb; have e3 : nbx = _ := congrArg (·.2.2.1) zb; have e4 : mbx = _ := congrArg (·.2.2.2) zb; rw [e1, e2, e3, e4]; exact ⟨lb1, lb2, lb3, lb4⟩
  clear zb
  have hlb1 : rl (rq sb ab bb) ≤ 6 := rl_rq hb.lt.1.1 hb.lt.1.2 lb1 lb2 (by decide); have hlb2 : rl (rq tb cb db) ≤ 6 := rl_rq hb.lt.2.1 hb.lt.2.2 lb3 lb4 (by decide)
  have FbI := spV_isSp hb hvb.1 hvb.2.1
  have hob := hvb.2.2
  have HVb := Lib.hid (decide_eq_true hvb); clear hvb
  have FbV := Lib.hid hb; clear hb
  obtain ⟨p_b, hpb⟩ : ∃ p, p = rq sb ab bb := ⟨_, rfl⟩; obtain ⟨r_b, hrb⟩ : ∃ r, r = rq tb cb db := ⟨_, rfl⟩
  rw [← hpb, ← hrb] at FbI; rw [← hpb] at hlb1 hob; rw [← hrb] at hlb2 hob
  clear hpb hrb
  have HOb := Lib.hid hob; clear hob
  have Fbl := Lib.hid (show IsR _ _ p_b from (isSp_ends FbI).1); have Fbh := Lib.hid (show IsR _ _ r_b from (isSp_ends FbI).2); have Fb := Lib.hid FbI; clear FbI
  have HE1 := Lib.hid (show sNeg (sNeg ((p_a, r_a))) = (p_a, r_a) from by show (- -p_a, - -r_a) = (p_a, r_a); rw [Rat.neg_neg, Rat.neg_neg])
  have HE2 := Lib.hid (show sNot (sNot ((p_a, r_a))) = (p_a, r_a) from by show (1 - (1 - p_a), 1 - (1 - r_a)) = (p_a, r_a); rw [show 1 - (1 - p_a) = p_a by grind, show 1 - (1 - r_a) = r_a by grind])
  have HE3 := Lib.hid (show sSub ((p_a, r_a)) ((p_b, r_b)) = sAdd ((p_a, r_a)) (sNeg ((p_b, r_b))) from add_neg.symm)
  have HC1 := Lib.hid (show (0 : Int) = cq (((sAdd ((p_a, r_a)) ((p_b, r_b))).2 - (sAdd ((p_a, r_a)) ((p_b, r_b))).1)) (((r_a - p_a)) + ((r_b - p_b))) from ((cq_eq _ _).2 (by show (r_a + r_b) - (p_a + p_b) = (r_a - p_a) + (r_b - p_b); grind)).symm)
  have HC2 := Lib.hid (show (0 : Int) = cq (((sNot ((p_a, r_a))).2 - (sNot ((p_a, r_a))).1)) ((r_a - p_a)) from ((cq_eq _ _).2 (by show (1 - p_a) - (1 - r_a) = r_a - p_a; grind)).symm)
  obtain ⟨w1, hw1⟩ : ∃ w1, w1 = w.alloc (.cells #[.bool qa, .slice oa na ka, .slice pa ma ra, .bool qax, .slice oax nax kax, .slice pax max rax] 26) := ⟨_, rfl⟩
  have hb1 : Below w.heap.size w w1 := by rw [hw1]; exact (Below.refl _ _).alloc (Nat.le_refl _) _
  have hx1 := heap_alloc_new w (.cells #[.bool qa, .slice oa na ka, .slice pa ma ra, .bool qax, .slice oax nax kax, .slice pax max rax] 26)
  obtain ⟨g1, hg1⟩ : ∃ g, g = w.heap.size := ⟨_, rfl⟩
  rw [← hw1, ← hg1] at hx1
  have lw1 : w.heap.size ≤ g1 := by rw [hg1]; exact HBW.out.size
  have HW1 := Lib.hid hw1; have HG1 := Lib.hid hg1; clear hw1 hg1
  have HB1 := Lib.hid (HBW.out.step hb1)
  have Fa := Lib.hid (Fa.out.below hb1)
  have Fal := Lib.hid (Fal.out.below hb1)
  have Fah := Lib.hid (Fah.out.below hb1)
  have FaV := Lib.hid (FaV.out.below hb1)
  have Fb := Lib.hid (Fb.out.below hb1)
  have Fbl := Lib.hid (Fbl.out.below hb1)
  have Fbh := Lib.hid (Fbh.out.below hb1)
  have FbV := Lib.hid (FbV.out.below hb1)
  have BX1 := Lib.hid hx1; clear hb1 hx1
  obtain ⟨w2, hw2⟩ : ∃ w2, w2 = w1.alloc (.cells #[.bool qb, .slice ob nb kb, .slice pb mb rb, .bool qbx, .slice obx nbx kbx, .slice pbx mbx rbx] 26) := ⟨_, rfl⟩
  have hb2 : Below w1.heap.size w1 w2 := by rw [hw2]; exact (Below.refl _ _).alloc (Nat.le_refl _) _
  have hx2 := heap_alloc_new w1 (.cells #[.bool qb, .slice ob nb kb, .slice pb mb rb, .bool qbx, .slice obx nbx kbx, .slice pbx mbx rbx] 26)
  obtain ⟨g2, hg2⟩ : ∃ g, g = w1.heap.size := ⟨_, rfl⟩
  rw [← hw2, ← hg2] at hx2
  have lw2 : w.heap.size ≤ g2 := by rw [hg2]; exact HB1.out.size
  have ltBX12 : g1 < g2 := by rw [hg2]; exact below_lt BX1.out
  have hs2 : g2 = w.heap.size + 1 := by rw [hg2, HW1.out]; simp
  have HS2 := Lib.hid hs2; clear hs2
  have HW2 := Lib.hid hw2; have HG2 := Lib.hid hg2; clear hw2 hg2
  have HB2 := Lib.hid (HB1.out.step hb2)
  have Fa := Lib.hid (Fa.out.below hb2)
  have Fal := Lib.hid (Fal.out.below hb2)
  have Fah := Lib.hid (Fah.out.below hb2)
  have FaV := Lib.hid (FaV.out.below hb2)
  have Fb := Lib.hid (Fb.out.below hb2)
  have Fbl := Lib.hid (Fbl.out.below hb2)
  have Fbh := Lib.hid (Fbh.out.below hb2)
  have FbV := Lib.hid (FbV.out.below hb2)
  have BX1 := Lib.hid (heap_below BX1.out hb2)
  have BX2 := Lib.hid hx2; clear hb2 hx2
  go_enter Tryd.func3, Tryd.ntmps3
  have hs := awake03 w2
  have HS := Lib.hid hs; clear hs
  go_wp2_with (with_reducible first | refine pauseCall ?_ | refine pauseLoop ?_ | refine pauseDraw ?_ | refine pauseBody ?_ | refine pauseRounds ?_)
  try rw [← HW1.out]
  try rw [← HW2.out]
  try rw [← HS2.out]
  try rw [← HG1.out]
  try rw [← HG2.out]
  refine Pause.mk ?_
  (with_reducible refine HS.out.mono ?_); rintro e w3 ⟨rfl, hb3⟩
  clear HS
  have HB3 := Lib.hid (HB2.out.step hb3)
  have Fa := Lib.hid (Fa.out.below hb3)
  have Fal := Lib.hid (Fal.out.below hb3)
  have Fah := Lib.hid (Fah.out.below hb3)
  have FaV := Lib.hid (FaV.out.below hb3)
  have Fb := Lib.hid (Fb.out.below hb3)
  have Fbl := Lib.hid (Fbl.out.below hb3)
  have Fbh := Lib.hid (Fbh.out.below hb3)
  have FbV := Lib.hid (FbV.out.below hb3)
  have BX1 := Lib.hid (heap_below BX1.out hb3)
  have BX2 := Lib.hid (heap_below BX2.out hb3)
  clear hb3
  obtain ⟨x1_0, x1_1, x1_2, x1_3, x1_4, x1_5⟩ := row6 BX1.out
  obtain ⟨x2_0, x2_1, x2_2, x2_3, x2_4, x2_5⟩ := row6 BX2.out
  obtain ⟨w4, hw4⟩ : ∃ w4, w4 = w3.alloc (.cells #[.bool qa, .slice oa na ka, .slice pa ma ra, .bool qax, .slice oax nax kax, .slice pax max rax, .bool qb, .slice ob nb kb, .slice pb mb rb, .bool qbx, .slice obx nbx kbx, .slice pbx mbx rbx] 26) := ⟨_, rfl⟩
  have hb4 : Below w3.heap.size w3 w4 := by rw [hw4]; exact (Below.refl _ _).alloc (Nat.le_refl _) _
  have hx4 := heap_alloc_new w3 (.cells #[.bool qa, .slice oa na ka, .slice pa ma ra, .bool qax, .slice oax nax kax, .slice pax max rax, .bool qb, .slice ob nb kb, .slice pb mb rb, .bool qbx, .slice obx nbx kbx, .slice pbx mbx rbx] 26)
  obtain ⟨g4, hg4⟩ : ∃ g, g = w3.heap.size := ⟨_, rfl⟩
  rw [← hw4, ← hg4] at hx4
  have lw4 : w.heap.size ≤ g4 := by rw [hg4]; exact HB3.out.size
  have ltBX14 : g1 < g4 := by rw [hg4]; exact below_lt BX1.out
  have ltBX24 : g2 < g4 := by rw [hg4]; exact below_lt BX2.out
  have HW4 := Lib.hid hw4; have HG4 := Lib.hid hg4; clear hw4 hg4
  have HB4 := Lib.hid (HB3.out.step hb4)
  have Fa := Lib.hid (Fa.out.below hb4)
  have Fal := Lib.hid (Fal.out.below hb4)
  have Fah := Lib.hid (Fah.out.below hb4)
  have FaV := Lib.hid (FaV.out.below hb4)
  have Fb := Lib.hid (Fb.out.below hb4)
  have Fbl := Lib.hid (Fbl.out.below hb4)
  have Fbh := Lib.hid (Fbh.out.below hb4)
  have FbV := Lib.hid (FbV.out.below hb4)
  have BX1 := Lib.hid (heap_below BX1.out hb4)
  have BX2 := Lib.hid (heap_below BX2.out hb4)
  have BX4 := Lib.hid hx4; clear hb4 hx4
  have hs := slarge2s BX4.out Za Zb
  have HS := Lib.hid hs; clear hs
  try rw [HG4.out] at x1_0
  try rw [HG4.out] at x1_1
  try rw [HG4.out] at x1_2
  try rw [HG4.out] at x1_3
  try rw [HG4.out] at x1_4
  try rw [HG4.out] at x1_5
  try rw [HG4.out] at x2_0
  try rw [HG4.out] at x2_1
  try rw [HG4.out] at x2_2
  try rw [HG4.out] at x2_3
  try rw [HG4.out] at x2_4
  try rw [HG4.out] at x2_5
  go_wp2_with (with_reducible first | refine pauseCall ?_ | refine pauseLoop ?_ | refine pauseDraw ?_ | refine pauseBody ?_ | refine pauseRounds ?_)
  try rw [← HW4.out]
  try rw [← HG4.out]
  clear x1_0 x1_1 x1_2 x1_3 x1_4 x1_5 x2_0 x2_1 x2_2 x2_3 x2_4 x2_5
  refine Pause.mk ?_
  (with_reducible refine HS.out.mono ?_); rintro e w5 ⟨rfl, hb5⟩
  clear HS
  have HB5 := Lib.hid (HB4.out.step hb5)
  have Fa := Lib.hid (Fa.out.below hb5)
  have Fal := Lib.hid (Fal.out.below hb5)
  have Fah := Lib.hid (Fah.out.below hb5)
  have FaV := Lib.hid (FaV.out.below hb5)
  have Fb := Lib.hid (Fb.out.below hb5)
  have Fbl := Lib.hid (Fbl.out.below hb5)
  have Fbh := Lib.hid (Fbh.out.below hb5)
  have FbV := Lib.hid (FbV.out.below hb5)
  have BX1 := Lib.hid (heap_below BX1.out hb5)
  have BX2 := Lib.hid (heap_below BX2.out hb5)
  have BX4 := Lib.hid (heap_below BX4.out hb5)
  clear BX4
  clear hb5
  obtain ⟨x3_0, x3_1, x3_2, x3_3, x3_4, x3_5⟩ := row6 BX1.out
  obtain ⟨kp4, kp4x⟩ : rl (((p_a), (r_a)) : Rat × Rat).1 ≤ rl (p_a) ∧ rl (((p_a), (r_a)) : Rat × Rat).2 ≤ rl (r_a) := ⟨Nat.le_refl _, Nat.le_refl _⟩
  have hs := svalid_any _ sa aa ba ta ca da w5 FaV.out (by omega) (by omega) (by omega) (by omega)
  rw [HVa.out] at hs
  have HS := Lib.hid hs; clear hs
  go_wp2_with (with_reducible first | refine pauseCall ?_ | refine pauseLoop ?_ | refine pauseDraw ?_ | refine pauseBody ?_ | refine pauseRounds ?_)
  clear x3_0 x3_1 x3_2 x3_3 x3_4 x3_5
  refine Pause.mk ?_
  (with_reducible refine HS.out.mono ?_); rintro e w6 ⟨rfl, hb6⟩
  clear HS
  have HB6 := Lib.hid (HB5.out.step hb6)
  have Fa := Lib.hid (Fa.out.below hb6)
  have Fal := Lib.hid (Fal.out.below hb6)
  have Fah := Lib.hid (Fah.out.below hb6)
  have FaV := Lib.hid (FaV.out.below hb6)
  have Fb := Lib.hid (Fb.out.below hb6)
  have Fbl := Lib.hid (Fbl.out.below hb6)
  have Fbh := Lib.hid (Fbh.out.below hb6)
  have FbV := Lib.hid (FbV.out.below hb6)
  have BX1 := Lib.hid (heap_below BX1.out hb6)
  have BX2 := Lib.hid (heap_below BX2.out hb6)
  clear hb6
  obtain ⟨x5_0, x5_1, x5_2, x5_3, x5_4, x5_5⟩ := row6 BX2.out
  obtain ⟨kp6, kp6x⟩ : rl (((p_b), (r_b)) : Rat × Rat).1 ≤ rl (p_b) ∧ rl (((p_b), (r_b)) : Rat × Rat).2 ≤ rl (r_b) := ⟨Nat.le_refl _, Nat.le_refl _⟩
  have hs := svalid_any _ sb ab bb tb cb db w6 FbV.out (by omega) (by omega) (by omega) (by omega)
  rw [HVb.out] at hs
  have HS := Lib.hid hs; clear hs
  go_wp2_with (with_reducible first | refine pauseCall ?_ | refine pauseLoop ?_ | refine pauseDraw ?_ | refine pauseBody ?_ | refine pauseRounds ?_)
  clear x5_0 x5_1 x5_2 x5_3 x5_4 x5_5
  refine Pause.mk ?_
  (with_reducible refine HS.out.mono ?_); rintro e w7 ⟨rfl, hb7⟩
  clear HS
  have HB7 := Lib.hid (HB6.out.step hb7)
  have Fa := Lib.hid (Fa.out.below hb7)
  have Fal := Lib.hid (Fal.out.below hb7)
  have Fah := Lib.hid (Fah.out.below hb7)
  have FaV := Lib.hid (FaV.out.below hb7)
  have Fb := Lib.hid (Fb.out.below hb7)
  have Fbl := Lib.hid (Fbl.out.below hb7)
  have Fbh := Lib.hid (Fbh.out.below hb7)
  have FbV := Lib.hid (FbV.out.below hb7)
  have BX1 := Lib.hid (heap_below BX1.out hb7)
  have BX2 := Lib.hid (heap_below BX2.out hb7)
  clear hb7
  go_wp2_with (with_reducible first | refine pauseCall ?_ | refine pauseLoop ?_ | refine pauseDraw ?_ | refine pauseBody ?_ | refine pauseRounds ?_)
  refine Pause.mk ?_
  obtain ⟨kp9, kp9x⟩ : rl (((p_a), (r_a)) : Rat × Rat).1 ≤ rl (p_a) ∧ rl (((p_a), (r_a)) : Rat × Rat).2 ≤ rl (r_a) := ⟨Nat.le_refl _, Nat.le_refl _⟩
  obtain ⟨k7, k8⟩ := rl_sNeg ((p_a, r_a))
  obtain ⟨k10, k11⟩ := rl_sNeg (sNeg ((p_a, r_a)))
  obtain ⟨kp12, kp12x⟩ : rl (((p_a), (r_a)) : Rat × Rat).1 ≤ rl (p_a) ∧ rl (((p_a), (r_a)) : Rat × Rat).2 ≤ rl (r_a) := ⟨Nat.le_refl _, Nat.le_refl _⟩
  obtain ⟨kp13, kp13x⟩ : rl (((p_a), (r_a)) : Rat × Rat).1 ≤ rl (p_a) ∧ rl (((p_a), (r_a)) : Rat × Rat).2 ≤ rl (r_a) := ⟨Nat.le_refl _, Nat.le_refl _⟩
  obtain ⟨kp16, kp16x⟩ : rl (((p_a), (r_a)) : Rat × Rat).1 ≤ rl (p_a) ∧ rl (((p_a), (r_a)) : Rat × Rat).2 ≤ rl (r_a) := ⟨Nat.le_refl _, Nat.le_refl _⟩
  obtain ⟨k14, k15⟩ := rl_sNot ((p_a, r_a))
  obtain ⟨k17, k18⟩ := rl_sNot (sNot ((p_a, r_a)))
  obtain ⟨kp19, kp19x⟩ : rl (((p_a), (r_a)) : Rat × Rat).1 ≤ rl (p_a) ∧ rl (((p_a), (r_a)) : Rat × Rat).2 ≤ rl (r_a) := ⟨Nat.le_refl _, Nat.le_refl _⟩
  obtain ⟨kp20, kp20x⟩ : rl (((p_a), (r_a)) : Rat × Rat).1 ≤ rl (p_a) ∧ rl (((p_a), (r_a)) : Rat × Rat).2 ≤ rl (r_a) := ⟨Nat.le_refl _, Nat.le_refl _⟩
  obtain ⟨kp23, kp23x⟩ : rl (((p_a), (r_a)) : Rat × Rat).1 ≤ rl (p_a) ∧ rl (((p_a), (r_a)) : Rat × Rat).2 ≤ rl (r_a) := ⟨Nat.le_refl _, Nat.le_refl _⟩
  obtain ⟨kp24, kp24x⟩ : rl (((p_b), (r_b)) : Rat × Rat).1 ≤ rl (p_b) ∧ rl (((p_b), (r_b)) : Rat × Rat).2 ≤ rl (r_b) := ⟨Nat.le_refl _, Nat.le_refl _⟩
  obtain ⟨k21, k22⟩ := rl_sSub ((p_a, r_a)) ((p_b, r_b))
  obtain ⟨kp27, kp27x⟩ : rl (((p_b), (r_b)) : Rat × Rat).1 ≤ rl (p_b) ∧ rl (((p_b), (r_b)) : Rat × Rat).2 ≤ rl (r_b) := ⟨Nat.le_refl _, Nat.le_refl _⟩
  obtain ⟨k25, k26⟩ := rl_sNeg ((p_b, r_b))
  refine wp_region_facts (A := ?aa28) (w := w7) 21 [] (by kernel_rfl) (Fl [KEq (.agg #[.bool qa, .slice oa na ka, .slice pa ma ra, .bool qax, .slice oax nax kax, .slice pax max rax]), KSp (sNeg ((p_a, r_a))), KSp ((p_a, r_a)), KEq (.agg #[.bool qa, .slice oa na ka, .slice pa ma ra, .bool qax, .slice oax nax kax, .slice pax max rax]), KEq (.bool true), KEq (.bool false), KEq (.bool false), KEq (.agg #[.bool qa, .slice oa na ka, .slice pa ma ra, .bool qax, .slice oax nax kax, .slice pax max rax]), KSp (sNot ((p_a, r_a))), KSp ((p_a, r_a)), KEq (.agg #[.bool qa, .slice oa na ka, .slice pa ma ra, .bool qax, .slice oax nax kax, .slice pax max rax]), KEq (.bool true), KEq (.bool false), KEq (.bool false), KEq (.bool false), KEq (.agg #[.bool qa, .slice oa na ka, .slice pa ma ra, .bool qax, .slice oax nax kax, .slice pax max rax]), KEq (.agg #[.bool qb, .slice ob nb kb, .slice pb mb rb, .bool qbx, .slice obx nbx kbx, .slice pbx mbx rbx]), KSp (sAdd ((p_a, r_a)) (sNeg ((p_b, r_b)))), KEq (.agg #[.bool qa, .slice oa na ka, .slice pa ma ra, .bool qax, .slice oax nax kax, .slice pax max rax]), KEq (.agg #[.bool qb, .slice ob nb kb, .slice pb mb rb, .bool qbx, .slice obx nbx kbx, .slice pbx mbx rbx]), KSp (sNeg ((p_b, r_b)))]) (fun i => false) (by kernel_rfl) ?hq28 (monoL (monoC (kEq _) (monoC (kSp _) (monoC (kSp _) (monoC (kEq _) (monoC (kEq _) (monoC (kEq _) (monoC (kEq _) (monoC (kEq _) (monoC (kSp _) (monoC (kSp _) (monoC (kEq _) (monoC (kEq _) (monoC (kEq _) (monoC (kEq _) (monoC (kEq _) (monoC (kEq _) (monoC (kEq _) (monoC (kSp _) (monoC (kEq _) (monoC (kEq _) (monoC (kSp _) monoN)))))))))))))))))))))) ?ha28 ?st28 ?tl28
  case hq28 =>
    intro c a d v w h
    first | (simp only [Exit.then] at h ⊢; exact h) | (simp only [Exit.inBlock, Exit.then] at h ⊢; exact h) | exact h
  case ha28 =>
    intro vals
    simp only [putsTo, dstOf, if_true, Act.put, List.setIfInBounds_toArray, List.set_cons_zero, List.set_cons_succ, List.getElem?_toArray, List.getElem?_cons_zero, List.getElem?_cons_succ, Option.bind_some]
    exact rfl
  case st28 =>
    simp only [List.take_succ_cons, List.take_zero]
    refine stepsOK_cons rfl rfl ?_ (stepsOK_cons rfl rfl ?_ (stepsOK_cons rfl rfl ?_ (stepsOK_cons rfl rfl ?_ (stepsOK_cons rfl rfl ?_ (stepsOK_cons rfl rfl ?_ (stepsOK_cons rfl rfl ?_ (stepsOK_guard rfl ?_ (stepsOK_guard rfl ?_ (stepsOK_guard rfl ?_ (stepsOK_guard rfl ?_ (stepsOK_guard rfl ?_ (stepsOK_guard rfl ?_ (stepsOK_cons rfl rfl ?_ (stepsOK_cons rfl rfl ?_ (stepsOK_guard rfl ?_ (stepsOK_guard rfl ?_ (stepsOK_guard rfl ?_ (stepsOK_guard rfl ?_ (stepsOK_guard rfl ?_ (stepsOK_guard rfl ?_ (stepsOK_nil)))))))))))))))))))))
    · intro vals w1 hb hd
      obtain ⟨e0, e1, e2, e3, e4, e5⟩ := row6 (heap_below BX1.out hb)
      refine stepOK_value (v := .agg #[.bool qa, .slice oa na ka, .slice pa ma ra, .bool qax, .slice oax nax kax, .slice pax max rax]) (w' := w1) (by go_simp) (leaves_mk (Below.refl _ _) rfl (fun h => by cases h))
    · intro vals w1 hb hd
      have d0 : KEq (.agg #[.bool qa, .slice oa na ka, .slice pa ma ra, .bool qax, .slice oax nax kax, .slice pax max rax]) (vals 0) w1 := hd 0 (by kernel_rfl)
      have z0 : vals 0 = _ := d0
      have hs := sneg_any _ ((p_a, r_a)) w1 ((Fa.out.below hb).is HOa.out (by omega) (by omega)) (by omega) (by omega)
      have HS := Lib.hid hs; clear hs
      rw [z0]; clear z0
      clear d0 hd
      refine stepOK_call (by go_simp; first | done | exact ⟨⟨rfl, rfl⟩, rfl⟩) ?_
      (with_reducible refine HS.out.mono ?_); rintro e w2 ⟨v, rfl, hb2, hn⟩
      exact ⟨v, rfl, leaves_mk hb2 hn (fun h => by cases h)⟩
    · intro vals w1 hb hd
      have d1 : KSp (sNeg ((p_a, r_a))) (vals 1) w1 := hd 1 (by kernel_rfl)
      have R1 : Hid (IsSp w1 (vals 1) (sNeg ((p_a, r_a)))) := Lib.hid d1
      have hs := sneg_any _ (sNeg ((p_a, r_a))) w1 (R1.out.is (sNeg_ok HOa.out) (by omega) (by omega)) (by omega) (by omega)
      have HS := Lib.hid hs; clear hs
      clear d1 hd
      refine stepOK_call (by go_simp; first | done | exact ⟨⟨rfl, rfl⟩, rfl⟩) ?_
      (with_reducible refine HS.out.mono ?_); rintro e w2 ⟨v, rfl, hb2, hn⟩
      rw [HE1.out] at hn
      exact ⟨v, rfl, leaves_mk hb2 hn (fun h => by cases h)⟩
    · intro vals w1 hb hd
      obtain ⟨e0, e1, e2, e3, e4, e5⟩ := row6 (heap_below BX1.out hb)
      refine stepOK_value (v := .agg #[.bool qa, .slice oa na ka, .slice pa ma ra, .bool qax, .slice oax nax kax, .slice pax max rax]) (w' := w1) (by go_simp) (leaves_mk (Below.refl _ _) rfl (fun h => by cases h))
    · intro vals w1 hb hd
      have d2 : KSp ((p_a, r_a)) (vals 2) w1 := hd 2 (by kernel_rfl)
      have R2 : Hid (IsSp w1 (vals 2) ((p_a, r_a))) := Lib.hid d2
      have d3 : KEq (.agg #[.bool qa, .slice oa na ka, .slice pa ma ra, .bool qax, .slice oax nax kax, .slice pax max rax]) (vals 3) w1 := hd 3 (by kernel_rfl)
      have z3 : vals 3 = _ := d3
      have hs := spsame_any _ ((p_a, r_a)) _ w1 R2.out (Fa.out.below hb) (by omega) (by omega)
      have HS := Lib.hid hs; clear hs
      rw [z3]; clear z3
      clear d2 d3 hd
      refine stepOK_call (by go_simp; first | done | exact ⟨⟨rfl, rfl⟩, rfl⟩) ?_
      (with_reducible refine HS.out.mono ?_); rintro e w2 ⟨rfl, hb2⟩
      exact ⟨_, rfl, leaves_mk hb2 rfl (fun h => by cases h)⟩
    · intro vals w1 hb hd
      have d4 : KEq (.bool true) (vals 4) w1 := hd 4 (by kernel_rfl)
      rw [show vals 4 = _ from d4]
      refine stepOK_value (v := (.bool false)) (w' := w1) (by go_simp) (leaves_mk (Below.refl _ _) rfl (fun h => by cases h))
    · intro vals w1 hb hd
      have d5 : KEq (.bool false) (vals 5) w1 := hd 5 (by kernel_rfl)
      rw [show vals 5 = _ from d5]
      refine stepOK_value (v := (.bool false)) (w' := w1) (by go_simp) (leaves_mk (Below.refl _ _) rfl (fun h => by cases h))
    · intro vals w1 hb hd
      have dg : KEq (.bool false) (vals 6) w1 := hd 6 (by kernel_rfl)
      refine stepG_yes (wanted_of rfl rfl (congrArg some dg) rfl) ?_
      clear dg
      obtain ⟨e0, e1, e2, e3, e4, e5⟩ := row6 (heap_below BX1.out hb)
      refine stepOK_value (v := .agg #[.bool qa, .slice oa na ka, .slice pa ma ra, .bool qax, .slice oax nax kax, .slice pax max rax]) (w' := w1) (by go_simp) (leaves_mk (Below.refl _ _) rfl (fun h => by cases h))
    · intro vals w1 hb hd
      have dg : KEq (.bool false) (vals 6) w1 := hd 6 (by kernel_rfl)
      refine stepG_yes (wanted_of rfl rfl (congrArg some dg) rfl) ?_
      clear dg
      have d7 : KEq (.agg #[.bool qa, .slice oa na ka, .slice pa ma ra, .bool qax, .slice oax nax kax, .slice pax max rax]) (vals 7) w1 := hd 7 (by kernel_rfl)
      have z7 : vals 7 = _ := d7
      have hs := snot_any _ ((p_a, r_a)) w1 ((Fa.out.below hb).is HOa.out (by omega) (by omega)) (by omega) (by omega)
      have HS := Lib.hid hs; clear hs
      rw [z7]; clear z7
      clear d7 hd
      refine stepOK_call (by go_simp; first | done | exact ⟨⟨rfl, rfl⟩, rfl⟩) ?_
      (with_reducible refine HS.out.mono ?_); rintro e w2 ⟨v, rfl, hb2, hn⟩
      exact ⟨v, rfl, leaves_mk hb2 hn (fun h => by cases h)⟩
    · intro vals w1 hb hd
      have dg : KEq (.bool false) (vals 6) w1 := hd 6 (by kernel_rfl)
      refine stepG_yes (wanted_of rfl rfl (congrArg some dg) rfl) ?_
      clear dg
      have d8 : KSp (sNot ((p_a, r_a))) (vals 8) w1 := hd 8 (by kernel_rfl)
      have R8 : Hid (IsSp w1 (vals 8) (sNot ((p_a, r_a)))) := Lib.hid d8
      have hs := snot_any _ (sNot ((p_a, r_a))) w1 (R8.out.is (sNot_ok HOa.out) (by omega) (by omega)) (by omega) (by omega)
      have HS := Lib.hid hs; clear hs
      clear d8 hd
      refine stepOK_call (by go_simp; first | done | exact ⟨⟨rfl, rfl⟩, rfl⟩) ?_
      (with_reducible refine HS.out.mono ?_); rintro e w2 ⟨v, rfl, hb2, hn⟩
      rw [HE2.out] at hn
      exact ⟨v, rfl, leaves_mk hb2 hn (fun h => by cases h)⟩
    · intro vals w1 hb hd
      have dg : KEq (.bool false) (vals 6) w1 := hd 6 (by kernel_rfl)
      refine stepG_yes (wanted_of rfl rfl (congrArg some dg) rfl) ?_
      clear dg
      obtain ⟨e0, e1, e2, e3, e4, e5⟩ := row6 (heap_below BX1.out hb)
      refine stepOK_value (v := .agg #[.bool qa, .slice oa na ka, .slice pa ma ra, .bool qax, .slice oax nax kax, .slice pax max rax]) (w' := w1) (by go_simp) (leaves_mk (Below.refl _ _) rfl (fun h => by cases h))
    · intro vals w1 hb hd
      have dg : KEq (.bool false) (vals 6) w1 := hd 6 (by kernel_rfl)
      refine stepG_yes (wanted_of rfl rfl (congrArg some dg) rfl) ?_
      clear dg
      have d9 : KSp ((p_a, r_a)) (vals 9) w1 := hd 9 (by kernel_rfl)
      have R9 : Hid (IsSp w1 (vals 9) ((p_a, r_a))) := Lib.hid d9
      have d10 : KEq (.agg #[.bool qa, .slice oa na ka, .slice pa ma ra, .bool qax, .slice oax nax kax, .slice pax max rax]) (vals 10) w1 := hd 10 (by kernel_rfl)
      have z10 : vals 10 = _ := d10
      have hs := spsame_any _ ((p_a, r_a)) _ w1 R9.out (Fa.out.below hb) (by omega) (by omega)
      have HS := Lib.hid hs; clear hs
      rw [z10]; clear z10
      clear d9 d10 hd
      refine stepOK_call (by go_simp; first | done | exact ⟨⟨rfl, rfl⟩, rfl⟩) ?_
      (with_reducible refine HS.out.mono ?_); rintro e w2 ⟨rfl, hb2⟩
      exact ⟨_, rfl, leaves_mk hb2 rfl (fun h => by cases h)⟩
    · intro vals w1 hb hd
      have dg : KEq (.bool false) (vals 6) w1 := hd 6 (by kernel_rfl)
      refine stepG_yes (wanted_of rfl rfl (congrArg some dg) rfl) ?_
      clear dg
      have d11 : KEq (.bool true) (vals 11) w1 := hd 11 (by kernel_rfl)
      rw [show vals 11 = _ from d11]
      refine stepOK_value (v := (.bool false)) (w' := w1) (by go_simp) (leaves_mk (Below.refl _ _) rfl (fun h => by cases h))
    · intro vals w1 hb hd
      have d6 : KEq (.bool false) (vals 6) w1 := hd 6 (by kernel_rfl)
      have d12 : KEq (.bool false) (vals 12) w1 := hd 12 (by kernel_rfl)
      rw [show vals 6 = _ from d6]
      rw [show vals 12 = _ from d12]
      refine stepOK_value (v := (.bool false)) (w' := w1) (by go_simp) (leaves_mk (Below.refl _ _) rfl (fun h => by cases h))
    · intro vals w1 hb hd
      have d13 : KEq (.bool false) (vals 13) w1 := hd 13 (by kernel_rfl)
      rw [show vals 13 = _ from d13]
      refine stepOK_value (v := (.bool false)) (w' := w1) (by go_simp) (leaves_mk (Below.refl _ _) rfl (fun h => by cases h))
    · intro vals w1 hb hd
      have dg : KEq (.bool false) (vals 14) w1 := hd 14 (by kernel_rfl)
      refine stepG_yes (wanted_of rfl rfl (congrArg some dg) rfl) ?_
      clear dg
      obtain ⟨e0, e1, e2, e3, e4, e5⟩ := row6 (heap_below BX1.out hb)
      refine stepOK_value (v := .agg #[.bool qa, .slice oa na ka, .slice pa ma ra, .bool qax, .slice oax nax kax, .slice pax max rax]) (w' := w1) (by go_simp) (leaves_mk (Below.refl _ _) rfl (fun h => by cases h))
    · intro vals w1 hb hd
      have dg : KEq (.bool false) (vals 14) w1 := hd 14 (by kernel_rfl)
      refine stepG_yes (wanted_of rfl rfl (congrArg some dg) rfl) ?_
      clear dg
      obtain ⟨e0, e1, e2, e3, e4, e5⟩ := row6 (heap_below BX2.out hb)
      refine stepOK_value (v := .agg #[.bool qb, .slice ob nb kb, .slice pb mb rb, .bool qbx, .slice obx nbx kbx, .slice pbx mbx rbx]) (w' := w1) (by go_simp) (leaves_mk (Below.refl _ _) rfl (fun h => by cases h))
    · intro vals w1 hb hd
      have dg : KEq (.bool false) (vals 14) w1 := hd 14 (by kernel_rfl)
      refine stepG_yes (wanted_of rfl rfl (congrArg some dg) rfl) ?_
      clear dg
      have d15 : KEq (.agg #[.bool qa, .slice oa na ka, .slice pa ma ra, .bool qax, .slice oax nax kax, .slice pax max rax]) (vals 15) w1 := hd 15 (by kernel_rfl)
      have d16 : KEq (.agg #[.bool qb, .slice ob nb kb, .slice pb mb rb, .bool qbx, .slice obx nbx kbx, .slice pbx mbx rbx]) (vals 16) w1 := hd 16 (by kernel_rfl)
      have z15 : vals 15 = _ := d15
      have z16 : vals 16 = _ := d16
      have hs := ssub_any _ ((p_a, r_a)) _ ((p_b, r_b)) w1 ((Fa.out.below hb).is HOa.out (by omega) (by omega)) ((Fb.out.below hb).is HOb.out (by omega) (by omega)) (by omega) (by omega) (by omega) (by omega)
      have HS := Lib.hid hs; clear hs
      rw [z15]; clear z15
      rw [z16]; clear z16
      clear d15 d16 hd
      refine stepOK_call (by go_simp; first | done | exact ⟨⟨rfl, rfl⟩, rfl⟩) ?_
      (with_reducible refine HS.out.mono ?_); rintro e w2 ⟨v, rfl, hb2, hn⟩
      rw [HE3.out] at hn
      exact ⟨v, rfl, leaves_mk hb2 hn (fun h => by cases h)⟩
    · intro vals w1 hb hd
      have dg : KEq (.bool false) (vals 14) w1 := hd 14 (by kernel_rfl)
      refine stepG_yes (wanted_of rfl rfl (congrArg some dg) rfl) ?_
      clear dg
      obtain ⟨e0, e1, e2, e3, e4, e5⟩ := row6 (heap_below BX1.out hb)
      refine stepOK_value (v := .agg #[.bool qa, .slice oa na ka, .slice pa ma ra, .bool qax, .slice oax nax kax, .slice pax max rax]) (w' := w1) (by go_simp) (leaves_mk (Below.refl _ _) rfl (fun h => by cases h))
    · intro vals w1 hb hd
      have dg : KEq (.bool false) (vals 14) w1 := hd 14 (by kernel_rfl)
      refine stepG_yes (wanted_of rfl rfl (congrArg some dg) rfl) ?_
      clear dg
      obtain ⟨e0, e1, e2, e3, e4, e5⟩ := row6 (heap_below BX2.out hb)
      refine stepOK_value (v := .agg #[.bool qb, .slice ob nb kb, .slice pb mb rb, .bool qbx, .slice obx nbx kbx, .slice pbx mbx rbx]) (w' := w1) (by go_simp) (leaves_mk (Below.refl _ _) rfl (fun h => by cases h))
    · intro vals w1 hb hd
      have dg : KEq (.bool false) (vals 14) w1 := hd 14 (by kernel_rfl)
      refine stepG_yes (wanted_of rfl rfl (congrArg some dg) rfl) ?_
      clear dg
      have d19 : KEq (.agg #[.bool qb, .slice ob nb kb, .slice pb mb rb, .bool qbx, .slice obx nbx kbx, .slice pbx mbx rbx]) (vals 19) w1 := hd 19 (by kernel_rfl)
      have z19 : vals 19 = _ := d19
      have hs := sneg_any _ ((p_b, r_b)) w1 ((Fb.out.below hb).is HOb.out (by omega) (by omega)) (by omega) (by omega)
      have HS := Lib.hid hs; clear hs
      rw [z19]; clear z19
      clear d19 hd
      refine stepOK_call (by go_simp; first | done | exact ⟨⟨rfl, rfl⟩, rfl⟩) ?_
      (with_reducible refine HS.out.mono ?_); rintro e w2 ⟨v, rfl, hb2, hn⟩
      exact ⟨v, rfl, leaves_mk hb2 hn (fun h => by cases h)⟩
  case tl28 =>
    intro vals w8 hb8 hf hdis
    simp only [List.drop_succ_cons, List.drop_zero]
    have z14 : vals 14 = _ := hf 14 (by decide)
    try rw [z14]
    clear z14
    obtain ⟨u28_17, hu17⟩ : ∃ u, u = vals 17 := ⟨_, rfl⟩
    have hn28_17 : IsSp w8 (vals 17) (sAdd ((p_a, r_a)) (sNeg ((p_b, r_b)))) := hf 17 (by decide)
    rw [← hu17] at hn28_17 ⊢; clear hu17
    have z18 : vals 18 = _ := hf 18 (by decide)
    try rw [z18]
    clear z18
    obtain ⟨u28_20, hu20⟩ : ∃ u, u = vals 20 := ⟨_, rfl⟩
    have hn28_20 : IsSp w8 (vals 20) (sNeg ((p_b, r_b))) := hf 20 (by decide)
    rw [← hu20] at hn28_20 ⊢; clear hu20
    clear hf hdis
    have HB8 := Lib.hid (HB7.out.step hb8)
    have Fa := Lib.hid (Fa.out.below hb8)
    have Fal := Lib.hid (Fal.out.below hb8)
    have Fah := Lib.hid (Fah.out.below hb8)
    have FaV := Lib.hid (FaV.out.below hb8)
    have Fb := Lib.hid (Fb.out.below hb8)
    have Fbl := Lib.hid (Fbl.out.below hb8)
    have Fbh := Lib.hid (Fbh.out.below hb8)
    have FbV := Lib.hid (FbV.out.below hb8)
    have BX1 := Lib.hid (heap_below BX1.out hb8)
    have BX2 := Lib.hid (heap_below BX2.out hb8)
    clear hb8
    have N28_17 := Lib.hid hn28_17; clear hn28_17
    obtain ⟨s29, o29, n29, c29, a29, m29, d29, s29x, o29x, n29x, c29x, a29x, m29x, d29x, rfl⟩ := N28_17.out.shape
    have N28_17l := Lib.hid (isSp_ends N28_17.out).1; have N28_17h := Lib.hid (isSp_ends N28_17.out).2
    have N28_20 := Lib.hid hn28_20; clear hn28_20
    obtain ⟨s30, o30, n30, c30, a30, m30, d30, s30x, o30x, n30x, c30x, a30x, m30x, d30x, rfl⟩ := N28_20.out.shape
    have N28_20l := Lib.hid (isSp_ends N28_20.out).1; have N28_20h := Lib.hid (isSp_ends N28_20.out).2
    skip
    obtain ⟨kp33, kp33x⟩ : rl (((p_a), (r_a)) : Rat × Rat).1 ≤ rl (p_a) ∧ rl (((p_a), (r_a)) : Rat × Rat).2 ≤ rl (r_a) := ⟨Nat.le_refl _, Nat.le_refl _⟩
    obtain ⟨k31, k32⟩ := rl_sAdd ((p_a, r_a)) (sNeg ((p_b, r_b)))
    have hs := sadd_any _ ((p_a, r_a)) _ (sNeg ((p_b, r_b))) w8 (Fa.out.is HOa.out (by omega) (by omega)) (N28_20.out.is (sNeg_ok HOb.out) (by omega) (by omega)) (by omega) (by omega) (by omega) (by omega)
    have HS := Lib.hid hs; clear hs
    go_wp2_with (with_reducible first | refine pauseCall ?_ | refine pauseLoop ?_ | refine pauseDraw ?_ | refine pauseBody ?_ | refine pauseRounds ?_)
    refine Pause.mk ?_
    (with_reducible refine HS.out.mono ?_); rintro e w9 ⟨v9, rfl, hb9, hn9⟩
    clear HS
    have HB9 := Lib.hid (HB8.out.step hb9)
    have Fa := Lib.hid (Fa.out.below hb9)
    have Fal := Lib.hid (Fal.out.below hb9)
    have Fah := Lib.hid (Fah.out.below hb9)
    have FaV := Lib.hid (FaV.out.below hb9)
    have Fb := Lib.hid (Fb.out.below hb9)
    have Fbl := Lib.hid (Fbl.out.below hb9)
    have Fbh := Lib.hid (Fbh.out.below hb9)
    have FbV := Lib.hid (FbV.out.below hb9)
    have N28_17 := Lib.hid (N28_17.out.below hb9)
    have N28_17l := Lib.hid (N28_17l.out.below hb9)
    have N28_17h := Lib.hid (N28_17h.out.below hb9)
    have N28_20 := Lib.hid (N28_20.out.below hb9)
    have N28_20l := Lib.hid (N28_20l.out.below hb9)
    have N28_20h := Lib.hid (N28_20h.out.below hb9)
    have BX1 := Lib.hid (heap_below BX1.out hb9)
    have BX2 := Lib.hid (heap_below BX2.out hb9)
    have N9 := Lib.hid hn9; clear hn9
    obtain ⟨s34, o34, n34, c34, a34, m34, d34, s34x, o34x, n34x, c34x, a34x, m34x, d34x, rfl⟩ := N9.out.shape
    have N9l := Lib.hid (isSp_ends N9.out).1; have N9h := Lib.hid (isSp_ends N9.out).2
    clear hb9
    have hs := spsame_any _ (sAdd ((p_a, r_a)) (sNeg ((p_b, r_b)))) _ w9 N28_17.out N9.out (by omega) (by omega)
    have HS := Lib.hid hs; clear hs
    go_wp2_with (with_reducible first | refine pauseCall ?_ | refine pauseLoop ?_ | refine pauseDraw ?_ | refine pauseBody ?_ | refine pauseRounds ?_)
    refine Pause.mk ?_
    (with_reducible refine HS.out.mono ?_); rintro e w10 ⟨rfl, hb10⟩
    clear HS
    have HB10 := Lib.hid (HB9.out.step hb10)
    have Fa := Lib.hid (Fa.out.below hb10)
    have Fal := Lib.hid (Fal.out.below hb10)
    have Fah := Lib.hid (Fah.out.below hb10)
    have FaV := Lib.hid (FaV.out.below hb10)
    have Fb := Lib.hid (Fb.out.below hb10)
    have Fbl := Lib.hid (Fbl.out.below hb10)
    have Fbh := Lib.hid (Fbh.out.below hb10)
    have FbV := Lib.hid (FbV.out.below hb10)
    have N28_17 := Lib.hid (N28_17.out.below hb10)
    have N28_17l := Lib.hid (N28_17l.out.below hb10)
    have N28_17h := Lib.hid (N28_17h.out.below hb10)
    have N28_20 := Lib.hid (N28_20.out.below hb10)
    have N28_20l := Lib.hid (N28_20l.out.below hb10)
    have N28_20h := Lib.hid (N28_20h.out.below hb10)
    have N9 := Lib.hid (N9.out.below hb10)
    have N9l := Lib.hid (N9l.out.below hb10)
    have N9h := Lib.hid (N9h.out.below hb10)
    have BX1 := Lib.hid (heap_below BX1.out hb10)
    have BX2 := Lib.hid (heap_below BX2.out hb10)
    clear hb10
    go_wp2_with (with_reducible first | refine pauseCall ?_ | refine pauseLoop ?_ | refine pauseDraw ?_ | refine pauseBody ?_ | refine pauseRounds ?_)
    refine Pause.mk ?_
    obtain ⟨kp37, kp37x⟩ : rl (((p_a), (r_a)) : Rat × Rat).1 ≤ rl (p_a) ∧ rl (((p_a), (r_a)) : Rat × Rat).2 ≤ rl (r_a) := ⟨Nat.le_refl _, Nat.le_refl _⟩
    obtain ⟨kp38, kp38x⟩ : rl (((p_b), (r_b)) : Rat × Rat).1 ≤ rl (p_b) ∧ rl (((p_b), (r_b)) : Rat × Rat).2 ≤ rl (r_b) := ⟨Nat.le_refl _, Nat.le_refl _⟩
    obtain ⟨k35, k36⟩ := rl_sAdd ((p_a, r_a)) ((p_b, r_b))
    have k39 := rl_sub (sAdd ((p_a, r_a)) ((p_b, r_b))).2 (sAdd ((p_a, r_a)) ((p_b, r_b))).1
    obtain ⟨kp41, kp41x⟩ : rl (((p_a), (r_a)) : Rat × Rat).1 ≤ rl (p_a) ∧ rl (((p_a), (r_a)) : Rat × Rat).2 ≤ rl (r_a) := ⟨Nat.le_refl _, Nat.le_refl _⟩
    have k40 := rl_sub (r_a) p_a
    obtain ⟨kp43, kp43x⟩ : rl (((p_b), (r_b)) : Rat × Rat).1 ≤ rl (p_b) ∧ rl (((p_b), (r_b)) : Rat × Rat).2 ≤ rl (r_b) := ⟨Nat.le_refl _, Nat.le_refl _⟩
    have k42 := rl_sub (r_b) p_b
    have k44 := rl_add ((r_a - p_a)) ((r_b - p_b))
    obtain ⟨kp47, kp47x⟩ : rl (((p_a), (r_a)) : Rat × Rat).1 ≤ rl (p_a) ∧ rl (((p_a), (r_a)) : Rat × Rat).2 ≤ rl (r_a) := ⟨Nat.le_refl _, Nat.le_refl _⟩
    obtain ⟨k45, k46⟩ := rl_sNot ((p_a, r_a))
    have k48 := rl_sub (sNot ((p_a, r_a))).2 (sNot ((p_a, r_a))).1
    refine wp_region_facts (A := ?aa49) (w := w10) 16 [] (by kernel_rfl) (Fl [KEq (.agg #[.bool qa, .slice oa na ka, .slice pa ma ra, .bool qax, .slice oax nax kax, .slice pax max rax]), KEq (.agg #[.bool qb, .slice ob nb kb, .slice pb mb rb, .bool qbx, .slice obx nbx kbx, .slice pbx mbx rbx]), KSp (sAdd ((p_a, r_a)) ((p_b, r_b))), KIs (((sAdd ((p_a, r_a)) ((p_b, r_b))).2 - (sAdd ((p_a, r_a)) ((p_b, r_b))).1)), KEq (.agg #[.bool qa, .slice oa na ka, .slice pa ma ra, .bool qax, .slice oax nax kax, .slice pax max rax]), KIs ((r_a - p_a)), KEq (.agg #[.bool qb, .slice ob nb kb, .slice pb mb rb, .bool qbx, .slice obx nbx kbx, .slice pbx mbx rbx]), KIs ((r_b - p_b)), KIs (((r_a - p_a)) + ((r_b - p_b))), KEq (.int .i64 (0)), KEq (.bool true), KEq (.bool true), KEq (.agg #[.bool qa, .slice oa na ka, .slice pa ma ra, .bool qax, .slice oax nax kax, .slice pax max rax]), KSp (sNot ((p_a, r_a))), KIs (((sNot ((p_a, r_a))).2 - (sNot ((p_a, r_a))).1)), KEq (.agg #[.bool qa, .slice oa na ka, .slice pa ma ra, .bool qax, .slice oax nax kax, .slice pax max rax])]) (fun i => false) (by kernel_rfl) ?hq49 (monoL (monoC (kEq _) (monoC (kEq _) (monoC (kSp _) (monoC (kIs _) (monoC (kEq _) (monoC (kIs _) (monoC (kEq _) (monoC (kIs _) (monoC (kIs _) (monoC (kEq _) (monoC (kEq _) (monoC (kEq _) (monoC (kEq _) (monoC (kSp _) (monoC (kIs _) (monoC (kEq _) monoN))))))))))))))))) ?ha49 ?st49 ?tl49
    case hq49 =>
      intro c a d v w h
      first | (simp only [Exit.then] at h ⊢; exact h) | (simp only [Exit.inBlock, Exit.then] at h ⊢; exact h) | exact h
    case ha49 =>
      intro vals
      simp only [putsTo, dstOf, if_true, Act.put, List.setIfInBounds_toArray, List.set_cons_zero, List.set_cons_succ, List.getElem?_toArray, List.getElem?_cons_zero, List.getElem?_cons_succ, Option.bind_some]
      exact rfl
    case st49 =>
      simp only [List.take_succ_cons, List.take_zero]
      refine stepsOK_cons rfl rfl ?_ (stepsOK_cons rfl rfl ?_ (stepsOK_cons rfl rfl ?_ (stepsOK_cons rfl rfl ?_ (stepsOK_cons rfl rfl ?_ (stepsOK_cons rfl rfl ?_ (stepsOK_cons rfl rfl ?_ (stepsOK_cons rfl rfl ?_ (stepsOK_cons rfl rfl ?_ (stepsOK_cons rfl rfl ?_ (stepsOK_cons rfl rfl ?_ (stepsOK_cons rfl rfl ?_ (stepsOK_guard rfl ?_ (stepsOK_guard rfl ?_ (stepsOK_guard rfl ?_ (stepsOK_guard rfl ?_ (stepsOK_nil))))))))))))))))
      · intro vals w1 hb hd
        obtain ⟨e0, e1, e2, e3, e4, e5⟩ := row6 (heap_below BX1.out hb)
        refine stepOK_value (v := .agg #[.bool qa, .slice oa na ka, .slice pa ma ra, .bool qax, .slice oax nax kax, .slice pax max rax]) (w' := w1) (by go_simp) (leaves_mk (Below.refl _ _) rfl (fun h => by cases h))
      · intro vals w1 hb hd
        obtain ⟨e0, e1, e2, e3, e4, e5⟩ := row6 (heap_below BX2.out hb)
        refine stepOK_value (v := .agg #[.bool qb, .slice ob nb kb, .slice pb mb rb, .bool qbx, .slice obx nbx kbx, .slice pbx mbx rbx]) (w' := w1) (by go_simp) (leaves_mk (Below.refl _ _) rfl (fun h => by cases h))
      · intro vals w1 hb hd
        have d0 : KEq (.agg #[.bool qa, .slice oa na ka, .slice pa ma ra, .bool qax, .slice oax nax kax, .slice pax max rax]) (vals 0) w1 := hd 0 (by kernel_rfl)
        have d1 : KEq (.agg #[.bool qb, .slice ob nb kb, .slice pb mb rb, .bool qbx, .slice obx nbx kbx, .slice pbx mbx rbx]) (vals 1) w1 := hd 1 (by kernel_rfl)
        have z0 : vals 0 = _ := d0
        have z1 : vals 1 = _ := d1
        have hs := sadd_any _ ((p_a, r_a)) _ ((p_b, r_b)) w1 ((Fa.out.below hb).is HOa.out (by omega) (by omega)) ((Fb.out.below hb).is HOb.out (by omega) (by omega)) (by omega) (by omega) (by omega) (by omega)
        have HS := Lib.hid hs; clear hs
        rw [z0]; clear z0
        rw [z1]; clear z1
        clear d0 d1 hd
        refine stepOK_call (by go_simp; first | done | exact ⟨⟨rfl, rfl⟩, rfl⟩) ?_
        (with_reducible refine HS.out.mono ?_); rintro e w2 ⟨v, rfl, hb2, hn⟩
        exact ⟨v, rfl, leaves_mk hb2 hn (fun h => by cases h)⟩
      · intro vals w1 hb hd
        have d2 : KSp (sAdd ((p_a, r_a)) ((p_b, r_b))) (vals 2) w1 := hd 2 (by kernel_rfl)
        have R2 : Hid (IsSp w1 (vals 2) (sAdd ((p_a, r_a)) ((p_b, r_b)))) := Lib.hid d2
        have hs := swidth_any _ (sAdd ((p_a, r_a)) ((p_b, r_b))) w1 (R2.out.is (sAdd_ok HOa.out HOb.out) (by omega) (by omega)) (by omega) (by omega)
        have HS := Lib.hid hs; clear hs
        clear d2 hd
        refine stepOK_call (by go_simp; first | done | exact ⟨⟨rfl, rfl⟩, rfl⟩) ?_
        (with_reducible refine HS.out.mono ?_); rintro e w2 ⟨v, rfl, hb2, hn⟩
        exact ⟨v, rfl, leaves_mk hb2 hn (fun h => by cases h)⟩
      · intro vals w1 hb hd
        obtain ⟨e0, e1, e2, e3, e4, e5⟩ := row6 (heap_below BX1.out hb)
        refine stepOK_value (v := .agg #[.bool qa, .slice oa na ka, .slice pa ma ra, .bool qax, .slice oax nax kax, .slice pax max rax]) (w' := w1) (by go_simp) (leaves_mk (Below.refl _ _) rfl (fun h => by cases h))
      · intro vals w1 hb hd
        have d4 : KEq (.agg #[.bool qa, .slice oa na ka, .slice pa ma ra, .bool qax, .slice oax nax kax, .slice pax max rax]) (vals 4) w1 := hd 4 (by kernel_rfl)
        have z4 : vals 4 = _ := d4
        have hs := swidth_any _ ((p_a, r_a)) w1 ((Fa.out.below hb).is HOa.out (by omega) (by omega)) (by omega) (by omega)
        have HS := Lib.hid hs; clear hs
        rw [z4]; clear z4
        clear d4 hd
        refine stepOK_call (by go_simp; first | done | exact ⟨⟨rfl, rfl⟩, rfl⟩) ?_
        (with_reducible refine HS.out.mono ?_); rintro e w2 ⟨v, rfl, hb2, hn⟩
        exact ⟨v, rfl, leaves_mk hb2 hn (fun h => by cases h)⟩
      · intro vals w1 hb hd
        obtain ⟨e0, e1, e2, e3, e4, e5⟩ := row6 (heap_below BX2.out hb)
        refine stepOK_value (v := .agg #[.bool qb, .slice ob nb kb, .slice pb mb rb, .bool qbx, .slice obx nbx kbx, .slice pbx mbx rbx]) (w' := w1) (by go_simp) (leaves_mk (Below.refl _ _) rfl (fun h => by cases h))
      · intro vals w1 hb hd
        have d6 : KEq (.agg #[.bool qb, .slice ob nb kb, .slice pb mb rb, .bool qbx, .slice obx nbx kbx, .slice pbx mbx rbx]) (vals 6) w1 := hd 6 (by kernel_rfl)
        have z6 : vals 6 = _ := d6
        have hs := swidth_any _ ((p_b, r_b)) w1 ((Fb.out.below hb).is HOb.out (by omega) (by omega)) (by omega) (by omega)
        have HS := Lib.hid hs; clear hs
        rw [z6]; clear z6
        clear d6 hd
        refine stepOK_call (by go_simp; first | done | exact ⟨⟨rfl, rfl⟩, rfl⟩) ?_
        (with_reducible refine HS.out.mono ?_); rintro e w2 ⟨v, rfl, hb2, hn⟩
        exact ⟨v, rfl, leaves_mk hb2 hn (fun h => by cases h)⟩
      · intro vals w1 hb hd
        have d5 : KIs ((r_a - p_a)) (vals 5) w1 := hd 5 (by kernel_rfl)
        have R5 : Hid (IsR w1 (vals 5) ((r_a - p_a))) := Lib.hid d5
        have d7 : KIs ((r_b - p_b)) (vals 7) w1 := hd 7 (by kernel_rfl)
        have R7 : Hid (IsR w1 (vals 7) ((r_b - p_b))) := Lib.hid d7
        have hs := addq_any _ ((r_a - p_a)) _ ((r_b - p_b)) w1 (R5.out.is (by omega)) (R7.out.is (by omega))
        have HS := Lib.hid hs; clear hs
        clear d5 d7 hd
        refine stepOK_call (by go_simp; first | done | exact ⟨⟨rfl, rfl⟩, rfl⟩) ?_
        (with_reducible refine HS.out.mono ?_); rintro e w2 ⟨v, rfl, hb2, hn⟩
        exact ⟨v, rfl, leaves_mk hb2 hn (fun h => by cases h)⟩
      · intro vals w1 hb hd
        have d3 : KIs (((sAdd ((p_a, r_a)) ((p_b, r_b))).2 - (sAdd ((p_a, r_a)) ((p_b, r_b))).1)) (vals 3) w1 := hd 3 (by kernel_rfl)
        have R3 : Hid (IsR w1 (vals 3) (((sAdd ((p_a, r_a)) ((p_b, r_b))).2 - (sAdd ((p_a, r_a)) ((p_b, r_b))).1))) := Lib.hid d3
        have d8 : KIs (((r_a - p_a)) + ((r_b - p_b))) (vals 8) w1 := hd 8 (by kernel_rfl)
        have R8 : Hid (IsR w1 (vals 8) (((r_a - p_a)) + ((r_b - p_b)))) := Lib.hid d8
        have hs := cmpq_any _ (((sAdd ((p_a, r_a)) ((p_b, r_b))).2 - (sAdd ((p_a, r_a)) ((p_b, r_b))).1)) _ (((r_a - p_a)) + ((r_b - p_b))) w1 (R3.out.is (by omega)) (R8.out.is (by omega)) (by omega) (by omega)
        rw [← HC1.out] at hs
        have HS := Lib.hid hs; clear hs
        clear d3 d8 hd
        refine stepOK_call (by go_simp; first | done | exact ⟨⟨rfl, rfl⟩, rfl⟩) ?_
        (with_reducible refine HS.out.mono ?_); rintro e w2 ⟨rfl, hb2⟩
        exact ⟨_, rfl, leaves_mk hb2 rfl (fun h => by cases h)⟩
      · intro vals w1 hb hd
        have d9 : KEq (.int .i64 (0)) (vals 9) w1 := hd 9 (by kernel_rfl)
        rw [show vals 9 = _ from d9]
        refine stepOK_value (v := (.bool true)) (w' := w1) (by go_simp) (leaves_mk (Below.refl _ _) rfl (fun h => by cases h))
      · intro vals w1 hb hd
        have d10 : KEq (.bool true) (vals 10) w1 := hd 10 (by kernel_rfl)
        rw [show vals 10 = _ from d10]
        refine stepOK_value (v := (.bool true)) (w' := w1) (by go_simp) (leaves_mk (Below.refl _ _) rfl (fun h => by cases h))
      · intro vals w1 hb hd
        have dg : KEq (.bool true) (vals 11) w1 := hd 11 (by kernel_rfl)
        refine stepG_yes (wanted_of rfl rfl (congrArg some dg) rfl) ?_
        clear dg
        obtain ⟨e0, e1, e2, e3, e4, e5⟩ := row6 (heap_below BX1.out hb)
        refine stepOK_value (v := .agg #[.bool qa, .slice oa na ka, .slice pa ma ra, .bool qax, .slice oax nax kax, .slice pax max rax]) (w' := w1) (by go_simp) (leaves_mk (Below.refl _ _) rfl (fun h => by cases h))
      · intro vals w1 hb hd
        have dg : KEq (.bool true) (vals 11) w1 := hd 11 (by kernel_rfl)
        refine stepG_yes (wanted_of rfl rfl (congrArg some dg) rfl) ?_
        clear dg
        have d12 : KEq (.agg #[.bool qa, .slice oa na ka, .slice pa ma ra, .bool qax, .slice oax nax kax, .slice pax max rax]) (vals 12) w1 := hd 12 (by kernel_rfl)
        have z12 : vals 12 = _ := d12
        have hs := snot_any _ ((p_a, r_a)) w1 ((Fa.out.below hb).is HOa.out (by omega) (by omega)) (by omega) (by omega)
        have HS := Lib.hid hs; clear hs
        rw [z12]; clear z12
        clear d12 hd
        refine stepOK_call (by go_simp; first | done | exact ⟨⟨rfl, rfl⟩, rfl⟩) ?_
        (with_reducible refine HS.out.mono ?_); rintro e w2 ⟨v, rfl, hb2, hn⟩
        exact ⟨v, rfl, leaves_mk hb2 hn (fun h => by cases h)⟩
      · intro vals w1 hb hd
        have dg : KEq (.bool true) (vals 11) w1 := hd 11 (by kernel_rfl)
        refine stepG_yes (wanted_of rfl rfl (congrArg some dg) rfl) ?_
        clear dg
        have d13 : KSp (sNot ((p_a, r_a))) (vals 13) w1 := hd 13 (by kernel_rfl)
        have R13 : Hid (IsSp w1 (vals 13) (sNot ((p_a, r_a)))) := Lib.hid d13
        have hs := swidth_any _ (sNot ((p_a, r_a))) w1 (R13.out.is (sNot_ok HOa.out) (by omega) (by omega)) (by omega) (by omega)
        have HS := Lib.hid hs; clear hs
        clear d13 hd
        refine stepOK_call (by go_simp; first | done | exact ⟨⟨rfl, rfl⟩, rfl⟩) ?_
        (with_reducible refine HS.out.mono ?_); rintro e w2 ⟨v, rfl, hb2, hn⟩
        exact ⟨v, rfl, leaves_mk hb2 hn (fun h => by cases h)⟩
      · intro vals w1 hb hd
        have dg : KEq (.bool true) (vals 11) w1 := hd 11 (by kernel_rfl)
        refine stepG_yes (wanted_of rfl rfl (congrArg some dg) rfl) ?_
        clear dg
        obtain ⟨e0, e1, e2, e3, e4, e5⟩ := row6 (heap_below BX1.out hb)
        refine stepOK_value (v := .agg #[.bool qa, .slice oa na ka, .slice pa ma ra, .bool qax, .slice oax nax kax, .slice pax max rax]) (w' := w1) (by go_simp) (leaves_mk (Below.refl _ _) rfl (fun h => by cases h))
    case tl49 =>
      intro vals w11 hb11 hf hdis
      simp only [List.drop_succ_cons, List.drop_zero]
      have z11 : vals 11 = _ := hf 11 (by decide)
      try rw [z11]
      clear z11
      obtain ⟨u49_14, hu14⟩ : ∃ u, u = vals 14 := ⟨_, rfl⟩
      have hn49_14 : IsR w11 (vals 14) (((sNot ((p_a, r_a))).2 - (sNot ((p_a, r_a))).1)) := hf 14 (by decide)
      rw [← hu14] at hn49_14 ⊢; clear hu14
      have z15 : vals 15 = _ := hf 15 (by decide)
      try rw [z15]
      clear z15
      clear hf hdis
      have HB11 := Lib.hid (HB10.out.step hb11)
      have Fa := Lib.hid (Fa.out.below hb11)
      have Fal := Lib.hid (Fal.out.below hb11)
      have Fah := Lib.hid (Fah.out.below hb11)
      have FaV := Lib.hid (FaV.out.below hb11)
      have Fb := Lib.hid (Fb.out.below hb11)
      have Fbl := Lib.hid (Fbl.out.below hb11)
      have Fbh := Lib.hid (Fbh.out.below hb11)
      have FbV := Lib.hid (FbV.out.below hb11)
      have N28_17 := Lib.hid (N28_17.out.below hb11)
      have N28_17l := Lib.hid (N28_17l.out.below hb11)
      have N28_17h := Lib.hid (N28_17h.out.below hb11)
      have N28_20 := Lib.hid (N28_20.out.below hb11)
      have N28_20l := Lib.hid (N28_20l.out.below hb11)
      have N28_20h := Lib.hid (N28_20h.out.below hb11)
      have N9 := Lib.hid (N9.out.below hb11)
      have N9l := Lib.hid (N9l.out.below hb11)
      have N9h := Lib.hid (N9h.out.below hb11)
      have BX1 := Lib.hid (heap_below BX1.out hb11)
      have BX2 := Lib.hid (heap_below BX2.out hb11)
      clear hb11
      have N49_14 := Lib.hid hn49_14; clear hn49_14
      obtain ⟨s50, o50, n50, c50, a50, m50, d50, rfl⟩ := N49_14.out.shape
      skip
      obtain ⟨kp52, kp52x⟩ : rl (((p_a), (r_a)) : Rat × Rat).1 ≤ rl (p_a) ∧ rl (((p_a), (r_a)) : Rat × Rat).2 ≤ rl (r_a) := ⟨Nat.le_refl _, Nat.le_refl _⟩
      have k51 := rl_sub (r_a) p_a
      have hs := swidth_any _ ((p_a, r_a)) w11 (Fa.out.is HOa.out (by omega) (by omega)) (by omega) (by omega)
      have HS := Lib.hid hs; clear hs
      go_wp2_with (with_reducible first | refine pauseCall ?_ | refine pauseLoop ?_ | refine pauseDraw ?_ | refine pauseBody ?_ | refine pauseRounds ?_)
      refine Pause.mk ?_
      (with_reducible refine HS.out.mono ?_); rintro e w12 ⟨v12, rfl, hb12, hn12⟩
      clear HS
      have HB12 := Lib.hid (HB11.out.step hb12)
      have Fa := Lib.hid (Fa.out.below hb12)
      have Fal := Lib.hid (Fal.out.below hb12)
      have Fah := Lib.hid (Fah.out.below hb12)
      have FaV := Lib.hid (FaV.out.below hb12)
      have Fb := Lib.hid (Fb.out.below hb12)
      have Fbl := Lib.hid (Fbl.out.below hb12)
      have Fbh := Lib.hid (Fbh.out.below hb12)
      have FbV := Lib.hid (FbV.out.below hb12)
      have N28_17 := Lib.hid (N28_17.out.below hb12)
      have N28_17l := Lib.hid (N28_17l.out.below hb12)
      have N28_17h := Lib.hid (N28_17h.out.below hb12)
      have N28_20 := Lib.hid (N28_20.out.below hb12)
      have N28_20l := Lib.hid (N28_20l.out.below hb12)
      have N28_20h := Lib.hid (N28_20h.out.below hb12)
      have N9 := Lib.hid (N9.out.below hb12)
      have N9l := Lib.hid (N9l.out.below hb12)
      have N9h := Lib.hid (N9h.out.below hb12)
      have N49_14 := Lib.hid (N49_14.out.below hb12)
      have BX1 := Lib.hid (heap_below BX1.out hb12)
      have BX2 := Lib.hid (heap_below BX2.out hb12)
      have N12 := Lib.hid hn12; clear hn12
      obtain ⟨s53, o53, n53, c53, a53, m53, d53, rfl⟩ := N12.out.shape
      clear hb12
      have hs := cmpq_any _ (((sNot ((p_a, r_a))).2 - (sNot ((p_a, r_a))).1)) _ ((r_a - p_a)) w12 (N49_14.out.is (by omega)) (N12.out.is (by omega)) (by omega) (by omega)
      rw [← HC2.out] at hs
      have HS := Lib.hid hs; clear hs
      go_wp2_with (with_reducible first | refine pauseCall ?_ | refine pauseLoop ?_ | refine pauseDraw ?_ | refine pauseBody ?_ | refine pauseRounds ?_)
      refine Pause.mk ?_
      (with_reducible refine HS.out.mono ?_); rintro e w13 ⟨rfl, hb13⟩
      clear HS
      have HB13 := Lib.hid (HB12.out.step hb13)
      have Fa := Lib.hid (Fa.out.below hb13)
      have Fal := Lib.hid (Fal.out.below hb13)
      have Fah := Lib.hid (Fah.out.below hb13)
      have FaV := Lib.hid (FaV.out.below hb13)
      have Fb := Lib.hid (Fb.out.below hb13)
      have Fbl := Lib.hid (Fbl.out.below hb13)
      have Fbh := Lib.hid (Fbh.out.below hb13)
      have FbV := Lib.hid (FbV.out.below hb13)
      have N28_17 := Lib.hid (N28_17.out.below hb13)
      have N28_17l := Lib.hid (N28_17l.out.below hb13)
      have N28_17h := Lib.hid (N28_17h.out.below hb13)
      have N28_20 := Lib.hid (N28_20.out.below hb13)
      have N28_20l := Lib.hid (N28_20l.out.below hb13)
      have N28_20h := Lib.hid (N28_20h.out.below hb13)
      have N9 := Lib.hid (N9.out.below hb13)
      have N9l := Lib.hid (N9l.out.below hb13)
      have N9h := Lib.hid (N9h.out.below hb13)
      have N49_14 := Lib.hid (N49_14.out.below hb13)
      have N12 := Lib.hid (N12.out.below hb13)
      have BX1 := Lib.hid (heap_below BX1.out hb13)
      have BX2 := Lib.hid (heap_below BX2.out hb13)
      clear hb13
      go_wp2_with (with_reducible first | refine pauseCall ?_ | refine pauseLoop ?_ | refine pauseDraw ?_ | refine pauseBody ?_ | refine pauseRounds ?_)
      refine Pause.mk ?_
      go_ret
      exact ⟨by first | rfl | (simp; done), HB13.out⟩
theorem spanturns_any (va : Value) (sa : Bool) (aa ba : List Nat) (ta : Bool) (ca da : List Nat) (vb : Value) (sb : Bool) (ab bb : List Nat) (tb : Bool) (cb db : List Nat) (w : World) (ha : SpV w va sa aa ba ta ca da) (hb : SpV w vb sb ab bb tb cb db) :
    Calls Tryd.prog 3 #[va, vb] w (RetV w (.bool true)) := by
  by_cases hbig : 6 < aa.length ∨ 6 < ba.length ∨ 6 < ca.length ∨ 6 < da.length ∨ 6 < ab.length ∨ 6 < bb.length ∨ 6 < cb.length ∨ 6 < db.length
  · exact spanturns_big va aa.length ba.length ca.length da.length vb ab.length bb.length cb.length db.length w ha.sz.1 hb.sz.1 hbig
  by_cases hva : Vld sa aa ba ∧ Vld ta ca da ∧ rq sa aa ba ≤ rq ta ca da
  case neg => exact spanturns_noa va sa aa ba ta ca da vb sb ab bb tb cb db w ha (by omega) (by omega) (by omega) (by omega) hb (by omega) (by omega) (by omega) (by omega)  hva
  by_cases hvb : Vld sb ab bb ∧ Vld tb cb db ∧ rq sb ab bb ≤ rq tb cb db
  case neg => exact spanturns_nob va sa aa ba ta ca da vb sb ab bb tb cb db w ha (by omega) (by omega) (by omega) (by omega) hb (by omega) (by omega) (by omega) (by omega) hva hvb
  exact spanturns_ok va sa aa ba ta ca da vb sb ab bb tb cb db w ha (by omega) (by omega) (by omega) (by omega) hva hb (by omega) (by omega) (by omega) (by omega) hvb
end Go.Proofs.YtaefimegiobkmaaDoor
