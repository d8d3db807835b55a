/-
  SpanSums: the walk of the statement.
  Conditions: each theorem's own.
-/
import Derived.Test.YtaefimegiobkmaaGreatDoorMA9
namespace Go.Proofs.YtaefimegiobkmaaGreatDoor
open Go.RowKit Go.ChangeShapes Go.WideShapes

set_option maxRecDepth 100000 in
set_option maxHeartbeats 3200000 in
theorem spansums_big (va : Value) (na ma nax max : Nat) (vb : Value) (nb mb nbx mbx : Nat) (w : World) (ha : SpSz va na ma nax max) (hb : SpSz vb nb mb nbx mbx) (hbig : 6 < na ∨ 6 < ma ∨ 6 < nax ∨ 6 < max ∨ 6 < nb ∨ 6 < mb ∨ 6 < nbx ∨ 6 < mbx) :
    Calls Tryz.prog 5 #[va, vb] w (RetV w (.bool true)) := by
  have HBW := Lib.hid (Below.refl w.heap.size w)
  have kz0 : rl 0 ≤ 1 := by rw [rl_zero]; exact Nat.le_refl _
  obtain ⟨qa, oa, ka, pa, ra, qax, oax, kax, pax, rax, rfl, Za⟩ := ha
  obtain ⟨qb, ob, kb, pb, rb, qbx, obx, kbx, pbx, rbx, rfl, Zb⟩ := hb
  have HBIG := Lib.hid hbig; clear hbig
  obtain ⟨w1, hw1⟩ : ∃ w1, w1 = w.alloc (.cells #[.bool qa, .slice oa na ka, .slice pa ma ra, .bool qax, .slice oax nax kax, .slice pax max rax] 26) := ⟨_, rfl⟩
  have hb1 : Below w.heap.size w w1 := by rw [hw1]; exact (Below.refl _ _).alloc (Nat.le_refl _) _
  have hx1 := heap_alloc_new w (.cells #[.bool qa, .slice oa na ka, .slice pa ma ra, .bool qax, .slice oax nax kax, .slice pax max rax] 26)
  obtain ⟨g1, hg1⟩ : ∃ g, g = w.heap.size := ⟨_, rfl⟩
  rw [← hw1, ← hg1] at hx1
  have lw1 : w.heap.size ≤ g1 := by rw [hg1]; exact HBW.out.size
  have HW1 := Lib.hid hw1; have HG1 := Lib.hid hg1; clear hw1 hg1
  have HB1 := Lib.hid (HBW.out.step hb1)
  have BX1 := Lib.hid hx1; clear hb1 hx1
  obtain ⟨w2, hw2⟩ : ∃ w2, w2 = w1.alloc (.cells #[.bool qb, .slice ob nb kb, .slice pb mb rb, .bool qbx, .slice obx nbx kbx, .slice pbx mbx rbx] 26) := ⟨_, rfl⟩
  have hb2 : Below w1.heap.size w1 w2 := by rw [hw2]; exact (Below.refl _ _).alloc (Nat.le_refl _) _
  have hx2 := heap_alloc_new w1 (.cells #[.bool qb, .slice ob nb kb, .slice pb mb rb, .bool qbx, .slice obx nbx kbx, .slice pbx mbx rbx] 26)
  obtain ⟨g2, hg2⟩ : ∃ g, g = w1.heap.size := ⟨_, rfl⟩
  rw [← hw2, ← hg2] at hx2
  have lw2 : w.heap.size ≤ g2 := by rw [hg2]; exact HB1.out.size
  have ltBX12 : g1 < g2 := by rw [hg2]; exact below_lt BX1.out
  have hs2 : g2 = w.heap.size + 1 := by rw [hg2, HW1.out]; simp
  have HS2 := Lib.hid hs2; clear hs2
  have HW2 := Lib.hid hw2; have HG2 := Lib.hid hg2; clear hw2 hg2
  have HB2 := Lib.hid (HB1.out.step hb2)
  have BX1 := Lib.hid (heap_below BX1.out hb2)
  have BX2 := Lib.hid hx2; clear hb2 hx2
  go_enter Tryz.func5, Tryz.ntmps5
  have hs := awake03 w2
  have HS := Lib.hid hs; clear hs
  go_wp2_with (with_reducible first | refine pauseCall ?_ | refine pauseLoop ?_ | refine pauseDraw ?_ | refine pauseBody ?_ | refine pauseRounds ?_)
  try rw [← HW1.out]
  try rw [← HW2.out]
  try rw [← HS2.out]
  try rw [← HG1.out]
  try rw [← HG2.out]
  refine Pause.mk ?_
  (with_reducible refine HS.out.mono ?_); rintro e w3 ⟨rfl, hb3⟩
  clear HS
  have HB3 := Lib.hid (HB2.out.step hb3)
  have BX1 := Lib.hid (heap_below BX1.out hb3)
  have BX2 := Lib.hid (heap_below BX2.out hb3)
  clear hb3
  obtain ⟨x1_0, x1_1, x1_2, x1_3, x1_4, x1_5⟩ := row6 BX1.out
  obtain ⟨x2_0, x2_1, x2_2, x2_3, x2_4, x2_5⟩ := row6 BX2.out
  obtain ⟨w4, hw4⟩ : ∃ w4, w4 = w3.alloc (.cells #[.bool qa, .slice oa na ka, .slice pa ma ra, .bool qax, .slice oax nax kax, .slice pax max rax, .bool qb, .slice ob nb kb, .slice pb mb rb, .bool qbx, .slice obx nbx kbx, .slice pbx mbx rbx] 26) := ⟨_, rfl⟩
  have hb4 : Below w3.heap.size w3 w4 := by rw [hw4]; exact (Below.refl _ _).alloc (Nat.le_refl _) _
  have hx4 := heap_alloc_new w3 (.cells #[.bool qa, .slice oa na ka, .slice pa ma ra, .bool qax, .slice oax nax kax, .slice pax max rax, .bool qb, .slice ob nb kb, .slice pb mb rb, .bool qbx, .slice obx nbx kbx, .slice pbx mbx rbx] 26)
  obtain ⟨g4, hg4⟩ : ∃ g, g = w3.heap.size := ⟨_, rfl⟩
  rw [← hw4, ← hg4] at hx4
  have lw4 : w.heap.size ≤ g4 := by rw [hg4]; exact HB3.out.size
  have ltBX14 : g1 < g4 := by rw [hg4]; exact below_lt BX1.out
  have ltBX24 : g2 < g4 := by rw [hg4]; exact below_lt BX2.out
  have HW4 := Lib.hid hw4; have HG4 := Lib.hid hg4; clear hw4 hg4
  have HB4 := Lib.hid (HB3.out.step hb4)
  have BX1 := Lib.hid (heap_below BX1.out hb4)
  have BX2 := Lib.hid (heap_below BX2.out hb4)
  have BX4 := Lib.hid hx4; clear hb4 hx4
  have hs := slarge2b BX4.out Za Zb HBIG.out
  have HS := Lib.hid hs; clear hs
  try rw [HG4.out] at x1_0
  try rw [HG4.out] at x1_1
  try rw [HG4.out] at x1_2
  try rw [HG4.out] at x1_3
  try rw [HG4.out] at x1_4
  try rw [HG4.out] at x1_5
  try rw [HG4.out] at x2_0
  try rw [HG4.out] at x2_1
  try rw [HG4.out] at x2_2
  try rw [HG4.out] at x2_3
  try rw [HG4.out] at x2_4
  try rw [HG4.out] at x2_5
  go_wp2_with (with_reducible first | refine pauseCall ?_ | refine pauseLoop ?_ | refine pauseDraw ?_ | refine pauseBody ?_ | refine pauseRounds ?_)
  try rw [← HW4.out]
  try rw [← HG4.out]
  clear x1_0 x1_1 x1_2 x1_3 x1_4 x1_5 x2_0 x2_1 x2_2 x2_3 x2_4 x2_5
  refine Pause.mk ?_
  (with_reducible refine HS.out.mono ?_); rintro e w5 ⟨rfl, hb5⟩
  clear HS
  have HB5 := Lib.hid (HB4.out.step hb5)
  have BX1 := Lib.hid (heap_below BX1.out hb5)
  have BX2 := Lib.hid (heap_below BX2.out hb5)
  have BX4 := Lib.hid (heap_below BX4.out hb5)
  clear BX4
  clear hb5
  have hs := awake03 w5
  have HS := Lib.hid hs; clear hs
  go_wp2_with (with_reducible first | refine pauseCall ?_ | refine pauseLoop ?_ | refine pauseDraw ?_ | refine pauseBody ?_ | refine pauseRounds ?_)
  refine Pause.mk ?_
  (with_reducible refine HS.out.mono ?_); rintro e w6 ⟨rfl, hb6⟩
  clear HS
  have HB6 := Lib.hid (HB5.out.step hb6)
  have BX1 := Lib.hid (heap_below BX1.out hb6)
  have BX2 := Lib.hid (heap_below BX2.out hb6)
  clear hb6
  go_wp2_with (with_reducible first | refine pauseCall ?_ | refine pauseLoop ?_ | refine pauseDraw ?_ | refine pauseBody ?_ | refine pauseRounds ?_)
  refine Pause.mk ?_
  go_ret
  exact ⟨by first | rfl | (simp; done), HB6.out⟩
set_option maxRecDepth 100000 in
set_option maxHeartbeats 12800000 in
theorem spansums_ok (va : Value) (sa : Bool) (aa ba : List Nat) (ta : Bool) (ca da : List Nat) (vb : Value) (sb : Bool) (ab bb : List Nat) (tb : Bool) (cb db : List Nat) (w : World) (ha : SpV w va sa aa ba ta ca da) (la1 : aa.length ≤ 6) (la2 : ba.length ≤ 6) (la3 : ca.length ≤ 6) (la4 : da.length ≤ 6) (hb : SpV w vb sb ab bb tb cb db) (lb1 : ab.length ≤ 6) (lb2 : bb.length ≤ 6) (lb3 : cb.length ≤ 6) (lb4 : db.length ≤ 6)  :
    Calls Tryz.prog 5 #[va, vb] w (RetV w (.bool true)) := by
  have HBW := Lib.hid (Below.refl w.heap.size w)
  have kz0 : rl 0 ≤ 1 := by rw [rl_zero]; exact Nat.le_refl _
  have za := ha.sz.2
  obtain ⟨qa, oa, na, ka, pa, ma, ra, qax, oax, nax, kax, pax, max, rax, rfl⟩ := ha.shape
  have Za : na ≤ 6 ∧ ma ≤ 6 ∧ nax ≤ 6 ∧ max ≤ 6 := by have e1 : na = _ := congrArg (·.1) za; have e2 : ma = _ := congrArg (·.2.1) za; have e3 : nax = _ := congrArg (·.2.2.1) za; have e4 : max = _ := congrArg (·.2.2.2) za; rw [e1, e2, e3, e4]; exact ⟨la1, la2, la3, la4⟩
  clear za
  have hla1 : rl (rq sa aa ba) ≤ 6 := rl_rq ha.lt.1.1 ha.lt.1.2 la1 la2 (by decide); have hla2 : rl (rq ta ca da) ≤ 6 := rl_rq ha.lt.2.1 ha.lt.2.2 la3 la4 (by decide)
  obtain ⟨S_a, hSa⟩ : ∃ S, S = sq sa aa ba ta ca da := ⟨_, rfl⟩
  have hsa : rl S_a.1 ≤ 6 ∧ rl S_a.2 ≤ 6 := by rw [hSa]; exact rl_sq ha.lt.1.1 ha.lt.1.2 ha.lt.2.1 ha.lt.2.2 la1 la2 la3 la4 (by decide)
  obtain ⟨hsa1, hsa2⟩ := hsa
  have Fa := Lib.hid (show SpIs w _ S_a from ⟨_, _, _, _, _, _, ha, hSa.symm, by omega, by omega, by omega, by omega⟩); clear hSa
  have HOa := Lib.hid Fa.out.ok
  obtain ⟨p_a, hpa⟩ : ∃ p, p = rq sa aa ba := ⟨_, rfl⟩; obtain ⟨r_a, hra⟩ : ∃ r, r = rq ta ca da := ⟨_, rfl⟩
  have Fal := Lib.hid (show RatIs w _ p_a from hpa ▸ (spV_ends ha).1.is (by omega) (by omega)); have Fah := Lib.hid (show RatIs w _ r_a from hra ▸ (spV_ends ha).2.is (by omega) (by omega))
  have hla1 : rl p_a ≤ 6 := by rw [hpa]; exact hla1
  have hla2 : rl r_a ≤ 6 := by rw [hra]; exact hla2
  have FaV := Lib.hid ha; clear ha hpa hra
  have zb := hb.sz.2
  obtain ⟨qb, ob, nb, kb, pb, mb, rb, qbx, obx, nbx, kbx, pbx, mbx, rbx, rfl⟩ := hb.shape
  have Zb : nb ≤ 6 ∧ mb ≤ 6 ∧ nbx ≤ 6 ∧ mbx ≤ 6 := by have e1 : nb = _ := congrArg (·.1) zb; have e2 : mb = _ := congrArg (·.2.1) zb; have e3 : nbx = _ := congrArg (·.2.2.1) zb; have e4 : mbx = _ := congrArg (·.2.2.2) zb; rw [e1, e2, e3, e4]; exact ⟨lb1, lb2, lb3, lb4⟩
  clear zb
  have hlb1 : rl (rq sb ab bb) ≤ 6 := rl_rq hb.lt.1.1 hb.lt.1.2 lb1 lb2 (by decide); have hlb2 : rl (rq tb cb db) ≤ 6 := rl_rq hb.lt.2.1 hb.lt.2.2 lb3 lb4 (by decide)
  obtain ⟨S_b, hSb⟩ : ∃ S, S = sq sb ab bb tb cb db := ⟨_, rfl⟩
  have hsb : rl S_b.1 ≤ 6 ∧ rl S_b.2 ≤ 6 := by rw [hSb]; exact rl_sq hb.lt.1.1 hb.lt.1.2 hb.lt.2.1 hb.lt.2.2 lb1 lb2 lb3 lb4 (by decide)
  obtain ⟨hsb1, hsb2⟩ := hsb
  have Fb := Lib.hid (show SpIs w _ S_b from ⟨_, _, _, _, _, _, hb, hSb.symm, by omega, by omega, by omega, by omega⟩); clear hSb
  have HOb := Lib.hid Fb.out.ok
  obtain ⟨p_b, hpb⟩ : ∃ p, p = rq sb ab bb := ⟨_, rfl⟩; obtain ⟨r_b, hrb⟩ : ∃ r, r = rq tb cb db := ⟨_, rfl⟩
  have Fbl := Lib.hid (show RatIs w _ p_b from hpb ▸ (spV_ends hb).1.is (by omega) (by omega)); have Fbh := Lib.hid (show RatIs w _ r_b from hrb ▸ (spV_ends hb).2.is (by omega) (by omega))
  have hlb1 : rl p_b ≤ 6 := by rw [hpb]; exact hlb1
  have hlb2 : rl r_b ≤ 6 := by rw [hrb]; exact hlb2
  have FbV := Lib.hid hb; clear hb hpb hrb
  obtain ⟨w1, hw1⟩ : ∃ w1, w1 = w.alloc (.cells #[.bool qa, .slice oa na ka, .slice pa ma ra, .bool qax, .slice oax nax kax, .slice pax max rax] 26) := ⟨_, rfl⟩
  have hb1 : Below w.heap.size w w1 := by rw [hw1]; exact (Below.refl _ _).alloc (Nat.le_refl _) _
  have hx1 := heap_alloc_new w (.cells #[.bool qa, .slice oa na ka, .slice pa ma ra, .bool qax, .slice oax nax kax, .slice pax max rax] 26)
  obtain ⟨g1, hg1⟩ : ∃ g, g = w.heap.size := ⟨_, rfl⟩
  rw [← hw1, ← hg1] at hx1
  have lw1 : w.heap.size ≤ g1 := by rw [hg1]; exact HBW.out.size
  have HW1 := Lib.hid hw1; have HG1 := Lib.hid hg1; clear hw1 hg1
  have HB1 := Lib.hid (HBW.out.step hb1)
  have Fa := Lib.hid (Fa.out.below hb1)
  have Fal := Lib.hid (Fal.out.below hb1)
  have Fah := Lib.hid (Fah.out.below hb1)
  have FaV := Lib.hid (FaV.out.below hb1)
  have Fb := Lib.hid (Fb.out.below hb1)
  have Fbl := Lib.hid (Fbl.out.below hb1)
  have Fbh := Lib.hid (Fbh.out.below hb1)
  have FbV := Lib.hid (FbV.out.below hb1)
  have BX1 := Lib.hid hx1; clear hb1 hx1
  obtain ⟨w2, hw2⟩ : ∃ w2, w2 = w1.alloc (.cells #[.bool qb, .slice ob nb kb, .slice pb mb rb, .bool qbx, .slice obx nbx kbx, .slice pbx mbx rbx] 26) := ⟨_, rfl⟩
  have hb2 : Below w1.heap.size w1 w2 := by rw [hw2]; exact (Below.refl _ _).alloc (Nat.le_refl _) _
  have hx2 := heap_alloc_new w1 (.cells #[.bool qb, .slice ob nb kb, .slice pb mb rb, .bool qbx, .slice obx nbx kbx, .slice pbx mbx rbx] 26)
  obtain ⟨g2, hg2⟩ : ∃ g, g = w1.heap.size := ⟨_, rfl⟩
  rw [← hw2, ← hg2] at hx2
  have lw2 : w.heap.size ≤ g2 := by rw [hg2]; exact HB1.out.size
  have ltBX12 : g1 < g2 := by rw [hg2]; exact below_lt BX1.out
  have hs2 : g2 = w.heap.size + 1 := by rw [hg2, HW1.out]; simp
  have HS2 := Lib.hid hs2; clear hs2
  have HW2 := Lib.hid hw2; have HG2 := Lib.hid hg2; clear hw2 hg2
  have HB2 := Lib.hid (HB1.out.step hb2)
  have Fa := Lib.hid (Fa.out.below hb2)
  have Fal := Lib.hid (Fal.out.below hb2)
  have Fah := Lib.hid (Fah.out.below hb2)
  have FaV := Lib.hid (FaV.out.below hb2)
  have Fb := Lib.hid (Fb.out.below hb2)
  have Fbl := Lib.hid (Fbl.out.below hb2)
  have Fbh := Lib.hid (Fbh.out.below hb2)
  have FbV := Lib.hid (FbV.out.below hb2)
  have BX1 := Lib.hid (heap_below BX1.out hb2)
  have BX2 := Lib.hid hx2; clear hb2 hx2
  go_enter Tryz.func5, Tryz.ntmps5
  have hs := awake03 w2
  have HS := Lib.hid hs; clear hs
  go_wp2_with (with_reducible first | refine pauseCall ?_ | refine pauseLoop ?_ | refine pauseDraw ?_ | refine pauseBody ?_ | refine pauseRounds ?_)
  try rw [← HW1.out]
  try rw [← HW2.out]
  try rw [← HS2.out]
  try rw [← HG1.out]
  try rw [← HG2.out]
  refine Pause.mk ?_
  (with_reducible refine HS.out.mono ?_); rintro e w3 ⟨rfl, hb3⟩
  clear HS
  have HB3 := Lib.hid (HB2.out.step hb3)
  have Fa := Lib.hid (Fa.out.below hb3)
  have Fal := Lib.hid (Fal.out.below hb3)
  have Fah := Lib.hid (Fah.out.below hb3)
  have FaV := Lib.hid (FaV.out.below hb3)
  have Fb := Lib.hid (Fb.out.below hb3)
  have Fbl := Lib.hid (Fbl.out.below hb3)
  have Fbh := Lib.hid (Fbh.out.below hb3)
  have FbV := Lib.hid (FbV.out.below hb3)
  have BX1 := Lib.hid (heap_below BX1.out hb3)
  have BX2 := Lib.hid (heap_below BX2.out hb3)
  clear hb3
  obtain ⟨x1_0, x1_1, x1_2, x1_3, x1_4, x1_5⟩ := row6 BX1.out
  obtain ⟨x2_0, x2_1, x2_2, x2_3, x2_4, x2_5⟩ := row6 BX2.out
  obtain ⟨w4, hw4⟩ : ∃ w4, w4 = w3.alloc (.cells #[.bool qa, .slice oa na ka, .slice pa ma ra, .bool qax, .slice oax nax kax, .slice pax max rax, .bool qb, .slice ob nb kb, .slice pb mb rb, .bool qbx, .slice obx nbx kbx, .slice pbx mbx rbx] 26) := ⟨_, rfl⟩
  have hb4 : Below w3.heap.size w3 w4 := by rw [hw4]; exact (Below.refl _ _).alloc (Nat.le_refl _) _
  have hx4 := heap_alloc_new w3 (.cells #[.bool qa, .slice oa na ka, .slice pa ma ra, .bool qax, .slice oax nax kax, .slice pax max rax, .bool qb, .slice ob nb kb, .slice pb mb rb, .bool qbx, .slice obx nbx kbx, .slice pbx mbx rbx] 26)
  obtain ⟨g4, hg4⟩ : ∃ g, g = w3.heap.size := ⟨_, rfl⟩
  rw [← hw4, ← hg4] at hx4
  have lw4 : w.heap.size ≤ g4 := by rw [hg4]; exact HB3.out.size
  have ltBX14 : g1 < g4 := by rw [hg4]; exact below_lt BX1.out
  have ltBX24 : g2 < g4 := by rw [hg4]; exact below_lt BX2.out
  have HW4 := Lib.hid hw4; have HG4 := Lib.hid hg4; clear hw4 hg4
  have HB4 := Lib.hid (HB3.out.step hb4)
  have Fa := Lib.hid (Fa.out.below hb4)
  have Fal := Lib.hid (Fal.out.below hb4)
  have Fah := Lib.hid (Fah.out.below hb4)
  have FaV := Lib.hid (FaV.out.below hb4)
  have Fb := Lib.hid (Fb.out.below hb4)
  have Fbl := Lib.hid (Fbl.out.below hb4)
  have Fbh := Lib.hid (Fbh.out.below hb4)
  have FbV := Lib.hid (FbV.out.below hb4)
  have BX1 := Lib.hid (heap_below BX1.out hb4)
  have BX2 := Lib.hid (heap_below BX2.out hb4)
  have BX4 := Lib.hid hx4; clear hb4 hx4
  have hs := slarge2s BX4.out Za Zb
  have HS := Lib.hid hs; clear hs
  try rw [HG4.out] at x1_0
  try rw [HG4.out] at x1_1
  try rw [HG4.out] at x1_2
  try rw [HG4.out] at x1_3
  try rw [HG4.out] at x1_4
  try rw [HG4.out] at x1_5
  try rw [HG4.out] at x2_0
  try rw [HG4.out] at x2_1
  try rw [HG4.out] at x2_2
  try rw [HG4.out] at x2_3
  try rw [HG4.out] at x2_4
  try rw [HG4.out] at x2_5
  go_wp2_with (with_reducible first | refine pauseCall ?_ | refine pauseLoop ?_ | refine pauseDraw ?_ | refine pauseBody ?_ | refine pauseRounds ?_)
  try rw [← HW4.out]
  try rw [← HG4.out]
  clear x1_0 x1_1 x1_2 x1_3 x1_4 x1_5 x2_0 x2_1 x2_2 x2_3 x2_4 x2_5
  refine Pause.mk ?_
  (with_reducible refine HS.out.mono ?_); rintro e w5 ⟨rfl, hb5⟩
  clear HS
  have HB5 := Lib.hid (HB4.out.step hb5)
  have Fa := Lib.hid (Fa.out.below hb5)
  have Fal := Lib.hid (Fal.out.below hb5)
  have Fah := Lib.hid (Fah.out.below hb5)
  have FaV := Lib.hid (FaV.out.below hb5)
  have Fb := Lib.hid (Fb.out.below hb5)
  have Fbl := Lib.hid (Fbl.out.below hb5)
  have Fbh := Lib.hid (Fbh.out.below hb5)
  have FbV := Lib.hid (FbV.out.below hb5)
  have BX1 := Lib.hid (heap_below BX1.out hb5)
  have BX2 := Lib.hid (heap_below BX2.out hb5)
  have BX4 := Lib.hid (heap_below BX4.out hb5)
  clear BX4
  clear hb5
  go_wp2_with (with_reducible first | refine pauseCall ?_ | refine pauseLoop ?_ | refine pauseDraw ?_ | refine pauseBody ?_ | refine pauseRounds ?_)
  refine Pause.mk ?_
  obtain ⟨k3, k4⟩ := rl_sAdd (S_a) (S_b)
  obtain ⟨k5, k6⟩ := rl_sAdd (S_a) (S_b)
  obtain ⟨k7, k8⟩ := rl_sSub (S_a) (S_b)
  obtain ⟨k9, k10⟩ := rl_sSub (S_a) (S_b)
  obtain ⟨k11, k12⟩ := rl_sNeg (S_a)
  obtain ⟨k13, k14⟩ := rl_sNeg (S_a)
  obtain ⟨k15, k16⟩ := rl_sNot (S_a)
  obtain ⟨k17, k18⟩ := rl_sNot (S_a)
  obtain ⟨k19, k20⟩ := rl_sClip (S_a)
  refine wp_region_facts (A := ?aa21) (w := w5) 34 [] (by kernel_rfl) (Fl [KEq (.agg #[.bool qa, .slice oa na ka, .slice pa ma ra, .bool qax, .slice oax nax kax, .slice pax max rax]), KEq (.agg #[.bool qb, .slice ob nb kb, .slice pb mb rb, .bool qbx, .slice obx nbx kbx, .slice pbx mbx rbx]), KSp (sAdd (S_a) (S_b)), KEq (.agg #[.bool qa, .slice oa na ka, .slice pa ma ra, .bool qax, .slice oax nax kax, .slice pax max rax]), KEq (.agg #[.bool qb, .slice ob nb kb, .slice pb mb rb, .bool qbx, .slice obx nbx kbx, .slice pbx mbx rbx]), KSp (sAdd (S_a) (S_b)), KEq (.bool true), KEq (.bool true), KEq (.agg #[.bool qa, .slice oa na ka, .slice pa ma ra, .bool qax, .slice oax nax kax, .slice pax max rax]), KEq (.agg #[.bool qb, .slice ob nb kb, .slice pb mb rb, .bool qbx, .slice obx nbx kbx, .slice pbx mbx rbx]), KSp (sSub (S_a) (S_b)), KEq (.agg #[.bool qa, .slice oa na ka, .slice pa ma ra, .bool qax, .slice oax nax kax, .slice pax max rax]), KEq (.agg #[.bool qb, .slice ob nb kb, .slice pb mb rb, .bool qbx, .slice obx nbx kbx, .slice pbx mbx rbx]), KSp (sSub (S_a) (S_b)), KEq (.bool true), KEq (.bool true), KEq (.bool true), KEq (.agg #[.bool qa, .slice oa na ka, .slice pa ma ra, .bool qax, .slice oax nax kax, .slice pax max rax]), KSp (sNeg (S_a)), KEq (.agg #[.bool qa, .slice oa na ka, .slice pa ma ra, .bool qax, .slice oax nax kax, .slice pax max rax]), KSp (sNeg (S_a)), KEq (.bool true), KEq (.bool true), KEq (.bool true), KEq (.agg #[.bool qa, .slice oa na ka, .slice pa ma ra, .bool qax, .slice oax nax kax, .slice pax max rax]), KSp (sNot (S_a)), KEq (.agg #[.bool qa, .slice oa na ka, .slice pa ma ra, .bool qax, .slice oax nax kax, .slice pax max rax]), KSp (sNot (S_a)), KEq (.bool true), KEq (.bool true), KEq (.bool true), KEq (.agg #[.bool qa, .slice oa na ka, .slice pa ma ra, .bool qax, .slice oax nax kax, .slice pax max rax]), KSp (sClip (S_a)), KEq (.agg #[.bool qa, .slice oa na ka, .slice pa ma ra, .bool qax, .slice oax nax kax, .slice pax max rax])]) (fun i => false) (by kernel_rfl) ?hq21 (monoL (monoC (kEq _) (monoC (kEq _) (monoC (kSp _) (monoC (kEq _) (monoC (kEq _) (monoC (kSp _) (monoC (kEq _) (monoC (kEq _) (monoC (kEq _) (monoC (kEq _) (monoC (kSp _) (monoC (kEq _) (monoC (kEq _) (monoC (kSp _) (monoC (kEq _) (monoC (kEq _) (monoC (kEq _) (monoC (kEq _) (monoC (kSp _) (monoC (kEq _) (monoC (kSp _) (monoC (kEq _) (monoC (kEq _) (monoC (kEq _) (monoC (kEq _) (monoC (kSp _) (monoC (kEq _) (monoC (kSp _) (monoC (kEq _) (monoC (kEq _) (monoC (kEq _) (monoC (kEq _) (monoC (kSp _) (monoC (kEq _) monoN))))))))))))))))))))))))))))))))))) ?ha21 ?st21 ?tl21
  case hq21 =>
    intro c a d v w h
    first | (simp only [Exit.then] at h ⊢; exact h) | (simp only [Exit.inBlock, Exit.then] at h ⊢; exact h) | exact h
  case ha21 =>
    intro vals
    simp only [putsTo, dstOf, if_true, Act.put, List.setIfInBounds_toArray, List.set_cons_zero, List.set_cons_succ, List.getElem?_toArray, List.getElem?_cons_zero, List.getElem?_cons_succ, Option.bind_some]
    exact rfl
  case st21 =>
    simp only [List.take_succ_cons, List.take_zero]
    refine stepsOK_cons rfl rfl ?_ (stepsOK_cons rfl rfl ?_ (stepsOK_cons rfl rfl ?_ (stepsOK_cons rfl rfl ?_ (stepsOK_cons rfl rfl ?_ (stepsOK_cons rfl rfl ?_ (stepsOK_cons rfl rfl ?_ (stepsOK_cons rfl rfl ?_ (stepsOK_guard rfl ?_ (stepsOK_guard rfl ?_ (stepsOK_guard rfl ?_ (stepsOK_guard rfl ?_ (stepsOK_guard rfl ?_ (stepsOK_guard rfl ?_ (stepsOK_guard rfl ?_ (stepsOK_cons rfl rfl ?_ (stepsOK_cons rfl rfl ?_ (stepsOK_guard rfl ?_ (stepsOK_guard rfl ?_ (stepsOK_guard rfl ?_ (stepsOK_guard rfl ?_ (stepsOK_guard rfl ?_ (stepsOK_cons rfl rfl ?_ (stepsOK_cons rfl rfl ?_ (stepsOK_guard rfl ?_ (stepsOK_guard rfl ?_ (stepsOK_guard rfl ?_ (stepsOK_guard rfl ?_ (stepsOK_guard rfl ?_ (stepsOK_cons rfl rfl ?_ (stepsOK_cons rfl rfl ?_ (stepsOK_guard rfl ?_ (stepsOK_guard rfl ?_ (stepsOK_guard rfl ?_ (stepsOK_nil))))))))))))))))))))))))))))))))))
    · intro vals w1 hb hd
      obtain ⟨e0, e1, e2, e3, e4, e5⟩ := row6 (heap_below BX1.out hb)
      refine stepOK_value (v := .agg #[.bool qa, .slice oa na ka, .slice pa ma ra, .bool qax, .slice oax nax kax, .slice pax max rax]) (w' := w1) (by go_simp) (leaves_mk (Below.refl _ _) rfl (fun h => by cases h))
    · intro vals w1 hb hd
      obtain ⟨e0, e1, e2, e3, e4, e5⟩ := row6 (heap_below BX2.out hb)
      refine stepOK_value (v := .agg #[.bool qb, .slice ob nb kb, .slice pb mb rb, .bool qbx, .slice obx nbx kbx, .slice pbx mbx rbx]) (w' := w1) (by go_simp) (leaves_mk (Below.refl _ _) rfl (fun h => by cases h))
    · intro vals w1 hb hd
      have d0 : KEq (.agg #[.bool qa, .slice oa na ka, .slice pa ma ra, .bool qax, .slice oax nax kax, .slice pax max rax]) (vals 0) w1 := hd 0 (by kernel_rfl)
      have d1 : KEq (.agg #[.bool qb, .slice ob nb kb, .slice pb mb rb, .bool qbx, .slice obx nbx kbx, .slice pbx mbx rbx]) (vals 1) w1 := hd 1 (by kernel_rfl)
      have z0 : vals 0 = _ := d0
      have z1 : vals 1 = _ := d1
      have hs := sadd_any _ (S_a) _ (S_b) w1 (Fa.out.below hb) (Fb.out.below hb) (by omega) (by omega) (by omega) (by omega)
      have HS := Lib.hid hs; clear hs
      rw [z0]; clear z0
      rw [z1]; clear z1
      clear d0 d1 hd
      refine stepOK_call (by go_simp; first | done | exact ⟨⟨rfl, rfl⟩, rfl⟩) ?_
      (with_reducible refine HS.out.mono ?_); rintro e w2 ⟨v, rfl, hb2, hn⟩
      exact ⟨v, rfl, leaves_mk hb2 hn (fun h => by cases h)⟩
    · intro vals w1 hb hd
      obtain ⟨e0, e1, e2, e3, e4, e5⟩ := row6 (heap_below BX1.out hb)
      refine stepOK_value (v := .agg #[.bool qa, .slice oa na ka, .slice pa ma ra, .bool qax, .slice oax nax kax, .slice pax max rax]) (w' := w1) (by go_simp) (leaves_mk (Below.refl _ _) rfl (fun h => by cases h))
    · intro vals w1 hb hd
      obtain ⟨e0, e1, e2, e3, e4, e5⟩ := row6 (heap_below BX2.out hb)
      refine stepOK_value (v := .agg #[.bool qb, .slice ob nb kb, .slice pb mb rb, .bool qbx, .slice obx nbx kbx, .slice pbx mbx rbx]) (w' := w1) (by go_simp) (leaves_mk (Below.refl _ _) rfl (fun h => by cases h))
    · intro vals w1 hb hd
      have d3 : KEq (.agg #[.bool qa, .slice oa na ka, .slice pa ma ra, .bool qax, .slice oax nax kax, .slice pax max rax]) (vals 3) w1 := hd 3 (by kernel_rfl)
      have d4 : KEq (.agg #[.bool qb, .slice ob nb kb, .slice pb mb rb, .bool qbx, .slice obx nbx kbx, .slice pbx mbx rbx]) (vals 4) w1 := hd 4 (by kernel_rfl)
      have z3 : vals 3 = _ := d3
      have z4 : vals 4 = _ := d4
      have hs := rsadd_any _ (S_a) _ (S_b) w1 (Fa.out.below hb) (Fb.out.below hb) (by omega) (by omega) (by omega) (by omega)
      have HS := Lib.hid hs; clear hs
      rw [z3]; clear z3
      rw [z4]; clear z4
      clear d3 d4 hd
      refine stepOK_call (by go_simp; first | done | exact ⟨⟨rfl, rfl⟩, rfl⟩) ?_
      (with_reducible refine HS.out.mono ?_); rintro e w2 ⟨v, rfl, hb2, hn⟩
      exact ⟨v, rfl, leaves_mk hb2 hn (fun h => by cases h)⟩
    · intro vals w1 hb hd
      have d2 : KSp (sAdd (S_a) (S_b)) (vals 2) w1 := hd 2 (by kernel_rfl)
      have R2 : Hid (IsSp w1 (vals 2) (sAdd (S_a) (S_b))) := Lib.hid d2
      have d5 : KSp (sAdd (S_a) (S_b)) (vals 5) w1 := hd 5 (by kernel_rfl)
      have R5 : Hid (IsSp w1 (vals 5) (sAdd (S_a) (S_b))) := Lib.hid d5
      have hs := spsame_any _ (sAdd (S_a) (S_b)) _ w1 R2.out R5.out (by omega) (by omega)
      have HS := Lib.hid hs; clear hs
      clear d2 d5 hd
      refine stepOK_call (by go_simp; first | done | exact ⟨⟨rfl, rfl⟩, rfl⟩) ?_
      (with_reducible refine HS.out.mono ?_); rintro e w2 ⟨rfl, hb2⟩
      exact ⟨_, rfl, leaves_mk hb2 rfl (fun h => by cases h)⟩
    · intro vals w1 hb hd
      have d6 : KEq (.bool true) (vals 6) w1 := hd 6 (by kernel_rfl)
      rw [show vals 6 = _ from d6]
      refine stepOK_value (v := (.bool true)) (w' := w1) (by go_simp) (leaves_mk (Below.refl _ _) rfl (fun h => by cases h))
    · intro vals w1 hb hd
      have dg : KEq (.bool true) (vals 7) w1 := hd 7 (by kernel_rfl)
      refine stepG_yes (wanted_of rfl rfl (congrArg some dg) rfl) ?_
      clear dg
      obtain ⟨e0, e1, e2, e3, e4, e5⟩ := row6 (heap_below BX1.out hb)
      refine stepOK_value (v := .agg #[.bool qa, .slice oa na ka, .slice pa ma ra, .bool qax, .slice oax nax kax, .slice pax max rax]) (w' := w1) (by go_simp) (leaves_mk (Below.refl _ _) rfl (fun h => by cases h))
    · intro vals w1 hb hd
      have dg : KEq (.bool true) (vals 7) w1 := hd 7 (by kernel_rfl)
      refine stepG_yes (wanted_of rfl rfl (congrArg some dg) rfl) ?_
      clear dg
      obtain ⟨e0, e1, e2, e3, e4, e5⟩ := row6 (heap_below BX2.out hb)
      refine stepOK_value (v := .agg #[.bool qb, .slice ob nb kb, .slice pb mb rb, .bool qbx, .slice obx nbx kbx, .slice pbx mbx rbx]) (w' := w1) (by go_simp) (leaves_mk (Below.refl _ _) rfl (fun h => by cases h))
    · intro vals w1 hb hd
      have dg : KEq (.bool true) (vals 7) w1 := hd 7 (by kernel_rfl)
      refine stepG_yes (wanted_of rfl rfl (congrArg some dg) rfl) ?_
      clear dg
      have d8 : KEq (.agg #[.bool qa, .slice oa na ka, .slice pa ma ra, .bool qax, .slice oax nax kax, .slice pax max rax]) (vals 8) w1 := hd 8 (by kernel_rfl)
      have d9 : KEq (.agg #[.bool qb, .slice ob nb kb, .slice pb mb rb, .bool qbx, .slice obx nbx kbx, .slice pbx mbx rbx]) (vals 9) w1 := hd 9 (by kernel_rfl)
      have z8 : vals 8 = _ := d8
      have z9 : vals 9 = _ := d9
      have hs := ssub_any _ (S_a) _ (S_b) w1 (Fa.out.below hb) (Fb.out.below hb) (by omega) (by omega) (by omega) (by omega)
      have HS := Lib.hid hs; clear hs
      rw [z8]; clear z8
      rw [z9]; clear z9
      clear d8 d9 hd
      refine stepOK_call (by go_simp; first | done | exact ⟨⟨rfl, rfl⟩, rfl⟩) ?_
      (with_reducible refine HS.out.mono ?_); rintro e w2 ⟨v, rfl, hb2, hn⟩
      exact ⟨v, rfl, leaves_mk hb2 hn (fun h => by cases h)⟩
    · intro vals w1 hb hd
      have dg : KEq (.bool true) (vals 7) w1 := hd 7 (by kernel_rfl)
      refine stepG_yes (wanted_of rfl rfl (congrArg some dg) rfl) ?_
      clear dg
      obtain ⟨e0, e1, e2, e3, e4, e5⟩ := row6 (heap_below BX1.out hb)
      refine stepOK_value (v := .agg #[.bool qa, .slice oa na ka, .slice pa ma ra, .bool qax, .slice oax nax kax, .slice pax max rax]) (w' := w1) (by go_simp) (leaves_mk (Below.refl _ _) rfl (fun h => by cases h))
    · intro vals w1 hb hd
      have dg : KEq (.bool true) (vals 7) w1 := hd 7 (by kernel_rfl)
      refine stepG_yes (wanted_of rfl rfl (congrArg some dg) rfl) ?_
      clear dg
      obtain ⟨e0, e1, e2, e3, e4, e5⟩ := row6 (heap_below BX2.out hb)
      refine stepOK_value (v := .agg #[.bool qb, .slice ob nb kb, .slice pb mb rb, .bool qbx, .slice obx nbx kbx, .slice pbx mbx rbx]) (w' := w1) (by go_simp) (leaves_mk (Below.refl _ _) rfl (fun h => by cases h))
    · intro vals w1 hb hd
      have dg : KEq (.bool true) (vals 7) w1 := hd 7 (by kernel_rfl)
      refine stepG_yes (wanted_of rfl rfl (congrArg some dg) rfl) ?_
      clear dg
      have d11 : KEq (.agg #[.bool qa, .slice oa na ka, .slice pa ma ra, .bool qax, .slice oax nax kax, .slice pax max rax]) (vals 11) w1 := hd 11 (by kernel_rfl)
      have d12 : KEq (.agg #[.bool qb, .slice ob nb kb, .slice pb mb rb, .bool qbx, .slice obx nbx kbx, .slice pbx mbx rbx]) (vals 12) w1 := hd 12 (by kernel_rfl)
      have z11 : vals 11 = _ := d11
      have z12 : vals 12 = _ := d12
      have hs := rssub_any _ (S_a) _ (S_b) w1 (Fa.out.below hb) (Fb.out.below hb) (by omega) (by omega) (by omega) (by omega)
      have HS := Lib.hid hs; clear hs
      rw [z11]; clear z11
      rw [z12]; clear z12
      clear d11 d12 hd
      refine stepOK_call (by go_simp; first | done | exact ⟨⟨rfl, rfl⟩, rfl⟩) ?_
      (with_reducible refine HS.out.mono ?_); rintro e w2 ⟨v, rfl, hb2, hn⟩
      exact ⟨v, rfl, leaves_mk hb2 hn (fun h => by cases h)⟩
    · intro vals w1 hb hd
      have dg : KEq (.bool true) (vals 7) w1 := hd 7 (by kernel_rfl)
      refine stepG_yes (wanted_of rfl rfl (congrArg some dg) rfl) ?_
      clear dg
      have d10 : KSp (sSub (S_a) (S_b)) (vals 10) w1 := hd 10 (by kernel_rfl)
      have R10 : Hid (IsSp w1 (vals 10) (sSub (S_a) (S_b))) := Lib.hid d10
      have d13 : KSp (sSub (S_a) (S_b)) (vals 13) w1 := hd 13 (by kernel_rfl)
      have R13 : Hid (IsSp w1 (vals 13) (sSub (S_a) (S_b))) := Lib.hid d13
      have hs := spsame_any _ (sSub (S_a) (S_b)) _ w1 R10.out R13.out (by omega) (by omega)
      have HS := Lib.hid hs; clear hs
      clear d10 d13 hd
      refine stepOK_call (by go_simp; first | done | exact ⟨⟨rfl, rfl⟩, rfl⟩) ?_
      (with_reducible refine HS.out.mono ?_); rintro e w2 ⟨rfl, hb2⟩
      exact ⟨_, rfl, leaves_mk hb2 rfl (fun h => by cases h)⟩
    · intro vals w1 hb hd
      have d7 : KEq (.bool true) (vals 7) w1 := hd 7 (by kernel_rfl)
      have d14 : KEq (.bool true) (vals 14) w1 := hd 14 (by kernel_rfl)
      rw [show vals 7 = _ from d7]
      rw [show vals 14 = _ from d14]
      refine stepOK_value (v := (.bool true)) (w' := w1) (by go_simp) (leaves_mk (Below.refl _ _) rfl (fun h => by cases h))
    · intro vals w1 hb hd
      have d15 : KEq (.bool true) (vals 15) w1 := hd 15 (by kernel_rfl)
      rw [show vals 15 = _ from d15]
      refine stepOK_value (v := (.bool true)) (w' := w1) (by go_simp) (leaves_mk (Below.refl _ _) rfl (fun h => by cases h))
    · intro vals w1 hb hd
      have dg : KEq (.bool true) (vals 16) w1 := hd 16 (by kernel_rfl)
      refine stepG_yes (wanted_of rfl rfl (congrArg some dg) rfl) ?_
      clear dg
      obtain ⟨e0, e1, e2, e3, e4, e5⟩ := row6 (heap_below BX1.out hb)
      refine stepOK_value (v := .agg #[.bool qa, .slice oa na ka, .slice pa ma ra, .bool qax, .slice oax nax kax, .slice pax max rax]) (w' := w1) (by go_simp) (leaves_mk (Below.refl _ _) rfl (fun h => by cases h))
    · intro vals w1 hb hd
      have dg : KEq (.bool true) (vals 16) w1 := hd 16 (by kernel_rfl)
      refine stepG_yes (wanted_of rfl rfl (congrArg some dg) rfl) ?_
      clear dg
      have d17 : KEq (.agg #[.bool qa, .slice oa na ka, .slice pa ma ra, .bool qax, .slice oax nax kax, .slice pax max rax]) (vals 17) w1 := hd 17 (by kernel_rfl)
      have z17 : vals 17 = _ := d17
      have hs := sneg_any _ (S_a) w1 (Fa.out.below hb) (by omega) (by omega)
      have HS := Lib.hid hs; clear hs
      rw [z17]; clear z17
      clear d17 hd
      refine stepOK_call (by go_simp; first | done | exact ⟨⟨rfl, rfl⟩, rfl⟩) ?_
      (with_reducible refine HS.out.mono ?_); rintro e w2 ⟨v, rfl, hb2, hn⟩
      exact ⟨v, rfl, leaves_mk hb2 hn (fun h => by cases h)⟩
    · intro vals w1 hb hd
      have dg : KEq (.bool true) (vals 16) w1 := hd 16 (by kernel_rfl)
      refine stepG_yes (wanted_of rfl rfl (congrArg some dg) rfl) ?_
      clear dg
      obtain ⟨e0, e1, e2, e3, e4, e5⟩ := row6 (heap_below BX1.out hb)
      refine stepOK_value (v := .agg #[.bool qa, .slice oa na ka, .slice pa ma ra, .bool qax, .slice oax nax kax, .slice pax max rax]) (w' := w1) (by go_simp) (leaves_mk (Below.refl _ _) rfl (fun h => by cases h))
    · intro vals w1 hb hd
      have dg : KEq (.bool true) (vals 16) w1 := hd 16 (by kernel_rfl)
      refine stepG_yes (wanted_of rfl rfl (congrArg some dg) rfl) ?_
      clear dg
      have d19 : KEq (.agg #[.bool qa, .slice oa na ka, .slice pa ma ra, .bool qax, .slice oax nax kax, .slice pax max rax]) (vals 19) w1 := hd 19 (by kernel_rfl)
      have z19 : vals 19 = _ := d19
      have hs := rsneg_any _ (S_a) w1 (Fa.out.below hb) (by omega) (by omega)
      have HS := Lib.hid hs; clear hs
      rw [z19]; clear z19
      clear d19 hd
      refine stepOK_call (by go_simp; first | done | exact ⟨⟨rfl, rfl⟩, rfl⟩) ?_
      (with_reducible refine HS.out.mono ?_); rintro e w2 ⟨v, rfl, hb2, hn⟩
      exact ⟨v, rfl, leaves_mk hb2 hn (fun h => by cases h)⟩
    · intro vals w1 hb hd
      have dg : KEq (.bool true) (vals 16) w1 := hd 16 (by kernel_rfl)
      refine stepG_yes (wanted_of rfl rfl (congrArg some dg) rfl) ?_
      clear dg
      have d18 : KSp (sNeg (S_a)) (vals 18) w1 := hd 18 (by kernel_rfl)
      have R18 : Hid (IsSp w1 (vals 18) (sNeg (S_a))) := Lib.hid d18
      have d20 : KSp (sNeg (S_a)) (vals 20) w1 := hd 20 (by kernel_rfl)
      have R20 : Hid (IsSp w1 (vals 20) (sNeg (S_a))) := Lib.hid d20
      have hs := spsame_any _ (sNeg (S_a)) _ w1 R18.out R20.out (by omega) (by omega)
      have HS := Lib.hid hs; clear hs
      clear d18 d20 hd
      refine stepOK_call (by go_simp; first | done | exact ⟨⟨rfl, rfl⟩, rfl⟩) ?_
      (with_reducible refine HS.out.mono ?_); rintro e w2 ⟨rfl, hb2⟩
      exact ⟨_, rfl, leaves_mk hb2 rfl (fun h => by cases h)⟩
    · intro vals w1 hb hd
      have d16 : KEq (.bool true) (vals 16) w1 := hd 16 (by kernel_rfl)
      have d21 : KEq (.bool true) (vals 21) w1 := hd 21 (by kernel_rfl)
      rw [show vals 16 = _ from d16]
      rw [show vals 21 = _ from d21]
      refine stepOK_value (v := (.bool true)) (w' := w1) (by go_simp) (leaves_mk (Below.refl _ _) rfl (fun h => by cases h))
    · intro vals w1 hb hd
      have d22 : KEq (.bool true) (vals 22) w1 := hd 22 (by kernel_rfl)
      rw [show vals 22 = _ from d22]
      refine stepOK_value (v := (.bool true)) (w' := w1) (by go_simp) (leaves_mk (Below.refl _ _) rfl (fun h => by cases h))
    · intro vals w1 hb hd
      have dg : KEq (.bool true) (vals 23) w1 := hd 23 (by kernel_rfl)
      refine stepG_yes (wanted_of rfl rfl (congrArg some dg) rfl) ?_
      clear dg
      obtain ⟨e0, e1, e2, e3, e4, e5⟩ := row6 (heap_below BX1.out hb)
      refine stepOK_value (v := .agg #[.bool qa, .slice oa na ka, .slice pa ma ra, .bool qax, .slice oax nax kax, .slice pax max rax]) (w' := w1) (by go_simp) (leaves_mk (Below.refl _ _) rfl (fun h => by cases h))
    · intro vals w1 hb hd
      have dg : KEq (.bool true) (vals 23) w1 := hd 23 (by kernel_rfl)
      refine stepG_yes (wanted_of rfl rfl (congrArg some dg) rfl) ?_
      clear dg
      have d24 : KEq (.agg #[.bool qa, .slice oa na ka, .slice pa ma ra, .bool qax, .slice oax nax kax, .slice pax max rax]) (vals 24) w1 := hd 24 (by kernel_rfl)
      have z24 : vals 24 = _ := d24
      have hs := snot_any _ (S_a) w1 (Fa.out.below hb) (by omega) (by omega)
      have HS := Lib.hid hs; clear hs
      rw [z24]; clear z24
      clear d24 hd
      refine stepOK_call (by go_simp; first | done | exact ⟨⟨rfl, rfl⟩, rfl⟩) ?_
      (with_reducible refine HS.out.mono ?_); rintro e w2 ⟨v, rfl, hb2, hn⟩
      exact ⟨v, rfl, leaves_mk hb2 hn (fun h => by cases h)⟩
    · intro vals w1 hb hd
      have dg : KEq (.bool true) (vals 23) w1 := hd 23 (by kernel_rfl)
      refine stepG_yes (wanted_of rfl rfl (congrArg some dg) rfl) ?_
      clear dg
      obtain ⟨e0, e1, e2, e3, e4, e5⟩ := row6 (heap_below BX1.out hb)
      refine stepOK_value (v := .agg #[.bool qa, .slice oa na ka, .slice pa ma ra, .bool qax, .slice oax nax kax, .slice pax max rax]) (w' := w1) (by go_simp) (leaves_mk (Below.refl _ _) rfl (fun h => by cases h))
    · intro vals w1 hb hd
      have dg : KEq (.bool true) (vals 23) w1 := hd 23 (by kernel_rfl)
      refine stepG_yes (wanted_of rfl rfl (congrArg some dg) rfl) ?_
      clear dg
      have d26 : KEq (.agg #[.bool qa, .slice oa na ka, .slice pa ma ra, .bool qax, .slice oax nax kax, .slice pax max rax]) (vals 26) w1 := hd 26 (by kernel_rfl)
      have z26 : vals 26 = _ := d26
      have hs := rsnot_any _ (S_a) w1 (Fa.out.below hb) (by omega) (by omega)
      have HS := Lib.hid hs; clear hs
      rw [z26]; clear z26
      clear d26 hd
      refine stepOK_call (by go_simp; first | done | exact ⟨⟨rfl, rfl⟩, rfl⟩) ?_
      (with_reducible refine HS.out.mono ?_); rintro e w2 ⟨v, rfl, hb2, hn⟩
      exact ⟨v, rfl, leaves_mk hb2 hn (fun h => by cases h)⟩
    · intro vals w1 hb hd
      have dg : KEq (.bool true) (vals 23) w1 := hd 23 (by kernel_rfl)
      refine stepG_yes (wanted_of rfl rfl (congrArg some dg) rfl) ?_
      clear dg
      have d25 : KSp (sNot (S_a)) (vals 25) w1 := hd 25 (by kernel_rfl)
      have R25 : Hid (IsSp w1 (vals 25) (sNot (S_a))) := Lib.hid d25
      have d27 : KSp (sNot (S_a)) (vals 27) w1 := hd 27 (by kernel_rfl)
      have R27 : Hid (IsSp w1 (vals 27) (sNot (S_a))) := Lib.hid d27
      have hs := spsame_any _ (sNot (S_a)) _ w1 R25.out R27.out (by omega) (by omega)
      have HS := Lib.hid hs; clear hs
      clear d25 d27 hd
      refine stepOK_call (by go_simp; first | done | exact ⟨⟨rfl, rfl⟩, rfl⟩) ?_
      (with_reducible refine HS.out.mono ?_); rintro e w2 ⟨rfl, hb2⟩
      exact ⟨_, rfl, leaves_mk hb2 rfl (fun h => by cases h)⟩
    · intro vals w1 hb hd
      have d23 : KEq (.bool true) (vals 23) w1 := hd 23 (by kernel_rfl)
      have d28 : KEq (.bool true) (vals 28) w1 := hd 28 (by kernel_rfl)
      rw [show vals 23 = _ from d23]
      rw [show vals 28 = _ from d28]
      refine stepOK_value (v := (.bool true)) (w' := w1) (by go_simp) (leaves_mk (Below.refl _ _) rfl (fun h => by cases h))
    · intro vals w1 hb hd
      have d29 : KEq (.bool true) (vals 29) w1 := hd 29 (by kernel_rfl)
      rw [show vals 29 = _ from d29]
      refine stepOK_value (v := (.bool true)) (w' := w1) (by go_simp) (leaves_mk (Below.refl _ _) rfl (fun h => by cases h))
    · intro vals w1 hb hd
      have dg : KEq (.bool true) (vals 30) w1 := hd 30 (by kernel_rfl)
      refine stepG_yes (wanted_of rfl rfl (congrArg some dg) rfl) ?_
      clear dg
      obtain ⟨e0, e1, e2, e3, e4, e5⟩ := row6 (heap_below BX1.out hb)
      refine stepOK_value (v := .agg #[.bool qa, .slice oa na ka, .slice pa ma ra, .bool qax, .slice oax nax kax, .slice pax max rax]) (w' := w1) (by go_simp) (leaves_mk (Below.refl _ _) rfl (fun h => by cases h))
    · intro vals w1 hb hd
      have dg : KEq (.bool true) (vals 30) w1 := hd 30 (by kernel_rfl)
      refine stepG_yes (wanted_of rfl rfl (congrArg some dg) rfl) ?_
      clear dg
      have d31 : KEq (.agg #[.bool qa, .slice oa na ka, .slice pa ma ra, .bool qax, .slice oax nax kax, .slice pax max rax]) (vals 31) w1 := hd 31 (by kernel_rfl)
      have z31 : vals 31 = _ := d31
      have hs := sclip_any _ (S_a) w1 (Fa.out.below hb) (by omega) (by omega)
      have HS := Lib.hid hs; clear hs
      rw [z31]; clear z31
      clear d31 hd
      refine stepOK_call (by go_simp; first | done | exact ⟨⟨rfl, rfl⟩, rfl⟩) ?_
      (with_reducible refine HS.out.mono ?_); rintro e w2 ⟨v, rfl, hb2, hn⟩
      exact ⟨v, rfl, leaves_mk hb2 hn (fun h => by cases h)⟩
    · intro vals w1 hb hd
      have dg : KEq (.bool true) (vals 30) w1 := hd 30 (by kernel_rfl)
      refine stepG_yes (wanted_of rfl rfl (congrArg some dg) rfl) ?_
      clear dg
      obtain ⟨e0, e1, e2, e3, e4, e5⟩ := row6 (heap_below BX1.out hb)
      refine stepOK_value (v := .agg #[.bool qa, .slice oa na ka, .slice pa ma ra, .bool qax, .slice oax nax kax, .slice pax max rax]) (w' := w1) (by go_simp) (leaves_mk (Below.refl _ _) rfl (fun h => by cases h))
  case tl21 =>
    intro vals w6 hb6 hf hdis
    simp only [List.drop_succ_cons, List.drop_zero]
    have z30 : vals 30 = _ := hf 30 (by decide)
    try rw [z30]
    clear z30
    obtain ⟨u21_32, hu32⟩ : ∃ u, u = vals 32 := ⟨_, rfl⟩
    have hn21_32 : IsSp w6 (vals 32) (sClip (S_a)) := hf 32 (by decide)
    rw [← hu32] at hn21_32 ⊢; clear hu32
    have z33 : vals 33 = _ := hf 33 (by decide)
    try rw [z33]
    clear z33
    clear hf hdis
    have HB6 := Lib.hid (HB5.out.step hb6)
    have Fa := Lib.hid (Fa.out.below hb6)
    have Fal := Lib.hid (Fal.out.below hb6)
    have Fah := Lib.hid (Fah.out.below hb6)
    have FaV := Lib.hid (FaV.out.below hb6)
    have Fb := Lib.hid (Fb.out.below hb6)
    have Fbl := Lib.hid (Fbl.out.below hb6)
    have Fbh := Lib.hid (Fbh.out.below hb6)
    have FbV := Lib.hid (FbV.out.below hb6)
    have BX1 := Lib.hid (heap_below BX1.out hb6)
    have BX2 := Lib.hid (heap_below BX2.out hb6)
    clear hb6
    have N21_32 := Lib.hid hn21_32; clear hn21_32
    obtain ⟨s22, o22, n22, c22, a22, m22, d22, s22x, o22x, n22x, c22x, a22x, m22x, d22x, rfl⟩ := N21_32.out.shape
    have N21_32l := Lib.hid (isSp_ends N21_32.out).1; have N21_32h := Lib.hid (isSp_ends N21_32.out).2
    skip
    obtain ⟨k23, k24⟩ := rl_sClip (S_a)
    have hs := rsclip_any _ (S_a) w6 Fa.out (by omega) (by omega)
    have HS := Lib.hid hs; clear hs
    go_wp2_with (with_reducible first | refine pauseCall ?_ | refine pauseLoop ?_ | refine pauseDraw ?_ | refine pauseBody ?_ | refine pauseRounds ?_)
    refine Pause.mk ?_
    (with_reducible refine HS.out.mono ?_); rintro e w7 ⟨v7, rfl, hb7, hn7⟩
    clear HS
    have HB7 := Lib.hid (HB6.out.step hb7)
    have Fa := Lib.hid (Fa.out.below hb7)
    have Fal := Lib.hid (Fal.out.below hb7)
    have Fah := Lib.hid (Fah.out.below hb7)
    have FaV := Lib.hid (FaV.out.below hb7)
    have Fb := Lib.hid (Fb.out.below hb7)
    have Fbl := Lib.hid (Fbl.out.below hb7)
    have Fbh := Lib.hid (Fbh.out.below hb7)
    have FbV := Lib.hid (FbV.out.below hb7)
    have N21_32 := Lib.hid (N21_32.out.below hb7)
    have N21_32l := Lib.hid (N21_32l.out.below hb7)
    have N21_32h := Lib.hid (N21_32h.out.below hb7)
    have BX1 := Lib.hid (heap_below BX1.out hb7)
    have BX2 := Lib.hid (heap_below BX2.out hb7)
    have N7 := Lib.hid hn7; clear hn7
    obtain ⟨s25, o25, n25, c25, a25, m25, d25, s25x, o25x, n25x, c25x, a25x, m25x, d25x, rfl⟩ := N7.out.shape
    have N7l := Lib.hid (isSp_ends N7.out).1; have N7h := Lib.hid (isSp_ends N7.out).2
    clear hb7
    have hs := spsame_any _ (sClip (S_a)) _ w7 N21_32.out N7.out (by omega) (by omega)
    have HS := Lib.hid hs; clear hs
    go_wp2_with (with_reducible first | refine pauseCall ?_ | refine pauseLoop ?_ | refine pauseDraw ?_ | refine pauseBody ?_ | refine pauseRounds ?_)
    refine Pause.mk ?_
    (with_reducible refine HS.out.mono ?_); rintro e w8 ⟨rfl, hb8⟩
    clear HS
    have HB8 := Lib.hid (HB7.out.step hb8)
    have Fa := Lib.hid (Fa.out.below hb8)
    have Fal := Lib.hid (Fal.out.below hb8)
    have Fah := Lib.hid (Fah.out.below hb8)
    have FaV := Lib.hid (FaV.out.below hb8)
    have Fb := Lib.hid (Fb.out.below hb8)
    have Fbl := Lib.hid (Fbl.out.below hb8)
    have Fbh := Lib.hid (Fbh.out.below hb8)
    have FbV := Lib.hid (FbV.out.below hb8)
    have N21_32 := Lib.hid (N21_32.out.below hb8)
    have N21_32l := Lib.hid (N21_32l.out.below hb8)
    have N21_32h := Lib.hid (N21_32h.out.below hb8)
    have N7 := Lib.hid (N7.out.below hb8)
    have N7l := Lib.hid (N7l.out.below hb8)
    have N7h := Lib.hid (N7h.out.below hb8)
    have BX1 := Lib.hid (heap_below BX1.out hb8)
    have BX2 := Lib.hid (heap_below BX2.out hb8)
    clear hb8
    go_wp2_with (with_reducible first | refine pauseCall ?_ | refine pauseLoop ?_ | refine pauseDraw ?_ | refine pauseBody ?_ | refine pauseRounds ?_)
    refine Pause.mk ?_
    go_ret
    exact ⟨by first | rfl | (simp; done), HB8.out⟩
theorem spansums_any (va : Value) (sa : Bool) (aa ba : List Nat) (ta : Bool) (ca da : List Nat) (vb : Value) (sb : Bool) (ab bb : List Nat) (tb : Bool) (cb db : List Nat) (w : World) (ha : SpV w va sa aa ba ta ca da) (hb : SpV w vb sb ab bb tb cb db) :
    Calls Tryz.prog 5 #[va, vb] w (RetV w (.bool true)) := by
  by_cases hbig : 6 < aa.length ∨ 6 < ba.length ∨ 6 < ca.length ∨ 6 < da.length ∨ 6 < ab.length ∨ 6 < bb.length ∨ 6 < cb.length ∨ 6 < db.length
  · exact spansums_big va aa.length ba.length ca.length da.length vb ab.length bb.length cb.length db.length w ha.sz.1 hb.sz.1 hbig
  exact spansums_ok va sa aa ba ta ca da vb sb ab bb tb cb db w ha (by omega) (by omega) (by omega) (by omega) hb (by omega) (by omega) (by omega) (by omega)
end Go.Proofs.YtaefimegiobkmaaGreatDoor
