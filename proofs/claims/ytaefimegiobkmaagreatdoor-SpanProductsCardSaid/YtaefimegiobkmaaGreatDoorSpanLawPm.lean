/-
  SpanProducts: the walk of the statement.
  Conditions: each theorem's own.
-/
import Derived.Test.YtaefimegiobkmaaGreatDoorMB6
namespace Go.Proofs.YtaefimegiobkmaaGreatDoor
open Go.RowKit Go.ChangeShapes Go.WideShapes

set_option maxRecDepth 100000 in
set_option maxHeartbeats 3200000 in
theorem spanproducts_big (va : Value) (na ma nax max : Nat) (vb : Value) (nb mb nbx mbx : Nat) (w : World) (ha : SpSz va na ma nax max) (hb : SpSz vb nb mb nbx mbx) (hbig : 6 < na ∨ 6 < ma ∨ 6 < nax ∨ 6 < max ∨ 6 < nb ∨ 6 < mb ∨ 6 < nbx ∨ 6 < mbx) :
    Calls Tryz.prog 3 #[va, vb] w (RetV w (.bool true)) := by
  have HBW := Lib.hid (Below.refl w.heap.size w)
  have kz0 : rl 0 ≤ 1 := by rw [rl_zero]; exact Nat.le_refl _
  obtain ⟨qa, oa, ka, pa, ra, qax, oax, kax, pax, rax, rfl, Za⟩ := ha
  obtain ⟨qb, ob, kb, pb, rb, qbx, obx, kbx, pbx, rbx, rfl, Zb⟩ := hb
  have HBIG := Lib.hid hbig; clear hbig
  obtain ⟨w1, hw1⟩ : ∃ w1, w1 = w.alloc (.cells #[.bool qa, .slice oa na ka, .slice pa ma ra, .bool qax, .slice oax nax kax, .slice pax max rax] 26) := ⟨_, rfl⟩
  have hb1 : Below w.heap.size w w1 := by rw [hw1]; exact (Below.refl _ _).alloc (Nat.le_refl _) _
  have hx1 := heap_alloc_new w (.cells #[.bool qa, .slice oa na ka, .slice pa ma ra, .bool qax, .slice oax nax kax, .slice pax max rax] 26)
  obtain ⟨g1, hg1⟩ : ∃ g, g = w.heap.size := ⟨_, rfl⟩
  rw [← hw1, ← hg1] at hx1
  have lw1 : w.heap.size ≤ g1 := by rw [hg1]; exact HBW.out.size
  have HW1 := Lib.hid hw1; have HG1 := Lib.hid hg1; clear hw1 hg1
  have HB1 := Lib.hid (HBW.out.step hb1)
  have BX1 := Lib.hid hx1; clear hb1 hx1
  obtain ⟨w2, hw2⟩ : ∃ w2, w2 = w1.alloc (.cells #[.bool qb, .slice ob nb kb, .slice pb mb rb, .bool qbx, .slice obx nbx kbx, .slice pbx mbx rbx] 26) := ⟨_, rfl⟩
  have hb2 : Below w1.heap.size w1 w2 := by rw [hw2]; exact (Below.refl _ _).alloc (Nat.le_refl _) _
  have hx2 := heap_alloc_new w1 (.cells #[.bool qb, .slice ob nb kb, .slice pb mb rb, .bool qbx, .slice obx nbx kbx, .slice pbx mbx rbx] 26)
  obtain ⟨g2, hg2⟩ : ∃ g, g = w1.heap.size := ⟨_, rfl⟩
  rw [← hw2, ← hg2] at hx2
  have lw2 : w.heap.size ≤ g2 := by rw [hg2]; exact HB1.out.size
  have ltBX12 : g1 < g2 := by rw [hg2]; exact below_lt BX1.out
  have hs2 : g2 = w.heap.size + 1 := by rw [hg2, HW1.out]; simp
  have HS2 := Lib.hid hs2; clear hs2
  have HW2 := Lib.hid hw2; have HG2 := Lib.hid hg2; clear hw2 hg2
  have HB2 := Lib.hid (HB1.out.step hb2)
  have BX1 := Lib.hid (heap_below BX1.out hb2)
  have BX2 := Lib.hid hx2; clear hb2 hx2
  go_enter Tryz.func3, Tryz.ntmps3
  have hs := awake03 w2
  have HS := Lib.hid hs; clear hs
  go_wp2_with (with_reducible first | refine pauseCall ?_ | refine pauseLoop ?_ | refine pauseDraw ?_ | refine pauseBody ?_ | refine pauseRounds ?_)
  try rw [← HW1.out]
  try rw [← HW2.out]
  try rw [← HS2.out]
  try rw [← HG1.out]
  try rw [← HG2.out]
  refine Pause.mk ?_
  (with_reducible refine HS.out.mono ?_); rintro e w3 ⟨rfl, hb3⟩
  clear HS
  have HB3 := Lib.hid (HB2.out.step hb3)
  have BX1 := Lib.hid (heap_below BX1.out hb3)
  have BX2 := Lib.hid (heap_below BX2.out hb3)
  clear hb3
  obtain ⟨x1_0, x1_1, x1_2, x1_3, x1_4, x1_5⟩ := row6 BX1.out
  obtain ⟨x2_0, x2_1, x2_2, x2_3, x2_4, x2_5⟩ := row6 BX2.out
  obtain ⟨w4, hw4⟩ : ∃ w4, w4 = w3.alloc (.cells #[.bool qa, .slice oa na ka, .slice pa ma ra, .bool qax, .slice oax nax kax, .slice pax max rax, .bool qb, .slice ob nb kb, .slice pb mb rb, .bool qbx, .slice obx nbx kbx, .slice pbx mbx rbx] 26) := ⟨_, rfl⟩
  have hb4 : Below w3.heap.size w3 w4 := by rw [hw4]; exact (Below.refl _ _).alloc (Nat.le_refl _) _
  have hx4 := heap_alloc_new w3 (.cells #[.bool qa, .slice oa na ka, .slice pa ma ra, .bool qax, .slice oax nax kax, .slice pax max rax, .bool qb, .slice ob nb kb, .slice pb mb rb, .bool qbx, .slice obx nbx kbx, .slice pbx mbx rbx] 26)
  obtain ⟨g4, hg4⟩ : ∃ g, g = w3.heap.size := ⟨_, rfl⟩
  rw [← hw4, ← hg4] at hx4
  have lw4 : w.heap.size ≤ g4 := by rw [hg4]; exact HB3.out.size
  have ltBX14 : g1 < g4 := by rw [hg4]; exact below_lt BX1.out
  have ltBX24 : g2 < g4 := by rw [hg4]; exact below_lt BX2.out
  have HW4 := Lib.hid hw4; have HG4 := Lib.hid hg4; clear hw4 hg4
  have HB4 := Lib.hid (HB3.out.step hb4)
  have BX1 := Lib.hid (heap_below BX1.out hb4)
  have BX2 := Lib.hid (heap_below BX2.out hb4)
  have BX4 := Lib.hid hx4; clear hb4 hx4
  have hs := slarge2b BX4.out Za Zb HBIG.out
  have HS := Lib.hid hs; clear hs
  try rw [HG4.out] at x1_0
  try rw [HG4.out] at x1_1
  try rw [HG4.out] at x1_2
  try rw [HG4.out] at x1_3
  try rw [HG4.out] at x1_4
  try rw [HG4.out] at x1_5
  try rw [HG4.out] at x2_0
  try rw [HG4.out] at x2_1
  try rw [HG4.out] at x2_2
  try rw [HG4.out] at x2_3
  try rw [HG4.out] at x2_4
  try rw [HG4.out] at x2_5
  go_wp2_with (with_reducible first | refine pauseCall ?_ | refine pauseLoop ?_ | refine pauseDraw ?_ | refine pauseBody ?_ | refine pauseRounds ?_)
  try rw [← HW4.out]
  try rw [← HG4.out]
  clear x1_0 x1_1 x1_2 x1_3 x1_4 x1_5 x2_0 x2_1 x2_2 x2_3 x2_4 x2_5
  refine Pause.mk ?_
  (with_reducible refine HS.out.mono ?_); rintro e w5 ⟨rfl, hb5⟩
  clear HS
  have HB5 := Lib.hid (HB4.out.step hb5)
  have BX1 := Lib.hid (heap_below BX1.out hb5)
  have BX2 := Lib.hid (heap_below BX2.out hb5)
  have BX4 := Lib.hid (heap_below BX4.out hb5)
  clear BX4
  clear hb5
  have hs := awake03 w5
  have HS := Lib.hid hs; clear hs
  go_wp2_with (with_reducible first | refine pauseCall ?_ | refine pauseLoop ?_ | refine pauseDraw ?_ | refine pauseBody ?_ | refine pauseRounds ?_)
  refine Pause.mk ?_
  (with_reducible refine HS.out.mono ?_); rintro e w6 ⟨rfl, hb6⟩
  clear HS
  have HB6 := Lib.hid (HB5.out.step hb6)
  have BX1 := Lib.hid (heap_below BX1.out hb6)
  have BX2 := Lib.hid (heap_below BX2.out hb6)
  clear hb6
  go_wp2_with (with_reducible first | refine pauseCall ?_ | refine pauseLoop ?_ | refine pauseDraw ?_ | refine pauseBody ?_ | refine pauseRounds ?_)
  refine Pause.mk ?_
  go_ret
  exact ⟨by first | rfl | (simp; done), HB6.out⟩
set_option maxRecDepth 100000 in
set_option maxHeartbeats 12800000 in
theorem spanproducts_ok (va : Value) (sa : Bool) (aa ba : List Nat) (ta : Bool) (ca da : List Nat) (vb : Value) (sb : Bool) (ab bb : List Nat) (tb : Bool) (cb db : List Nat) (w : World) (ha : SpV w va sa aa ba ta ca da) (la1 : aa.length ≤ 6) (la2 : ba.length ≤ 6) (la3 : ca.length ≤ 6) (la4 : da.length ≤ 6) (hb : SpV w vb sb ab bb tb cb db) (lb1 : ab.length ≤ 6) (lb2 : bb.length ≤ 6) (lb3 : cb.length ≤ 6) (lb4 : db.length ≤ 6)  :
    Calls Tryz.prog 3 #[va, vb] w (RetV w (.bool true)) := by
  have HBW := Lib.hid (Below.refl w.heap.size w)
  have kz0 : rl 0 ≤ 1 := by rw [rl_zero]; exact Nat.le_refl _
  have za := ha.sz.2
  obtain ⟨qa, oa, na, ka, pa, ma, ra, qax, oax, nax, kax, pax, max, rax, rfl⟩ := ha.shape
  have Za : na ≤ 6 ∧ ma ≤ 6 ∧ nax ≤ 6 ∧ max ≤ 6 := by have e1 : na = _ := congrArg (·.1) za; have e2 : ma = _ := congrArg (·.2.1) za; have e3 : nax = _ := congrArg (·.2.2.1) za; have e4 : max = _ := congrArg (·.2.2.2) za; rw [e1, e2, e3, e4]; exact ⟨la1, la2, la3, la4⟩
  clear za
  have hla1 : rl (rq sa aa ba) ≤ 6 := rl_rq ha.lt.1.1 ha.lt.1.2 la1 la2 (by decide); have hla2 : rl (rq ta ca da) ≤ 6 := rl_rq ha.lt.2.1 ha.lt.2.2 la3 la4 (by decide)
  obtain ⟨S_a, hSa⟩ : ∃ S, S = sq sa aa ba ta ca da := ⟨_, rfl⟩
  have hsa : rl S_a.1 ≤ 6 ∧ rl S_a.2 ≤ 6 := by rw [hSa]; exact rl_sq ha.lt.1.1 ha.lt.1.2 ha.lt.2.1 ha.lt.2.2 la1 la2 la3 la4 (by decide)
  obtain ⟨hsa1, hsa2⟩ := hsa
  have Fa := Lib.hid (show SpIs w _ S_a from ⟨_, _, _, _, _, _, ha, hSa.symm, by omega, by omega, by omega, by omega⟩); clear hSa
  have HOa := Lib.hid Fa.out.ok
  obtain ⟨p_a, hpa⟩ : ∃ p, p = rq sa aa ba := ⟨_, rfl⟩; obtain ⟨r_a, hra⟩ : ∃ r, r = rq ta ca da := ⟨_, rfl⟩
  have Fal := Lib.hid (show RatIs w _ p_a from hpa ▸ (spV_ends ha).1.is (by omega) (by omega)); have Fah := Lib.hid (show RatIs w _ r_a from hra ▸ (spV_ends ha).2.is (by omega) (by omega))
  have hla1 : rl p_a ≤ 6 := by rw [hpa]; exact hla1
  have hla2 : rl r_a ≤ 6 := by rw [hra]; exact hla2
  have FaV := Lib.hid ha; clear ha hpa hra
  have zb := hb.sz.2
  obtain ⟨qb, ob, nb, kb, pb, mb, rb, qbx, obx, nbx, kbx, pbx, mbx, rbx, rfl⟩ := hb.shape
  have Zb : nb ≤ 6 ∧ mb ≤ 6 ∧ nbx ≤ 6 ∧ mbx ≤ 6 := by have e1 : nb = _ := congrArg (·.1) zb; have e2 : mb = _ := congrArg (·.2.1) zb; have e3 : nbx = _ := congrArg (·.2.2.1) zb; have e4 : mbx = _ := congrArg (·.2.2.2) zb; rw [e1, e2, e3, e4]; exact ⟨lb1, lb2, lb3, lb4⟩
  clear zb
  have hlb1 : rl (rq sb ab bb) ≤ 6 := rl_rq hb.lt.1.1 hb.lt.1.2 lb1 lb2 (by decide); have hlb2 : rl (rq tb cb db) ≤ 6 := rl_rq hb.lt.2.1 hb.lt.2.2 lb3 lb4 (by decide)
  obtain ⟨S_b, hSb⟩ : ∃ S, S = sq sb ab bb tb cb db := ⟨_, rfl⟩
  have hsb : rl S_b.1 ≤ 6 ∧ rl S_b.2 ≤ 6 := by rw [hSb]; exact rl_sq hb.lt.1.1 hb.lt.1.2 hb.lt.2.1 hb.lt.2.2 lb1 lb2 lb3 lb4 (by decide)
  obtain ⟨hsb1, hsb2⟩ := hsb
  have Fb := Lib.hid (show SpIs w _ S_b from ⟨_, _, _, _, _, _, hb, hSb.symm, by omega, by omega, by omega, by omega⟩); clear hSb
  have HOb := Lib.hid Fb.out.ok
  obtain ⟨p_b, hpb⟩ : ∃ p, p = rq sb ab bb := ⟨_, rfl⟩; obtain ⟨r_b, hrb⟩ : ∃ r, r = rq tb cb db := ⟨_, rfl⟩
  have Fbl := Lib.hid (show RatIs w _ p_b from hpb ▸ (spV_ends hb).1.is (by omega) (by omega)); have Fbh := Lib.hid (show RatIs w _ r_b from hrb ▸ (spV_ends hb).2.is (by omega) (by omega))
  have hlb1 : rl p_b ≤ 6 := by rw [hpb]; exact hlb1
  have hlb2 : rl r_b ≤ 6 := by rw [hrb]; exact hlb2
  have FbV := Lib.hid hb; clear hb hpb hrb
  obtain ⟨E, hE⟩ : ∃ m, m = sdC (S_b) := ⟨_, rfl⟩
  have smallE : E < 1000 := by rw [hE]; unfold sdC; split <;> decide
  have HE := Lib.hid hE.symm; clear hE
  obtain ⟨w1, hw1⟩ : ∃ w1, w1 = w.alloc (.cells #[.bool qa, .slice oa na ka, .slice pa ma ra, .bool qax, .slice oax nax kax, .slice pax max rax] 26) := ⟨_, rfl⟩
  have hb1 : Below w.heap.size w w1 := by rw [hw1]; exact (Below.refl _ _).alloc (Nat.le_refl _) _
  have hx1 := heap_alloc_new w (.cells #[.bool qa, .slice oa na ka, .slice pa ma ra, .bool qax, .slice oax nax kax, .slice pax max rax] 26)
  obtain ⟨g1, hg1⟩ : ∃ g, g = w.heap.size := ⟨_, rfl⟩
  rw [← hw1, ← hg1] at hx1
  have lw1 : w.heap.size ≤ g1 := by rw [hg1]; exact HBW.out.size
  have HW1 := Lib.hid hw1; have HG1 := Lib.hid hg1; clear hw1 hg1
  have HB1 := Lib.hid (HBW.out.step hb1)
  have Fa := Lib.hid (Fa.out.below hb1)
  have Fal := Lib.hid (Fal.out.below hb1)
  have Fah := Lib.hid (Fah.out.below hb1)
  have FaV := Lib.hid (FaV.out.below hb1)
  have Fb := Lib.hid (Fb.out.below hb1)
  have Fbl := Lib.hid (Fbl.out.below hb1)
  have Fbh := Lib.hid (Fbh.out.below hb1)
  have FbV := Lib.hid (FbV.out.below hb1)
  have BX1 := Lib.hid hx1; clear hb1 hx1
  obtain ⟨w2, hw2⟩ : ∃ w2, w2 = w1.alloc (.cells #[.bool qb, .slice ob nb kb, .slice pb mb rb, .bool qbx, .slice obx nbx kbx, .slice pbx mbx rbx] 26) := ⟨_, rfl⟩
  have hb2 : Below w1.heap.size w1 w2 := by rw [hw2]; exact (Below.refl _ _).alloc (Nat.le_refl _) _
  have hx2 := heap_alloc_new w1 (.cells #[.bool qb, .slice ob nb kb, .slice pb mb rb, .bool qbx, .slice obx nbx kbx, .slice pbx mbx rbx] 26)
  obtain ⟨g2, hg2⟩ : ∃ g, g = w1.heap.size := ⟨_, rfl⟩
  rw [← hw2, ← hg2] at hx2
  have lw2 : w.heap.size ≤ g2 := by rw [hg2]; exact HB1.out.size
  have ltBX12 : g1 < g2 := by rw [hg2]; exact below_lt BX1.out
  have hs2 : g2 = w.heap.size + 1 := by rw [hg2, HW1.out]; simp
  have HS2 := Lib.hid hs2; clear hs2
  have HW2 := Lib.hid hw2; have HG2 := Lib.hid hg2; clear hw2 hg2
  have HB2 := Lib.hid (HB1.out.step hb2)
  have Fa := Lib.hid (Fa.out.below hb2)
  have Fal := Lib.hid (Fal.out.below hb2)
  have Fah := Lib.hid (Fah.out.below hb2)
  have FaV := Lib.hid (FaV.out.below hb2)
  have Fb := Lib.hid (Fb.out.below hb2)
  have Fbl := Lib.hid (Fbl.out.below hb2)
  have Fbh := Lib.hid (Fbh.out.below hb2)
  have FbV := Lib.hid (FbV.out.below hb2)
  have BX1 := Lib.hid (heap_below BX1.out hb2)
  have BX2 := Lib.hid hx2; clear hb2 hx2
  go_enter Tryz.func3, Tryz.ntmps3
  have hs := awake03 w2
  have HS := Lib.hid hs; clear hs
  go_wp2_with (with_reducible first | refine pauseCall ?_ | refine pauseLoop ?_ | refine pauseDraw ?_ | refine pauseBody ?_ | refine pauseRounds ?_)
  try rw [← HW1.out]
  try rw [← HW2.out]
  try rw [← HS2.out]
  try rw [← HG1.out]
  try rw [← HG2.out]
  refine Pause.mk ?_
  (with_reducible refine HS.out.mono ?_); rintro e w3 ⟨rfl, hb3⟩
  clear HS
  have HB3 := Lib.hid (HB2.out.step hb3)
  have Fa := Lib.hid (Fa.out.below hb3)
  have Fal := Lib.hid (Fal.out.below hb3)
  have Fah := Lib.hid (Fah.out.below hb3)
  have FaV := Lib.hid (FaV.out.below hb3)
  have Fb := Lib.hid (Fb.out.below hb3)
  have Fbl := Lib.hid (Fbl.out.below hb3)
  have Fbh := Lib.hid (Fbh.out.below hb3)
  have FbV := Lib.hid (FbV.out.below hb3)
  have BX1 := Lib.hid (heap_below BX1.out hb3)
  have BX2 := Lib.hid (heap_below BX2.out hb3)
  clear hb3
  obtain ⟨x1_0, x1_1, x1_2, x1_3, x1_4, x1_5⟩ := row6 BX1.out
  obtain ⟨x2_0, x2_1, x2_2, x2_3, x2_4, x2_5⟩ := row6 BX2.out
  obtain ⟨w4, hw4⟩ : ∃ w4, w4 = w3.alloc (.cells #[.bool qa, .slice oa na ka, .slice pa ma ra, .bool qax, .slice oax nax kax, .slice pax max rax, .bool qb, .slice ob nb kb, .slice pb mb rb, .bool qbx, .slice obx nbx kbx, .slice pbx mbx rbx] 26) := ⟨_, rfl⟩
  have hb4 : Below w3.heap.size w3 w4 := by rw [hw4]; exact (Below.refl _ _).alloc (Nat.le_refl _) _
  have hx4 := heap_alloc_new w3 (.cells #[.bool qa, .slice oa na ka, .slice pa ma ra, .bool qax, .slice oax nax kax, .slice pax max rax, .bool qb, .slice ob nb kb, .slice pb mb rb, .bool qbx, .slice obx nbx kbx, .slice pbx mbx rbx] 26)
  obtain ⟨g4, hg4⟩ : ∃ g, g = w3.heap.size := ⟨_, rfl⟩
  rw [← hw4, ← hg4] at hx4
  have lw4 : w.heap.size ≤ g4 := by rw [hg4]; exact HB3.out.size
  have ltBX14 : g1 < g4 := by rw [hg4]; exact below_lt BX1.out
  have ltBX24 : g2 < g4 := by rw [hg4]; exact below_lt BX2.out
  have HW4 := Lib.hid hw4; have HG4 := Lib.hid hg4; clear hw4 hg4
  have HB4 := Lib.hid (HB3.out.step hb4)
  have Fa := Lib.hid (Fa.out.below hb4)
  have Fal := Lib.hid (Fal.out.below hb4)
  have Fah := Lib.hid (Fah.out.below hb4)
  have FaV := Lib.hid (FaV.out.below hb4)
  have Fb := Lib.hid (Fb.out.below hb4)
  have Fbl := Lib.hid (Fbl.out.below hb4)
  have Fbh := Lib.hid (Fbh.out.below hb4)
  have FbV := Lib.hid (FbV.out.below hb4)
  have BX1 := Lib.hid (heap_below BX1.out hb4)
  have BX2 := Lib.hid (heap_below BX2.out hb4)
  have BX4 := Lib.hid hx4; clear hb4 hx4
  have hs := slarge2s BX4.out Za Zb
  have HS := Lib.hid hs; clear hs
  try rw [HG4.out] at x1_0
  try rw [HG4.out] at x1_1
  try rw [HG4.out] at x1_2
  try rw [HG4.out] at x1_3
  try rw [HG4.out] at x1_4
  try rw [HG4.out] at x1_5
  try rw [HG4.out] at x2_0
  try rw [HG4.out] at x2_1
  try rw [HG4.out] at x2_2
  try rw [HG4.out] at x2_3
  try rw [HG4.out] at x2_4
  try rw [HG4.out] at x2_5
  go_wp2_with (with_reducible first | refine pauseCall ?_ | refine pauseLoop ?_ | refine pauseDraw ?_ | refine pauseBody ?_ | refine pauseRounds ?_)
  try rw [← HW4.out]
  try rw [← HG4.out]
  clear x1_0 x1_1 x1_2 x1_3 x1_4 x1_5 x2_0 x2_1 x2_2 x2_3 x2_4 x2_5
  refine Pause.mk ?_
  (with_reducible refine HS.out.mono ?_); rintro e w5 ⟨rfl, hb5⟩
  clear HS
  have HB5 := Lib.hid (HB4.out.step hb5)
  have Fa := Lib.hid (Fa.out.below hb5)
  have Fal := Lib.hid (Fal.out.below hb5)
  have Fah := Lib.hid (Fah.out.below hb5)
  have FaV := Lib.hid (FaV.out.below hb5)
  have Fb := Lib.hid (Fb.out.below hb5)
  have Fbl := Lib.hid (Fbl.out.below hb5)
  have Fbh := Lib.hid (Fbh.out.below hb5)
  have FbV := Lib.hid (FbV.out.below hb5)
  have BX1 := Lib.hid (heap_below BX1.out hb5)
  have BX2 := Lib.hid (heap_below BX2.out hb5)
  have BX4 := Lib.hid (heap_below BX4.out hb5)
  clear BX4
  clear hb5
  obtain ⟨x3_0, x3_1, x3_2, x3_3, x3_4, x3_5⟩ := row6 BX1.out
  obtain ⟨x4_0, x4_1, x4_2, x4_3, x4_4, x4_5⟩ := row6 BX2.out
  obtain ⟨k5, k6⟩ := rl_sdV (S_a) (S_b)
  have hs := sdiv_any _ (S_a) _ (S_b) w5 Fa.out Fb.out (by omega) (by omega) (by omega) (by omega)
  rw [HE.out] at hs
  have HS := Lib.hid hs; clear hs
  go_wp2_with (with_reducible first | refine pauseCall ?_ | refine pauseLoop ?_ | refine pauseDraw ?_ | refine pauseBody ?_ | refine pauseRounds ?_)
  clear x3_0 x3_1 x3_2 x3_3 x3_4 x3_5 x4_0 x4_1 x4_2 x4_3 x4_4 x4_5
  refine Pause.mk ?_
  (with_reducible refine HS.out.mono ?_); rintro e w6 ⟨v6, rfl, hb6, hn6⟩
  clear HS
  have HB6 := Lib.hid (HB5.out.step hb6)
  have Fa := Lib.hid (Fa.out.below hb6)
  have Fal := Lib.hid (Fal.out.below hb6)
  have Fah := Lib.hid (Fah.out.below hb6)
  have FaV := Lib.hid (FaV.out.below hb6)
  have Fb := Lib.hid (Fb.out.below hb6)
  have Fbl := Lib.hid (Fbl.out.below hb6)
  have Fbh := Lib.hid (Fbh.out.below hb6)
  have FbV := Lib.hid (FbV.out.below hb6)
  have BX1 := Lib.hid (heap_below BX1.out hb6)
  have BX2 := Lib.hid (heap_below BX2.out hb6)
  have N6 := Lib.hid hn6; clear hn6
  obtain ⟨s7, o7, n7, c7, a7, m7, d7, s7x, o7x, n7x, c7x, a7x, m7x, d7x, rfl⟩ := N6.out.shape
  have N6l := Lib.hid (isSp_ends N6.out).1; have N6h := Lib.hid (isSp_ends N6.out).2
  clear hb6
  obtain ⟨w7, hw7⟩ : ∃ w7, w7 = w6.alloc (.cells #[.bool s7, .slice o7 n7 c7, .slice a7 m7 d7, .bool s7x, .slice o7x n7x c7x, .slice a7x m7x d7x] 26) := ⟨_, rfl⟩
  have hb7 : Below w6.heap.size w6 w7 := by rw [hw7]; exact (Below.refl _ _).alloc (Nat.le_refl _) _
  have hx7 := heap_alloc_new w6 (.cells #[.bool s7, .slice o7 n7 c7, .slice a7 m7 d7, .bool s7x, .slice o7x n7x c7x, .slice a7x m7x d7x] 26)
  obtain ⟨g7, hg7⟩ : ∃ g, g = w6.heap.size := ⟨_, rfl⟩
  rw [← hw7, ← hg7] at hx7
  have lw7 : w.heap.size ≤ g7 := by rw [hg7]; exact HB6.out.size
  have ltBX17 : g1 < g7 := by rw [hg7]; exact below_lt BX1.out
  have ltBX27 : g2 < g7 := by rw [hg7]; exact below_lt BX2.out
  have HW7 := Lib.hid hw7; have HG7 := Lib.hid hg7; clear hw7 hg7
  have HB7 := Lib.hid (HB6.out.step hb7)
  have Fa := Lib.hid (Fa.out.below hb7)
  have Fal := Lib.hid (Fal.out.below hb7)
  have Fah := Lib.hid (Fah.out.below hb7)
  have FaV := Lib.hid (FaV.out.below hb7)
  have Fb := Lib.hid (Fb.out.below hb7)
  have Fbl := Lib.hid (Fbl.out.below hb7)
  have Fbh := Lib.hid (Fbh.out.below hb7)
  have FbV := Lib.hid (FbV.out.below hb7)
  have N6 := Lib.hid (N6.out.below hb7)
  have N6l := Lib.hid (N6l.out.below hb7)
  have N6h := Lib.hid (N6h.out.below hb7)
  have BX1 := Lib.hid (heap_below BX1.out hb7)
  have BX2 := Lib.hid (heap_below BX2.out hb7)
  have BX7 := Lib.hid hx7; clear hb7 hx7
  obtain ⟨x8_0, x8_1, x8_2, x8_3, x8_4, x8_5⟩ := row6 BX1.out
  obtain ⟨x9_0, x9_1, x9_2, x9_3, x9_4, x9_5⟩ := row6 BX2.out
  obtain ⟨k10, k11⟩ := rl_sdV (S_a) (S_b)
  have hs := rsdiv_any _ (S_a) _ (S_b) w7 Fa.out Fb.out (by omega) (by omega) (by omega) (by omega)
  rw [HE.out] at hs
  have HS := Lib.hid hs; clear hs
  try rw [HW7.out] at x8_0
  try rw [HG7.out] at x8_0
  try rw [HW7.out] at x8_1
  try rw [HG7.out] at x8_1
  try rw [HW7.out] at x8_2
  try rw [HG7.out] at x8_2
  try rw [HW7.out] at x8_3
  try rw [HG7.out] at x8_3
  try rw [HW7.out] at x8_4
  try rw [HG7.out] at x8_4
  try rw [HW7.out] at x8_5
  try rw [HG7.out] at x8_5
  try rw [HW7.out] at x9_0
  try rw [HG7.out] at x9_0
  try rw [HW7.out] at x9_1
  try rw [HG7.out] at x9_1
  try rw [HW7.out] at x9_2
  try rw [HG7.out] at x9_2
  try rw [HW7.out] at x9_3
  try rw [HG7.out] at x9_3
  try rw [HW7.out] at x9_4
  try rw [HG7.out] at x9_4
  try rw [HW7.out] at x9_5
  try rw [HG7.out] at x9_5
  go_wp2_with (with_reducible first | refine pauseCall ?_ | refine pauseLoop ?_ | refine pauseDraw ?_ | refine pauseBody ?_ | refine pauseRounds ?_)
  try rw [← HW7.out]
  try rw [← HG7.out]
  clear x8_0 x8_1 x8_2 x8_3 x8_4 x8_5 x9_0 x9_1 x9_2 x9_3 x9_4 x9_5
  refine Pause.mk ?_
  (with_reducible refine HS.out.mono ?_); rintro e w8 ⟨v8, rfl, hb8, hn8⟩
  clear HS
  have HB8 := Lib.hid (HB7.out.step hb8)
  have Fa := Lib.hid (Fa.out.below hb8)
  have Fal := Lib.hid (Fal.out.below hb8)
  have Fah := Lib.hid (Fah.out.below hb8)
  have FaV := Lib.hid (FaV.out.below hb8)
  have Fb := Lib.hid (Fb.out.below hb8)
  have Fbl := Lib.hid (Fbl.out.below hb8)
  have Fbh := Lib.hid (Fbh.out.below hb8)
  have FbV := Lib.hid (FbV.out.below hb8)
  have N6 := Lib.hid (N6.out.below hb8)
  have N6l := Lib.hid (N6l.out.below hb8)
  have N6h := Lib.hid (N6h.out.below hb8)
  have BX1 := Lib.hid (heap_below BX1.out hb8)
  have BX2 := Lib.hid (heap_below BX2.out hb8)
  have BX7 := Lib.hid (heap_below BX7.out hb8)
  have N8 := Lib.hid hn8; clear hn8
  obtain ⟨s12, o12, n12, c12, a12, m12, d12, s12x, o12x, n12x, c12x, a12x, m12x, d12x, rfl⟩ := N8.out.shape
  have N8l := Lib.hid (isSp_ends N8.out).1; have N8h := Lib.hid (isSp_ends N8.out).2
  clear hb8
  obtain ⟨w9, hw9⟩ : ∃ w9, w9 = w8.alloc (.cells #[.bool s12, .slice o12 n12 c12, .slice a12 m12 d12, .bool s12x, .slice o12x n12x c12x, .slice a12x m12x d12x] 26) := ⟨_, rfl⟩
  have hb9 : Below w8.heap.size w8 w9 := by rw [hw9]; exact (Below.refl _ _).alloc (Nat.le_refl _) _
  have hx9 := heap_alloc_new w8 (.cells #[.bool s12, .slice o12 n12 c12, .slice a12 m12 d12, .bool s12x, .slice o12x n12x c12x, .slice a12x m12x d12x] 26)
  obtain ⟨g9, hg9⟩ : ∃ g, g = w8.heap.size := ⟨_, rfl⟩
  rw [← hw9, ← hg9] at hx9
  have lw9 : w.heap.size ≤ g9 := by rw [hg9]; exact HB8.out.size
  have ltBX19 : g1 < g9 := by rw [hg9]; exact below_lt BX1.out
  have ltBX29 : g2 < g9 := by rw [hg9]; exact below_lt BX2.out
  have ltBX79 : g7 < g9 := by rw [hg9]; exact below_lt BX7.out
  have HW9 := Lib.hid hw9; have HG9 := Lib.hid hg9; clear hw9 hg9
  have HB9 := Lib.hid (HB8.out.step hb9)
  have Fa := Lib.hid (Fa.out.below hb9)
  have Fal := Lib.hid (Fal.out.below hb9)
  have Fah := Lib.hid (Fah.out.below hb9)
  have FaV := Lib.hid (FaV.out.below hb9)
  have Fb := Lib.hid (Fb.out.below hb9)
  have Fbl := Lib.hid (Fbl.out.below hb9)
  have Fbh := Lib.hid (Fbh.out.below hb9)
  have FbV := Lib.hid (FbV.out.below hb9)
  have N6 := Lib.hid (N6.out.below hb9)
  have N6l := Lib.hid (N6l.out.below hb9)
  have N6h := Lib.hid (N6h.out.below hb9)
  have N8 := Lib.hid (N8.out.below hb9)
  have N8l := Lib.hid (N8l.out.below hb9)
  have N8h := Lib.hid (N8h.out.below hb9)
  have BX1 := Lib.hid (heap_below BX1.out hb9)
  have BX2 := Lib.hid (heap_below BX2.out hb9)
  have BX7 := Lib.hid (heap_below BX7.out hb9)
  have BX9 := Lib.hid hx9; clear hb9 hx9
  go_wp2_with (with_reducible first | refine pauseCall ?_ | refine pauseLoop ?_ | refine pauseDraw ?_ | refine pauseBody ?_ | refine pauseRounds ?_)
  try rw [← HW9.out]
  try rw [← HG9.out]
  refine Pause.mk ?_
  obtain ⟨k13, k14⟩ := rl_sMul (S_a) (S_b)
  obtain ⟨k15, k16⟩ := rl_sMul (S_a) (S_b)
  refine wp_region_facts (A := ?aa17) (w := w9) 16 [] (by kernel_rfl) (Fl [KEq (.agg #[.bool qa, .slice oa na ka, .slice pa ma ra, .bool qax, .slice oax nax kax, .slice pax max rax]), KEq (.agg #[.bool qb, .slice ob nb kb, .slice pb mb rb, .bool qbx, .slice obx nbx kbx, .slice pbx mbx rbx]), KSp (sMul (S_a) (S_b)), KEq (.agg #[.bool qa, .slice oa na ka, .slice pa ma ra, .bool qax, .slice oax nax kax, .slice pax max rax]), KEq (.agg #[.bool qb, .slice ob nb kb, .slice pb mb rb, .bool qbx, .slice obx nbx kbx, .slice pbx mbx rbx]), KSp (sMul (S_a) (S_b)), KEq (.bool true), KEq (.bool true), KEq (.agg #[.bool s7, .slice o7 n7 c7, .slice a7 m7 d7, .bool s7x, .slice o7x n7x c7x, .slice a7x m7x d7x]), KEq (.agg #[.bool s12, .slice o12 n12 c12, .slice a12 m12 d12, .bool s12x, .slice o12x n12x c12x, .slice a12x m12x d12x]), KEq (.bool true), KEq (.bool true), KEq (.bool true), KEq ((errV E)), KEq (.int .i64 (E : Nat)), KEq (.int .i64 (E : Nat))]) (fun i => false) (by kernel_rfl) ?hq17 (monoL (monoC (kEq _) (monoC (kEq _) (monoC (kSp _) (monoC (kEq _) (monoC (kEq _) (monoC (kSp _) (monoC (kEq _) (monoC (kEq _) (monoC (kEq _) (monoC (kEq _) (monoC (kEq _) (monoC (kEq _) (monoC (kEq _) (monoC (kEq _) (monoC (kEq _) (monoC (kEq _) monoN))))))))))))))))) ?ha17 ?st17 ?tl17
  case hq17 =>
    intro c a d v w h
    first | (simp only [Exit.then] at h ⊢; exact h) | (simp only [Exit.inBlock, Exit.then] at h ⊢; exact h) | exact h
  case ha17 =>
    intro vals
    simp only [putsTo, dstOf, if_true, Act.put, List.setIfInBounds_toArray, List.set_cons_zero, List.set_cons_succ, List.getElem?_toArray, List.getElem?_cons_zero, List.getElem?_cons_succ, Option.bind_some]
    exact rfl
  case st17 =>
    simp only [List.take_succ_cons, List.take_zero]
    refine stepsOK_cons rfl rfl ?_ (stepsOK_cons rfl rfl ?_ (stepsOK_cons rfl rfl ?_ (stepsOK_cons rfl rfl ?_ (stepsOK_cons rfl rfl ?_ (stepsOK_cons rfl rfl ?_ (stepsOK_cons rfl rfl ?_ (stepsOK_cons rfl rfl ?_ (stepsOK_guard rfl ?_ (stepsOK_guard rfl ?_ (stepsOK_guard rfl ?_ (stepsOK_cons rfl rfl ?_ (stepsOK_cons rfl rfl ?_ (stepsOK_guard rfl ?_ (stepsOK_guard rfl ?_ (stepsOK_guard rfl ?_ (stepsOK_nil))))))))))))))))
    · intro vals w1 hb hd
      obtain ⟨e0, e1, e2, e3, e4, e5⟩ := row6 (heap_below BX1.out hb)
      refine stepOK_value (v := .agg #[.bool qa, .slice oa na ka, .slice pa ma ra, .bool qax, .slice oax nax kax, .slice pax max rax]) (w' := w1) (by go_simp) (leaves_mk (Below.refl _ _) rfl (fun h => by cases h))
    · intro vals w1 hb hd
      obtain ⟨e0, e1, e2, e3, e4, e5⟩ := row6 (heap_below BX2.out hb)
      refine stepOK_value (v := .agg #[.bool qb, .slice ob nb kb, .slice pb mb rb, .bool qbx, .slice obx nbx kbx, .slice pbx mbx rbx]) (w' := w1) (by go_simp) (leaves_mk (Below.refl _ _) rfl (fun h => by cases h))
    · intro vals w1 hb hd
      have d0 : KEq (.agg #[.bool qa, .slice oa na ka, .slice pa ma ra, .bool qax, .slice oax nax kax, .slice pax max rax]) (vals 0) w1 := hd 0 (by kernel_rfl)
      have d1 : KEq (.agg #[.bool qb, .slice ob nb kb, .slice pb mb rb, .bool qbx, .slice obx nbx kbx, .slice pbx mbx rbx]) (vals 1) w1 := hd 1 (by kernel_rfl)
      have z0 : vals 0 = _ := d0
      have z1 : vals 1 = _ := d1
      have hs := smul_any _ (S_a) _ (S_b) w1 (Fa.out.below hb) (Fb.out.below hb) (by omega) (by omega) (by omega) (by omega)
      have HS := Lib.hid hs; clear hs
      rw [z0]; clear z0
      rw [z1]; clear z1
      clear d0 d1 hd
      refine stepOK_call (by go_simp; first | done | exact ⟨⟨rfl, rfl⟩, rfl⟩) ?_
      (with_reducible refine HS.out.mono ?_); rintro e w2 ⟨v, rfl, hb2, hn⟩
      exact ⟨v, rfl, leaves_mk hb2 hn (fun h => by cases h)⟩
    · intro vals w1 hb hd
      obtain ⟨e0, e1, e2, e3, e4, e5⟩ := row6 (heap_below BX1.out hb)
      refine stepOK_value (v := .agg #[.bool qa, .slice oa na ka, .slice pa ma ra, .bool qax, .slice oax nax kax, .slice pax max rax]) (w' := w1) (by go_simp) (leaves_mk (Below.refl _ _) rfl (fun h => by cases h))
    · intro vals w1 hb hd
      obtain ⟨e0, e1, e2, e3, e4, e5⟩ := row6 (heap_below BX2.out hb)
      refine stepOK_value (v := .agg #[.bool qb, .slice ob nb kb, .slice pb mb rb, .bool qbx, .slice obx nbx kbx, .slice pbx mbx rbx]) (w' := w1) (by go_simp) (leaves_mk (Below.refl _ _) rfl (fun h => by cases h))
    · intro vals w1 hb hd
      have d3 : KEq (.agg #[.bool qa, .slice oa na ka, .slice pa ma ra, .bool qax, .slice oax nax kax, .slice pax max rax]) (vals 3) w1 := hd 3 (by kernel_rfl)
      have d4 : KEq (.agg #[.bool qb, .slice ob nb kb, .slice pb mb rb, .bool qbx, .slice obx nbx kbx, .slice pbx mbx rbx]) (vals 4) w1 := hd 4 (by kernel_rfl)
      have z3 : vals 3 = _ := d3
      have z4 : vals 4 = _ := d4
      have hs := rsmul_any _ (S_a) _ (S_b) w1 (Fa.out.below hb) (Fb.out.below hb) (by omega) (by omega) (by omega) (by omega)
      have HS := Lib.hid hs; clear hs
      rw [z3]; clear z3
      rw [z4]; clear z4
      clear d3 d4 hd
      refine stepOK_call (by go_simp; first | done | exact ⟨⟨rfl, rfl⟩, rfl⟩) ?_
      (with_reducible refine HS.out.mono ?_); rintro e w2 ⟨v, rfl, hb2, hn⟩
      exact ⟨v, rfl, leaves_mk hb2 hn (fun h => by cases h)⟩
    · intro vals w1 hb hd
      have d2 : KSp (sMul (S_a) (S_b)) (vals 2) w1 := hd 2 (by kernel_rfl)
      have R2 : Hid (IsSp w1 (vals 2) (sMul (S_a) (S_b))) := Lib.hid d2
      have d5 : KSp (sMul (S_a) (S_b)) (vals 5) w1 := hd 5 (by kernel_rfl)
      have R5 : Hid (IsSp w1 (vals 5) (sMul (S_a) (S_b))) := Lib.hid d5
      have hs := spsame_any _ (sMul (S_a) (S_b)) _ w1 R2.out R5.out (by omega) (by omega)
      have HS := Lib.hid hs; clear hs
      clear d2 d5 hd
      refine stepOK_call (by go_simp; first | done | exact ⟨⟨rfl, rfl⟩, rfl⟩) ?_
      (with_reducible refine HS.out.mono ?_); rintro e w2 ⟨rfl, hb2⟩
      exact ⟨_, rfl, leaves_mk hb2 rfl (fun h => by cases h)⟩
    · intro vals w1 hb hd
      have d6 : KEq (.bool true) (vals 6) w1 := hd 6 (by kernel_rfl)
      rw [show vals 6 = _ from d6]
      refine stepOK_value (v := (.bool true)) (w' := w1) (by go_simp) (leaves_mk (Below.refl _ _) rfl (fun h => by cases h))
    · intro vals w1 hb hd
      have dg : KEq (.bool true) (vals 7) w1 := hd 7 (by kernel_rfl)
      refine stepG_yes (wanted_of rfl rfl (congrArg some dg) rfl) ?_
      clear dg
      obtain ⟨e0, e1, e2, e3, e4, e5⟩ := row6 (heap_below BX7.out hb)
      refine stepOK_value (v := .agg #[.bool s7, .slice o7 n7 c7, .slice a7 m7 d7, .bool s7x, .slice o7x n7x c7x, .slice a7x m7x d7x]) (w' := w1) (by go_simp) (leaves_mk (Below.refl _ _) rfl (fun h => by cases h))
    · intro vals w1 hb hd
      have dg : KEq (.bool true) (vals 7) w1 := hd 7 (by kernel_rfl)
      refine stepG_yes (wanted_of rfl rfl (congrArg some dg) rfl) ?_
      clear dg
      obtain ⟨e0, e1, e2, e3, e4, e5⟩ := row6 (heap_below BX9.out hb)
      refine stepOK_value (v := .agg #[.bool s12, .slice o12 n12 c12, .slice a12 m12 d12, .bool s12x, .slice o12x n12x c12x, .slice a12x m12x d12x]) (w' := w1) (by go_simp) (leaves_mk (Below.refl _ _) rfl (fun h => by cases h))
    · intro vals w1 hb hd
      have dg : KEq (.bool true) (vals 7) w1 := hd 7 (by kernel_rfl)
      refine stepG_yes (wanted_of rfl rfl (congrArg some dg) rfl) ?_
      clear dg
      have d8 : KEq (.agg #[.bool s7, .slice o7 n7 c7, .slice a7 m7 d7, .bool s7x, .slice o7x n7x c7x, .slice a7x m7x d7x]) (vals 8) w1 := hd 8 (by kernel_rfl)
      have d9 : KEq (.agg #[.bool s12, .slice o12 n12 c12, .slice a12 m12 d12, .bool s12x, .slice o12x n12x c12x, .slice a12x m12x d12x]) (vals 9) w1 := hd 9 (by kernel_rfl)
      have z8 : vals 8 = _ := d8
      have z9 : vals 9 = _ := d9
      have hs := spsame_any _ (sdV (S_a) (S_b)) _ w1 (N6.out.below hb) (N8.out.below hb) (by omega) (by omega)
      have HS := Lib.hid hs; clear hs
      rw [z8]; clear z8
      rw [z9]; clear z9
      clear d8 d9 hd
      refine stepOK_call (by go_simp; first | done | exact ⟨⟨rfl, rfl⟩, rfl⟩) ?_
      (with_reducible refine HS.out.mono ?_); rintro e w2 ⟨rfl, hb2⟩
      exact ⟨_, rfl, leaves_mk hb2 rfl (fun h => by cases h)⟩
    · intro vals w1 hb hd
      have d7 : KEq (.bool true) (vals 7) w1 := hd 7 (by kernel_rfl)
      have d10 : KEq (.bool true) (vals 10) w1 := hd 10 (by kernel_rfl)
      rw [show vals 7 = _ from d7]
      rw [show vals 10 = _ from d10]
      refine stepOK_value (v := (.bool true)) (w' := w1) (by go_simp) (leaves_mk (Below.refl _ _) rfl (fun h => by cases h))
    · intro vals w1 hb hd
      have d11 : KEq (.bool true) (vals 11) w1 := hd 11 (by kernel_rfl)
      rw [show vals 11 = _ from d11]
      refine stepOK_value (v := (.bool true)) (w' := w1) (by go_simp) (leaves_mk (Below.refl _ _) rfl (fun h => by cases h))
    · intro vals w1 hb hd
      have dg : KEq (.bool true) (vals 12) w1 := hd 12 (by kernel_rfl)
      refine stepG_yes (wanted_of rfl rfl (congrArg some dg) rfl) ?_
      clear dg
      refine stepOK_value (v := ((errV E))) (w' := w1) (by go_simp) (leaves_mk (Below.refl _ _) rfl (fun h => by cases h))
    · intro vals w1 hb hd
      have dg : KEq (.bool true) (vals 12) w1 := hd 12 (by kernel_rfl)
      refine stepG_yes (wanted_of rfl rfl (congrArg some dg) rfl) ?_
      clear dg
      have d13 : KEq ((errV E)) (vals 13) w1 := hd 13 (by kernel_rfl)
      have z13 : vals 13 = _ := d13
      have hs := num_any E w1 smallE
      have HS := Lib.hid hs; clear hs
      rw [z13]; clear z13
      clear d13 hd
      refine stepOK_call (by go_simp; first | done | exact ⟨⟨rfl, rfl⟩, rfl⟩) ?_
      (with_reducible refine HS.out.mono ?_); rintro e w2 ⟨rfl, rfl⟩
      exact ⟨_, rfl, leaves_mk (Below.refl _ _) rfl (fun h => by cases h)⟩
    · intro vals w1 hb hd
      have dg : KEq (.bool true) (vals 12) w1 := hd 12 (by kernel_rfl)
      refine stepG_yes (wanted_of rfl rfl (congrArg some dg) rfl) ?_
      clear dg
      refine stepOK_value (v := (.int .i64 (E : Nat))) (w' := w1) (by go_simp) (leaves_mk (Below.refl _ _) rfl (fun h => by cases h))
  case tl17 =>
    intro vals w10 hb10 hf hdis
    simp only [List.drop_succ_cons, List.drop_zero]
    have z12 : vals 12 = _ := hf 12 (by decide)
    try rw [z12]
    clear z12
    have z14 : vals 14 = _ := hf 14 (by decide)
    try rw [z14]
    clear z14
    have z15 : vals 15 = _ := hf 15 (by decide)
    try rw [z15]
    clear z15
    clear hf hdis
    have HB10 := Lib.hid (HB9.out.step hb10)
    have Fa := Lib.hid (Fa.out.below hb10)
    have Fal := Lib.hid (Fal.out.below hb10)
    have Fah := Lib.hid (Fah.out.below hb10)
    have FaV := Lib.hid (FaV.out.below hb10)
    have Fb := Lib.hid (Fb.out.below hb10)
    have Fbl := Lib.hid (Fbl.out.below hb10)
    have Fbh := Lib.hid (Fbh.out.below hb10)
    have FbV := Lib.hid (FbV.out.below hb10)
    have N6 := Lib.hid (N6.out.below hb10)
    have N6l := Lib.hid (N6l.out.below hb10)
    have N6h := Lib.hid (N6h.out.below hb10)
    have N8 := Lib.hid (N8.out.below hb10)
    have N8l := Lib.hid (N8l.out.below hb10)
    have N8h := Lib.hid (N8h.out.below hb10)
    have BX1 := Lib.hid (heap_below BX1.out hb10)
    have BX2 := Lib.hid (heap_below BX2.out hb10)
    have BX7 := Lib.hid (heap_below BX7.out hb10)
    have BX9 := Lib.hid (heap_below BX9.out hb10)
    clear hb10
    skip
    go_wp2_with (with_reducible first | refine pauseCall ?_ | refine pauseLoop ?_ | refine pauseDraw ?_ | refine pauseBody ?_ | refine pauseRounds ?_)
    refine Pause.mk ?_
    go_ret
    exact ⟨by first | rfl | (simp; done), HB10.out⟩
theorem spanproducts_any (va : Value) (sa : Bool) (aa ba : List Nat) (ta : Bool) (ca da : List Nat) (vb : Value) (sb : Bool) (ab bb : List Nat) (tb : Bool) (cb db : List Nat) (w : World) (ha : SpV w va sa aa ba ta ca da) (hb : SpV w vb sb ab bb tb cb db) :
    Calls Tryz.prog 3 #[va, vb] w (RetV w (.bool true)) := by
  by_cases hbig : 6 < aa.length ∨ 6 < ba.length ∨ 6 < ca.length ∨ 6 < da.length ∨ 6 < ab.length ∨ 6 < bb.length ∨ 6 < cb.length ∨ 6 < db.length
  · exact spanproducts_big va aa.length ba.length ca.length da.length vb ab.length bb.length cb.length db.length w ha.sz.1 hb.sz.1 hbig
  exact spanproducts_ok va sa aa ba ta ca da vb sb ab bb tb cb db w ha (by omega) (by omega) (by omega) (by omega) hb (by omega) (by omega) (by omega) (by omega)
end Go.Proofs.YtaefimegiobkmaaGreatDoor
